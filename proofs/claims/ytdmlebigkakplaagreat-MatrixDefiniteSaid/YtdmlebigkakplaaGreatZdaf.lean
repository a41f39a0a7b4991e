/- matrix.Check and its like, of matrices as they come in. matrix.Check, check, both, square; the document's Check; the law's code. -/
import Derived.Test.YtdmlebigkakplaaGreatZdae
import Derived.Test.YtdmlebigkakplaaGreatZdaa
set_option linter.unusedSimpArgs false
set_option linter.unusedVariables false
namespace Go.Proofs.YtdmlebigkakplaaGreat
open Go Go.Fx
/- ---------- IndexFunc, ContainsFunc of []fiducial/api.Rat ---------- -/
section
variable {X : List Nat} {w0 : World} {M0 : List Ent} {I0 : List Imm}
theorem idxWR_ok {q : Option Addr} {a : List RW} {c : Nat} {g : FuncId} [FnOk Tryz.prog g] {fs cs : Array Value} (pr : RW → Prop) [DecidablePred pr] (hn : (a.length : Int) ≤ 9223372036854775807) (ha : slI q (recs eW a) ∈ I0)
    (hg : ∀ i : Nat, i < a.length → CD Tryz.prog g (fs.toList ++ [wv (gt a i)] ++ cs.toList) X w0 M0 I0 (fun v M I => M0 = M ∧ I0 = I ∧ v = .bool (B (pr (gt a i))))) :
    CD Tryz.prog 240 [.slice q a.length c, .func (.func g) fs cs] X w0 M0 I0 (fun v M I => M0 = M ∧ I0 = I ∧ ∃ r : Int, v = .int .i64 r ∧ ((∃ i : Nat, i < a.length ∧ r = i ∧ pr (gt a i) ∧ ∀ j : Nat, j < i → ¬ pr (gt a j)) ∨ (r = -1 ∧ ∀ j : Nat, j < a.length → ¬ pr (gt a j)))) := by
  refine enterD2 Tryz.func240 rfl Tryz.ntmps240 rfl ?_
  repeat (refine wXh ?_)
  refine TD_loop [0, 1, 7] rfl (fun k G M I => ∃ i : Nat, i ≤ a.length ∧ k = a.length - i ∧ (∀ j : Nat, j < i → ¬ pr (gt a j)) ∧ G = [(8, .int .i64 i)] ∧ M = M0 ∧ I = I0) (a.length) _ _ _ subG subF incF (⟨0, by omega, rfl, fun j hj => by omega, rfl, rfl, rfl⟩) ?_
  rintro k G M I ⟨i, hi, rfl, hs, rfl, rfl, rfl⟩
  repeat' (first | refine wXh ?_ | (refine TD_isCo ?_; first | refine TD_dec rfl (fun h => ?_) (fun h => ?_) | refine TD_cond rfl (fun h => ?_) (fun h => ?_)) | (refine RD_isGu ?_; first | refine RD_grd rfl rfl (fun h => ?_) (fun h => ?_) | (fail_if_success (refine RD_isW rfl ?_); refine RD_grdB rfl rfl (fun h => ?_) (fun h => ?_))))
  · have hlt : i < a.length := by omega
    (refine RD_callVS rfl rfl (hg i hlt) rfl rfl rfl ?_; rintro _ _ _ ⟨rfl, rfl, rfl⟩; refine ⟨okF, ?_⟩)
    repeat' (first | refine wXh ?_ | (refine TD_isCo ?_; first | refine TD_dec rfl (fun h => ?_) (fun h => ?_) | refine TD_cond rfl (fun h => ?_) (fun h => ?_)) | (refine RD_isGu ?_; first | refine RD_grd rfl rfl (fun h => ?_) (fun h => ?_) | (fail_if_success (refine RD_isW rfl ?_); refine RD_grdB rfl rfl (fun h => ?_) (fun h => ?_))))
    · refine ND_ret1 (by first | exact .inl rfl | exact .inr rfl) rfl rfl _ _ subF incF (⟨rfl, rfl, _, rfl, .inl ⟨i, hlt, rfl, by assumption, hs⟩⟩)
    · refine ND_again (a.length - (i + 1)) _ _ _ (by first | omega | (simp only [List.length_append, List.length_cons, List.length_nil]; omega)) subG subF incF (⟨i + 1, by omega, rfl, fun j hj => ?_, rfl, rfl, rfl⟩)
      by_cases e : j = i
      · subst e; assumption
      · exact hs j (by omega)
  · refine ND_ret1 (by first | exact .inl rfl | exact .inr rfl) rfl rfl _ _ subF incF (⟨rfl, rfl, _, rfl, .inr ⟨rfl, fun j hj => hs j (by omega)⟩⟩)
theorem hasWR_ok {q : Option Addr} {a : List RW} {c : Nat} {g : FuncId} [FnOk Tryz.prog g] {fs cs : Array Value} (pr : RW → Prop) [DecidablePred pr] (hn : (a.length : Int) ≤ 9223372036854775807) (ha : slI q (recs eW a) ∈ I0)
    (hg : ∀ i : Nat, i < a.length → CD Tryz.prog g (fs.toList ++ [wv (gt a i)] ++ cs.toList) X w0 M0 I0 (fun v M I => M0 = M ∧ I0 = I ∧ v = .bool (B (pr (gt a i))))) :
    CD Tryz.prog 199 [.slice q a.length c, .func (.func g) fs cs] X w0 M0 I0 (fun v M I => M0 = M ∧ I0 = I ∧ v = .bool (B (∃ x ∈ a, pr x))) := by
  refine enterD2 Tryz.func199 rfl Tryz.ntmps199 rfl ?_
  repeat (refine wXh ?_)
  (refine RD_callS rfl (idxWR_ok pr hn ha hg) rfl rfl ?_; rintro _ _ _ ⟨rfl, rfl, r, rfl, h⟩; refine ⟨okF, ?_⟩)
  repeat (refine wXh ?_)
  refine ND_ret1 (by first | exact .inl rfl | exact .inr rfl) rfl rfl _ _ subF incF (⟨rfl, rfl, congrArg Value.bool (B_congr ?_)⟩)
  rcases h with ⟨i, hi, rfl, hp, _⟩ | ⟨rfl, h⟩
  · exact ⟨fun _ => ⟨gt a i, by rw [gt_get hi]; exact List.getElem_mem hi, hp⟩, fun _ => by omega⟩
  · refine ⟨fun h => by omega, ?_⟩
    rintro ⟨x, hx, hp⟩
    obtain ⟨j, hj, rfl⟩ := List.mem_iff_getElem.1 hx
    exact absurd (by rw [gt_get hj]; exact hp) (h j hj)
end

/- ---------- IndexFunc, ContainsFunc of fiducial/api.Matrix ---------- -/
section
variable {X : List Nat} {w0 : World} {M0 : List Ent} {I0 : List Imm}
theorem idxWM_ok {q : Option Addr} {a : List WL} {c : Nat} {g : FuncId} [FnOk Tryz.prog g] {fs cs : Array Value} (pr : WL → Prop) [DecidablePred pr] (hn : (a.length : Int) ≤ 9223372036854775807) (ha : slI q (recs eWL a) ∈ I0)
    (hg : ∀ i : Nat, i < a.length → CD Tryz.prog g (fs.toList ++ [lvW (gt a i)] ++ cs.toList) X w0 M0 I0 (fun v M I => M0 = M ∧ I0 = I ∧ v = .bool (B (pr (gt a i))))) :
    CD Tryz.prog 223 [.slice q a.length c, .func (.func g) fs cs] X w0 M0 I0 (fun v M I => M0 = M ∧ I0 = I ∧ ∃ r : Int, v = .int .i64 r ∧ ((∃ i : Nat, i < a.length ∧ r = i ∧ pr (gt a i) ∧ ∀ j : Nat, j < i → ¬ pr (gt a j)) ∨ (r = -1 ∧ ∀ j : Nat, j < a.length → ¬ pr (gt a j)))) := by
  refine enterD2 Tryz.func223 rfl Tryz.ntmps223 rfl ?_
  repeat (refine wXh ?_)
  refine TD_loop [0, 1, 7] rfl (fun k G M I => ∃ i : Nat, i ≤ a.length ∧ k = a.length - i ∧ (∀ j : Nat, j < i → ¬ pr (gt a j)) ∧ G = [(8, .int .i64 i)] ∧ M = M0 ∧ I = I0) (a.length) _ _ _ subG subF incF (⟨0, by omega, rfl, fun j hj => by omega, rfl, rfl, rfl⟩) ?_
  rintro k G M I ⟨i, hi, rfl, hs, rfl, rfl, rfl⟩
  repeat' (first | refine wXh ?_ | (refine TD_isCo ?_; first | refine TD_dec rfl (fun h => ?_) (fun h => ?_) | refine TD_cond rfl (fun h => ?_) (fun h => ?_)) | (refine RD_isGu ?_; first | refine RD_grd rfl rfl (fun h => ?_) (fun h => ?_) | (fail_if_success (refine RD_isW rfl ?_); refine RD_grdB rfl rfl (fun h => ?_) (fun h => ?_))))
  · have hlt : i < a.length := by omega
    (refine RD_callVS rfl rfl (hg i hlt) rfl rfl rfl ?_; rintro _ _ _ ⟨rfl, rfl, rfl⟩; refine ⟨okF, ?_⟩)
    repeat' (first | refine wXh ?_ | (refine TD_isCo ?_; first | refine TD_dec rfl (fun h => ?_) (fun h => ?_) | refine TD_cond rfl (fun h => ?_) (fun h => ?_)) | (refine RD_isGu ?_; first | refine RD_grd rfl rfl (fun h => ?_) (fun h => ?_) | (fail_if_success (refine RD_isW rfl ?_); refine RD_grdB rfl rfl (fun h => ?_) (fun h => ?_))))
    · refine ND_ret1 (by first | exact .inl rfl | exact .inr rfl) rfl rfl _ _ subF incF (⟨rfl, rfl, _, rfl, .inl ⟨i, hlt, rfl, by assumption, hs⟩⟩)
    · refine ND_again (a.length - (i + 1)) _ _ _ (by first | omega | (simp only [List.length_append, List.length_cons, List.length_nil]; omega)) subG subF incF (⟨i + 1, by omega, rfl, fun j hj => ?_, rfl, rfl, rfl⟩)
      by_cases e : j = i
      · subst e; assumption
      · exact hs j (by omega)
  · refine ND_ret1 (by first | exact .inl rfl | exact .inr rfl) rfl rfl _ _ subF incF (⟨rfl, rfl, _, rfl, .inr ⟨rfl, fun j hj => hs j (by omega)⟩⟩)
theorem hasWM_ok {q : Option Addr} {a : List WL} {c : Nat} {g : FuncId} [FnOk Tryz.prog g] {fs cs : Array Value} (pr : WL → Prop) [DecidablePred pr] (hn : (a.length : Int) ≤ 9223372036854775807) (ha : slI q (recs eWL a) ∈ I0)
    (hg : ∀ i : Nat, i < a.length → CD Tryz.prog g (fs.toList ++ [lvW (gt a i)] ++ cs.toList) X w0 M0 I0 (fun v M I => M0 = M ∧ I0 = I ∧ v = .bool (B (pr (gt a i))))) :
    CD Tryz.prog 158 [.slice q a.length c, .func (.func g) fs cs] X w0 M0 I0 (fun v M I => M0 = M ∧ I0 = I ∧ v = .bool (B (∃ x ∈ a, pr x))) := by
  refine enterD2 Tryz.func158 rfl Tryz.ntmps158 rfl ?_
  repeat (refine wXh ?_)
  (refine RD_callS rfl (idxWM_ok pr hn ha hg) rfl rfl ?_; rintro _ _ _ ⟨rfl, rfl, r, rfl, h⟩; refine ⟨okF, ?_⟩)
  repeat (refine wXh ?_)
  refine ND_ret1 (by first | exact .inl rfl | exact .inr rfl) rfl rfl _ _ subF incF (⟨rfl, rfl, congrArg Value.bool (B_congr ?_)⟩)
  rcases h with ⟨i, hi, rfl, hp, _⟩ | ⟨rfl, h⟩
  · exact ⟨fun _ => ⟨gt a i, by rw [gt_get hi]; exact List.getElem_mem hi, hp⟩, fun _ => by omega⟩
  · refine ⟨fun h => by omega, ?_⟩
    rintro ⟨x, hx, hp⟩
    obtain ⟨j, hj, rfl⟩ := List.mem_iff_getElem.1 hx
    exact absurd (by rw [gt_get hj]; exact hp) (h j hj)
end

section
variable {X : List Nat} {w0 : World} {M0 : List Ent} {I0 : List Imm}
set_option maxRecDepth 100000 in
theorem Brief_ok {r : RW} (hw : Hv I0 (isW r)) : CD Tryz.prog 125 [wv r] X w0 M0 I0 (fun v M I => M0 = M ∧ I0 = I ∧ v = .bool (B r.brief)) := by
  refine CD_openW hw (fun hf => ?_)
  have l1 := hf.l1
  have l2 := hf.l2
  refine enterD1 Tryz.func125 rfl Tryz.ntmps125 rfl ?_
  refine TD_seq ?_
  refine TD_region ?_
  (refine RD_boxA rfl rfl rfl ?_; intro b; refine ⟨okF, ?_⟩)
  repeat (refine wXh ?_)
  (repeat refine TD_seq ?_); refine TD_drawn [0, 1, 2, 3, 4, 5, 6, 7] [0, 0, 0, 0, 0, 0, 0, 0] mixed (by kernel_rfl) ?_
  by_cases c1 : r.g1.length ≤ 1
  · by_cases c2 : r.g2.length ≤ 1
    · by_cases c3 : r.g1.length = 0
      · by_cases c4 : r.g2.length = 0
        · repeat (refine wXh ?_)
          refine ND_ret1 (by first | exact .inl rfl | exact .inr rfl) rfl rfl _ _ subF incF (⟨rfl, rfl, congrArg Value.bool (B_true ⟨c1, c2, .inl c3, .inl c4⟩).symm⟩)
        · repeat (refine wXh ?_)
          refine ND_ret1 (by first | exact .inl rfl | exact .inr rfl) rfl rfl _ _ subF incF (⟨rfl, rfl, congrArg Value.bool (B_congr ⟨fun e => ⟨c1, c2, .inl c3, .inr e⟩, fun e => e.2.2.2.resolve_left c4⟩)⟩)
      · by_cases c5 : gt r.g1 0 < 100000
        · by_cases c4 : r.g2.length = 0
          · repeat (refine wXh ?_)
            refine ND_ret1 (by first | exact .inl rfl | exact .inr rfl) rfl rfl _ _ subF incF (⟨rfl, rfl, congrArg Value.bool (B_true ⟨c1, c2, .inr c5, .inl c4⟩).symm⟩)
          · repeat (refine wXh ?_)
            refine ND_ret1 (by first | exact .inl rfl | exact .inr rfl) rfl rfl _ _ subF incF (⟨rfl, rfl, congrArg Value.bool (B_congr ⟨fun e => ⟨c1, c2, .inr c5, .inr e⟩, fun e => e.2.2.2.resolve_left c4⟩)⟩)
        · repeat (refine wXh ?_)
          refine ND_ret1 (by first | exact .inl rfl | exact .inr rfl) rfl rfl _ _ subF incF (⟨rfl, rfl, congrArg Value.bool (B_false (fun e => c5 (e.2.2.1.resolve_left c3))).symm⟩)
    · repeat (refine wXh ?_)
      refine ND_ret1 (by first | exact .inl rfl | exact .inr rfl) rfl rfl _ _ subF incF (⟨rfl, rfl, congrArg Value.bool (B_false (fun e => c2 e.2.1)).symm⟩)
  · repeat (refine wXh ?_)
    refine ND_ret1 (by first | exact .inl rfl | exact .inr rfl) rfl rfl _ _ subF incF (⟨rfl, rfl, congrArg Value.bool (B_false (fun e => c1 e.1)).symm⟩)
set_option maxRecDepth 100000 in
theorem mshort_ok {r : WL} (hw : isWL r ∈ I0) : CD Tryz.prog 60 [lvW r] X w0 M0 I0 (fun v M I => M0 = M ∧ I0 = I ∧ v = .bool (B r.sht)) := by
  refine CD_hv (φ := slI r.p (recs eW r.es)) (Hv.wlsl hw) ?_
  refine enterD1 Tryz.func60 rfl Tryz.ntmps60 rfl ?_
  repeat' (first | refine wXh ?_ | (refine TD_isCo ?_; first | refine TD_dec rfl (fun h => ?_) (fun h => ?_) | refine TD_cond rfl (fun h => ?_) (fun h => ?_)) | (refine RD_isGu ?_; first | refine RD_grd rfl rfl (fun h => ?_) (fun h => ?_) | (fail_if_success (refine RD_isW rfl ?_); refine RD_grdB rfl rfl (fun h => ?_) (fun h => ?_))))
  · refine ND_ret1 (by first | exact .inl rfl | exact .inr rfl) rfl rfl _ _ subF incF (⟨rfl, rfl, congrArg Value.bool (B_false (fun e => by have := e.1; omega)).symm⟩)
  refine TD_loop [8, 9] rfl (fun k G M I => ∃ i : Nat, i ≤ r.es.length ∧ k = r.es.length - i ∧ (∀ j : Nat, j < i → (gt r.es j).brief) ∧ G = [(10, .int .i64 i)] ∧ M0 = M ∧ I = slI r.p (recs eW r.es) :: I0) (r.es.length) _ _ _ subG subF incF (⟨0, by omega, rfl, fun j hj => by omega, rfl, rfl, rfl⟩) ?_
  rintro k G M I ⟨i, hi, rfl, hs, rfl, rfl, rfl⟩
  repeat' (first | refine wXh ?_ | (refine TD_isCo ?_; first | refine TD_dec rfl (fun h => ?_) (fun h => ?_) | refine TD_cond rfl (fun h => ?_) (fun h => ?_)) | (refine RD_isGu ?_; first | refine RD_grd rfl rfl (fun h => ?_) (fun h => ?_) | (fail_if_success (refine RD_isW rfl ?_); refine RD_grdB rfl rfl (fun h => ?_) (fun h => ?_))))
  · (refine RD_alloc rfl rfl ?_; intro b; refine ⟨okF, ?_⟩)
    repeat (refine wXh ?_)
    (refine RD_callS rfl (Brief_ok (r := gt r.es (i : Int)) (Hv.wlel (List.Mem.tail _ hw) (by omega))) rfl rfl ?_; rintro _ _ _ ⟨rfl, rfl, rfl⟩; refine ⟨okF, ?_⟩)
    repeat' (first | refine wXh ?_ | (refine TD_isCo ?_; first | refine TD_dec rfl (fun h => ?_) (fun h => ?_) | refine TD_cond rfl (fun h => ?_) (fun h => ?_)) | (refine RD_isGu ?_; first | refine RD_grd rfl rfl (fun h => ?_) (fun h => ?_) | (fail_if_success (refine RD_isW rfl ?_); refine RD_grdB rfl rfl (fun h => ?_) (fun h => ?_))))
    · refine ND_ret1 (by first | exact .inl rfl | exact .inr rfl) rfl rfl _ _ subF incF (⟨rfl, rfl, congrArg Value.bool (B_false (fun e => h (e.2 _ (gt_mem (by omega))))).symm⟩)
    · refine ND_again (r.es.length - (i + 1)) _ _ _ (by first | omega | (simp only [List.length_append, List.length_cons, List.length_nil]; omega)) subG subF incF (⟨i + 1, by omega, rfl, fun j hj => ?_, rfl, rfl, rfl⟩)
      by_cases e : j = i
      · subst e; exact Decidable.of_not_not h
      · exact hs j (by omega)
  · refine ND_ret1 (by first | exact .inl rfl | exact .inr rfl) rfl rfl _ _ subF incF (⟨rfl, rfl, congrArg Value.bool (B_true ⟨by omega, fun e he => ?_⟩).symm⟩)
    obtain ⟨j, hj, rfl⟩ := List.mem_iff_getElem.1 he
    have := hs j (by omega)
    rwa [gt_get hj] at this
set_option maxRecDepth 100000 in
theorem few_ok {q : Option Addr} {c : Nat} {ms : List WM} (hl : ms.length ≤ 1000) (hq : slI q (recs eWM ms) ∈ I0) (hw : allWM ms ∈ I0) : CD Tryz.prog 50 [.slice q ms.length c] X w0 M0 I0 (fun v M I => M0 = M ∧ I0 = I ∧ v = .bool (B (∀ m ∈ ms, m.sht))) := by
  refine enterD1 Tryz.func50 rfl Tryz.ntmps50 rfl ?_
  repeat (refine wXh ?_)
  refine TD_loop [7, 8] rfl (fun k G M I => ∃ i : Nat, i ≤ ms.length ∧ k = ms.length - i ∧ (∀ j : Nat, j < i → (gt ms j).sht) ∧ G = [(9, .int .i64 i)] ∧ M0 = M ∧ I0 = I) (ms.length) _ _ _ subG subF incF (⟨0, by omega, rfl, fun j hj => by omega, rfl, rfl, rfl⟩) ?_
  rintro k G M I ⟨i, hi, rfl, hs, rfl, rfl, rfl⟩
  by_cases hi2 : i < ms.length
  · obtain ⟨m, hm⟩ : ∃ m, m = gt ms (i : Int) := ⟨_, rfl⟩
    refine TD_hv (φ := isWM (gt ms (i : Int))) (Hv.wmAt hw (by omega)) ?_
    refine TD_hv (φ := slI (gt ms (i : Int)).p (recs eWL (gt ms (i : Int)).rows)) (Hv.wmsl (List.Mem.head _)) ?_
    repeat' (first | refine wXh ?_ | (refine TD_isCo ?_; first | refine TD_dec rfl (fun h => ?_) (fun h => ?_) | refine TD_cond rfl (fun h => ?_) (fun h => ?_)) | (refine RD_isGu ?_; first | refine RD_grd rfl rfl (fun h => ?_) (fun h => ?_) | (fail_if_success (refine RD_isW rfl ?_); refine RD_grdB rfl rfl (fun h => ?_) (fun h => ?_))))
    · refine ND_ret1 (by first | exact .inl rfl | exact .inr rfl) rfl rfl _ _ subF incF (⟨rfl, rfl, congrArg Value.bool (B_false (fun e => by have := (e _ (gt_mem (ms := ms) (i := (i : Int)) (by omega))).1; omega)).symm⟩)
    · refine TD_loop [7, 8, 9, 16, 17] rfl (fun k G M I => ∃ j : Nat, j ≤ (gt ms (i : Int)).rows.length ∧ k = (gt ms (i : Int)).rows.length - j ∧ (∀ t : Nat, t < j → (gt (gt ms (i : Int)).rows t).sht) ∧ G = [(18, .int .i64 j)] ∧ M0 = M ∧ I = slI (gt ms (i : Int)).p (recs eWL (gt ms (i : Int)).rows) :: isWM (gt ms (i : Int)) :: I0) ((gt ms (i : Int)).rows.length) _ _ _ subG subF incF (⟨0, by omega, rfl, fun j hj => by omega, rfl, rfl, rfl⟩) ?_
      rintro k G M I ⟨j, hj, rfl, ht, rfl, rfl, rfl⟩
      repeat' (first | refine wXh ?_ | (refine TD_isCo ?_; first | refine TD_dec rfl (fun h => ?_) (fun h => ?_) | refine TD_cond rfl (fun h => ?_) (fun h => ?_)) | (refine RD_isGu ?_; first | refine RD_grd rfl rfl (fun h => ?_) (fun h => ?_) | (fail_if_success (refine RD_isW rfl ?_); refine RD_grdB rfl rfl (fun h => ?_) (fun h => ?_))))
      · refine RD_hv (φ := isWL (gt (gt ms (i : Int)).rows (j : Int))) (Hv.wmrow memF (by omega)) ?_
        (refine RD_callS rfl (mshort_ok (r := gt (gt ms (i : Int)).rows (j : Int)) memF) rfl rfl ?_; rintro _ _ _ ⟨rfl, rfl, rfl⟩; refine ⟨okF, ?_⟩)
        repeat' (first | refine wXh ?_ | (refine TD_isCo ?_; first | refine TD_dec rfl (fun h => ?_) (fun h => ?_) | refine TD_cond rfl (fun h => ?_) (fun h => ?_)) | (refine RD_isGu ?_; first | refine RD_grd rfl rfl (fun h => ?_) (fun h => ?_) | (fail_if_success (refine RD_isW rfl ?_); refine RD_grdB rfl rfl (fun h => ?_) (fun h => ?_))))
        · refine ND_ret1 (by first | exact .inl rfl | exact .inr rfl) rfl rfl _ _ subF incF (⟨rfl, rfl, congrArg Value.bool (B_false (fun e => h ((e _ (gt_mem (ms := ms) (i := (i : Int)) (by omega))).2 _ (gt_mem (by omega))))).symm⟩)
        · refine ND_again ((gt ms (i : Int)).rows.length - (j + 1)) _ _ _ (by first | omega | (simp only [List.length_append, List.length_cons, List.length_nil]; omega)) subG subF incF (⟨j + 1, by omega, rfl, fun t hh => ?_, rfl, rfl, rfl⟩)
          by_cases e : t = j
          · subst e; exact Decidable.of_not_not h
          · exact ht t (by omega)
      · refine ND_again (ms.length - (i + 1)) _ _ _ (by first | omega | (simp only [List.length_append, List.length_cons, List.length_nil]; omega)) subG subF incF (⟨i + 1, by omega, rfl, fun t hh => ?_, rfl, rfl, rfl⟩)
        by_cases e : t = i
        · subst e
          refine ⟨by omega, fun r hr => ?_⟩
          obtain ⟨s, hs2, rfl⟩ := List.mem_iff_getElem.1 hr
          have := ht s (by omega)
          rwa [gt_get hs2] at this
        · exact hs t (by omega)
  · repeat (refine wXh ?_)
    refine ND_ret1 (by first | exact .inl rfl | exact .inr rfl) rfl rfl _ _ subF incF (⟨rfl, rfl, congrArg Value.bool (B_true (fun m hm => ?_)).symm⟩)
    obtain ⟨j, hj, rfl⟩ := List.mem_iff_getElem.1 hm
    have := hs j (by omega)
    rwa [gt_get hj] at this
set_option maxRecDepth 100000 in
theorem rValidList_ok {r : WL} (hs : r.sml) (hw : isWL r ∈ I0) : CD Tryz.prog 44 [lvW r] X w0 M0 I0 (fun v M I => M0 = M ∧ I0 = I ∧ v = .bool (B r.good)) := by
  refine CD_hv (φ := slI r.p (recs eW r.es)) (Hv.wlsl hw) ?_
  have hl := hs.1
  refine enterD1 Tryz.func44 rfl Tryz.ntmps44 rfl ?_
  repeat (refine wXh ?_)
  refine TD_loop [0] rfl (fun k G M I => ∃ i : Nat, i ≤ r.es.length ∧ k = r.es.length - i ∧ (∀ j : Nat, j < i → (gt r.es j).good) ∧ G = [(3, .int .i64 i)] ∧ M0 = M ∧ I = slI r.p (recs eW r.es) :: I0) (r.es.length) _ _ _ subG subF incF (⟨0, by omega, rfl, fun j hj => by omega, rfl, rfl, rfl⟩) ?_
  rintro k G M I ⟨i, hi, rfl, hg, rfl, rfl, rfl⟩
  repeat' (first | refine wXh ?_ | (refine TD_isCo ?_; first | refine TD_dec rfl (fun h => ?_) (fun h => ?_) | refine TD_cond rfl (fun h => ?_) (fun h => ?_)) | (refine RD_isGu ?_; first | refine RD_grd rfl rfl (fun h => ?_) (fun h => ?_) | (fail_if_success (refine RD_isW rfl ?_); refine RD_grdB rfl rfl (fun h => ?_) (fun h => ?_))))
  · (refine RD_callS rfl (rValid_raw (r := gt r.es (i : Int)) (hs.2 _ (gt_mem (by omega))) (Hv.wlel (List.Mem.tail _ hw) (by omega))) rfl rfl ?_; rintro _ _ _ ⟨rfl, rfl, rfl⟩; refine ⟨okF, ?_⟩)
    repeat' (first | refine wXh ?_ | (refine TD_isCo ?_; first | refine TD_dec rfl (fun h => ?_) (fun h => ?_) | refine TD_cond rfl (fun h => ?_) (fun h => ?_)) | (refine RD_isGu ?_; first | refine RD_grd rfl rfl (fun h => ?_) (fun h => ?_) | (fail_if_success (refine RD_isW rfl ?_); refine RD_grdB rfl rfl (fun h => ?_) (fun h => ?_))))
    · refine ND_ret1 (by first | exact .inl rfl | exact .inr rfl) rfl rfl _ _ subF incF (⟨rfl, rfl, congrArg Value.bool (B_false (fun e => h (e _ (gt_mem (by omega))))).symm⟩)
    · refine ND_again (r.es.length - (i + 1)) _ _ _ (by first | omega | (simp only [List.length_append, List.length_cons, List.length_nil]; omega)) subG subF incF (⟨i + 1, by omega, rfl, fun j hj => ?_, rfl, rfl, rfl⟩)
      by_cases e : j = i
      · subst e; exact Decidable.of_not_not h
      · exact hg j (by omega)
  · refine ND_ret1 (by first | exact .inl rfl | exact .inr rfl) rfl rfl _ _ subF incF (⟨rfl, rfl, congrArg Value.bool (B_true (fun e he => ?_)).symm⟩)
    obtain ⟨j, hj, rfl⟩ := List.mem_iff_getElem.1 he
    have := hg j (by omega)
    rwa [gt_get hj] at this
theorem canonical1_ok {r : RW} (hs : r.sml) (hw : Hv I0 (isW r)) : CD Tryz.prog 224 [wv r] X w0 M0 I0 (fun v M I => M0 = M ∧ I0 = I ∧ v = .bool (B (¬ r.good))) := by
  refine enterD1 Tryz.func224 rfl Tryz.ntmps224 rfl ?_
  refine TD_seq ?_
  refine TD_region ?_
  (refine RD_boxA rfl rfl rfl ?_; intro b; refine ⟨okF, ?_⟩)
  repeat (refine wXh ?_)
  (refine RD_callS rfl (Valid_raw (r := r) hs hw) rfl rfl ?_; rintro _ _ _ ⟨rfl, rfl, rfl⟩; refine ⟨okF, ?_⟩)
  repeat (refine wXh ?_)
  refine ND_ret1 (by first | exact .inl rfl | exact .inr rfl) rfl rfl _ _ subF incF (⟨rfl, rfl, rfl⟩)
theorem mcanonical_ok {r : WL} (hs : r.sml) (hw : isWL r ∈ I0) : CD Tryz.prog 160 [lvW r] X w0 M0 I0 (fun v M I => M0 = M ∧ I0 = I ∧ v = .bool (B r.good)) := by
  refine CD_hv (φ := slI r.p (recs eW r.es)) (Hv.wlsl hw) ?_
  have hl := hs.1
  refine enterD1 Tryz.func160 rfl Tryz.ntmps160 rfl ?_
  repeat (refine wXh ?_)
  (refine RD_callS rfl (hasWR_ok (g := 224) (fs := #[]) (cs := #[]) (fun (x : RW) => ¬ x.good) (by omega) (List.Mem.head _) (fun i hi => canonical1_ok (hs.2 _ (gt_mem (by omega))) (Hv.wlel (List.Mem.tail _ hw) (by omega)))) rfl rfl ?_; rintro _ _ _ ⟨rfl, rfl, rfl⟩; refine ⟨okF, ?_⟩)
  repeat (refine wXh ?_)
  refine ND_ret1 (by first | exact .inl rfl | exact .inr rfl) rfl rfl _ _ subF incF (⟨rfl, rfl, congrArg Value.bool (B_congr ?_)⟩)
  exact ⟨fun e x hx => Decidable.of_not_not (fun hn => e ⟨x, hx, hn⟩), fun e ⟨x, hx, hn⟩ => hn (e x hx)⟩
end
end Go.Proofs.YtdmlebigkakplaaGreat
namespace Go.Proofs.YtdmlebigkakplaaGreat
open Go Go.Fx
/-- the code of a matrix -/
def WM.code (m : WM) : Int := if m.ok then 0 else 1
def codeL (ms : List WM) : Int := if ∀ m ∈ ms, m.ok then 0 else 1
def bothC (a b : WM) : Int := if a.ok ∧ b.ok then (if a.rows.length = b.rows.length ∧ (gt a.rows 0).es.length = (gt b.rows 0).es.length then 0 else 4) else 1
def sqC (a : WM) : Int := if a.ok then (if a.rows.length = (gt a.rows 0).es.length then 0 else 4) else 1
section
variable {P : Program} {n : Nat} {Q : Exit → Act → World → Prop} {G : Env} {X : List Nat} {w0 : World} {M M' : List Ent} {I I' : List Imm} {ops l : List Oper} {m : Fx.Mode} {ty : TypeId} {pos : String} {af : Array Edge} {g : Option (Nat × Bool)}
/-- a slice put into memory, not written any more -/
theorem RD_boxL {d : Nat} {t : TypeId} {x : Operand} {q : Option Addr} {len c : Nat} (hx : ev G x = some (.slice q len c)) (hg : gst ops G g = some true) (hd : Nat.ble (d + 1) n = true)
    (k : ∀ b, OkD m X w0 (.blk b [.slice q len c] t :: M) I ∧ RD P n ops Q m.nextE l ((d, .pointer (some ⟨b, 0, none⟩)) :: G) X w0 M (slI (some ⟨b, 0, none⟩) [.slice q len c] :: I)) :
    RD P n ops Q m (⟨some d, .box t x, ty, pos, af, g⟩ :: l) G X w0 M I := RD_box hx hg hd (fun b => ⟨(k b).1, RD_freezeB .here (k b).2⟩)
end
section
variable {X : List Nat} {w0 : World} {M0 : List Ent} {I0 : List Imm}
set_option maxRecDepth 100000 in
theorem Check1_ok {m : WM} {b : Nat} {r : WL} (hR : 1 ≤ m.rows.length) (hs : r.sml) (h : Hv I0 (isWL r)) (hm : isWM m ∈ I0) (hb : slI (some ⟨b, 0, none⟩) [.slice m.p m.rows.length m.c] ∈ I0) :
    CD Tryz.prog 159 [lvW r, .pointer (some ⟨b, 0, none⟩)] X w0 M0 I0 (fun v M I => M0 = M ∧ I0 = I ∧ v = .bool (B (¬ (r.es.length = (gt m.rows 0).es.length ∧ r.good)))) := by
  refine CD_hv (φ := isWL r) h ?_
  refine CD_hv (φ := slI m.p (recs eWL m.rows)) (Hv.wmsl (List.Mem.tail _ hm)) ?_
  by_cases he : r.es.length = (gt m.rows 0).es.length
  · have hq : B (¬ r.good) = B (¬ (r.es.length = (gt m.rows 0).es.length ∧ r.good)) := B_congr (not_congr ⟨fun h => ⟨he, h⟩, fun h => h.2⟩)
    refine enterD2 Tryz.func159 rfl Tryz.ntmps159 rfl ?_
    repeat (refine wXh ?_)
    (refine RD_callS rfl (mcanonical_ok (r := r) hs memF) rfl rfl ?_; rintro _ _ _ ⟨rfl, rfl, rfl⟩; refine ⟨okF, ?_⟩)
    repeat (refine wXh ?_)
    refine ND_ret1 (by first | exact .inl rfl | exact .inr rfl) rfl rfl _ _ subF incF (⟨rfl, rfl, congrArg Value.bool hq⟩)
  · have hn : ¬ (r.es.length = (gt m.rows 0).es.length ∧ r.good) := fun e => he e.1
    have hq : B (¬ (r.es.length = (gt m.rows 0).es.length ∧ r.good)) = true := B_true hn
    refine enterD2 Tryz.func159 rfl Tryz.ntmps159 rfl ?_
    repeat (refine wXh ?_)
    refine ND_ret1 (by first | exact .inl rfl | exact .inr rfl) rfl rfl _ _ subF incF (⟨rfl, rfl, congrArg Value.bool hq.symm⟩)
theorem WM.code_ok {m : WM} (h : m.ok) : m.code = 0 := if_pos h
theorem WM.code_no {m : WM} (h : ¬ m.ok) : m.code = 1 := if_neg h
set_option maxRecDepth 100000 in
theorem Check_ok {m : WM} (hs : m.sml) (hm : isWM m ∈ I0) : CD Tryz.prog 61 [mvW m] X w0 M0 I0 (fun v M I => M0 = M ∧ I0 = I ∧ v = .int .i64 m.code) := by
  refine CD_hv (φ := slI m.p (recs eWL m.rows)) (Hv.wmsl hm) ?_
  have hl := hs.1
  by_cases hsh : 1 ≤ m.rows.length ∧ m.rows.length ≤ 64 ∧ 1 ≤ (gt m.rows 0).es.length ∧ (gt m.rows 0).es.length ≤ 64
  · obtain ⟨s1, s2, s3, s4⟩ := hsh
    by_cases hall : ∃ r ∈ m.rows, ¬ (r.es.length = (gt m.rows 0).es.length ∧ r.good)
    · have hno : ¬ m.ok := fun e => by obtain ⟨r, hr, hn⟩ := hall; exact hn (e.2 r hr)
      rw [WM.code_no hno]
      refine enterD1 Tryz.func61 rfl Tryz.ntmps61 rfl ?_
      refine TD_seq ?_
      refine TD_region ?_
      (refine RD_boxL rfl rfl rfl ?_; intro b; refine ⟨okF, ?_⟩)
      repeat (refine wXh ?_)
      (refine RD_callS rfl (hasWM_ok (g := 159) (fs := #[]) (cs := #[.pointer (some ⟨b, 0, none⟩)]) (fun (r : WL) => ¬ (r.es.length = (gt m.rows 0).es.length ∧ r.good)) (by omega) memF (fun i hi => Check1_ok (m := m) (b := b) s1 (hs.2 _ (gt_mem (by omega))) (Hv.wmrow memF (by omega)) memF memF)) rfl rfl ?_; rintro _ _ _ ⟨rfl, rfl, rfl⟩; refine ⟨okF, ?_⟩)
      rw [B_true hall]
      repeat (refine wXh ?_)
      refine ND_ret1 (by first | exact .inl rfl | exact .inr rfl) rfl rfl _ _ subF incF (⟨rfl, rfl, rfl⟩)
    · have hok : m.ok := ⟨⟨s1, s2, s3, s4⟩, fun r hr => Decidable.of_not_not (fun hn => hall ⟨r, hr, hn⟩)⟩
      rw [WM.code_ok hok]
      refine enterD1 Tryz.func61 rfl Tryz.ntmps61 rfl ?_
      refine TD_seq ?_
      refine TD_region ?_
      (refine RD_boxL rfl rfl rfl ?_; intro b; refine ⟨okF, ?_⟩)
      repeat (refine wXh ?_)
      (refine RD_callS rfl (hasWM_ok (g := 159) (fs := #[]) (cs := #[.pointer (some ⟨b, 0, none⟩)]) (fun (r : WL) => ¬ (r.es.length = (gt m.rows 0).es.length ∧ r.good)) (by omega) memF (fun i hi => Check1_ok (m := m) (b := b) s1 (hs.2 _ (gt_mem (by omega))) (Hv.wmrow memF (by omega)) memF memF)) rfl rfl ?_; rintro _ _ _ ⟨rfl, rfl, rfl⟩; refine ⟨okF, ?_⟩)
      rw [B_false hall]
      repeat (refine wXh ?_)
      refine ND_ret1 (by first | exact .inl rfl | exact .inr rfl) rfl rfl _ _ subF incF (⟨rfl, rfl, rfl⟩)
  · have hno : ¬ m.ok := fun e => hsh e.1
    rw [WM.code_no hno]
    refine enterD1 Tryz.func61 rfl Tryz.ntmps61 rfl ?_
    refine TD_seq ?_
    refine TD_region ?_
    (refine RD_boxL rfl rfl rfl ?_; intro b; refine ⟨okF, ?_⟩)
    by_cases c1 : 1 ≤ m.rows.length
    · by_cases c2 : m.rows.length ≤ 64
      · by_cases c3 : 1 ≤ (gt m.rows 0).es.length
        · repeat (refine wXh ?_)
          refine ND_ret1 (by first | exact .inl rfl | exact .inr rfl) rfl rfl _ _ subF incF (⟨rfl, rfl, rfl⟩)
        · repeat (refine wXh ?_)
          refine ND_ret1 (by first | exact .inl rfl | exact .inr rfl) rfl rfl _ _ subF incF (⟨rfl, rfl, rfl⟩)
      · repeat (refine wXh ?_)
        refine ND_ret1 (by first | exact .inl rfl | exact .inr rfl) rfl rfl _ _ subF incF (⟨rfl, rfl, rfl⟩)
    · repeat (refine wXh ?_)
      refine ND_ret1 (by first | exact .inl rfl | exact .inr rfl) rfl rfl _ _ subF incF (⟨rfl, rfl, rfl⟩)
/-- several: the first code -/
theorem codeL_ok {ms : List WM} (h : ∀ m ∈ ms, m.ok) : codeL ms = 0 := if_pos h
theorem codeL_no {ms : List WM} (h : ¬ ∀ m ∈ ms, m.ok) : codeL ms = 1 := if_neg h
set_option maxRecDepth 100000 in
theorem rCheck_ok {m : WM} (hs : m.sml) (hm : isWM m ∈ I0) : CD Tryz.prog 62 [mvW m] X w0 M0 I0 (fun v M I => M0 = M ∧ I0 = I ∧ v = .int .i64 m.code) := by
  have hl := hs.1
  by_cases hsh : 1 ≤ m.rows.length ∧ m.rows.length ≤ 64 ∧ 1 ≤ (gt m.rows 0).es.length ∧ (gt m.rows 0).es.length ≤ 64
  · obtain ⟨s1, s2, s3, s4⟩ := hsh
    refine CD_hv (φ := slI m.p (recs eWL m.rows)) (Hv.wmsl hm) ?_
    refine enterD1 Tryz.func62 rfl Tryz.ntmps62 rfl ?_
    repeat (refine wXh ?_)
    refine TD_loop [0] rfl (fun k G M I => ∃ i : Nat, i ≤ m.rows.length ∧ k = m.rows.length - i ∧ (∀ j : Nat, j < i → (gt m.rows j).es.length = (gt m.rows 0).es.length ∧ (gt m.rows j).good) ∧ G = [(3, .int .i64 i)] ∧ M0 = M ∧ I = slI m.p (recs eWL m.rows) :: I0) (m.rows.length) _ _ _ subG subF incF (⟨0, by omega, rfl, fun j hj => by omega, rfl, rfl, rfl⟩) ?_
    rintro k G M I ⟨i, hi, rfl, hg, rfl, rfl, rfl⟩
    by_cases hi2 : i < m.rows.length
    · refine TD_hv (φ := isWL (gt m.rows (i : Int))) (Hv.wmrow (List.Mem.tail _ hm) (by omega)) ?_
      have hC := fun M0 I0 h => rValidList_ok (X := X) (w0 := w0) (M0 := M0) (I0 := I0) (r := gt m.rows (i : Int)) (hs.2 _ (gt_mem (by omega))) h
      by_cases hlen : (gt m.rows (i : Int)).es.length = (gt m.rows 0).es.length
      · by_cases hok : (gt m.rows (i : Int)).good
        · rw [B_true hok] at hC
          repeat (refine wXh ?_)
          (repeat refine TD_seq ?_); refine TD_drawn [0, 1, 2, 3, 4, 5, 6, 7, 8, 9, 10, 11, 12, 13, 14, 15, 16, 17] [1, 1, 1, 1, 1, 1, 1, 1, 1, 1, 0, 1, 1, 1, 0, 0, 0, 0] mixed (by kernel_rfl) ?_
          repeat (refine wXh ?_)
          (refine RD_callS rfl (hC _ _ memF) rfl rfl ?_; rintro _ _ _ ⟨rfl, rfl, rfl⟩; refine ⟨okF, ?_⟩)
          repeat (refine wXh ?_)
          refine ND_again (m.rows.length - (i + 1)) _ _ _ (by first | omega | (simp only [List.length_append, List.length_cons, List.length_nil]; omega)) subG subF incF (⟨i + 1, by omega, rfl, fun j hj => ?_, rfl, rfl, rfl⟩)
          by_cases e : j = i
          · subst e; exact ⟨hlen, hok⟩
          · exact hg j (by omega)
        · rw [B_false hok] at hC
          repeat (refine wXh ?_)
          (repeat refine TD_seq ?_); refine TD_drawn [0, 1, 2, 3, 4, 5, 6, 7, 8, 9, 10, 11, 12, 13, 14, 15, 16, 17] [1, 1, 1, 1, 1, 1, 1, 1, 1, 1, 0, 1, 1, 1, 0, 0, 0, 0] mixed (by kernel_rfl) ?_
          repeat (refine wXh ?_)
          (refine RD_callS rfl (hC _ _ memF) rfl rfl ?_; rintro _ _ _ ⟨rfl, rfl, rfl⟩; refine ⟨okF, ?_⟩)
          repeat (refine wXh ?_)
          refine ND_ret1 (by first | exact .inl rfl | exact .inr rfl) rfl rfl _ _ subF incF (⟨rfl, rfl, congrArg (Value.int .i64) (WM.code_no (fun e => hok (e.2 _ (gt_mem (by omega))).2)).symm⟩)
      · repeat (refine wXh ?_)
        (repeat refine TD_seq ?_); refine TD_drawn [0, 1, 2, 3, 4, 5, 6, 7, 8, 9, 10, 11, 12, 13, 14, 15, 16, 17] [1, 1, 1, 1, 1, 1, 1, 1, 1, 1, 0, 1, 1, 1, 0, 0, 0, 0] mixed (by kernel_rfl) ?_
        repeat (refine wXh ?_)
        refine ND_ret1 (by first | exact .inl rfl | exact .inr rfl) rfl rfl _ _ subF incF (⟨rfl, rfl, congrArg (Value.int .i64) (WM.code_no (fun e => hlen (e.2 _ (gt_mem (by omega))).1)).symm⟩)
    · repeat (refine wXh ?_)
      refine ND_ret1 (by first | exact .inl rfl | exact .inr rfl) rfl rfl _ _ subF incF (⟨rfl, rfl, congrArg (Value.int .i64) (WM.code_ok ⟨⟨s1, s2, s3, s4⟩, fun r hr => ?_⟩).symm⟩)
      obtain ⟨j, hj, rfl⟩ := List.mem_iff_getElem.1 hr
      have := hg j (by omega)
      rwa [gt_get hj] at this
  · have hno : ¬ m.ok := fun e => hsh e.1
    rw [WM.code_no hno]
    refine CD_hv (φ := slI m.p (recs eWL m.rows)) (Hv.wmsl hm) ?_
    refine enterD1 Tryz.func62 rfl Tryz.ntmps62 rfl ?_
    by_cases c1 : 1 ≤ m.rows.length
    · by_cases c2 : m.rows.length ≤ 64
      · by_cases c3 : 1 ≤ (gt m.rows 0).es.length
        · repeat (refine wXh ?_)
          refine ND_ret1 (by first | exact .inl rfl | exact .inr rfl) rfl rfl _ _ subF incF (⟨rfl, rfl, rfl⟩)
        · repeat (refine wXh ?_)
          refine ND_ret1 (by first | exact .inl rfl | exact .inr rfl) rfl rfl _ _ subF incF (⟨rfl, rfl, rfl⟩)
      · repeat (refine wXh ?_)
        refine ND_ret1 (by first | exact .inl rfl | exact .inr rfl) rfl rfl _ _ subF incF (⟨rfl, rfl, rfl⟩)
    · repeat (refine wXh ?_)
      refine ND_ret1 (by first | exact .inl rfl | exact .inr rfl) rfl rfl _ _ subF incF (⟨rfl, rfl, rfl⟩)
set_option maxRecDepth 100000 in
theorem code05_ok {q : Option Addr} {c : Nat} {ms : List WM} (hl : ms.length ≤ 1000) (hs : ∀ m ∈ ms, m.sml) (hq : slI q (recs eWM ms) ∈ I0) (hw : allWM ms ∈ I0) : CD Tryz.prog 52 [.slice q ms.length c] X w0 M0 I0 (fun v M I => M0 = M ∧ I0 = I ∧ v = .int .i64 (codeL ms)) := by
  refine enterD1 Tryz.func52 rfl Tryz.ntmps52 rfl ?_
  repeat (refine wXh ?_)
  refine TD_loop [6, 7] rfl (fun k G M I => ∃ i : Nat, i ≤ ms.length ∧ k = ms.length - i ∧ (∀ j : Nat, j < i → (gt ms j).ok) ∧ G = [(8, .int .i64 i)] ∧ M0 = M ∧ I0 = I) (ms.length) _ _ _ subG subF incF (⟨0, by omega, rfl, fun j hj => by omega, rfl, rfl, rfl⟩) ?_
  rintro k G M I ⟨i, hi, rfl, hg, rfl, rfl, rfl⟩
  by_cases hi2 : i < ms.length
  · have hC := fun M0 I0 h => rCheck_ok (X := X) (w0 := w0) (M0 := M0) (I0 := I0) (m := gt ms (i : Int)) (hs _ (gt_mem (by omega))) h
    refine TD_hv (φ := isWM (gt ms (i : Int))) (Hv.wmAt hw (by omega)) ?_
    by_cases hok : (gt ms (i : Int)).ok
    · rw [WM.code_ok hok] at hC
      repeat (refine wXh ?_)
      (refine RD_callS rfl (hC _ _ memF) rfl rfl ?_; rintro _ _ _ ⟨rfl, rfl, rfl⟩; refine ⟨okF, ?_⟩)
      repeat (refine wXh ?_)
      refine ND_again (ms.length - (i + 1)) _ _ _ (by first | omega | (simp only [List.length_append, List.length_cons, List.length_nil]; omega)) subG subF incF (⟨i + 1, by omega, rfl, fun j hj => ?_, rfl, rfl, rfl⟩)
      by_cases e : j = i
      · subst e; exact hok
      · exact hg j (by omega)
    · rw [WM.code_no hok] at hC
      repeat (refine wXh ?_)
      (refine RD_callS rfl (hC _ _ memF) rfl rfl ?_; rintro _ _ _ ⟨rfl, rfl, rfl⟩; refine ⟨okF, ?_⟩)
      repeat (refine wXh ?_)
      refine ND_ret1 (by first | exact .inl rfl | exact .inr rfl) rfl rfl _ _ subF incF (⟨rfl, rfl, congrArg (Value.int .i64) (codeL_no (fun e => hok (e _ (gt_mem (by omega))))).symm⟩)
  · repeat (refine wXh ?_)
    refine ND_ret1 (by first | exact .inl rfl | exact .inr rfl) rfl rfl _ _ subF incF (⟨rfl, rfl, congrArg (Value.int .i64) (codeL_ok (fun m hm => ?_)).symm⟩)
    obtain ⟨j, hj, rfl⟩ := List.mem_iff_getElem.1 hm
    have := hg j (by omega)
    rwa [gt_get hj] at this
theorem code_1 {a : WM} : codeL [a] = a.code := by
  unfold codeL WM.code
  have : (∀ m ∈ [a], m.ok) ↔ a.ok := by simp
  by_cases h : a.ok
  · rw [if_pos h, if_pos (this.2 h)]
  · rw [if_neg h, if_neg (fun e => h (this.1 e))]
set_option maxRecDepth 100000 in
theorem square_ok {a : WM} (sa : a.sml) (ha : isWM a ∈ I0) : CD Tryz.prog 137 [mvW a] X w0 M0 I0 (fun v M I => M0 = M ∧ I0 = I ∧ v = .int .i64 (sqC a)) := by
  have hC := fun M0 I0 h1 => Check_ok (X := X) (w0 := w0) (M0 := M0) (I0 := I0) (m := a) sa h1
  unfold sqC
  by_cases hok : a.ok
  · rw [WM.code_ok hok] at hC
    rw [if_pos hok]
    obtain ⟨a1, a2, a3, a4⟩ := hok.1
    refine CD_hv (φ := slI a.p (recs eWL a.rows)) (Hv.wmsl ha) ?_
    refine enterD1 Tryz.func137 rfl Tryz.ntmps137 rfl ?_
    repeat (refine wXh ?_)
    (refine RD_callS rfl (hC _ _ memF) rfl rfl ?_; rintro _ _ _ ⟨rfl, rfl, rfl⟩; refine ⟨okF, ?_⟩)
    by_cases e1 : a.rows.length = (gt a.rows 0).es.length
    · rw [if_pos e1]
      repeat (refine wXh ?_)
      refine ND_ret1 (by first | exact .inl rfl | exact .inr rfl) rfl rfl _ _ subF incF (⟨rfl, rfl, rfl⟩)
    · rw [if_neg e1]
      repeat (refine wXh ?_)
      refine ND_ret1 (by first | exact .inl rfl | exact .inr rfl) rfl rfl _ _ subF incF (⟨rfl, rfl, rfl⟩)
  · rw [WM.code_no hok] at hC
    rw [if_neg hok]
    refine enterD1 Tryz.func137 rfl Tryz.ntmps137 rfl ?_
    repeat (refine wXh ?_)
    (refine RD_callS rfl (hC _ _ memF) rfl rfl ?_; rintro _ _ _ ⟨rfl, rfl, rfl⟩; refine ⟨okF, ?_⟩)
    repeat (refine wXh ?_)
    refine ND_ret1 (by first | exact .inl rfl | exact .inr rfl) rfl rfl _ _ subF incF (⟨rfl, rfl, rfl⟩)
end
end Go.Proofs.YtdmlebigkakplaaGreat
