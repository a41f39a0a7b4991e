/- matrix.Check, check, both, square; the document's Check; the law's code. Matrices and lists that are built by appending: rows of facts. -/
import Derived.Test.YtdmlebigkakplaaGreatZmbj
import Derived.Test.YtdmlebigkakplaaGreatZmbi
set_option linter.unusedSimpArgs false
set_option linter.unusedVariables false
namespace Go.Proofs.YtdmlebigkakplaaGreat
open Go Go.Fx
/-- the code of a matrix -/
def WM.code (m : WM) : Int := if m.ok then 0 else 1
def codeL (ms : List WM) : Int := if ∀ m ∈ ms, m.ok then 0 else 1
def bothC (a b : WM) : Int := if a.ok ∧ b.ok then (if a.rows.length = b.rows.length ∧ (gt a.rows 0).es.length = (gt b.rows 0).es.length then 0 else 4) else 1
def sqC (a : WM) : Int := if a.ok then (if a.rows.length = (gt a.rows 0).es.length then 0 else 4) else 1
section
variable {P : Program} {n : Nat} {Q : Exit → Act → World → Prop} {G : Env} {X : List Nat} {w0 : World} {M M' : List Ent} {I I' : List Imm} {ops l : List Oper} {m : Fx.Mode} {ty : TypeId} {pos : String} {af : Array Edge} {g : Option (Nat × Bool)}
/-- a slice put into memory, not written any more -/
theorem RD_boxL {d : Nat} {t : TypeId} {x : Operand} {q : Option Addr} {len c : Nat} (hx : ev G x = some (.slice q len c)) (hg : gst ops G g = some true) (hd : Nat.ble (d + 1) n = true)
    (k : ∀ b, OkD m X w0 (.blk b [.slice q len c] t :: M) I ∧ RD P n ops Q m.nextE l ((d, .pointer (some ⟨b, 0, none⟩)) :: G) X w0 M (slI (some ⟨b, 0, none⟩) [.slice q len c] :: I)) :
    RD P n ops Q m (⟨some d, .box t x, ty, pos, af, g⟩ :: l) G X w0 M I := RD_box hx hg hd (fun b => ⟨(k b).1, RD_freezeB .here (k b).2⟩)
end
section
variable {X : List Nat} {w0 : World} {M0 : List Ent} {I0 : List Imm}
theorem B_not {p : Prop} [Decidable p] : B p = false ↔ ¬ p := by rw [B_eq]; simp
set_option maxRecDepth 100000 in
theorem Check1_ok {m : WM} {b : Nat} {r : WL} (hR : 1 ≤ m.rows.length) (hs : r.sml) (h : Hv I0 (isWL r)) (hm : isWM m ∈ I0) (hb : slI (some ⟨b, 0, none⟩) [.slice m.p m.rows.length m.c] ∈ I0) :
    CD Tryz.prog 159 [lvW r, .pointer (some ⟨b, 0, none⟩)] X w0 M0 I0 (fun v M I => M0 = M ∧ I0 = I ∧ v = .bool (B (¬ (r.es.length = (gt m.rows 0).es.length ∧ r.good)))) := by
  refine CD_hv (φ := isWL r) h ?_
  refine CD_hv (φ := slI m.p (recs eWL m.rows)) (Hv.wmsl (List.Mem.tail _ hm)) ?_
  by_cases he : r.es.length = (gt m.rows 0).es.length
  · have hq : B (¬ r.good) = B (¬ (r.es.length = (gt m.rows 0).es.length ∧ r.good)) := B_congr (not_congr ⟨fun h => ⟨he, h⟩, fun h => h.2⟩)
    refine enterD2 Tryz.func159 rfl Tryz.ntmps159 rfl ?_
    repeat (refine wXh ?_)
    (refine RD_callS rfl (mcanonical_ok (r := r) hs memF) rfl rfl ?_; rintro _ _ _ ⟨rfl, rfl, rfl⟩; refine ⟨okF, ?_⟩)
    repeat (refine wXh ?_)
    refine ND_ret1 (by first | exact .inl rfl | exact .inr rfl) rfl rfl _ _ subF incF (⟨rfl, rfl, congrArg Value.bool hq⟩)
  · have hn : ¬ (r.es.length = (gt m.rows 0).es.length ∧ r.good) := fun e => he e.1
    have hq : B (¬ (r.es.length = (gt m.rows 0).es.length ∧ r.good)) = true := B_true hn
    refine enterD2 Tryz.func159 rfl Tryz.ntmps159 rfl ?_
    repeat (refine wXh ?_)
    refine ND_ret1 (by first | exact .inl rfl | exact .inr rfl) rfl rfl _ _ subF incF (⟨rfl, rfl, congrArg Value.bool hq.symm⟩)
theorem WM.code_ok {m : WM} (h : m.ok) : m.code = 0 := if_pos h
theorem WM.code_no {m : WM} (h : ¬ m.ok) : m.code = 1 := if_neg h
set_option maxRecDepth 100000 in
theorem Check_ok {m : WM} (hs : m.sml) (hm : isWM m ∈ I0) : CD Tryz.prog 61 [mvW m] X w0 M0 I0 (fun v M I => M0 = M ∧ I0 = I ∧ v = .int .i64 m.code) := by
  refine CD_hv (φ := slI m.p (recs eWL m.rows)) (Hv.wmsl hm) ?_
  have hl := hs.1
  by_cases hsh : 1 ≤ m.rows.length ∧ m.rows.length ≤ 64 ∧ 1 ≤ (gt m.rows 0).es.length ∧ (gt m.rows 0).es.length ≤ 64
  · obtain ⟨s1, s2, s3, s4⟩ := hsh
    by_cases hall : ∃ r ∈ m.rows, ¬ (r.es.length = (gt m.rows 0).es.length ∧ r.good)
    · have hno : ¬ m.ok := fun e => by obtain ⟨r, hr, hn⟩ := hall; exact hn (e.2 r hr)
      rw [WM.code_no hno]
      refine enterD1 Tryz.func61 rfl Tryz.ntmps61 rfl ?_
      refine TD_seq ?_
      refine TD_region ?_
      (refine RD_boxL rfl rfl rfl ?_; intro b; refine ⟨okF, ?_⟩)
      repeat (refine wXh ?_)
      (refine RD_callS rfl (hasWM_ok (g := 159) (fs := #[]) (cs := #[.pointer (some ⟨b, 0, none⟩)]) (fun (r : WL) => ¬ (r.es.length = (gt m.rows 0).es.length ∧ r.good)) (by omega) memF (fun i hi => Check1_ok (m := m) (b := b) s1 (hs.2 _ (gt_mem (by omega))) (Hv.wmrow memF (by omega)) memF memF)) rfl rfl ?_; rintro _ _ _ ⟨rfl, rfl, rfl⟩; refine ⟨okF, ?_⟩)
      rw [B_true hall]
      repeat (refine wXh ?_)
      refine ND_ret1 (by first | exact .inl rfl | exact .inr rfl) rfl rfl _ _ subF incF (⟨rfl, rfl, rfl⟩)
    · have hok : m.ok := ⟨⟨s1, s2, s3, s4⟩, fun r hr => Decidable.of_not_not (fun hn => hall ⟨r, hr, hn⟩)⟩
      rw [WM.code_ok hok]
      refine enterD1 Tryz.func61 rfl Tryz.ntmps61 rfl ?_
      refine TD_seq ?_
      refine TD_region ?_
      (refine RD_boxL rfl rfl rfl ?_; intro b; refine ⟨okF, ?_⟩)
      repeat (refine wXh ?_)
      (refine RD_callS rfl (hasWM_ok (g := 159) (fs := #[]) (cs := #[.pointer (some ⟨b, 0, none⟩)]) (fun (r : WL) => ¬ (r.es.length = (gt m.rows 0).es.length ∧ r.good)) (by omega) memF (fun i hi => Check1_ok (m := m) (b := b) s1 (hs.2 _ (gt_mem (by omega))) (Hv.wmrow memF (by omega)) memF memF)) rfl rfl ?_; rintro _ _ _ ⟨rfl, rfl, rfl⟩; refine ⟨okF, ?_⟩)
      rw [B_false hall]
      repeat (refine wXh ?_)
      refine ND_ret1 (by first | exact .inl rfl | exact .inr rfl) rfl rfl _ _ subF incF (⟨rfl, rfl, rfl⟩)
  · have hno : ¬ m.ok := fun e => hsh e.1
    rw [WM.code_no hno]
    refine enterD1 Tryz.func61 rfl Tryz.ntmps61 rfl ?_
    refine TD_seq ?_
    refine TD_region ?_
    (refine RD_boxL rfl rfl rfl ?_; intro b; refine ⟨okF, ?_⟩)
    by_cases c1 : 1 ≤ m.rows.length
    · by_cases c2 : m.rows.length ≤ 64
      · by_cases c3 : 1 ≤ (gt m.rows 0).es.length
        · repeat (refine wXh ?_)
          refine ND_ret1 (by first | exact .inl rfl | exact .inr rfl) rfl rfl _ _ subF incF (⟨rfl, rfl, rfl⟩)
        · repeat (refine wXh ?_)
          refine ND_ret1 (by first | exact .inl rfl | exact .inr rfl) rfl rfl _ _ subF incF (⟨rfl, rfl, rfl⟩)
      · repeat (refine wXh ?_)
        refine ND_ret1 (by first | exact .inl rfl | exact .inr rfl) rfl rfl _ _ subF incF (⟨rfl, rfl, rfl⟩)
    · repeat (refine wXh ?_)
      refine ND_ret1 (by first | exact .inl rfl | exact .inr rfl) rfl rfl _ _ subF incF (⟨rfl, rfl, rfl⟩)
/-- several: the first code -/
theorem codeL_ok {ms : List WM} (h : ∀ m ∈ ms, m.ok) : codeL ms = 0 := if_pos h
theorem codeL_no {ms : List WM} (h : ¬ ∀ m ∈ ms, m.ok) : codeL ms = 1 := if_neg h
set_option maxRecDepth 100000 in
theorem check_ok {q : Option Addr} {c : Nat} {ms : List WM} (hl : ms.length ≤ 1000) (hs : ∀ m ∈ ms, m.sml) (hq : slI q (recs eWM ms) ∈ I0) (hw : allWM ms ∈ I0) : CD Tryz.prog 145 [.slice q ms.length c] X w0 M0 I0 (fun v M I => M0 = M ∧ I0 = I ∧ v = .int .i64 (codeL ms)) := by
  refine enterD1 Tryz.func145 rfl Tryz.ntmps145 rfl ?_
  repeat (refine wXh ?_)
  refine TD_loop [6, 7] rfl (fun k G M I => ∃ i : Nat, i ≤ ms.length ∧ k = ms.length - i ∧ (∀ j : Nat, j < i → (gt ms j).ok) ∧ G = [(8, .int .i64 i)] ∧ M0 = M ∧ I0 = I) (ms.length) _ _ _ subG subF incF (⟨0, by omega, rfl, fun j hj => by omega, rfl, rfl, rfl⟩) ?_
  rintro k G M I ⟨i, hi, rfl, hg, rfl, rfl, rfl⟩
  by_cases hi2 : i < ms.length
  · have hC := fun M0 I0 h => Check_ok (X := X) (w0 := w0) (M0 := M0) (I0 := I0) (m := gt ms (i : Int)) (hs _ (gt_mem (by omega))) h
    refine TD_hv (φ := isWM (gt ms (i : Int))) (Hv.wmAt hw (by omega)) ?_
    by_cases hok : (gt ms (i : Int)).ok
    · rw [WM.code_ok hok] at hC
      repeat (refine wXh ?_)
      (refine RD_callS rfl (hC _ _ memF) rfl rfl ?_; rintro _ _ _ ⟨rfl, rfl, rfl⟩; refine ⟨okF, ?_⟩)
      repeat (refine wXh ?_)
      refine ND_again (ms.length - (i + 1)) _ _ _ (by first | omega | (simp only [List.length_append, List.length_cons, List.length_nil]; omega)) subG subF incF (⟨i + 1, by omega, rfl, fun j hj => ?_, rfl, rfl, rfl⟩)
      by_cases e : j = i
      · subst e; exact hok
      · exact hg j (by omega)
    · rw [WM.code_no hok] at hC
      repeat (refine wXh ?_)
      (refine RD_callS rfl (hC _ _ memF) rfl rfl ?_; rintro _ _ _ ⟨rfl, rfl, rfl⟩; refine ⟨okF, ?_⟩)
      repeat (refine wXh ?_)
      refine ND_ret1 (by first | exact .inl rfl | exact .inr rfl) rfl rfl _ _ subF incF (⟨rfl, rfl, congrArg (Value.int .i64) (codeL_no (fun e => hok (e _ (gt_mem (by omega))))).symm⟩)
  · repeat (refine wXh ?_)
    refine ND_ret1 (by first | exact .inl rfl | exact .inr rfl) rfl rfl _ _ subF incF (⟨rfl, rfl, congrArg (Value.int .i64) (codeL_ok (fun m hm => ?_)).symm⟩)
    obtain ⟨j, hj, rfl⟩ := List.mem_iff_getElem.1 hm
    have := hg j (by omega)
    rwa [gt_get hj] at this
set_option maxRecDepth 100000 in
theorem rCheck_ok {m : WM} (hs : m.sml) (hm : isWM m ∈ I0) : CD Tryz.prog 62 [mvW m] X w0 M0 I0 (fun v M I => M0 = M ∧ I0 = I ∧ v = .int .i64 m.code) := by
  have hl := hs.1
  by_cases hsh : 1 ≤ m.rows.length ∧ m.rows.length ≤ 64 ∧ 1 ≤ (gt m.rows 0).es.length ∧ (gt m.rows 0).es.length ≤ 64
  · obtain ⟨s1, s2, s3, s4⟩ := hsh
    refine CD_hv (φ := slI m.p (recs eWL m.rows)) (Hv.wmsl hm) ?_
    refine enterD1 Tryz.func62 rfl Tryz.ntmps62 rfl ?_
    repeat (refine wXh ?_)
    refine TD_loop [0] rfl (fun k G M I => ∃ i : Nat, i ≤ m.rows.length ∧ k = m.rows.length - i ∧ (∀ j : Nat, j < i → (gt m.rows j).es.length = (gt m.rows 0).es.length ∧ (gt m.rows j).good) ∧ G = [(3, .int .i64 i)] ∧ M0 = M ∧ I = slI m.p (recs eWL m.rows) :: I0) (m.rows.length) _ _ _ subG subF incF (⟨0, by omega, rfl, fun j hj => by omega, rfl, rfl, rfl⟩) ?_
    rintro k G M I ⟨i, hi, rfl, hg, rfl, rfl, rfl⟩
    by_cases hi2 : i < m.rows.length
    · refine TD_hv (φ := isWL (gt m.rows (i : Int))) (Hv.wmrow (List.Mem.tail _ hm) (by omega)) ?_
      have hC := fun M0 I0 h => rValidList_ok (X := X) (w0 := w0) (M0 := M0) (I0 := I0) (r := gt m.rows (i : Int)) (hs.2 _ (gt_mem (by omega))) h
      by_cases hlen : (gt m.rows (i : Int)).es.length = (gt m.rows 0).es.length
      · by_cases hok : (gt m.rows (i : Int)).good
        · rw [B_true hok] at hC
          repeat (refine wXh ?_)
          (repeat refine TD_seq ?_); refine TD_drawn [0, 1, 2, 3, 4, 5, 6, 7, 8, 9, 10, 11, 12, 13, 14, 15, 16, 17] [1, 1, 1, 1, 1, 1, 1, 1, 1, 1, 0, 1, 1, 1, 0, 0, 0, 0] mixed (by kernel_rfl) ?_
          repeat (refine wXh ?_)
          (refine RD_callS rfl (hC _ _ memF) rfl rfl ?_; rintro _ _ _ ⟨rfl, rfl, rfl⟩; refine ⟨okF, ?_⟩)
          repeat (refine wXh ?_)
          refine ND_again (m.rows.length - (i + 1)) _ _ _ (by first | omega | (simp only [List.length_append, List.length_cons, List.length_nil]; omega)) subG subF incF (⟨i + 1, by omega, rfl, fun j hj => ?_, rfl, rfl, rfl⟩)
          by_cases e : j = i
          · subst e; exact ⟨hlen, hok⟩
          · exact hg j (by omega)
        · rw [B_false hok] at hC
          repeat (refine wXh ?_)
          (repeat refine TD_seq ?_); refine TD_drawn [0, 1, 2, 3, 4, 5, 6, 7, 8, 9, 10, 11, 12, 13, 14, 15, 16, 17] [1, 1, 1, 1, 1, 1, 1, 1, 1, 1, 0, 1, 1, 1, 0, 0, 0, 0] mixed (by kernel_rfl) ?_
          repeat (refine wXh ?_)
          (refine RD_callS rfl (hC _ _ memF) rfl rfl ?_; rintro _ _ _ ⟨rfl, rfl, rfl⟩; refine ⟨okF, ?_⟩)
          repeat (refine wXh ?_)
          refine ND_ret1 (by first | exact .inl rfl | exact .inr rfl) rfl rfl _ _ subF incF (⟨rfl, rfl, congrArg (Value.int .i64) (WM.code_no (fun e => hok (e.2 _ (gt_mem (by omega))).2)).symm⟩)
      · repeat (refine wXh ?_)
        (repeat refine TD_seq ?_); refine TD_drawn [0, 1, 2, 3, 4, 5, 6, 7, 8, 9, 10, 11, 12, 13, 14, 15, 16, 17] [1, 1, 1, 1, 1, 1, 1, 1, 1, 1, 0, 1, 1, 1, 0, 0, 0, 0] mixed (by kernel_rfl) ?_
        repeat (refine wXh ?_)
        refine ND_ret1 (by first | exact .inl rfl | exact .inr rfl) rfl rfl _ _ subF incF (⟨rfl, rfl, congrArg (Value.int .i64) (WM.code_no (fun e => hlen (e.2 _ (gt_mem (by omega))).1)).symm⟩)
    · repeat (refine wXh ?_)
      refine ND_ret1 (by first | exact .inl rfl | exact .inr rfl) rfl rfl _ _ subF incF (⟨rfl, rfl, congrArg (Value.int .i64) (WM.code_ok ⟨⟨s1, s2, s3, s4⟩, fun r hr => ?_⟩).symm⟩)
      obtain ⟨j, hj, rfl⟩ := List.mem_iff_getElem.1 hr
      have := hg j (by omega)
      rwa [gt_get hj] at this
  · have hno : ¬ m.ok := fun e => hsh e.1
    rw [WM.code_no hno]
    refine CD_hv (φ := slI m.p (recs eWL m.rows)) (Hv.wmsl hm) ?_
    refine enterD1 Tryz.func62 rfl Tryz.ntmps62 rfl ?_
    by_cases c1 : 1 ≤ m.rows.length
    · by_cases c2 : m.rows.length ≤ 64
      · by_cases c3 : 1 ≤ (gt m.rows 0).es.length
        · repeat (refine wXh ?_)
          refine ND_ret1 (by first | exact .inl rfl | exact .inr rfl) rfl rfl _ _ subF incF (⟨rfl, rfl, rfl⟩)
        · repeat (refine wXh ?_)
          refine ND_ret1 (by first | exact .inl rfl | exact .inr rfl) rfl rfl _ _ subF incF (⟨rfl, rfl, rfl⟩)
      · repeat (refine wXh ?_)
        refine ND_ret1 (by first | exact .inl rfl | exact .inr rfl) rfl rfl _ _ subF incF (⟨rfl, rfl, rfl⟩)
    · repeat (refine wXh ?_)
      refine ND_ret1 (by first | exact .inl rfl | exact .inr rfl) rfl rfl _ _ subF incF (⟨rfl, rfl, rfl⟩)
set_option maxRecDepth 100000 in
theorem code05_ok {q : Option Addr} {c : Nat} {ms : List WM} (hl : ms.length ≤ 1000) (hs : ∀ m ∈ ms, m.sml) (hq : slI q (recs eWM ms) ∈ I0) (hw : allWM ms ∈ I0) : CD Tryz.prog 52 [.slice q ms.length c] X w0 M0 I0 (fun v M I => M0 = M ∧ I0 = I ∧ v = .int .i64 (codeL ms)) := by
  refine enterD1 Tryz.func52 rfl Tryz.ntmps52 rfl ?_
  repeat (refine wXh ?_)
  refine TD_loop [6, 7] rfl (fun k G M I => ∃ i : Nat, i ≤ ms.length ∧ k = ms.length - i ∧ (∀ j : Nat, j < i → (gt ms j).ok) ∧ G = [(8, .int .i64 i)] ∧ M0 = M ∧ I0 = I) (ms.length) _ _ _ subG subF incF (⟨0, by omega, rfl, fun j hj => by omega, rfl, rfl, rfl⟩) ?_
  rintro k G M I ⟨i, hi, rfl, hg, rfl, rfl, rfl⟩
  by_cases hi2 : i < ms.length
  · have hC := fun M0 I0 h => rCheck_ok (X := X) (w0 := w0) (M0 := M0) (I0 := I0) (m := gt ms (i : Int)) (hs _ (gt_mem (by omega))) h
    refine TD_hv (φ := isWM (gt ms (i : Int))) (Hv.wmAt hw (by omega)) ?_
    by_cases hok : (gt ms (i : Int)).ok
    · rw [WM.code_ok hok] at hC
      repeat (refine wXh ?_)
      (refine RD_callS rfl (hC _ _ memF) rfl rfl ?_; rintro _ _ _ ⟨rfl, rfl, rfl⟩; refine ⟨okF, ?_⟩)
      repeat (refine wXh ?_)
      refine ND_again (ms.length - (i + 1)) _ _ _ (by first | omega | (simp only [List.length_append, List.length_cons, List.length_nil]; omega)) subG subF incF (⟨i + 1, by omega, rfl, fun j hj => ?_, rfl, rfl, rfl⟩)
      by_cases e : j = i
      · subst e; exact hok
      · exact hg j (by omega)
    · rw [WM.code_no hok] at hC
      repeat (refine wXh ?_)
      (refine RD_callS rfl (hC _ _ memF) rfl rfl ?_; rintro _ _ _ ⟨rfl, rfl, rfl⟩; refine ⟨okF, ?_⟩)
      repeat (refine wXh ?_)
      refine ND_ret1 (by first | exact .inl rfl | exact .inr rfl) rfl rfl _ _ subF incF (⟨rfl, rfl, congrArg (Value.int .i64) (codeL_no (fun e => hok (e _ (gt_mem (by omega))))).symm⟩)
  · repeat (refine wXh ?_)
    refine ND_ret1 (by first | exact .inl rfl | exact .inr rfl) rfl rfl _ _ subF incF (⟨rfl, rfl, congrArg (Value.int .i64) (codeL_ok (fun m hm => ?_)).symm⟩)
    obtain ⟨j, hj, rfl⟩ := List.mem_iff_getElem.1 hm
    have := hg j (by omega)
    rwa [gt_get hj] at this
theorem code_2 {a b : WM} : codeL [a, b] = if a.ok ∧ b.ok then 0 else 1 := by
  unfold codeL
  have : (∀ m ∈ [a, b], m.ok) ↔ a.ok ∧ b.ok := by simp
  by_cases h : a.ok ∧ b.ok
  · rw [if_pos h, if_pos (this.2 h)]
  · rw [if_neg h, if_neg (fun e => h (this.1 e))]
theorem code_1 {a : WM} : codeL [a] = a.code := by
  unfold codeL WM.code
  have : (∀ m ∈ [a], m.ok) ↔ a.ok := by simp
  by_cases h : a.ok
  · rw [if_pos h, if_pos (this.2 h)]
  · rw [if_neg h, if_neg (fun e => h (this.1 e))]
set_option maxRecDepth 100000 in
theorem both_ok {a b : WM} (sa : a.sml) (sb : b.sml) (ha : isWM a ∈ I0) (hb : isWM b ∈ I0) : CD Tryz.prog 161 [mvW a, mvW b] X w0 M0 I0 (fun v M I => M0 = M ∧ I0 = I ∧ v = .int .i64 (bothC a b)) := by
  have hC := fun q M0 I0 h1 h2 => check_ok (X := X) (w0 := w0) (M0 := M0) (I0 := I0) (q := q) (c := 2) (ms := [a, b]) (by simp) (fun m hm => by simp at hm; rcases hm with rfl | rfl <;> assumption) h1 h2
  rw [code_2] at hC
  unfold bothC
  refine CD_hv (φ := allWM [a, b]) (Hv.wm2 ha hb) ?_
  by_cases hok : a.ok ∧ b.ok
  · rw [if_pos hok] at hC
    rw [if_pos hok]
    obtain ⟨oa, ob⟩ := hok
    obtain ⟨a1, a2, a3, a4⟩ := oa.1
    obtain ⟨b1, b2, b3, b4⟩ := ob.1
    refine CD_hv (φ := slI a.p (recs eWL a.rows)) (Hv.wmsl (List.Mem.tail _ ha)) ?_
    refine CD_hv (φ := slI b.p (recs eWL b.rows)) (Hv.wmsl (List.Mem.tail _ (List.Mem.tail _ hb))) ?_
    refine enterD2 Tryz.func161 rfl Tryz.ntmps161 rfl ?_
    repeat (refine wXh ?_)
    (refine RD_vals (cs := recs eWM [a, b]) ([mvW a, mvW b]) rfl rfl (by intro v hv; repeat (first | exact absurd hv (List.not_mem_nil) | (rcases List.mem_cons.1 hv with rfl | hv; · rfl))) (by omega) rfl rfl rfl ?_; intro bs; refine ⟨okF, ?_⟩)
    refine RD_freezeB .here ?_
    (refine RD_callS rfl (hC _ _ _ memF memF) rfl rfl ?_; rintro _ _ _ ⟨rfl, rfl, rfl⟩; refine ⟨okF, ?_⟩)
    repeat (refine wXh ?_)
    (repeat refine TD_seq ?_); refine TD_drawn [0, 1, 2, 3, 4, 5, 6, 7, 8, 9, 10, 11, 12, 13, 14, 15] [0, 0, 0, 0, 0, 0, 0, 0, 0, 0, 0, 0, 0, 0, 0, 0] mixed (by kernel_rfl) ?_
    by_cases e1 : a.rows.length = b.rows.length
    · by_cases e2 : (gt a.rows 0).es.length = (gt b.rows 0).es.length
      · rw [if_pos ⟨e1, e2⟩]
        repeat (refine wXh ?_)
        refine ND_ret1 (by first | exact .inl rfl | exact .inr rfl) rfl rfl _ _ subF incF (⟨rfl, rfl, rfl⟩)
      · rw [if_neg (fun e => e2 e.2)]
        repeat (refine wXh ?_)
        refine ND_ret1 (by first | exact .inl rfl | exact .inr rfl) rfl rfl _ _ subF incF (⟨rfl, rfl, rfl⟩)
    · rw [if_neg (fun e => e1 e.1)]
      repeat (refine wXh ?_)
      refine ND_ret1 (by first | exact .inl rfl | exact .inr rfl) rfl rfl _ _ subF incF (⟨rfl, rfl, rfl⟩)
  · rw [if_neg hok] at hC
    rw [if_neg hok]
    refine enterD2 Tryz.func161 rfl Tryz.ntmps161 rfl ?_
    repeat (refine wXh ?_)
    (refine RD_vals (cs := recs eWM [a, b]) ([mvW a, mvW b]) rfl rfl (by intro v hv; repeat (first | exact absurd hv (List.not_mem_nil) | (rcases List.mem_cons.1 hv with rfl | hv; · rfl))) (by omega) rfl rfl rfl ?_; intro bs; refine ⟨okF, ?_⟩)
    refine RD_freezeB .here ?_
    (refine RD_callS rfl (hC _ _ _ memF memF) rfl rfl ?_; rintro _ _ _ ⟨rfl, rfl, rfl⟩; refine ⟨okF, ?_⟩)
    repeat (refine wXh ?_)
    refine ND_ret1 (by first | exact .inl rfl | exact .inr rfl) rfl rfl _ _ subF incF (⟨rfl, rfl, rfl⟩)
set_option maxRecDepth 100000 in
theorem square_ok {a : WM} (sa : a.sml) (ha : isWM a ∈ I0) : CD Tryz.prog 137 [mvW a] X w0 M0 I0 (fun v M I => M0 = M ∧ I0 = I ∧ v = .int .i64 (sqC a)) := by
  have hC := fun M0 I0 h1 => Check_ok (X := X) (w0 := w0) (M0 := M0) (I0 := I0) (m := a) sa h1
  unfold sqC
  by_cases hok : a.ok
  · rw [WM.code_ok hok] at hC
    rw [if_pos hok]
    obtain ⟨a1, a2, a3, a4⟩ := hok.1
    refine CD_hv (φ := slI a.p (recs eWL a.rows)) (Hv.wmsl ha) ?_
    refine enterD1 Tryz.func137 rfl Tryz.ntmps137 rfl ?_
    repeat (refine wXh ?_)
    (refine RD_callS rfl (hC _ _ memF) rfl rfl ?_; rintro _ _ _ ⟨rfl, rfl, rfl⟩; refine ⟨okF, ?_⟩)
    by_cases e1 : a.rows.length = (gt a.rows 0).es.length
    · rw [if_pos e1]
      repeat (refine wXh ?_)
      refine ND_ret1 (by first | exact .inl rfl | exact .inr rfl) rfl rfl _ _ subF incF (⟨rfl, rfl, rfl⟩)
    · rw [if_neg e1]
      repeat (refine wXh ?_)
      refine ND_ret1 (by first | exact .inl rfl | exact .inr rfl) rfl rfl _ _ subF incF (⟨rfl, rfl, rfl⟩)
  · rw [WM.code_no hok] at hC
    rw [if_neg hok]
    refine enterD1 Tryz.func137 rfl Tryz.ntmps137 rfl ?_
    repeat (refine wXh ?_)
    (refine RD_callS rfl (hC _ _ memF) rfl rfl ?_; rintro _ _ _ ⟨rfl, rfl, rfl⟩; refine ⟨okF, ?_⟩)
    repeat (refine wXh ?_)
    refine ND_ret1 (by first | exact .inl rfl | exact .inr rfl) rfl rfl _ _ subF incF (⟨rfl, rfl, rfl⟩)
end
end Go.Proofs.YtdmlebigkakplaaGreat
namespace Go.Proofs.YtdmlebigkakplaaGreat
open Go Go.Fx
structure AllL (rows : List RL) (k : Nat) (X : List Nat) (w : World) : Prop where
  go : ∀ r ∈ rows, IsL r k X w
abbrev allL (rows : List RL) (k : Nat) : Imm := AllL rows k
instance (rows : List RL) (k : Nat) : Fx.Good (AllL rows k) := ⟨fun X Y w w' h he hY => ⟨fun r hm => Fx.Good.go (φ := IsL _ _) X Y w w' (h.go r hm) he hY⟩⟩
theorem Hv.nilL {I : List Imm} {k : Nat} : Hv I (allL [] k) := ⟨fun X w _ => ⟨fun x hx => by simp at hx⟩⟩
theorem Hv.snocL {I : List Imm} {rows : List RL} {r : RL} {k : Nat} (h1 : allL rows k ∈ I) (h2 : isL r k ∈ I) : Hv I (allL (rows ++ [r]) k) := ⟨fun X w hw => ⟨fun x hx => by
  rcases List.mem_append.1 hx with hx | hx
  · exact (hw _ h1 : AllL rows k X w).go x hx
  · rw [List.mem_singleton.1 hx]; exact hw _ h2⟩⟩
section
variable {X : List Nat} {w0 : World} {M : List Ent} {I : List Imm}
theorem Mem.toL {w : World} {q : Option Addr} {c k : Nat} {es : List RE} {ty : TypeId} {sz : Nat} (h : Mem X w0 (.row q es.length c (recs eR es) ty sz :: M) I w) (ha : allR es k ∈ I) : Mem X w0 M (isL ⟨q, c, es⟩ k :: I) w := by
  have ho := h.rowS List.mem_cons_self
  have hc := h.rowLe List.mem_cons_self
  have h1 := h.freezeR .here
  refine (h1.add (φ := isL ⟨q, c, es⟩ k) ⟨(h1.sl (List.Mem.head _)), (((h1.imm _ (List.Mem.tail _ ha)).2 : AllR es k _ w)).go, ⟨hc, ho.2.imp id And.right⟩⟩).inc (.of fun φ hφ => ?_)
  rcases List.mem_cons.1 hφ with rfl | hφ
  · exact List.Mem.head _
  · exact List.Mem.tail _ (List.Mem.tail _ hφ)
theorem Mem.toX {w : World} {q : Option Addr} {c k : Nat} {rows : List RL} {ty : TypeId} {sz : Nat} (h : Mem X w0 (.row q rows.length c (recs eL rows) ty sz :: M) I w) (ha : allL rows k ∈ I) : Mem X w0 M (isX ⟨q, c, rows⟩ k :: I) w := by
  have ho := h.rowS List.mem_cons_self
  have hc := h.rowLe List.mem_cons_self
  have h1 := h.freezeR .here
  refine (h1.add (φ := isX ⟨q, c, rows⟩ k) ⟨(h1.sl (List.Mem.head _)), (((h1.imm _ (List.Mem.tail _ ha)).2 : AllL rows k _ w)).go, ⟨hc, ho.2.imp id And.right⟩⟩).inc (.of fun φ hφ => ?_)
  rcases List.mem_cons.1 hφ with rfl | hφ
  · exact List.Mem.head _
  · exact List.Mem.tail _ (List.Mem.tail _ hφ)
variable {P : Program} {n : Nat} {Q : Exit → Act → World → Prop} {G : Env}
theorem RD_toL {ops l : List Oper} {m : Fx.Mode} {q : Option Addr} {c k : Nat} {es : List RE} {ty : TypeId} {sz : Nat} (ha : allR es k ∈ I) (h : RD P n ops Q m l G X w0 M (isL ⟨q, c, es⟩ k :: I)) : RD P n ops Q m l G X w0 (.row q es.length c (recs eR es) ty sz :: M) I := RD_m (fun _ hw => Mem.toL hw ha) h
theorem TD_toL {cd : Code} {q : Option Addr} {c k : Nat} {es : List RE} {ty : TypeId} {sz : Nat} (ha : allR es k ∈ I) (h : TD P n cd Q G X w0 M (isL ⟨q, c, es⟩ k :: I)) : TD P n cd Q G X w0 (.row q es.length c (recs eR es) ty sz :: M) I := TD_m (fun _ hw => Mem.toL hw ha) h
theorem ND_toL {ex : Exit} {q : Option Addr} {c k : Nat} {es : List RE} {ty : TypeId} {sz : Nat} (ha : allR es k ∈ I) (h : ND n Q ex G X w0 M (isL ⟨q, c, es⟩ k :: I)) : ND n Q ex G X w0 (.row q es.length c (recs eR es) ty sz :: M) I := ND_m (fun _ hw => Mem.toL hw ha) h
theorem ND_toX {ex : Exit} {q : Option Addr} {c k : Nat} {rows : List RL} {ty : TypeId} {sz : Nat} (ha : allL rows k ∈ I) (h : ND n Q ex G X w0 M (isX ⟨q, c, rows⟩ k :: I)) : ND n Q ex G X w0 (.row q rows.length c (recs eL rows) ty sz :: M) I := ND_m (fun _ hw => Mem.toX hw ha) h
theorem RD_toX {ops l : List Oper} {m : Fx.Mode} {q : Option Addr} {c k : Nat} {rows : List RL} {ty : TypeId} {sz : Nat} (ha : allL rows k ∈ I) (h : RD P n ops Q m l G X w0 M (isX ⟨q, c, rows⟩ k :: I)) : RD P n ops Q m l G X w0 (.row q rows.length c (recs eL rows) ty sz :: M) I := RD_m (fun _ hw => Mem.toX hw ha) h
end
theorem q_snoc {rows : List RL} {r : RL} : (rows ++ [r]).map RL.q = rows.map RL.q ++ [r.q] := by simp
end Go.Proofs.YtdmlebigkakplaaGreat
