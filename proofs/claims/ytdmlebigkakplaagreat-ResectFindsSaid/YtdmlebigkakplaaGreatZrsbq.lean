/- The law ResectFinds: its walk. -/
import Derived.Test.YtdmlebigkakplaaGreatZrsbn
import Derived.Test.YtdmlebigkakplaaGreatZrsbo
import Derived.Test.YtdmlebigkakplaaGreatZrsbp
import Derived.Test.YtdmlebigkakplaaGreatZrsbg
set_option linter.unusedSimpArgs false
set_option linter.unusedVariables false
namespace Go.Proofs.YtdmlebigkakplaaGreat
open Go Go.Fx
theorem StAts.appR {A cs cs' vs : List Value} {n o : Nat} (hA : A.length = n) (h : StAts cs o vs cs') : StAts (A ++ cs) (n + o) vs (A ++ cs') := by
  obtain ⟨h1, h2⟩ := h.out
  refine ⟨?_, by rw [List.length_append]; omega⟩
  subst hA
  rw [← h1]
  unfold splice
  rw [List.take_length_add_append, Nat.add_assoc, List.drop_length_add_append]
  simp [List.append_assoc]
theorem AtsZ.appR {A B : List Value} {n sz : Nat} (hA : A.length = n) (hB : B.length = sz) : AtsZ (A ++ B) n B sz := by
  subst hA
  refine ⟨⟨fun j v hj => ?_⟩, hB⟩
  rw [List.getElem?_append_right (by omega)]
  simpa using hj
theorem fill_part (place : Nat → Option (Nat × Nat)) : ∀ (vals : List Value) (k : Nat) (pre : List Value) (base : Array Value), pre.length + (cellsOf' vals).length ≤ base.size → base.toList.take pre.length = pre → PlOk place k pre.length vals →
    Instr.fill place base ((vals.zipIdx k).map (fun p => (p.2, p.1))) = some (pre ++ cellsOf' vals ++ base.toList.drop (pre.length + (cellsOf' vals).length)).toArray
  | [], k, pre, base, hb, ht, _ => by
    have e : base.toList = pre ++ base.toList.drop pre.length := by
      conv => lhs; rw [← List.take_append_drop pre.length base.toList, ht]
    simp only [List.zipIdx_nil, List.map_nil, Instr.fill, cellsOf', List.flatMap_nil, List.append_nil, List.length_nil, Nat.add_zero]
    rw [← e]
  | v :: r, k, pre, base, hb, ht, hc => by
    obtain ⟨h1, h2⟩ := hc
    have hcl : cellsOf' (v :: r) = v.cells.toList ++ cellsOf' r := by simp [cellsOf']
    have hcs : v.cells.toList.length = v.cells.size := by simp
    rw [hcl, List.length_append, hcs] at hb
    simp only [List.zipIdx_cons, List.map_cons, Instr.fill, h1]
    have hno : ¬ (v.cells.size ≠ v.cells.size ∨ pre.length + v.cells.size > base.size) := by omega
    have hf := fold_splice pre.length v.cells.toList base (by simp; omega)
    simp only [Array.toArray_toList] at hf
    simp only [Bool.or_eq_true, decide_eq_true_eq, hno, if_false, hf]
    rw [fill_part place r (k + 1) (pre ++ v.cells.toList) _ ?_ ?_ (by rw [List.length_append, hcs]; exact h2)]
    · rw [hcl]
      congr 2
      simp only [List.append_assoc, List.append_cancel_left_eq, List.length_append, hcs, ht]
      have e1 : pre.length + v.cells.size + (cellsOf' r).length = (pre ++ v.cells.toList).length + (cellsOf' r).length := by simp
      rw [e1, ← List.append_assoc, List.drop_length_add_append, List.drop_drop]
      congr 1
      omega
    · simp only [List.size_toArray, List.length_append, List.length_take, List.length_drop, hcs, Array.length_toList]
      omega
    · simp only [ht]
      rw [List.take_append_of_le_length (by simp), List.take_of_length_le (by simp)]
theorem Const_structP {P : Program} {n : Nat} {G : Env} {ty : TypeId} {C : World → Prop} {t : TypeId} {parts : List (Nat × Operand)} {vals cells : List Value} {places : List (Nat × Nat)} {z : List Value} [ht : StructTy P t places z]
    (hp : parts.map (fun p => (p.1, ev G p.2)) = vals.zipIdx.map (fun p => (p.2, some p.1))) (hpl : PlOk (places.toArray[·]?) 0 0 vals) (hz : (cellsOf' vals).length ≤ z.length) (hc : cellsOf' vals ++ z.drop (cellsOf' vals).length = cells) :
    Const P n G (.build t parts.toArray) ty C (.agg cells.toArray) := by
  refine Const_struct (pvs := vals.zipIdx.map (fun p => (p.2, p.1))) (places := places) (z := z) (by rw [hp]; simp) ?_
  have := fill_part (places.toArray[·]?) vals 0 [] z.toArray (by simp; exact hz) (by simp) (by simpa using hpl)
  simp only [List.nil_append, List.length_nil, Nat.zero_add] at this
  rw [hc] at this
  simpa using this
def zW : RW := ⟨false, none, [], 0, false, none, [], 0⟩
theorem st_slope {es : List RE} {e : RE} (h : es.length < 3) : st (es.map RE.raw ++ List.replicate (3 - es.length) zW) (es.length : Int) e.raw = (es ++ [e]).map RE.raw ++ List.replicate (3 - (es ++ [e]).length) zW := by
  match es, h with
  | [], _ => rfl
  | [a], _ => rfl
  | [a, b], _ => rfl
theorem Hv.allSnoc {I : List Imm} {es : List RE} {e : RE} {k : Nat} (h : Hv I (allR es k)) (he : Hv I (isR e k)) : Hv I (allR (es ++ [e]) k) := ⟨fun X w hw => ⟨fun x hx => by
  rcases List.mem_append.1 hx with hx | hx
  · exact (h.go X w hw).go x hx
  · rw [List.mem_singleton.1 hx]; exact he.go X w hw⟩⟩
theorem Hv.allNil {I : List Imm} {k : Nat} : Hv I (allR [] k) := ⟨fun X w _ => ⟨fun x hx => by cases hx⟩⟩
theorem all2 {p : PW → Prop} {a b : PW} (h1 : p a) (h2 : p b) : ∀ x ∈ [a, b], p x := fun x hx => by
  simp only [List.mem_cons, List.not_mem_nil, or_false] at hx
  rcases hx with rfl | rfl
  · exact h1
  · exact h2
theorem Hv.pw2 {I : List Imm} {a b : PW} (h1 : Hv I (isPW a)) (h2 : Hv I (isPW b)) : Hv I (allPW [a, b]) := ⟨fun X w hw => ⟨fun p hp => by
  simp only [List.mem_cons, List.not_mem_nil, or_false] at hp
  rcases hp with rfl | rfl
  · exact h1.go X w hw
  · exact h2.go X w hw⟩⟩
section
variable {X : List Nat} {w0 : World} {M0 : List Ent} {I0 : List Imm}
set_option maxRecDepth 100000 in
set_option maxHeartbeats 4000000 in
theorem LF_bad {c f p0 p1 p2 : PW} (hr : c.reach ∧ f.reach ∧ p0.reach ∧ p1.reach ∧ p2.reach) (hc : Hv I0 (isPW c)) (hf : Hv I0 (isPW f)) (h0 : Hv I0 (isPW p0)) (h1 : Hv I0 (isPW p1)) (h2 : Hv I0 (isPW p2))
    (hb : ¬ ((∀ x ∈ [c, f], x.dig ≤ 8) ∧ (∀ x ∈ [p0, p1, p2], x.dig ≤ 8) ∧ (∀ x ∈ [c, f], x.good) ∧ (∀ x ∈ [p0, p1, p2], x.good))) :
    CD Tryz.prog 4 [pvW c, pvW f, .agg (recs ePW [p0, p1, p2]).toArray] X w0 M0 I0 (fun v M I => M0 = M ∧ I0 = I ∧ v = .bool true) := by
  have hSa := fun q M0 I0 h1 => gShort_ok (X := X) (w0 := w0) (M0 := M0) (I0 := I0) (q := q) (c := 2) (m := 2) (ps := [c, f]) rfl (by simp) (all2 hr.1 hr.2.1) h1
  have hSb := fun q M0 I0 h1 => gShort_ok (X := X) (w0 := w0) (M0 := M0) (I0 := I0) (q := q) (c := 3) (m := 3) (ps := [p0, p1, p2]) rfl (by simp) (all3 hr.2.2.1 hr.2.2.2.1 hr.2.2.2.2) h1
  refine CD_hv (Hv.pw2 hc hf) (CD_hv (Hv.pw3 h0 h1 h2).cons ?_)
  by_cases k1 : ∀ x ∈ [c, f], x.dig ≤ 8
  · rw [B_true k1] at hSa
    by_cases k2 : ∀ x ∈ [p0, p1, p2], x.dig ≤ 8
    · rw [B_true k2] at hSb
      have sc : c.small := PW.small_of (k1 c (by simp))
      have sf : f.small := PW.small_of (k1 f (by simp))
      have s0 : p0.small := PW.small_of (k2 p0 (by simp))
      have s1 : p1.small := PW.small_of (k2 p1 (by simp))
      have s2 : p2.small := PW.small_of (k2 p2 (by simp))
      have hVa := fun q M0 I0 h1 => gValid_ok (X := X) (w0 := w0) (M0 := M0) (I0 := I0) (q := q) (c := 2) (m := 2) (ps := [c, f]) rfl (by simp) (all2 sc sf) h1
      have hVb := fun q M0 I0 h1 => gValid_ok (X := X) (w0 := w0) (M0 := M0) (I0 := I0) (q := q) (c := 3) (m := 3) (ps := [p0, p1, p2]) rfl (by simp) (all3 s0 s1 s2) h1
      by_cases k3 : ∀ x ∈ [c, f], x.good
      · rw [B_true k3] at hVa
        rw [B_false (fun k4 => hb ⟨k1, k2, k3, k4⟩)] at hVb
        refine enterD3 Tryz.func4 rfl Tryz.ntmps4 rfl ?_
        refine TD_seq ?_
        refine TD_region ?_
        (refine RD_boxA rfl rfl rfl ?_; intro b3; refine ⟨okF, ?_⟩)
        (refine RD_boxA rfl rfl rfl ?_; intro b4; refine ⟨okF, ?_⟩)
        (refine RD_boxA rfl rfl rfl ?_; intro b5; refine ⟨okF, ?_⟩)
        refine RD_freezeB (b := b5) remF ?_
        repeat (refine wXh ?_)
        (refine RD_callS rfl (known30_ok) rfl rfl ?_; rintro _ _ _ ⟨rfl, rfl, rfl⟩; refine ⟨okF, ?_⟩)
        repeat (refine wXh ?_)
        (refine RD_vals (cs := recs ePW [c, f]) ([pvW c, pvW f]) rfl rfl (by intro v hv; repeat (first | exact absurd hv (List.not_mem_nil) | (rcases List.mem_cons.1 hv with rfl | hv; · rfl))) (by omega) rfl rfl rfl ?_; intro bs; refine ⟨okF, ?_⟩)
        refine RD_freezeB (b := bs) remF ?_
        (refine RD_callS rfl (hSa _ _ _ (List.Mem.head _)) rfl rfl ?_; rintro _ _ _ ⟨rfl, rfl, rfl⟩; refine ⟨okF, ?_⟩)
        repeat (refine wXh ?_)
        refine RD_c rfl (fun _ => Const_sliceA rfl) rfl rfl ?_
        (refine RD_callS rfl (hSb _ _ _ memF) rfl rfl ?_; rintro _ _ _ ⟨rfl, rfl, rfl⟩; refine ⟨okF, ?_⟩)
        repeat (refine wXh ?_)
        (refine RD_vals (cs := recs ePW [c, f]) ([pvW c, pvW f]) rfl rfl (by intro v hv; repeat (first | exact absurd hv (List.not_mem_nil) | (rcases List.mem_cons.1 hv with rfl | hv; · rfl))) (by omega) rfl rfl rfl ?_; intro bt; refine ⟨okF, ?_⟩)
        refine RD_freezeB (b := bt) remF ?_
        (refine RD_callS rfl (hVa _ _ _ (List.Mem.head _) hvY) rfl rfl ?_; rintro _ _ _ ⟨rfl, rfl, rfl⟩; refine ⟨okF, ?_⟩)
        repeat (refine wXh ?_)
        refine RD_c rfl (fun _ => Const_sliceA rfl) rfl rfl ?_
        (refine RD_callS rfl (hVb _ _ _ memF hvY) rfl rfl ?_; rintro _ _ _ ⟨rfl, rfl, rfl⟩; refine ⟨okF, ?_⟩)
        repeat (refine wXh ?_)
        refine ND_ret1 (by first | exact .inl rfl | exact .inr rfl) rfl rfl _ _ subF incF (⟨rfl, rfl, rfl⟩)
      · rw [B_false k3] at hVa
        refine enterD3 Tryz.func4 rfl Tryz.ntmps4 rfl ?_
        refine TD_seq ?_
        refine TD_region ?_
        (refine RD_boxA rfl rfl rfl ?_; intro b3; refine ⟨okF, ?_⟩)
        (refine RD_boxA rfl rfl rfl ?_; intro b4; refine ⟨okF, ?_⟩)
        (refine RD_boxA rfl rfl rfl ?_; intro b5; refine ⟨okF, ?_⟩)
        refine RD_freezeB (b := b5) remF ?_
        repeat (refine wXh ?_)
        (refine RD_callS rfl (known30_ok) rfl rfl ?_; rintro _ _ _ ⟨rfl, rfl, rfl⟩; refine ⟨okF, ?_⟩)
        repeat (refine wXh ?_)
        (refine RD_vals (cs := recs ePW [c, f]) ([pvW c, pvW f]) rfl rfl (by intro v hv; repeat (first | exact absurd hv (List.not_mem_nil) | (rcases List.mem_cons.1 hv with rfl | hv; · rfl))) (by omega) rfl rfl rfl ?_; intro bs; refine ⟨okF, ?_⟩)
        refine RD_freezeB (b := bs) remF ?_
        (refine RD_callS rfl (hSa _ _ _ (List.Mem.head _)) rfl rfl ?_; rintro _ _ _ ⟨rfl, rfl, rfl⟩; refine ⟨okF, ?_⟩)
        repeat (refine wXh ?_)
        refine RD_c rfl (fun _ => Const_sliceA rfl) rfl rfl ?_
        (refine RD_callS rfl (hSb _ _ _ memF) rfl rfl ?_; rintro _ _ _ ⟨rfl, rfl, rfl⟩; refine ⟨okF, ?_⟩)
        repeat (refine wXh ?_)
        (refine RD_vals (cs := recs ePW [c, f]) ([pvW c, pvW f]) rfl rfl (by intro v hv; repeat (first | exact absurd hv (List.not_mem_nil) | (rcases List.mem_cons.1 hv with rfl | hv; · rfl))) (by omega) rfl rfl rfl ?_; intro bt; refine ⟨okF, ?_⟩)
        refine RD_freezeB (b := bt) remF ?_
        (refine RD_callS rfl (hVa _ _ _ (List.Mem.head _) hvY) rfl rfl ?_; rintro _ _ _ ⟨rfl, rfl, rfl⟩; refine ⟨okF, ?_⟩)
        repeat (refine wXh ?_)
        refine ND_ret1 (by first | exact .inl rfl | exact .inr rfl) rfl rfl _ _ subF incF (⟨rfl, rfl, rfl⟩)
    · rw [B_false k2] at hSb
      refine enterD3 Tryz.func4 rfl Tryz.ntmps4 rfl ?_
      refine TD_seq ?_
      refine TD_region ?_
      (refine RD_boxA rfl rfl rfl ?_; intro b3; refine ⟨okF, ?_⟩)
      (refine RD_boxA rfl rfl rfl ?_; intro b4; refine ⟨okF, ?_⟩)
      (refine RD_boxA rfl rfl rfl ?_; intro b5; refine ⟨okF, ?_⟩)
      refine RD_freezeB (b := b5) remF ?_
      repeat (refine wXh ?_)
      (refine RD_callS rfl (known30_ok) rfl rfl ?_; rintro _ _ _ ⟨rfl, rfl, rfl⟩; refine ⟨okF, ?_⟩)
      repeat (refine wXh ?_)
      (refine RD_vals (cs := recs ePW [c, f]) ([pvW c, pvW f]) rfl rfl (by intro v hv; repeat (first | exact absurd hv (List.not_mem_nil) | (rcases List.mem_cons.1 hv with rfl | hv; · rfl))) (by omega) rfl rfl rfl ?_; intro bs; refine ⟨okF, ?_⟩)
      refine RD_freezeB (b := bs) remF ?_
      (refine RD_callS rfl (hSa _ _ _ (List.Mem.head _)) rfl rfl ?_; rintro _ _ _ ⟨rfl, rfl, rfl⟩; refine ⟨okF, ?_⟩)
      repeat (refine wXh ?_)
      refine RD_c rfl (fun _ => Const_sliceA rfl) rfl rfl ?_
      (refine RD_callS rfl (hSb _ _ _ memF) rfl rfl ?_; rintro _ _ _ ⟨rfl, rfl, rfl⟩; refine ⟨okF, ?_⟩)
      repeat (refine wXh ?_)
      refine ND_ret1 (by first | exact .inl rfl | exact .inr rfl) rfl rfl _ _ subF incF (⟨rfl, rfl, rfl⟩)
  · rw [B_false k1] at hSa
    refine enterD3 Tryz.func4 rfl Tryz.ntmps4 rfl ?_
    refine TD_seq ?_
    refine TD_region ?_
    (refine RD_boxA rfl rfl rfl ?_; intro b3; refine ⟨okF, ?_⟩)
    (refine RD_boxA rfl rfl rfl ?_; intro b4; refine ⟨okF, ?_⟩)
    (refine RD_boxA rfl rfl rfl ?_; intro b5; refine ⟨okF, ?_⟩)
    refine RD_freezeB (b := b5) remF ?_
    repeat (refine wXh ?_)
    (refine RD_callS rfl (known30_ok) rfl rfl ?_; rintro _ _ _ ⟨rfl, rfl, rfl⟩; refine ⟨okF, ?_⟩)
    repeat (refine wXh ?_)
    (refine RD_vals (cs := recs ePW [c, f]) ([pvW c, pvW f]) rfl rfl (by intro v hv; repeat (first | exact absurd hv (List.not_mem_nil) | (rcases List.mem_cons.1 hv with rfl | hv; · rfl))) (by omega) rfl rfl rfl ?_; intro bs; refine ⟨okF, ?_⟩)
    refine RD_freezeB (b := bs) remF ?_
    (refine RD_callS rfl (hSa _ _ _ (List.Mem.head _)) rfl rfl ?_; rintro _ _ _ ⟨rfl, rfl, rfl⟩; refine ⟨okF, ?_⟩)
    repeat (refine wXh ?_)
    refine ND_ret1 (by first | exact .inl rfl | exact .inr rfl) rfl rfl _ _ subF incF (⟨rfl, rfl, rfl⟩)
set_option maxRecDepth 100000 in
set_option maxHeartbeats 8000000 in
theorem LF_ok {c f p0 p1 p2 : PE} (k1 : ∀ x ∈ [c.raw, f.raw], x.dig ≤ 8) (k2 : ∀ x ∈ [p0.raw, p1.raw, p2.raw], x.dig ≤ 8) (hc : Hv I0 (isP c 240)) (hf : Hv I0 (isP f 240)) (h0 : Hv I0 (isP p0 240)) (h1 : Hv I0 (isP p1 240)) (h2 : Hv I0 (isP p2 240)) :
    CD Tryz.prog 4 [pv c, pv f, .agg (recs eP [p0, p1, p2]).toArray] X w0 M0 I0 (fun v M I => M0 = M ∧ I0 = I ∧ v = .bool true) := by
  have sc : c.raw.small := PW.small_of (k1 c.raw (by simp))
  have sf : f.raw.small := PW.small_of (k1 f.raw (by simp))
  have s0 : p0.raw.small := PW.small_of (k2 p0.raw (by simp))
  have s1 : p1.raw.small := PW.small_of (k2 p1.raw (by simp))
  have s2 : p2.raw.small := PW.small_of (k2 p2.raw (by simp))
  have rr : ∀ q : PW, q.small → q.reach := fun q h => ⟨⟨by have := h.1.1; omega, by have := h.1.2; omega⟩, ⟨by have := h.2.1; omega, by have := h.2.2; omega⟩⟩
  have hr := And.intro (rr _ sc) (And.intro (rr _ sf) (And.intro (rr _ s0) (And.intro (rr _ s1) (rr _ s2))))
  have hSa := fun q M0 I0 h1 => gShort_ok (X := X) (w0 := w0) (M0 := M0) (I0 := I0) (q := q) (c := 2) (m := 2) (ps := [c.raw, f.raw]) rfl (by simp) (all2 hr.1 hr.2.1) h1
  have hSb := fun q M0 I0 h1 => gShort_ok (X := X) (w0 := w0) (M0 := M0) (I0 := I0) (q := q) (c := 3) (m := 3) (ps := [p0.raw, p1.raw, p2.raw]) rfl (by simp) (all3 hr.2.2.1 hr.2.2.2.1 hr.2.2.2.2) h1
  have hVa := fun q M0 I0 h1 => gValid_ok (X := X) (w0 := w0) (M0 := M0) (I0 := I0) (q := q) (c := 2) (m := 2) (ps := [c.raw, f.raw]) rfl (by simp) (all2 sc sf) h1
  have hVb := fun q M0 I0 h1 => gValid_ok (X := X) (w0 := w0) (M0 := M0) (I0 := I0) (q := q) (c := 3) (m := 3) (ps := [p0.raw, p1.raw, p2.raw]) rfl (by simp) (all3 s0 s1 s2) h1
  rw [B_true k1] at hSa
  rw [B_true k2] at hSb
  rw [B_true (show ∀ x ∈ [c.raw, f.raw], x.good from all2 c.raw_good f.raw_good)] at hVa
  rw [B_true (show ∀ x ∈ [p0.raw, p1.raw, p2.raw], x.good from all3 p0.raw_good p1.raw_good p2.raw_good)] at hVb
  have hS1 := fun (p : PE) M0 I0 (hz : f.v.z0) a1 a2 a3 => Slope_deg (X := X) (w0 := w0) (M0 := M0) (I0 := I0) (c := c) (f := f) (p := p) (k := 240) (by decide) a1 a2 a3 hz
  have hS2 := fun (p : PE) M0 I0 (hz : ¬ f.v.z0) (hh : ahd c.v f.v p.v = 0) a1 a2 a3 => Slope_beh (X := X) (w0 := w0) (M0 := M0) (I0 := I0) (c := c) (f := f) (p := p) (k := 240) (by decide) a1 a2 a3 hz hh
  have hS3 := fun (p : PE) M0 I0 (hz : ¬ f.v.z0) (hh : ahd c.v f.v p.v ≠ 0) a1 a2 a3 => Slope_ok (X := X) (w0 := w0) (M0 := M0) (I0 := I0) (c := c) (f := f) (p := p) (k := 240) (by decide) a1 a2 a3 hz hh
  refine CD_hv (Hv.pw2 (hc.toPW (by decide)) (hf.toPW (by decide))) (CD_hv (Hv.pw3 (h0.toPW (by decide)) (h1.toPW (by decide)) (h2.toPW (by decide))).cons (CD_hv (Hv.p3 h0 h1 h2).cons.cons (CD_hv hc.cons.cons.cons (CD_hv hf.cons.cons.cons.cons ?_))))
  generalize hI1 : isP f 240 :: isP c 240 :: allP [p0, p1, p2] 240 :: allPW [p0.raw, p1.raw, p2.raw] :: allPW [c.raw, f.raw] :: I0 = I1
  have f0 : isP c 240 ∈ I1 := by rw [← hI1]; exact memF
  have f1 : isP f 240 ∈ I1 := by rw [← hI1]; exact memF
  have f2 : allP [p0, p1, p2] 240 ∈ I1 := by rw [← hI1]; exact memF
  have f3 : allPW [p0.raw, p1.raw, p2.raw] ∈ I1 := by rw [← hI1]; exact memF
  have f4 : allPW [c.raw, f.raw] ∈ I1 := by rw [← hI1]; exact memF
  have f9 : Inc I1 I0 := by rw [← hI1]; exact incF
  clear hI1
  refine enterD3 Tryz.func4 rfl Tryz.ntmps4 rfl ?_
  refine TD_seq ?_
  refine TD_region ?_
  (refine RD_boxA rfl rfl rfl ?_; intro b3; refine ⟨okF, ?_⟩)
  (refine RD_boxA rfl rfl rfl ?_; intro b4; refine ⟨okF, ?_⟩)
  (refine RD_boxA rfl rfl rfl ?_; intro b5; refine ⟨okF, ?_⟩)
  refine RD_freezeB (b := b5) remF ?_
  repeat (refine wXh ?_)
  (refine RD_callS rfl (known30_ok) rfl rfl ?_; rintro _ _ _ ⟨rfl, rfl, rfl⟩; refine ⟨okF, ?_⟩)
  repeat (refine wXh ?_)
  (refine RD_vals (cs := recs ePW [c.raw, f.raw]) ([pv c, pv f]) rfl rfl (by intro v hv; repeat (first | exact absurd hv (List.not_mem_nil) | (rcases List.mem_cons.1 hv with rfl | hv; · rfl))) (by omega) rfl rfl rfl ?_; intro bs; refine ⟨okF, ?_⟩)
  refine RD_freezeB (b := bs) remF ?_
  (refine RD_callS rfl (hSa _ _ _ (List.Mem.head _)) rfl rfl ?_; rintro _ _ _ ⟨rfl, rfl, rfl⟩; refine ⟨okF, ?_⟩)
  repeat (refine wXh ?_)
  refine RD_c rfl (fun _ => Const_sliceA rfl) rfl rfl ?_
  (refine RD_callS rfl (hSb _ _ _ memF) rfl rfl ?_; rintro _ _ _ ⟨rfl, rfl, rfl⟩; refine ⟨okF, ?_⟩)
  repeat (refine wXh ?_)
  (refine RD_vals (cs := recs ePW [c.raw, f.raw]) ([pv c, pv f]) rfl rfl (by intro v hv; repeat (first | exact absurd hv (List.not_mem_nil) | (rcases List.mem_cons.1 hv with rfl | hv; · rfl))) (by omega) rfl rfl rfl ?_; intro bt; refine ⟨okF, ?_⟩)
  refine RD_freezeB (b := bt) remF ?_
  (refine RD_callS rfl (hVa _ _ _ (List.Mem.head _) hvY) rfl rfl ?_; rintro _ _ _ ⟨rfl, rfl, rfl⟩; refine ⟨okF, ?_⟩)
  repeat (refine wXh ?_)
  refine RD_c rfl (fun _ => Const_sliceA rfl) rfl rfl ?_
  (refine RD_callS rfl (hVb _ _ _ memF hvY) rfl rfl ?_; rintro _ _ _ ⟨rfl, rfl, rfl⟩; refine ⟨okF, ?_⟩)
  repeat (refine wXh ?_)
  refine RD_c rfl (fun _ => Const_structP (vals := [.agg (recs eP [p0, p1, p2]).toArray]) (cells := recs eP [p0, p1, p2] ++ recs eW [zW, zW, zW]) rfl ?hpl ?hz rfl) rfl rfl ?_
  case hpl => repeat (first | exact True.intro | refine ⟨rfl, ?_⟩)
  case hz => exact Nat.le_of_ble_eq_true rfl
  (refine RD_alloc rfl rfl ?_; intro b7; refine ⟨okF, ?_⟩)
  repeat (refine wXh ?_)
  refine TD_hv (φ := allR [] 2886) Hv.allNil ?_
  refine TD_loop [3, 4, 7, 45] rfl (fun k G M I => ∃ (i : Nat) (es : List RE), es.length = i ∧ i ≤ 3 ∧ k = 3 - i ∧ (∀ j : Nat, j < i → ¬ f.v.z0 ∧ 0 < ahd c.v f.v (gt [p0, p1, p2] (j : Int)).v ∧ (gt es (j : Int)).q = slp c.v f.v (gt [p0, p1, p2] (j : Int)).v) ∧ G = [(46, .int .i64 i)] ∧ M = .blk b7 (recs eP [p0, p1, p2] ++ recs eW (es.map RE.raw ++ List.replicate (3 - es.length) zW)) 43 :: .blk b4 (eP f) 28 :: .blk b3 (eP c) 28 :: M0 ∧ I = allR es 2886 :: slI (some ⟨b5, 0, none⟩) (recs eP [p0, p1, p2]) :: I1) (3) _ _ _ subG subF incF (⟨0, [], rfl, by omega, rfl, fun j hj => by omega, rfl, rfl, rfl⟩) ?_
  rintro k G M I ⟨i, es, hes, hi, rfl, hall, rfl, rfl, rfl⟩
  by_cases hin : i < 3
  · have hpi : ∀ I, allP [p0, p1, p2] 240 ∈ I → Hv I (isP (gt [p0, p1, p2] (i : Int)) 240) := fun I h => (Hv.mem h).pAt (gt_mem (by simp; omega))
    repeat (refine wXh ?_)
    refine RD_c rfl (fun _ => Const_indexV (vs := eP (gt [p0, p1, p2] (i : Int))) rfl rfl (by omega) (recs_part (by simp; omega))) rfl rfl ?_
    (refine RD_alloc rfl rfl ?_; intro b9; refine ⟨okF, ?_⟩)
    repeat (refine wXh ?_)
    generalize hgp : gt [p0, p1, p2] (i : Int) = p at *
    by_cases hz : f.v.z0
    · (refine RD_callS rfl (hS1 p _ _ hz hvY hvY (hpi _ memF)) rfl rfl ?_; rintro _ _ _ ⟨rfl, rfl, rfl⟩; refine ⟨okF, ?_⟩)
      repeat (refine wXh ?_)
      (refine RD_alloc rfl rfl ?_; intro b10; refine ⟨okF, ?_⟩)
      repeat (refine wXh ?_)
      refine ND_ret1 (by first | exact .inl rfl | exact .inr rfl) rfl rfl M0 I0 subF (.of (fun φ hp => by repeat (first | exact f9.mem φ hp | refine List.mem_cons_of_mem _ ?_))) ⟨rfl, rfl, rfl⟩
    · by_cases hh : ahd c.v f.v p.v = 0
      · (refine RD_callS rfl (hS2 p _ _ hz hh hvY hvY (hpi _ memF)) rfl rfl ?_; rintro _ _ _ ⟨rfl, rfl, rfl⟩; refine ⟨okF, ?_⟩)
        repeat (refine wXh ?_)
        (refine RD_alloc rfl rfl ?_; intro b10; refine ⟨okF, ?_⟩)
        repeat (refine wXh ?_)
        refine ND_ret1 (by first | exact .inl rfl | exact .inr rfl) rfl rfl M0 I0 subF (.of (fun φ hp => by repeat (first | exact f9.mem φ hp | refine List.mem_cons_of_mem _ ?_))) ⟨rfl, rfl, rfl⟩
      · have hS := fun M0 I0 => hS3 p M0 I0 hz hh
        by_cases hp : 0 < ahd c.v f.v p.v
        · rw [B_true hp] at hS
          (refine RD_callS rfl (hS _ _ hvY hvY (hpi _ memF)) rfl rfl ?_; rintro _ _ _ ⟨rfl, e, rfl, he, rfl⟩; refine ⟨okF, ?_⟩)
          repeat (refine wXh ?_)
          (refine RD_alloc rfl rfl ?_; intro b10; refine ⟨okF, ?_⟩)
          repeat (refine wXh ?_)
          have hle : es.length < 3 := by omega
          have hli : (i : Int) = (es.length : Int) := by omega
          refine RD_stN rfl rfl lenC oneC repF (StAts.appR (n := 0 + 24) rfl (StAts.r (enc := eW) e.raw (by simp; omega) rfl)) rfl rfl ⟨okF, ?_⟩
          rw [hli, st_slope hle, ← hli]
          refine RD_hv (φ := allR (es ++ [e]) 2886) (Hv.allSnoc (Hv.mem memF) hvY) ?_
          repeat (refine wXh ?_)
          refine ND_again (3 - (i + 1)) _ _ _ (by first | omega | (simp only [List.length_append, List.length_cons, List.length_nil]; omega)) subG subF incF (⟨i + 1, es ++ [e], by simp; omega, by omega, rfl, fun j hj => ?_, rfl, rfl, rfl⟩)
          by_cases ej : j = i
          · subst ej
            rw [hgp]
            refine ⟨hz, hp, ?_⟩
            have : gt (es ++ [e]) (j : Int) = e := by rw [← hes, gt_nat]; simp
            rw [this]; exact he
          · have hj2 : j < i := by omega
            have : gt (es ++ [e]) (j : Int) = gt es (j : Int) := by
              rw [gt_nat, gt_nat]
              simp only [List.getD_eq_getElem?_getD]
              rw [List.getElem?_append_left (by omega)]
            rw [this]; exact hall j hj2
        · rw [B_false hp] at hS
          (refine RD_callS rfl (hS _ _ hvY hvY (hpi _ memF)) rfl rfl ?_; rintro _ _ _ ⟨rfl, e, rfl, he, rfl⟩; refine ⟨okF, ?_⟩)
          repeat (refine wXh ?_)
          (refine RD_alloc rfl rfl ?_; intro b10; refine ⟨okF, ?_⟩)
          repeat (refine wXh ?_)
          refine ND_ret1 (by first | exact .inl rfl | exact .inr rfl) rfl rfl M0 I0 subF (.of (fun φ hp => by repeat (first | exact f9.mem φ hp | refine List.mem_cons_of_mem _ ?_))) ⟨rfl, rfl, rfl⟩
  · have hi3 : i = 3 := by omega
    subst hi3
    obtain ⟨t0, t1, t2, rfl⟩ : ∃ a b c, es = [a, b, c] := by
      match es, hes with
      | [a, b, c], _ => exact ⟨a, b, c, rfl⟩
    obtain ⟨hz, a0, e0⟩ := hall 0 (by omega)
    obtain ⟨_, a1, e1⟩ := hall 1 (by omega)
    obtain ⟨_, a2, e2⟩ := hall 2 (by omega)
    have a0 : 0 < ahd c.v f.v p0.v := a0
    have a1 : 0 < ahd c.v f.v p1.v := a1
    have a2 : 0 < ahd c.v f.v p2.v := a2
    have e0 : t0.q = slp c.v f.v p0.v := e0
    have e1 : t1.q = slp c.v f.v p1.v := e1
    have e2 : t2.q = slp c.v f.v p2.v := e2
    have ht : ∀ x, x ∈ [t0, t1, t2] → ∀ I, allR [t0, t1, t2] 2886 ∈ I → Hv I (isR x 2886) := fun x hx I h => ⟨fun X w hw => ((hw _ h : AllR _ _ X w)).go x hx⟩
    have hq : ∀ x, x ∈ [p0, p1, p2] → ∀ I, allP [p0, p1, p2] 240 ∈ I → Hv I (isP x 240) := fun x hx I h => (Hv.mem h).pAt hx
    clear hall hS1 hS2 hS3 hSa hSb hes
    by_cases hd : plD p0.v p1.v p2.v t0.q t1.q t2.q = 0
    · have hPd := fun M0 I0 b0 b1 b2 d0 d1 d2 => Plane_deg (X := X) (w0 := w0) (M0 := M0) (I0 := I0) (p0 := p0) (p1 := p1) (p2 := p2) (s0 := t0) (s1 := t1) (s2 := t2) (k := 240) (s := 2886) (K := 415736) (by decide) (by decide) b0 b1 b2 d0 d1 d2 hd
      have hPo := fun M0 I0 b0 b1 b2 d0 d1 d2 => gPosition_deg (X := X) (w0 := w0) (M0 := M0) (I0 := I0) (p0 := p0) (p1 := p1) (p2 := p2) (s0 := t0) (s1 := t1) (s2 := t2) (k := 240) (s := 2886) (by decide) b0 b1 b2 d0 d1 d2 hd
      repeat (refine wXh ?_)
      (apply RD_ldZB; exact vwF; exact rfl; exact memF; exact AtsZ.app (AtsZ.all rfl); exact rfl; exact rfl)
      repeat (refine wXh ?_)
      (apply RD_ldZB; exact vwF; exact rfl; exact memF; exact AtsZ.appR (n := 0 + 24) rfl rfl; exact rfl; exact rfl)
      (refine RD_callS rfl (hPd _ _ (hq p0 (by simp) _ memF) (hq p1 (by simp) _ memF) (hq p2 (by simp) _ memF) (ht t0 (by simp) _ memF) (ht t1 (by simp) _ memF) (ht t2 (by simp) _ memF)) rfl rfl ?_; rintro _ _ _ ⟨rfl, rfl, rfl⟩; refine ⟨okF, ?_⟩)
      repeat (refine wXh ?_)
      (refine RD_alloc rfl rfl ?_; intro b13; refine ⟨okF, ?_⟩)
      (refine RD_alloc rfl rfl ?_; intro b14; refine ⟨okF, ?_⟩)
      repeat (refine wXh ?_)
      (apply RD_ldZB; exact vwF; exact rfl; exact memF; exact AtsZ.app (AtsZ.all rfl); exact rfl; exact rfl)
      repeat (refine wXh ?_)
      (apply RD_ldZB; exact vwF; exact rfl; exact memF; exact AtsZ.appR (n := 0 + 24) rfl rfl; exact rfl; exact rfl)
      (refine RD_callS rfl (hPo _ _ (hq p0 (by simp) _ memF) (hq p1 (by simp) _ memF) (hq p2 (by simp) _ memF) (ht t0 (by simp) _ memF) (ht t1 (by simp) _ memF) (ht t2 (by simp) _ memF)) rfl rfl ?_; rintro _ _ _ ⟨rfl, rfl, cs, rfl, hcl, hco⟩; refine ⟨okF, ?_⟩)
      repeat (refine wXh ?_)
      (refine RD_alloc rfl rfl ?_; intro b16; refine ⟨okF, ?_⟩)
      (refine RD_alloc rfl rfl ?_; intro b17; refine ⟨okF, ?_⟩)
      refine RD_stN (cs := zPc) rfl rfl hcl hco repF (StAts.all hcl) rfl rfl ⟨okF, ?_⟩
      repeat (refine wXh ?_)
      refine ND_ret1 (by first | exact .inl rfl | exact .inr rfl) rfl rfl M0 I0 subF (.of (fun φ hp => by repeat (first | exact f9.mem φ hp | refine List.mem_cons_of_mem _ ?_))) ⟨rfl, rfl, rfl⟩
    · rw [e0, e1, e2] at hd
      obtain ⟨⟨z1, z2, z3⟩, eA, z4, z5, z6, z7⟩ := finds_all hz a0 a1 a2 hd
      have hPk := fun M0 I0 b0 b1 b2 d0 d1 d2 => Plane_ok (X := X) (w0 := w0) (M0 := M0) (I0 := I0) (p0 := p0) (p1 := p1) (p2 := p2) (s0 := t0) (s1 := t1) (s2 := t2) (k := 240) (s := 2886) (K := 415736) (by decide) (by decide) b0 b1 b2 d0 d1 d2 (by rw [e0, e1, e2]; exact hd) (by rw [e0, e1, e2]; exact z1) (by rw [e0, e1, e2]; exact z2) (by rw [e0, e1, e2]; exact z3) (by rw [e0, e1, e2]; exact z4) (fun p hp => by
        rw [e0, e1, e2, eA]
        simp only [List.mem_cons, List.not_mem_nil, or_false] at hp
        rcases hp with rfl | rfl | rfl
        · exact z7 _ a0
        · exact z7 _ a1
        · exact z7 _ a2)
      rw [e0, e1, e2, eA] at hPk
      repeat (refine wXh ?_)
      (apply RD_ldZB; exact vwF; exact rfl; exact memF; exact AtsZ.app (AtsZ.all rfl); exact rfl; exact rfl)
      repeat (refine wXh ?_)
      (apply RD_ldZB; exact vwF; exact rfl; exact memF; exact AtsZ.appR (n := 0 + 24) rfl rfl; exact rfl; exact rfl)
      (refine RD_callS rfl (hPk _ _ (hq p0 (by simp) _ memF) (hq p1 (by simp) _ memF) (hq p2 (by simp) _ memF) (ht t0 (by simp) _ memF) (ht t1 (by simp) _ memF) (ht t2 (by simp) _ memF)) rfl rfl ?_; rintro _ _ _ ⟨rfl, a, g, rfl, ha, hg, rfl⟩; refine ⟨okF, ?_⟩)
      repeat (refine wXh ?_)
      (refine RD_alloc rfl rfl ?_; intro b13; refine ⟨okF, ?_⟩)
      (refine RD_alloc rfl rfl ?_; intro b14; refine ⟨okF, ?_⟩)
      repeat (refine wXh ?_)
      refine RD_fact (φ := a.raw.small ∧ g.raw.small) (fun w hw => ⟨Mem.pureP (k := 415977) hvY (by decide) hw, Mem.pureP (k := 834359) hvY (by decide) hw⟩) (fun hsm => ?_)
      have hVc := fun q M0 I0 h1 => gValid_ok (X := X) (w0 := w0) (M0 := M0) (I0 := I0) (q := q) (c := 2) (m := 2) (ps := [a.raw, g.raw]) rfl (by simp) (all2 hsm.1 hsm.2) h1
      rw [B_true (show ∀ x ∈ [a.raw, g.raw], x.good from all2 a.raw_good g.raw_good)] at hVc
      have hSm := fun M0 I0 => gSame_ok (X := X) (w0 := w0) (M0 := M0) (I0 := I0) (a := a) (b := c) (k := 415977) (m := 240) (by decide)
      rw [B_true ha] at hSm
      have hCr := fun M0 I0 => gCross_ok (X := X) (w0 := w0) (M0 := M0) (I0 := I0) (a := g) (b := f) (k := 834359) (m := 240) (by decide)
      have hDt := fun M0 I0 => gDot_ok (X := X) (w0 := w0) (M0 := M0) (I0 := I0) (a := g) (b := f) (k := 834359) (m := 240) (by decide)
      have hZe := fun (x : RE) M0 I0 => gZero_ok (X := X) (w0 := w0) (M0 := M0) (I0 := I0) (a := x) (k := 834359 + 240 + (834359 + 240) + 1) (by decide)
      have hSg := fun (x : RE) M0 I0 => rQSign_ok (X := X) (w0 := w0) (M0 := M0) (I0 := I0) (e := x) (k := 834359 + 240 + (834359 + 240) + 1) (by decide)
      (refine RD_vals (cs := recs ePW [a.raw, g.raw]) ([pv a, pv g]) rfl rfl (by intro v hv; repeat (first | exact absurd hv (List.not_mem_nil) | (rcases List.mem_cons.1 hv with rfl | hv; · rfl))) (by omega) rfl rfl rfl ?_; intro bu; refine ⟨okF, ?_⟩)
      refine RD_freezeB (b := bu) remF ?_
      refine RD_hv (φ := allPW [a.raw, g.raw]) (Hv.pw2 (Hv.toPW (k := 415977) hvY (by decide)) (Hv.toPW (k := 834359) hvY (by decide))) ?_
      (refine RD_callS rfl (hVc _ _ _ (List.Mem.tail _ (List.Mem.head _)) hvY) rfl rfl ?_; rintro _ _ _ ⟨rfl, rfl, rfl⟩; refine ⟨okF, ?_⟩)
      repeat (refine wXh ?_)
      (refine RD_callS rfl (hSm _ _ hvY hvY) rfl rfl ?_; rintro _ _ _ ⟨rfl, rfl, rfl⟩; refine ⟨okF, ?_⟩)
      repeat (refine wXh ?_)
      (refine RD_callS rfl (hCr _ _ hvY hvY) rfl rfl ?_; rintro _ _ _ ⟨rfl, x1, rfl, hx1, rfl⟩; refine ⟨okF, ?_⟩)
      have hZ2 := fun M0 I0 => hZe x1 M0 I0
      rw [B_true (show x1.q = 0 by rw [hx1, hg]; exact z5)] at hZ2
      (refine RD_callS rfl (hZ2 _ _ hvY) rfl rfl ?_; rintro _ _ _ ⟨rfl, rfl, rfl⟩; refine ⟨okF, ?_⟩)
      repeat (refine wXh ?_)
      (refine RD_callS rfl (hDt _ _ hvY hvY) rfl rfl ?_; rintro _ _ _ ⟨rfl, x2, rfl, hx2, rfl⟩; refine ⟨okF, ?_⟩)
      have hsg : 0 < x2.q.num.sign := by rw [sgnP, hx2, hg]; exact z6
      have hS2 := fun M0 I0 => hSg x2 M0 I0
      generalize x2.q.num.sign = sy at *
      (refine RD_callS rfl (hS2 _ _ hvY) rfl rfl ?_; rintro _ _ _ ⟨rfl, rfl, rfl⟩; refine ⟨okF, ?_⟩)
      repeat (refine wXh ?_)
      refine ND_ret1 (by first | exact .inl rfl | exact .inr rfl) rfl rfl M0 I0 subF (.of (fun φ hp => by repeat (first | exact f9.mem φ hp | refine List.mem_cons_of_mem _ ?_))) ⟨rfl, rfl, congrArg Value.bool (B_true (by omega))⟩
end
end Go.Proofs.YtdmlebigkakplaaGreat
