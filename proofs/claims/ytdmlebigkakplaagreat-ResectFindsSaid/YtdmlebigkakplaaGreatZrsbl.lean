/- Arguments opened: integers, fractions in groups of digits, as they come in. The law's arithmetic with numbers and vectors (chapter 30). -/
import Derived.Test.YtdmlebigkakplaaGreatZrsbe
import Derived.Test.YtdmlebigkakplaaGreatZrsbk
import Derived.Test.YtdmlebigkakplaaGreatZrsbg
set_option linter.unusedSimpArgs false
set_option linter.unusedVariables false
namespace Go.Proofs.YtdmlebigkakplaaGreat
open Go Go.Fx
open Go.ChangeShapes Go.WideShapes Go.RowKit Go.ChangeAt
/-- no slice is longer than an address space -/
def RW.reach (r : RW) : Prop := r.g1.length ≤ 35184372088832 ∧ r.g2.length ≤ 35184372088832
section
variable {H : Type} {enc : TypeId × Value → H} {P : Program} {W : World}
theorem trod_len {t e : TypeId} {n : Nat} {a : Option Addr} {len c : Nat} {y : DataW H × List MemPlace} (ht : P.underlying t = some (.slice e)) (hB : P.bytesOf e = 4) (h : DataW.trod enc P W 0 (fun _ => true) true n t [.slice a len c] = some y) (hw : ∀ x ∈ y.1.weights P t, x ≤ reachBytes) : len ≤ 35184372088832 := by
  rcases DataW.trod_slice ht h with ⟨hcs, _⟩ | ⟨a', len', cap', elems, rest, n, _, hcs, rfl, _, _, _, hlen, _, _, _⟩
  · simp at hcs
    omega
  · simp at hcs
    obtain ⟨rfl, rfl, rfl⟩ := hcs
    have := hw ((elems.length + rest.length) * 4) (by simp [DataW.weights, ht, hB])
    have hr : reachBytes = 140737488351232 := rfl
    omega
theorem dec_I {base : Nat} {t tb ts te : TypeId} {fs : Array Field} {n : Nat} {cs : List Value} {y : DataW H × List MemPlace} (ht : P.underlying t = some (.struct fs)) (hf : fs.toList.map (fun f => (f.offset, f.type)) = [(0, tb), (1, ts)]) (hb : P.underlying tb = some .bool) (hs : P.underlying ts = some (.slice te)) (he : P.underlying te = some (.int .u32))
    (c1 : P.cellsOf tb = 1) (c2 : P.cellsOf ts = 1) (c3 : P.cellsOf te = 1) (c4 : P.cellsOf t = 2) (hB : P.bytesOf te = 4) (hv : ∀ v, cs[1]? = some v → Cell.okWide P W .any base ts v) (h : DataW.trod enc P W 0 (fun _ => true) true n t cs = some y) (hw : ∀ x ∈ y.1.weights P t, x ≤ reachBytes) :
    ∃ (nb : Bool) (a : Option Addr) (g : List Int) (c : Nat), cs = [.bool nb, .slice a g.length c] ∧ (∀ x ∈ g, 0 ≤ x) ∧ Sl [] W a (recs eG g) ∧ Cap a g.length c ∧ (g.length : Int) ≤ 9223372036854775807 ∧ g.length ≤ 35184372088832 := by
  obtain ⟨zs, n', rfl, rfl, hl, hzl, hz⟩ := DataW.trod_struct ht h
  have hsz : fs.toList.length = 2 := by have := congrArg List.length hf; simpa using this
  obtain ⟨f0, f1, hfs⟩ : ∃ f0 f1, fs.toList = [f0, f1] := by
    match hh : fs.toList, hsz with
    | [a, b], _ => exact ⟨a, b, rfl⟩
  rw [hfs] at hf
  simp only [List.map_cons, List.map_nil, List.cons.injEq, Prod.mk.injEq, and_true] at hf
  obtain ⟨⟨o0, t0⟩, o1, t1⟩ := hf
  rw [c4] at hl
  obtain ⟨u0, u1, rfl⟩ : ∃ u0 u1, cs = [u0, u1] := by
    match cs, hl with
    | [a, b], _ => exact ⟨a, b, rfl⟩
  have hg0 : fs[0]? = some f0 := by rw [← Array.getElem?_toList, hfs]; rfl
  have hg1 : fs[1]? = some f1 := by rw [← Array.getElem?_toList, hfs]; rfl
  have h0 := hz 0 f0 hg0
  have h1 := hz 1 f1 hg1
  rw [o0, t0, c1] at h0
  rw [o1, t1, c2] at h1
  have hz2 : zs.length = 2 := by rw [hzl]; simpa using hsz
  obtain ⟨z0, z1, rfl⟩ : ∃ z0 z1, zs = [z0, z1] := by
    match zs, hz2 with
    | [a, b], _ => exact ⟨a, b, rfl⟩
  simp at h0 h1
  obtain ⟨nb, hnb, _⟩ := DataW.trod_bool hb h0
  simp at hnb
  subst hnb
  have hc : Value.okWide P W .any base ts u1 := by
    have := hv u1 rfl
    simpa [Value.okWide, hs] using this
  have h1c : DataW.trod enc P W 0 (fun _ => true) true n' ts u1.cells.toList = some z1 := by
    obtain ⟨a, len, c, rfl⟩ := okWide_slice hs hc
    simpa [Value.cells] using h1
  obtain ⟨a, g, c, rfl, hi, hwf, hn, hcl, hok⟩ := open_sliceI hs he c3 hc (d := z1.1) (p := z1.2) ⟨n', h1c⟩
  refine ⟨nb, a, g, c, rfl, fun x hx => ?_, ?_, ⟨hcl, hok⟩, hn, ?_⟩
  · have := hwf x hx
    simp [Lit.wf] at this
    have h32 : IntKind.u32.min = 0 := by decide
    rw [h32] at this
    exact this.1
  · rw [recs_ints]; exact hi
  · refine trod_len hs hB h1 (fun x hx => hw x ?_)
    simp [DataW.weights, ht, hfs, DataW.weightsEach, t0, t1, hx]
/-- a fraction's four cells -/
theorem dec_R {base : Nat} {tr t tb ts te : TypeId} {fr fs : Array Field} {n : Nat} {cs : List Value} {y : DataW H × List MemPlace} (hr : P.underlying tr = some (.struct fr)) (hfr : fr.toList.map (fun f => (f.offset, f.type)) = [(0, t), (2, t)]) (ht : P.underlying t = some (.struct fs)) (hf : fs.toList.map (fun f => (f.offset, f.type)) = [(0, tb), (1, ts)]) (hb : P.underlying tb = some .bool) (hs : P.underlying ts = some (.slice te)) (he : P.underlying te = some (.int .u32))
    (c1 : P.cellsOf tb = 1) (c2 : P.cellsOf ts = 1) (c3 : P.cellsOf te = 1) (c4 : P.cellsOf t = 2) (c5 : P.cellsOf tr = 4) (hB : P.bytesOf te = 4) (hv : ∀ j v, cs[j]? = some v → j % 2 = 1 → Cell.okWide P W .any base ts v) (h : DataW.trod enc P W 0 (fun _ => true) true n tr cs = some y) (hw : ∀ x ∈ y.1.weights P tr, x ≤ reachBytes) :
    ∃ r : RW, cs = eW r ∧ IsW r [] W ∧ r.reach := by
  obtain ⟨zs, n', rfl, rfl, hl, hzl, hz⟩ := DataW.trod_struct hr h
  have hsz : fr.toList.length = 2 := by have := congrArg List.length hfr; simpa using this
  obtain ⟨f0, f1, hfs⟩ : ∃ f0 f1, fr.toList = [f0, f1] := by
    match hh : fr.toList, hsz with
    | [a, b], _ => exact ⟨a, b, rfl⟩
  rw [hfs] at hfr
  simp only [List.map_cons, List.map_nil, List.cons.injEq, Prod.mk.injEq, and_true] at hfr
  obtain ⟨⟨o0, t0⟩, o1, t1⟩ := hfr
  rw [c5] at hl
  have hg0 : fr[0]? = some f0 := by rw [← Array.getElem?_toList, hfs]; rfl
  have hg1 : fr[1]? = some f1 := by rw [← Array.getElem?_toList, hfs]; rfl
  have h0 := hz 0 f0 hg0
  have h1 := hz 1 f1 hg1
  rw [o0, t0, c4] at h0
  rw [o1, t1, c4] at h1
  have hz2 : zs.length = 2 := by rw [hzl]; simpa using hsz
  obtain ⟨z0, z1, rfl⟩ : ∃ z0 z1, zs = [z0, z1] := by
    match zs, hz2 with
    | [a, b], _ => exact ⟨a, b, rfl⟩
  simp only [List.drop_zero, List.getElem?_cons_zero, List.getElem?_cons_succ] at h0 h1
  have hww : ∀ x ∈ DataW.weights P t z0.1 ++ DataW.weights P t z1.1, x ≤ reachBytes := fun x hx => hw x (by simp [DataW.weights, hr, hfs, DataW.weightsEach, t0, t1]; simpa using hx)
  obtain ⟨n1, p1, g1, k1, e1, a1, a2, a3, a4, a5⟩ := dec_I (base := base) ht hf hb hs he c1 c2 c3 c4 hB (fun v hv1 => hv 1 v (by rw [List.getElem?_take] at hv1; simpa using hv1) rfl) h0 (fun x hx => hww x (List.mem_append.2 (.inl hx)))
  obtain ⟨n2, p2, g2, k2, e2, b1, b2, b3, b4, b5⟩ := dec_I (base := base) ht hf hb hs he c1 c2 c3 c4 hB (fun v hv1 => hv 3 v (by rw [List.getElem?_take, List.getElem?_drop] at hv1; simpa using hv1) rfl) h1 (fun x hx => hww x (List.mem_append.2 (.inr hx)))
  refine ⟨⟨n1, p1, g1, k1, n2, p2, g2, k2⟩, ?_, ⟨⟨a1, b1, a4, b4, a3, b3⟩, a2, b2⟩, a5, b5⟩
  have : cs = cs.take 2 ++ (cs.drop 2).take 2 := by
    rw [List.take_of_length_le (l := cs.drop 2) (by simp; omega), List.take_append_drop]
  rw [this, e1, e2]
  rfl
/-- every second cell is a slice's -/
theorem row_odd {base : Nat} {t ts : TypeId} {L : List TypeId} {cs : Array Value} (hL : P.cellTypes P.depth t = some L) (hs : cs.size = L.length) (ho : (L.zipIdx.all fun u => u.2 % 2 == 0 || u.1 == ts) = true) (h : Row.okWide P W .any base t cs) : ∀ j v, cs.toList[j]? = some v → j % 2 = 1 → Cell.okWide P W .any base ts v := by
  obtain ⟨ts', hts, _, hall⟩ := h
  rw [hL] at hts
  injection hts with e
  subst e
  intro j v hj hodd
  have hj2 : cs[j]? = some v := by simpa using hj
  obtain ⟨u, hu, hc⟩ := hall j v hj2
  have hlt : j < L.length := by rw [← hs]; exact (Array.getElem?_eq_some_iff.1 hj2).1
  rw [Nat.mod_eq_of_lt hlt] at hu
  have := List.all_eq_true.1 ho (u, j) (by rw [List.mem_iff_getElem?]; exact ⟨j, by simp [hu]⟩)
  simp at this
  rcases this with h | h
  · omega
  · rw [← h]; exact hc
end
end Go.Proofs.YtdmlebigkakplaaGreat
namespace Go.Proofs.YtdmlebigkakplaaGreat
open Go Go.Fx
section
variable {X : List Nat} {w0 : World} {M0 : List Ent} {I0 : List Imm}
set_option maxRecDepth 100000 in
theorem gRat_ok {x : Int} (hx : -9223372036854775808 ≤ x ∧ x ≤ 9223372036854775807) {k : Nat} (hk : x.natAbs ≤ 2 ^ k) :
    CD Tryz.prog 23 [.int .i64 x] X w0 M0 I0 (RQ (x : Rat) k M0 I0) := by
  refine enterD1 Tryz.func23 rfl Tryz.ntmps23 rfl ?_
  refine TD_seq ?_
  refine TD_region ?_
  (refine RD_alloc rfl rfl ?_; intro b2; refine ⟨okF, ?_⟩)
  repeat (refine wXh ?_)
  (refine RD_callS rfl (rQWhole_ok hx hk) rfl rfl ?_; rintro _ _ _ ⟨rfl, e, rfl, he, rfl⟩; refine ⟨okF, ?_⟩)
  repeat (refine wXh ?_)
  refine ND_retC (cs := eR e) (.inl rfl) rfl rfl memF rfl M0 (isR e k :: I0) subF incF ⟨rfl, e, rfl, he, rfl⟩
set_option maxRecDepth 100000 in
theorem gAdd_ok {a b : RE} {k m : Nat} (hk : k + m + 1 ≤ 100000000) (ha : Hv I0 (isR a k)) (hb : Hv I0 (isR b m)) :
    CD Tryz.prog 120 [rv a, rv b] X w0 M0 I0 (RQ (a.q + b.q) (k + m + 1) M0 I0) := by
  refine enterD2 Tryz.func120 rfl Tryz.ntmps120 rfl ?_
  refine TD_seq ?_
  refine TD_region ?_
  (refine RD_boxA rfl rfl rfl ?_; intro b1; refine ⟨okF, ?_⟩)
  (refine RD_boxA rfl rfl rfl ?_; intro b2; refine ⟨okF, ?_⟩)
  (refine RD_alloc rfl rfl ?_; intro b3; refine ⟨okF, ?_⟩)
  repeat (refine wXh ?_)
  (refine RD_callS rfl (rQAdd_ok (k := k) (m := m) hk ha hb) rfl rfl ?_; rintro _ _ _ ⟨rfl, e, rfl, he, rfl⟩; refine ⟨okF, ?_⟩)
  repeat (refine wXh ?_)
  refine ND_retC (cs := eR e) (.inl rfl) rfl rfl memF rfl M0 (isR e (k + m + 1) :: I0) subF incF ⟨rfl, e, rfl, he, rfl⟩
set_option maxRecDepth 100000 in
theorem gSub_ok {a b : RE} {k m : Nat} (hk : k + m + 1 ≤ 100000000) (ha : Hv I0 (isR a k)) (hb : Hv I0 (isR b m)) :
    CD Tryz.prog 121 [rv a, rv b] X w0 M0 I0 (RQ (a.q - b.q) (k + m + 1) M0 I0) := by
  refine enterD2 Tryz.func121 rfl Tryz.ntmps121 rfl ?_
  refine TD_seq ?_
  refine TD_region ?_
  (refine RD_boxA rfl rfl rfl ?_; intro b1; refine ⟨okF, ?_⟩)
  (refine RD_boxA rfl rfl rfl ?_; intro b2; refine ⟨okF, ?_⟩)
  (refine RD_alloc rfl rfl ?_; intro b3; refine ⟨okF, ?_⟩)
  repeat (refine wXh ?_)
  (refine RD_callS rfl (rQSub_ok (k := k) (m := m) hk ha hb) rfl rfl ?_; rintro _ _ _ ⟨rfl, e, rfl, he, rfl⟩; refine ⟨okF, ?_⟩)
  repeat (refine wXh ?_)
  refine ND_retC (cs := eR e) (.inl rfl) rfl rfl memF rfl M0 (isR e (k + m + 1) :: I0) subF incF ⟨rfl, e, rfl, he, rfl⟩
set_option maxRecDepth 100000 in
theorem gMul_ok {a b : RE} {k m : Nat} (hk : k + m ≤ 100000000) (ha : Hv I0 (isR a k)) (hb : Hv I0 (isR b m)) :
    CD Tryz.prog 22 [rv a, rv b] X w0 M0 I0 (RQ (a.q * b.q) (k + m) M0 I0) := by
  refine enterD2 Tryz.func22 rfl Tryz.ntmps22 rfl ?_
  refine TD_seq ?_
  refine TD_region ?_
  (refine RD_boxA rfl rfl rfl ?_; intro b1; refine ⟨okF, ?_⟩)
  (refine RD_boxA rfl rfl rfl ?_; intro b2; refine ⟨okF, ?_⟩)
  (refine RD_alloc rfl rfl ?_; intro b3; refine ⟨okF, ?_⟩)
  repeat (refine wXh ?_)
  (refine RD_callS rfl (rQMul_ok (k := k) (m := m) hk ha hb) rfl rfl ?_; rintro _ _ _ ⟨rfl, e, rfl, he, rfl⟩; refine ⟨okF, ?_⟩)
  repeat (refine wXh ?_)
  refine ND_retC (cs := eR e) (.inl rfl) rfl rfl memF rfl M0 (isR e (k + m) :: I0) subF incF ⟨rfl, e, rfl, he, rfl⟩
set_option maxRecDepth 100000 in
theorem gDiv_ok {a b : RE} {k m : Nat} (hk : k + m ≤ 100000000) (hb0 : b.q ≠ 0) (ha : Hv I0 (isR a k)) (hb : Hv I0 (isR b m)) :
    CD Tryz.prog 110 [rv a, rv b] X w0 M0 I0 (RQ (a.q / b.q) (k + m) M0 I0) := by
  refine enterD2 Tryz.func110 rfl Tryz.ntmps110 rfl ?_
  refine TD_seq ?_
  refine TD_region ?_
  (refine RD_boxA rfl rfl rfl ?_; intro b1; refine ⟨okF, ?_⟩)
  (refine RD_boxA rfl rfl rfl ?_; intro b2; refine ⟨okF, ?_⟩)
  (refine RD_alloc rfl rfl ?_; intro b3; refine ⟨okF, ?_⟩)
  repeat (refine wXh ?_)
  (refine RD_callS rfl (rQDivide_ok hk hb0 ha hb) rfl rfl ?_; rintro _ _ _ ⟨rfl, e, rfl, he, rfl⟩; refine ⟨okF, ?_⟩)
  repeat (refine wXh ?_)
  (refine RD_alloc rfl rfl ?_; intro b5; refine ⟨okF, ?_⟩)
  repeat (refine wXh ?_)
  refine ND_retC (cs := eR e) (.inl rfl) rfl rfl memF rfl M0 (isR e (k + m) :: I0) subF incF ⟨rfl, e, rfl, he, rfl⟩
set_option maxRecDepth 100000 in
theorem gZero_ok {a : RE} {k : Nat} (hk : k ≤ 100000000) (ha : Hv I0 (isR a k)) :
    CD Tryz.prog 27 [rv a] X w0 M0 I0 (fun v M I => M0 = M ∧ I0 = I ∧ v = .bool (B (a.q = 0))) := by
  refine enterD1 Tryz.func27 rfl Tryz.ntmps27 rfl ?_
  refine TD_seq ?_
  refine TD_region ?_
  (refine RD_boxA rfl rfl rfl ?_; intro b1; refine ⟨okF, ?_⟩)
  repeat (refine wXh ?_)
  (refine RD_callS rfl (rQSign_ok hk ha) rfl rfl ?_; rintro _ _ _ ⟨rfl, rfl, rfl⟩; refine ⟨okF, ?_⟩)
  repeat (refine wXh ?_)
  refine ND_ret1 (by first | exact .inl rfl | exact .inr rfl) rfl rfl _ _ subF incF (⟨rfl, rfl, congrArg Value.bool (B_congr sgn0)⟩)
set_option maxRecDepth 100000 in
theorem gPlace_ok {x y : Int} (hx : -9223372036854775808 ≤ x ∧ x ≤ 9223372036854775807) (hy : -9223372036854775808 ≤ y ∧ y ≤ 9223372036854775807) {k : Nat} (hk : x.natAbs ≤ 2 ^ k) (hm : y.natAbs ≤ 2 ^ k) :
    CD Tryz.prog 99 [.int .i64 x, .int .i64 y] X w0 M0 I0 (PQ ⟨(x : Rat), (y : Rat)⟩ k M0 I0) := by
  refine enterD2 Tryz.func99 rfl Tryz.ntmps99 rfl ?_
  refine TD_seq ?_
  refine TD_region ?_
  (refine RD_alloc rfl rfl ?_; intro b3; refine ⟨okF, ?_⟩)
  repeat (refine wXh ?_)
  (refine RD_callS rfl (gRat_ok hx hk) rfl rfl ?_; rintro _ _ _ ⟨rfl, e1, rfl, he1, rfl⟩; refine ⟨okF, ?_⟩)
  repeat (refine wXh ?_)
  (refine RD_callS rfl (gRat_ok hy hm) rfl rfl ?_; rintro _ _ _ ⟨rfl, e2, rfl, he2, rfl⟩; refine ⟨okF, ?_⟩)
  (refine RD_c rfl (fun _ => Const_structC (vals := [rv e1, rv e2]) (cells := eP ⟨e1, e2⟩) rfl ?hpl rfl ?hz) rfl rfl ?_; (case hpl => repeat (first | exact True.intro | refine ⟨rfl, ?_⟩)); (case hz => rfl))
  repeat (refine wXh ?_)
  refine ND_closeP (a := e1) (b := e2) (k := k) hvY hvY ?_
  refine ND_retC (cs := eP ⟨e1, e2⟩) (.inl rfl) rfl rfl memF rfl M0 (isP ⟨e1, e2⟩ k :: I0) subF incF ⟨rfl, ⟨e1, e2⟩, rfl, by simp only [PE.v, he1, he2], rfl⟩
set_option maxRecDepth 100000 in
set_option maxHeartbeats 1000000 in
theorem gMinus_ok {a b : PE} {k m : Nat} (hk : k + m + 1 ≤ 100000000) (ha : Hv I0 (isP a k)) (hb : Hv I0 (isP b m)) :
    CD Tryz.prog 108 [pv a, pv b] X w0 M0 I0 (PQ (a.v.sub b.v) (k + m + 1) M0 I0) := by
  have h1 := fun M0 I0 => gSub_ok (X := X) (w0 := w0) (M0 := M0) (I0 := I0) (a := a.x) (b := b.x) (k := k) (m := m) (by omega)
  have h2 := fun M0 I0 => gSub_ok (X := X) (w0 := w0) (M0 := M0) (I0 := I0) (a := a.y) (b := b.y) (k := k) (m := m) (by omega)
  refine enterD2 Tryz.func108 rfl Tryz.ntmps108 rfl ?_
  refine TD_seq ?_
  refine TD_region ?_
  (refine RD_boxA rfl rfl rfl ?_; intro b1; refine ⟨okF, ?_⟩)
  (refine RD_boxA rfl rfl rfl ?_; intro b2; refine ⟨okF, ?_⟩)
  (refine RD_alloc rfl rfl ?_; intro b3; refine ⟨okF, ?_⟩)
  repeat (refine wXh ?_)
  (repeat refine TD_seq ?_); refine TD_drawnW (.blk b2 (eP b) 28 :: .blk b1 (eP a) 28 :: M0) (I0) [0, 1, 2, 3, 5, 6, 7, 8, 4, 9, 10, 11] [2, 1, 2, 1, 2, 1, 2, 1, 0, 0, 0, 0] subF incF mixed (by kernel_rfl) ?_
  repeat (refine wXh ?_)
  (refine RD_callS rfl (h1 _ _ ha.pxH hb.pxH) rfl rfl ?_; rintro _ _ _ ⟨rfl, e1, rfl, he1, rfl⟩; refine ⟨okF, ?_⟩)
  repeat (refine wXh ?_)
  (refine RD_callS rfl (h2 _ _ ha.pyH.cons hb.pyH.cons) rfl rfl ?_; rintro _ _ _ ⟨rfl, e2, rfl, he2, rfl⟩; refine ⟨okF, ?_⟩)
  repeat (refine wXh ?_)
  (refine RD_c rfl (fun _ => Const_structC (vals := [rv e1, rv e2]) (cells := eP ⟨e1, e2⟩) rfl ?hpl rfl ?hz) rfl rfl ?_; (case hpl => repeat (first | exact True.intro | refine ⟨rfl, ?_⟩)); (case hz => rfl))
  repeat (refine wXh ?_)
  refine ND_closeP (a := e1) (b := e2) (k := k + m + 1) hvY hvY ?_
  refine ND_retC (cs := eP ⟨e1, e2⟩) (.inl rfl) rfl rfl memF rfl M0 (isP ⟨e1, e2⟩ (k + m + 1) :: I0) subF incF ⟨rfl, ⟨e1, e2⟩, rfl, by simp only [PE.v, V2.sub, he1, he2], rfl⟩
set_option maxRecDepth 100000 in
set_option maxHeartbeats 1000000 in
theorem gDot_ok {a b : PE} {k m : Nat} (hk : (k + m) + (k + m) + 1 ≤ 100000000) (ha : Hv I0 (isP a k)) (hb : Hv I0 (isP b m)) :
    CD Tryz.prog 30 [pv a, pv b] X w0 M0 I0 (RQ (a.v.dot b.v) ((k + m) + (k + m) + 1) M0 I0) := by
  have h1 := fun M0 I0 => gMul_ok (X := X) (w0 := w0) (M0 := M0) (I0 := I0) (a := a.x) (b := b.x) (k := k) (m := m) (by omega)
  have h2 := fun M0 I0 => gMul_ok (X := X) (w0 := w0) (M0 := M0) (I0 := I0) (a := a.y) (b := b.y) (k := k) (m := m) (by omega)
  have h3 := fun e1 e2 M0 I0 => gAdd_ok (X := X) (w0 := w0) (M0 := M0) (I0 := I0) (a := e1) (b := e2) (k := k + m) (m := k + m) hk
  refine enterD2 Tryz.func30 rfl Tryz.ntmps30 rfl ?_
  refine TD_seq ?_
  refine TD_region ?_
  (refine RD_boxA rfl rfl rfl ?_; intro b1; refine ⟨okF, ?_⟩)
  (refine RD_boxA rfl rfl rfl ?_; intro b2; refine ⟨okF, ?_⟩)
  (refine RD_alloc rfl rfl ?_; intro b3; refine ⟨okF, ?_⟩)
  repeat (refine wXh ?_)
  (repeat refine TD_seq ?_); refine TD_drawnW (.blk b2 (eP b) 28 :: .blk b1 (eP a) 28 :: M0) (I0) [0, 1, 2, 3, 5, 6, 7, 8, 4, 9, 10, 11] [3, 2, 3, 2, 3, 2, 3, 2, 0, 0, 0, 0] subF incF mixed (by kernel_rfl) ?_
  repeat (refine wXh ?_)
  (refine RD_callS rfl (h1 _ _ ha.pxH hb.pxH) rfl rfl ?_; rintro _ _ _ ⟨rfl, e1, rfl, he1, rfl⟩; refine ⟨okF, ?_⟩)
  repeat (refine wXh ?_)
  (refine RD_callS rfl (h2 _ _ ha.pyH.cons hb.pyH.cons) rfl rfl ?_; rintro _ _ _ ⟨rfl, e2, rfl, he2, rfl⟩; refine ⟨okF, ?_⟩)
  repeat (refine wXh ?_)
  (refine RD_callS rfl (h3 e1 e2 _ _ hvY hvY) rfl rfl ?_; rintro _ _ _ ⟨rfl, e3, rfl, he3, rfl⟩; refine ⟨okF, ?_⟩)
  repeat (refine wXh ?_)
  refine ND_retC (cs := eR e3) (.inl rfl) rfl rfl memF rfl M0 (isR e3 ((k + m) + (k + m) + 1) :: I0) subF incF ⟨rfl, e3, rfl, by simp only [PE.v, V2.dot, he1, he2, he3], rfl⟩
set_option maxRecDepth 100000 in
set_option maxHeartbeats 1000000 in
theorem gCross_ok {a b : PE} {k m : Nat} (hk : (k + m) + (k + m) + 1 ≤ 100000000) (ha : Hv I0 (isP a k)) (hb : Hv I0 (isP b m)) :
    CD Tryz.prog 28 [pv a, pv b] X w0 M0 I0 (RQ (a.v.crs b.v) ((k + m) + (k + m) + 1) M0 I0) := by
  have h1 := fun M0 I0 => gMul_ok (X := X) (w0 := w0) (M0 := M0) (I0 := I0) (a := a.x) (b := b.y) (k := k) (m := m) (by omega)
  have h2 := fun M0 I0 => gMul_ok (X := X) (w0 := w0) (M0 := M0) (I0 := I0) (a := a.y) (b := b.x) (k := k) (m := m) (by omega)
  have h3 := fun e1 e2 M0 I0 => gSub_ok (X := X) (w0 := w0) (M0 := M0) (I0 := I0) (a := e1) (b := e2) (k := k + m) (m := k + m) hk
  refine enterD2 Tryz.func28 rfl Tryz.ntmps28 rfl ?_
  refine TD_seq ?_
  refine TD_region ?_
  (refine RD_boxA rfl rfl rfl ?_; intro b1; refine ⟨okF, ?_⟩)
  (refine RD_boxA rfl rfl rfl ?_; intro b2; refine ⟨okF, ?_⟩)
  (refine RD_alloc rfl rfl ?_; intro b3; refine ⟨okF, ?_⟩)
  repeat (refine wXh ?_)
  (repeat refine TD_seq ?_); refine TD_drawnW (.blk b2 (eP b) 28 :: .blk b1 (eP a) 28 :: M0) (I0) [0, 1, 2, 3, 5, 6, 7, 8, 4, 9, 10, 11] [3, 2, 3, 2, 3, 2, 3, 2, 0, 0, 0, 0] subF incF mixed (by kernel_rfl) ?_
  repeat (refine wXh ?_)
  (refine RD_callS rfl (h1 _ _ ha.pxH hb.pyH) rfl rfl ?_; rintro _ _ _ ⟨rfl, e1, rfl, he1, rfl⟩; refine ⟨okF, ?_⟩)
  repeat (refine wXh ?_)
  (refine RD_callS rfl (h2 _ _ ha.pyH.cons hb.pxH.cons) rfl rfl ?_; rintro _ _ _ ⟨rfl, e2, rfl, he2, rfl⟩; refine ⟨okF, ?_⟩)
  repeat (refine wXh ?_)
  (refine RD_callS rfl (h3 e1 e2 _ _ hvY hvY) rfl rfl ?_; rintro _ _ _ ⟨rfl, e3, rfl, he3, rfl⟩; refine ⟨okF, ?_⟩)
  repeat (refine wXh ?_)
  refine ND_retC (cs := eR e3) (.inl rfl) rfl rfl memF rfl M0 (isR e3 ((k + m) + (k + m) + 1) :: I0) subF incF ⟨rfl, e3, rfl, by simp only [PE.v, V2.crs, he1, he2, he3], rfl⟩
set_option maxRecDepth 100000 in
set_option maxHeartbeats 1000000 in
theorem gSame_ok {a b : PE} {k m : Nat} (hk : k + m + 1 ≤ 100000000) (ha : Hv I0 (isP a k)) (hb : Hv I0 (isP b m)) :
    CD Tryz.prog 26 [pv a, pv b] X w0 M0 I0 (fun v M I => M0 = M ∧ I0 = I ∧ v = .bool (B (a.v = b.v))) := by
  have h1 := fun M0 I0 => rQCompare_ok (X := X) (w0 := w0) (M0 := M0) (I0 := I0) (a := a.x) (b := b.x) (k := k) (m := m) (by omega)
  have h2 := fun M0 I0 => rQCompare_ok (X := X) (w0 := w0) (M0 := M0) (I0 := I0) (a := a.y) (b := b.y) (k := k) (m := m) (by omega)
  have e3 : a.v = b.v ↔ (cmpR a.x.q b.x.q = 0 ∧ cmpR a.y.q b.y.q = 0) := by rw [cmpR_eq, cmpR_eq]; simp [PE.v]
  rw [B_congr e3]
  generalize cmpR a.x.q b.x.q = s1 at *
  generalize cmpR a.y.q b.y.q = s2 at *
  refine enterD2 Tryz.func26 rfl Tryz.ntmps26 rfl ?_
  refine TD_seq ?_
  refine TD_region ?_
  (refine RD_boxA rfl rfl rfl ?_; intro b1; refine ⟨okF, ?_⟩)
  (refine RD_boxA rfl rfl rfl ?_; intro b2; refine ⟨okF, ?_⟩)
  repeat (refine wXh ?_)
  (refine RD_callS rfl (h1 _ _ ha.pxH hb.pxH) rfl rfl ?_; rintro _ _ _ ⟨rfl, rfl, rfl⟩; refine ⟨okF, ?_⟩)
  repeat' (first | refine wXh ?_ | (refine TD_isCo ?_; first | refine TD_dec rfl (fun h => ?_) (fun h => ?_) | refine TD_cond rfl (fun h => ?_) (fun h => ?_)) | (refine RD_isGu ?_; first | refine RD_grd rfl rfl (fun h => ?_) (fun h => ?_) | (fail_if_success (refine RD_isW rfl ?_); refine RD_grdB rfl rfl (fun h => ?_) (fun h => ?_))))
  · (refine RD_callS rfl (h2 _ _ ha.pyH hb.pyH) rfl rfl ?_; rintro _ _ _ ⟨rfl, rfl, rfl⟩; refine ⟨okF, ?_⟩)
    repeat (refine wXh ?_)
    refine ND_ret1 (by first | exact .inl rfl | exact .inr rfl) rfl rfl _ _ subF incF (⟨rfl, rfl, congrArg Value.bool (B_congr ⟨fun h2 => ⟨by omega, h2⟩, fun h2 => h2.2⟩)⟩)
  · refine ND_ret1 (by first | exact .inl rfl | exact .inr rfl) rfl rfl _ _ subF incF (⟨rfl, rfl, congrArg Value.bool (B_false (fun h2 => by omega)).symm⟩)
set_option maxRecDepth 100000 in
theorem Zero_z : CD Tryz.prog 19 [zR] X w0 M0 I0 (fun v M I => M0 = M ∧ I0 = I ∧ v = .bool true) := by
  refine enterD1 Tryz.func19 rfl Tryz.ntmps19 rfl ?_
  refine TD_seq ?_
  refine TD_region ?_
  (refine RD_boxA rfl rfl rfl ?_; intro b1; refine ⟨okF, ?_⟩)
  repeat (refine wXh ?_)
  refine ND_ret1 (by first | exact .inl rfl | exact .inr rfl) rfl rfl _ _ subF incF (⟨rfl, rfl, congrArg Value.bool (B_true (by decide))⟩)
set_option maxRecDepth 100000 in
theorem Digits_raw {r : RW} (h : r.reach) : CD Tryz.prog 100 [wv r] X w0 M0 I0 (fun v M I => M0 = M ∧ I0 = I ∧ v = .int .i64 (r.g1.length + r.g2.length)) := by
  obtain ⟨h1, h2⟩ := h
  refine enterD1 Tryz.func100 rfl Tryz.ntmps100 rfl ?_
  refine TD_seq ?_
  refine TD_region ?_
  (refine RD_boxA rfl rfl rfl ?_; intro b1; refine ⟨okF, ?_⟩)
  repeat (refine wXh ?_)
  refine ND_ret1 (by first | exact .inl rfl | exact .inr rfl) rfl rfl _ _ subF incF (⟨rfl, rfl, rfl⟩)
end
end Go.Proofs.YtdmlebigkakplaaGreat
