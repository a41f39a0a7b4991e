/- The chapter's example. The row's step of a law: a call that turns nothing that was there. Arguments, opened: integers, slices of integers. The lift of a law's walk to its row. Arguments, opened: slices of records, structs with slices. -/
import Derived.Test.YtdmlebigkakplaaGreatZmbv
import Derived.Test.YtdmlebigkakplaaGreatZmbi
import Derived.Test.YtdmlebigkakplaaGreatZmac
import Derived.ChangeSame
import Derived.Carry
import Derived.WalkKit
import Derived.ProofKit
import Derived.OpenShut
import Derived.Test.YtdmlebigkakplaaGreatZmag
set_option linter.unusedSimpArgs false
set_option linter.unusedVariables false
namespace Go.Proofs.YtdmlebigkakplaaGreat
open Go Go.Fx
def kA : Mt := [[((2 : Int) : Rat), ((1 : Int) : Rat)], [((1 : Int) : Rat), ((1 : Int) : Rat)]]
def kC : Mt := [[((1 : Int) : Rat), ((-1 : Int) : Rat)], [((-1 : Int) : Rat), ((2 : Int) : Rat)]]
theorem kA_det : dt 2 (at2 kA) = ((1 : Int) : Rat) := by decide +kernel
theorem kA_ne : ¬ dt 2 (at2 kA) = 0 := by decide +kernel
theorem kA_inv : invM 2 kA = kC := by decide +kernel
theorem Hv.il2 {I : List Imm} {a b : IL} (h1 : slI a.p (recs (eI .i64) a.xs) ∈ I) (h2 : slI b.p (recs (eI .i64) b.xs) ∈ I) : Hv I (allIL [a, b]) := ⟨fun X w hw => ⟨fun p hp => by
  simp only [List.mem_cons, List.not_mem_nil, or_false] at hp
  rcases hp with rfl | rfl
  · exact (hw _ h1 : SlI _ _ X w).go
  · exact (hw _ h2 : SlI _ _ X w).go⟩⟩
section
variable {X : List Nat} {w0 : World} {M0 : List Ent} {I0 : List Imm}
theorem known_of {b1 b2 b3 : Nat} {x1 x2 y1 y2 : Int} (h1 : slI (some ⟨b1, 0, none⟩) (recs (eI .i64) [x1, x2]) ∈ I0) (h2 : slI (some ⟨b2, 0, none⟩) (recs (eI .i64) [y1, y2]) ∈ I0) (h3 : slI (some ⟨b3, 0, none⟩) (recs eIL [(⟨some ⟨b1, 0, none⟩, 2, [x1, x2]⟩ : IL), ⟨some ⟨b2, 0, none⟩, 2, [y1, y2]⟩]) ∈ I0)
    (hb : ∀ z ∈ [x1, x2, y1, y2], z.natAbs ≤ 2) :
    CD Tryz.prog 136 [.slice (some ⟨b3, 0, none⟩) 2 2] X w0 M0 I0 (XQc [[(x1 : Rat), (x2 : Rat)], [(y1 : Rat), (y2 : Rat)]] 2 2 1 M0 I0) := by
  refine CD.post (K := XQc [[(x1 : Rat), (x2 : Rat)], [(y1 : Rat), (y2 : Rat)]] 2 2 1 M0 (allIL [(⟨some ⟨b1, 0, none⟩, 2, [x1, x2]⟩ : IL), ⟨some ⟨b2, 0, none⟩, 2, [y1, y2]⟩] :: I0)) (CD_hv (φ := allIL [(⟨some ⟨b1, 0, none⟩, 2, [x1, x2]⟩ : IL), ⟨some ⟨b2, 0, none⟩, 2, [y1, y2]⟩]) (Hv.il2 h1 h2) ?_) (fun v M I w h hw => ?_)
  · exact XOf_ok (rows := [(⟨some ⟨b1, 0, none⟩, 2, [x1, x2]⟩ : IL), ⟨some ⟨b2, 0, none⟩, 2, [y1, y2]⟩]) (R := 2) (C := 2) (k0 := 1) rfl (fun r hr => by simp at hr; rcases hr with rfl | rfl <;> rfl) (by omega) (by omega) (fun r hr x hx => by
      have : x.natAbs ≤ 2 := hb x (by simp at hr; rcases hr with rfl | rfl <;> (simp at hx ⊢; rcases hx with rfl | rfl <;> simp))
      refine ⟨this, by omega, by omega⟩) (List.Mem.tail _ h3) (List.Mem.head _)
  · obtain ⟨rfl, x, rfl, hx, hd, rfl⟩ := h
    exact ⟨M0, isX x 1 :: I0, ⟨rfl, x, rfl, hx, hd, rfl⟩, hw.inc (.of fun φ hφ => by
      rcases List.mem_cons.1 hφ with rfl | hφ
      · exact List.Mem.head _
      · exact List.Mem.tail _ (List.Mem.tail _ hφ))⟩
set_option maxRecDepth 100000 in
set_option maxHeartbeats 2000000 in
theorem known05_ok : CD Tryz.prog 49 [] X w0 M0 I0 (fun v M I => M0 = M ∧ I0 = I ∧ v = .bool true) := by
  have hW := fun M0 I0 => rQWhole_ok (X := X) (w0 := w0) (M0 := M0) (I0 := I0) (x := 1) (by decide) (k := 0) (by decide)
  have hN : ∀ M0 I0, CD Tryz.prog 61 [.slice none 0 0] X w0 M0 I0 (fun v M I => M0 = M ∧ I0 = I ∧ v = .int .i64 1) := fun M0 I0 => by
    refine CD_hvV (φ := isWM ⟨none, 0, []⟩) ⟨fun X w _ => ⟨Sl.nil _ _ _, fun r hr => by simp at hr, ⟨Nat.le_refl _, .inr ⟨rfl, rfl⟩⟩⟩⟩ ?_
    have := Check_ok (X := X) (w0 := w0) (M0 := M0) (I0 := isWM ⟨none, 0, []⟩ :: I0) (m := ⟨none, 0, []⟩) ⟨by show 0 ≤ 1000000; omega, fun r hr => by simp at hr⟩ (List.Mem.head _)
    rw [WM.code_no (fun e => by have := e.1.1; simp at this)] at this
    exact this
  refine enterD0 Tryz.func49 rfl Tryz.ntmps49 rfl ?_
  repeat (refine wXh ?_)
  (refine RD_vals (cs := recs (eI .i64) [2, 1]) ([.int .i64 2, .int .i64 1]) rfl rfl (by intro v hv; repeat (first | exact absurd hv (List.not_mem_nil) | (rcases List.mem_cons.1 hv with rfl | hv; · rfl))) (by omega) rfl rfl rfl ?_; intro a1; refine ⟨okF, ?_⟩)
  refine RD_freezeB .here ?_
  repeat (refine wXh ?_)
  (refine RD_vals (cs := recs (eI .i64) [1, 1]) ([.int .i64 1, .int .i64 1]) rfl rfl (by intro v hv; repeat (first | exact absurd hv (List.not_mem_nil) | (rcases List.mem_cons.1 hv with rfl | hv; · rfl))) (by omega) rfl rfl rfl ?_; intro a2; refine ⟨okF, ?_⟩)
  refine RD_freezeB .here ?_
  repeat (refine wXh ?_)
  (refine RD_vals (cs := recs eIL [(⟨some ⟨a1, 0, none⟩, 2, [2, 1]⟩ : IL), ⟨some ⟨a2, 0, none⟩, 2, [1, 1]⟩]) ([.slice (some ⟨a1, 0, none⟩) 2 2, .slice (some ⟨a2, 0, none⟩) 2 2]) rfl rfl (by intro v hv; repeat (first | exact absurd hv (List.not_mem_nil) | (rcases List.mem_cons.1 hv with rfl | hv; · rfl))) (by omega) rfl rfl rfl ?_; intro a3; refine ⟨okF, ?_⟩)
  refine RD_freezeB .here ?_
  repeat (refine wXh ?_)
  (refine RD_callS rfl (known_of (b1 := a1) (b2 := a2) (b3 := a3) (x1 := 2) (x2 := 1) (y1 := 1) (y2 := 1) memF memF memF (by decide)) rfl rfl ?_; rintro _ _ _ ⟨rfl, a, rfl, hx, hd, rfl⟩; refine ⟨okF, ?_⟩)
  have hxA : a.q = kA := hx
  have hI := fun M0 I0 h => XInverse_all (X := X) (w0 := w0) (M0 := M0) (I0 := I0) (a := a) (n := 2) (k0 := 1) (by decide) (by decide) ⟨hd, by omega, by omega⟩ h
  have hD := fun M0 I0 h => XDeterminant_ok (X := X) (w0 := w0) (M0 := M0) (I0 := I0) (a := a) (n := 2) (k0 := 1) (by decide) (by decide) ⟨hd, by omega, by omega⟩ h
  rw [hxA, kA_det] at hD
  rw [hxA] at hI
  simp only [if_neg kA_ne, kA_inv] at hI
  repeat (refine wXh ?_)
  (refine RD_callS rfl (hI _ _ memF) rfl rfl ?_; rintro _ _ _ ⟨rfl, b, rfl, hb, hbd, rfl⟩; refine ⟨okF, ?_⟩)
  repeat (refine wXh ?_)
  (refine RD_vals (cs := recs (eI .i64) [1, -1]) ([.int .i64 1, .int .i64 (-1)]) rfl rfl (by intro v hv; repeat (first | exact absurd hv (List.not_mem_nil) | (rcases List.mem_cons.1 hv with rfl | hv; · rfl))) (by omega) rfl rfl rfl ?_; intro c1; refine ⟨okF, ?_⟩)
  refine RD_freezeB .here ?_
  repeat (refine wXh ?_)
  (refine RD_vals (cs := recs (eI .i64) [-1, 2]) ([.int .i64 (-1), .int .i64 2]) rfl rfl (by intro v hv; repeat (first | exact absurd hv (List.not_mem_nil) | (rcases List.mem_cons.1 hv with rfl | hv; · rfl))) (by omega) rfl rfl rfl ?_; intro c2; refine ⟨okF, ?_⟩)
  refine RD_freezeB .here ?_
  repeat (refine wXh ?_)
  (refine RD_vals (cs := recs eIL [(⟨some ⟨c1, 0, none⟩, 2, [1, -1]⟩ : IL), ⟨some ⟨c2, 0, none⟩, 2, [-1, 2]⟩]) ([.slice (some ⟨c1, 0, none⟩) 2 2, .slice (some ⟨c2, 0, none⟩) 2 2]) rfl rfl (by intro v hv; repeat (first | exact absurd hv (List.not_mem_nil) | (rcases List.mem_cons.1 hv with rfl | hv; · rfl))) (by omega) rfl rfl rfl ?_; intro c3; refine ⟨okF, ?_⟩)
  refine RD_freezeB .here ?_
  repeat (refine wXh ?_)
  (refine RD_callS rfl (known_of (b1 := c1) (b2 := c2) (b3 := c3) (x1 := 1) (x2 := -1) (y1 := -1) (y2 := 2) memF memF memF (by decide)) rfl rfl ?_; rintro _ _ _ ⟨rfl, c, rfl, hc, hcd, rfl⟩; refine ⟨okF, ?_⟩)
  repeat (refine wXh ?_)
  (refine RD_callS rfl (hD _ _ memF) rfl rfl ?_; rintro _ _ _ ⟨rfl, d, rfl, hd1, rfl⟩; refine ⟨okF, ?_⟩)
  repeat (refine wXh ?_)
  (refine RD_alloc rfl rfl ?_; intro b6; refine ⟨okF, ?_⟩)
  repeat (refine wXh ?_)
  have hS := fun M0 I0 h1 h2 => same05_ok (X := X) (w0 := w0) (M0 := M0) (I0 := I0) (a := b) (b := c) (k := kb 1 2) (m := 1) (by decide) hbd hcd (by omega) h1 h2
  rw [B_true (show b.q = c.q by rw [hb, hc]; rfl)] at hS
  (repeat refine TD_seq ?_); refine TD_drawn [0, 1, 2, 3, 4, 5, 6, 7, 8, 9, 10, 11, 12, 13, 14, 15, 16, 17, 18, 19, 20, 21, 22, 23, 24] [4, 4, 4, 4, 4, 4, 4, 4, 4, 4, 3, 3, 3, 0, 3, 1, 2, 0, 0, 1, 0, 0, 0, 0, 0] mixed (by kernel_rfl) ?_
  repeat (refine wXh ?_)
  (refine RD_callS rfl (hS _ _ memF memF) rfl rfl ?_; rintro _ _ _ ⟨rfl, rfl, rfl⟩; refine ⟨okF, ?_⟩)
  repeat (refine wXh ?_)
  (refine RD_callS rfl (hW _ _) rfl rfl ?_; rintro _ _ _ ⟨rfl, e1, rfl, he1, rfl⟩; refine ⟨okF, ?_⟩)
  repeat (refine wXh ?_)
  have hSa := fun M0 I0 h1 h2 => rSame_ok (X := X) (w0 := w0) (M0 := M0) (I0 := I0) (a := d) (b := e1) (k := kb 1 2) (m := 0) (by decide) h1 h2
  rw [B_true (show d.q = e1.q by rw [hd1, he1])] at hSa
  (refine RD_callS rfl (hSa _ _ (Hv.mem memF) (Hv.mem memF)) rfl rfl ?_; rintro _ _ _ ⟨rfl, rfl, rfl⟩; refine ⟨okF, ?_⟩)
  repeat (refine wXh ?_)
  (refine RD_callS rfl (hN _ _) rfl rfl ?_; rintro _ _ _ ⟨rfl, rfl, rfl⟩; refine ⟨okF, ?_⟩)
  repeat (refine wXh ?_)
  refine ND_ret1 (by first | exact .inl rfl | exact .inr rfl) rfl rfl _ _ subF incF (⟨rfl, rfl, congrArg Value.bool (B_true rfl)⟩)
end
end Go.Proofs.YtdmlebigkakplaaGreat
namespace Go.Fx
open Go.ChangeShapes Go.WideShapes Go.RowKit

theorem post_below {H : Type} {enc : TypeId × Value → H} {P : Program} {f : Func} {s : ChangeSpec} {apart fresh handsOn again : Bool} {W W' : World} {args : Array Value} {v : Value} {ds gs : List (DataW H)} {before pa pv : List MemPlace}
    (hW : DataW.Whole enc P f.params.toList s.vars apart W args.toList ds gs before)
    (hres : ∀ (b : Nat) (sp : Nat → Bool) (hd : Bool), DataW.TrodAll enc P W' b sp hd f.resultTypes.toList (v.resultList f.resultTypes.size) (s.fn H (ds ++ gs)).results [])
    (hargs : ∀ sp : Nat → Bool, (∀ p ∈ before, sp p.block = true) → DataW.TrodAll enc P W' 0 sp true f.params.toList args.toList (s.fn H (ds ++ gs)).args pa)
    (hvars : ∀ sp : Nat → Bool, (∀ p ∈ before, sp p.block = true) → DataW.TrodVars enc P W' sp s.vars (s.fn H (ds ++ gs)).vars pv)
    (hps : before = pa ++ pv) (hE : Ext [] W W')
    (hok : ∀ (j : Nat) (t : TypeId) (r : Value), f.resultTypes[j]? = some t → (v.resultList f.resultTypes.size)[j]? = some r → Value.okWide P W' .any 0 t r) :
    s.post enc P f apart fresh handsOn again W args v W' := by
  have hold : ∀ p ∈ before, (fun b => decide (b < W.heap.size)) p.block = true := fun p hp => by simpa using hW.lt p hp
  have hlt : ∀ p ∈ before, p.block < W.heap.size := fun p hp => hW.lt p hp
  refine ⟨ds, gs, before, [], pa, pv, hW, hres _ _ _, hargs _ hold, hvars _ hold, World.keptBut_mono (fun p hp => ⟨hp, ?_⟩) (hE.below.frame (· ∈ before)), fun _ => ?_⟩
  · rw [hps, List.mem_append] at hp
    exact Or.inr hp
  · obtain ⟨_, _, _, _, _, hz, hn⟩ := hW
    refine ⟨hok, _, _, ([] ++ pa) ++ pv, ⟨[] ++ pa, pv, trodAll_append (hargs _ (fun _ _ => rfl)) (hres _ _ _), hvars _ (fun _ _ => rfl), rfl, ?_, ?_⟩, ?_⟩
    · intro b off hp
      have hp' : MemPlace.cell b off ∈ before := by rw [hps]; simpa using hp
      rw [hE.below.frozen (p := ⟨b, off, none⟩) (hlt _ hp')]
      exact hz b off hp'
    · intro ha
      have := hn ha
      rw [hps] at this
      simpa using this
    · intro p hp _
      rw [hps]
      simpa using hp
end Go.Fx
namespace Go.Fx
open Go.ChangeShapes Go.WideShapes Go.RowKit Go.ChangeAt

section
variable {H : Type} {enc : TypeId × Value → H} {P : Program} {W : World}

theorem slice_ok {base : Nat} {t e : TypeId} {a : Option Addr} {len c : Nat} (ht : P.underlying t = some (.slice e)) (h : Value.okWide P W .any base t (.slice a len c)) :
    (len : Int) ≤ 9223372036854775807 ∧ len ≤ c ∧ (Ok a ∨ (a = none ∧ len = 0 ∧ c = 0)) := by
  simp only [Value.okWide, ht, Cell.okWide] at h
  cases a with
  | none =>
    cases len <;> cases c <;> simp_all [Cell.ok]
  | some a =>
    simp only [Cell.ok, ht] at h
    obtain ⟨h1, h2, h3⟩ := h
    have hm : IntKind.i64.max = 9223372036854775807 := by decide
    rw [hm] at h2
    refine ⟨by omega, h1, .inl ?_⟩
    cases a with
    | mk b o s =>
      have : s = none := h3.2.1
      subst this
      exact Ok.mk b o

theorem open_sliceI {base : Nat} {t e : TypeId} {k : IntKind} {v : Value} {d : DataW H} {p : List MemPlace} (ht : P.underlying t = some (.slice e)) (he : P.underlying e = some (.int k)) (hc : P.cellsOf e = 1)
    (hv : Value.okWide P W .any base t v) (h : DataW.Trod enc P W 0 (fun _ => true) true t v d p) :
    ∃ a l c, v = .slice a l.length c ∧ Ints [] W k a l ∧ (∀ x ∈ l, (Lit.int k x).wf = true) ∧ (l.length : Int) ≤ 9223372036854775807 ∧ l.length ≤ c ∧ (Ok a ∨ (a = none ∧ l.length = 0 ∧ c = 0)) := by
  obtain ⟨a, len, c, rfl⟩ := okWide_slice ht hv
  obtain ⟨h1, h2, h3⟩ := slice_ok ht hv
  obtain ⟨fuel, hf⟩ := h
  rcases open_ints ht he hc hf with ⟨hcs, _⟩ | ⟨a', len', cap', zs, hcs, _, hl, hm, hz, _, hcell, hwz⟩
  · simp [Value.cells] at hcs
    obtain ⟨rfl, rfl, rfl⟩ := hcs
    exact ⟨none, [], 0, rfl, Sl.nil _ _ _, by simp, by simp, by simp, .inr ⟨rfl, rfl, rfl⟩⟩
  · simp [Value.cells] at hcs
    obtain ⟨rfl, rfl, rfl⟩ := hcs
    simp only [if_true] at hz
    have hlen : (zs.take len).length = len := by simp; omega
    have hok : Ok (some a') := h3.resolve_right (by simp)
    refine ⟨some a', zs.take len, c, by rw [hlen], ?_, fun x hx => hwz x (List.mem_of_mem_take hx), by omega, by omega, .inl hok⟩
    intro j v hj
    rw [List.getElem?_map] at hj
    obtain ⟨x, hx, rfl⟩ := Option.map_eq_some_iff.1 hj
    have hjl : j < len := by
      have := (List.getElem?_eq_some_iff.1 hx).1
      omega
    refine ⟨hok, by simp, ?_⟩
    have hg : zs.getD j 0 = x := by
      rw [List.getElem?_take] at hx
      simp [hjl] at hx
      simp [List.getD, hx]
    have := hcell j (by omega)
    rw [hg] at this
    obtain ⟨b, o, e⟩ := hok.cases
    injection e with e
    subst e
    rw [add_lit] at this
    simpa [pt, bl, of] using this

theorem open_intW {base : Nat} {t : TypeId} {k : IntKind} {v : Value} {d : DataW H} {p : List MemPlace} (ht : P.underlying t = some (.int k)) (hv : Value.okWide P W .any base t v) :
    ∃ x, v = .int k x ∧ (Lit.int k x).wf = true := by
  simp only [Value.okWide, ht, Cell.okWide] at hv
  cases v <;> simp_all [Cell.ok, Lit.wf, IntKind.has]

theorem two_of {xs : List Int} (h : xs.length = 2) : ∃ a b, xs = [a, b] := by
  match xs, h with
  | [a, b], _ => exact ⟨a, b, rfl⟩
theorem u64_of {a : Int} (h : (Lit.int .u64 a).wf = true) : 0 ≤ a ∧ a ≤ 18446744073709551615 := by
  simp only [Lit.wf, Bool.and_eq_true, decide_eq_true_eq] at h
  have h3 := h.2
  rw [show IntKind.u64.max = 18446744073709551615 by decide] at h3
  exact ⟨h.1, h3⟩
theorem i64_of {a : Int} (h : (Lit.int .i64 a).wf = true) : -9223372036854775808 ≤ a ∧ a ≤ 9223372036854775807 := by
  simp only [Lit.wf, Bool.and_eq_true, decide_eq_true_eq] at h
  have h2 := h.1
  have h3 := h.2
  rw [show IntKind.i64.max = 9223372036854775807 by decide] at h3
  rw [show IntKind.i64.min = -9223372036854775808 by decide] at h2
  exact ⟨h2, h3⟩
theorem u8_of {a : Int} (h : (Lit.int .u8 a).wf = true) : 0 ≤ a ∧ a ≤ 255 := by
  simp only [Lit.wf, Bool.and_eq_true, decide_eq_true_eq] at h
  have h3 := h.2
  rw [show IntKind.u8.max = 255 by decide] at h3
  exact ⟨h.1, h3⟩

/-- an array or a struct of integers of one kind -/
theorem open_aggI {base : Nat} {t : TypeId} {k : IntKind} {v : Value} {ts : List TypeId} {n : Nat} (ht : (∃ fs, P.underlying t = some (.struct fs)) ∨ ∃ m e, P.underlying t = some (.array m e)) (hts : P.cellTypes P.depth t = some ts)
    (hk : ∀ u ∈ ts, P.underlying u = some (.int k)) (hc : P.cellsOf t = n) (hv : Value.okWide P W .any base t v) :
    ∃ xs : List Int, v = .agg (xs.map (Value.int k)).toArray ∧ xs.length = n ∧ ∀ x ∈ xs, (Lit.int k x).wf = true := by
  have hv' : ∃ cs, v = .agg cs ∧ cs.size = P.cellsOf t ∧ Row.okWide P W .any base t cs := by
    rcases ht with ⟨fs, ht⟩ | ⟨m, e, ht⟩ <;> simpa [Value.okWide, ht] using hv
  obtain ⟨cs, rfl, hsz, ts', hts', _, hall⟩ := hv'
  rw [hts] at hts'
  injection hts' with e
  subst e
  have each : ∀ (i : Nat) (v : Value), cs[i]? = some v → ∃ x : Int, v = Value.int k x ∧ (Lit.int k x).wf = true := fun i v hi => by
    obtain ⟨u, hu, hcell⟩ := hall i v hi
    have hku := hk u (List.mem_of_getElem? hu)
    cases v <;> simp_all [Cell.okWide, Cell.ok, Lit.wf, IntKind.has]
  refine ⟨cs.toList.map (fun v => match v with | .int _ x => x | _ => 0), ?_, by simp [hsz, hc], ?_⟩
  · congr 1
    apply Array.ext'
    rw [List.map_map]
    simp only [List.toList_toArray]
    apply List.ext_getElem
    · simp
    · intro i h1 h2
      obtain ⟨x, hx, _⟩ := each i cs[i] (by simp at h1; simp [h1])
      simp [hx]
  · intro x hx
    obtain ⟨v, hv, rfl⟩ := List.mem_map.1 hx
    obtain ⟨i, hi, rfl⟩ := List.mem_iff_getElem.1 hv
    obtain ⟨y, hy, hw⟩ := each i cs[i] (by simp at hi; simp [hi])
    have : cs.toList[i] = .int k y := by simpa using hy
    rw [this]
    exact hw

theorem trodAll_stay (hl : laidOutB P = true) {W' : World} (hB : Below W.heap.size W W') : ∀ (ts : List TypeId) (vs : List Value) (ds : List (DataW H)) (p : List MemPlace), (∀ t ∈ ts, P.readableRec t = true ∧ t < P.types.size) →
    (∀ x ∈ p, x.block < W.heap.size) → DataW.TrodAll enc P W 0 (fun _ => true) true ts vs ds p → DataW.TrodAll enc P W' 0 (fun b => decide (b < W.heap.size)) true ts vs ds p
  | [], _, _, _, _, _, h => by
    obtain ⟨rfl, rfl, rfl⟩ := trodAll_nil h
    exact trodAll_mk0
  | t :: ts, _, _, _, hr, hp, h => by
    obtain ⟨v, vs', d, ds', p', q', rfl, rfl, rfl, h1, h2⟩ := trodAll_cons h
    have hr0 := hr t (by simp)
    exact trodAll_cons_mk (Below.trod hl hr0.1 hr0.2 h1 hB (fun x hx => hp x (List.mem_append.2 (.inl hx)))) (trodAll_stay hl hB ts vs' ds' q' (fun u hu => hr u (by simp [hu])) (fun x hx => hp x (List.mem_append.2 (.inr hx))) h2)
end
end Go.Fx
namespace Go.Fx
open Go.ChangeShapes Go.WideShapes Go.RowKit Go.ChangeAt

section
variable {H : Type} {enc : TypeId × Value → H} {P : Program} {W : World}

theorem flat_inv {sz : Nat} : ∀ (rows : List (List Value)) (k : Nat) (v : Value), (∀ r ∈ rows, r.length = sz) → rows.flatten[k]? = some v → ∃ i row, rows[i]? = some row ∧ i * sz ≤ k ∧ row[k - i * sz]? = some v
  | [], k, v, _, h => by simp at h
  | r :: rows, k, v, hr, h => by
    rw [List.flatten_cons] at h
    have hl := hr r (by simp)
    by_cases hk : k < r.length
    · rw [List.getElem?_append_left hk] at h
      exact ⟨0, r, by simp, by omega, by simpa using h⟩
    · rw [List.getElem?_append_right (by omega)] at h
      obtain ⟨i, row, h1, h2, h3⟩ := flat_inv rows _ v (fun r' hr' => hr r' (by simp [hr'])) h
      refine ⟨i + 1, row, by simpa using h1, by rw [Nat.add_mul]; omega, ?_⟩
      rw [← h3]
      congr 1
      rw [Nat.add_mul]; omega

/-- a slice's cells, row by row -/
theorem open_rows {base fuel : Nat} {t e : TypeId} {v : Value} {x : DataW H × List MemPlace} (ht : P.underlying t = some (.slice e)) (hv : Value.okWide P W .any base t v) (h : DataW.trod enc P W 0 (fun _ => true) true fuel t v.cells.toList = some x) :
    ∃ (a : Option Addr) (len c : Nat), v = .slice a len c ∧ (len : Int) ≤ 9223372036854775807 ∧ len ≤ c ∧ (Ok a ∨ (a = none ∧ len = 0 ∧ c = 0)) ∧
      ∃ rows : List (List Value), rows.length = len ∧ (∀ r ∈ rows, r.length = P.cellsOf e ∧ ∃ n y, DataW.trod enc P W 0 (fun _ => true) true n e r = some y) ∧ Sl [] W a rows.flatten := by
  obtain ⟨a, len, c, rfl⟩ := okWide_slice ht hv
  obtain ⟨h1, h2, h3⟩ := slice_ok ht hv
  refine ⟨a, len, c, rfl, h1, h2, h3, ?_⟩
  rcases DataW.trod_slice ht h with ⟨hcs, _⟩ | ⟨a', len', cap', elems, rest, n, _, hcs, _, _, _, _, hlen, hel, _, _⟩
  · simp [Value.cells] at hcs
    obtain ⟨rfl, rfl, rfl⟩ := hcs
    exact ⟨[], rfl, by simp, Sl.nil _ _ _⟩
  · simp [Value.cells] at hcs
    obtain ⟨rfl, rfl, rfl⟩ := hcs
    have hok : Ok (some a') := h3.resolve_right (by simp)
    have each : ∀ i, i < len → ∃ cs y, W.cells? 0 (a'.add (i * P.cellsOf e)) (P.cellsOf e) = some cs ∧ DataW.trod enc P W 0 (fun _ => true) true n e cs = some y := fun i hi => by
      have := hel i hi
      rw [List.getElem?_eq_getElem (by omega), Option.bind_eq_some_iff] at this
      obtain ⟨cs, h1, h2⟩ := this
      exact ⟨cs, _, h1, h2⟩
    refine ⟨(List.range len).map (fun i => (W.cells? 0 (a'.add (i * P.cellsOf e)) (P.cellsOf e)).getD []), by simp, ?_, ?_⟩
    · intro r hr
      obtain ⟨i, hi, rfl⟩ := List.mem_map.1 hr
      obtain ⟨cs, y, h4, h5⟩ := each i (by simpa using hi)
      rw [h4]
      exact ⟨(World.cells?_some h4).2.1, n, y, h5⟩
    · intro j v hj
      have hall : ∀ r ∈ (List.range len).map (fun i => (W.cells? 0 (a'.add (i * P.cellsOf e)) (P.cellsOf e)).getD []), r.length = P.cellsOf e := by
        intro r hr
        obtain ⟨i, hi, rfl⟩ := List.mem_map.1 hr
        obtain ⟨cs, y, h4, h5⟩ := each i (by simpa using hi)
        rw [h4]
        exact (World.cells?_some h4).2.1
      obtain ⟨i, row, h4, h5, h6⟩ := flat_inv _ j v hall hj
      rw [List.getElem?_map] at h4
      obtain ⟨i', hi', rfl⟩ := Option.map_eq_some_iff.1 h4
      have hii : i' = i ∧ i < len := by
        obtain ⟨q1, q2⟩ := List.getElem?_eq_some_iff.1 hi'
        rw [List.getElem_range] at q2
        exact ⟨q2.symm, by simpa using q1⟩
      obtain ⟨rfl, hil⟩ := hii
      obtain ⟨cs, y, h7, h8⟩ := each i' hil
      rw [h7] at h6
      simp only [Option.getD_some] at h6
      obtain ⟨_, hl, hc⟩ := World.cells?_some h7
      have hlt : j - i' * P.cellsOf e < P.cellsOf e := by
        have := (List.getElem?_eq_some_iff.1 h6).1
        omega
      have hcell := hc _ hlt
      rw [h6] at hcell
      refine ⟨hok, by simp, ?_⟩
      obtain ⟨b, o, eq⟩ := hok.cases
      injection eq with eq
      subst eq
      rw [add_lit, add_lit] at hcell
      rw [← hcell]
      simp only [pt, bl, of, Option.getD_some]
      congr 2
      omega
/-- a slice of records -/
theorem open_sliceM {α : Type} {en : α → List Value} {Pm : α → Prop} {base : Nat} {t e : TypeId} {v : Value} {d : DataW H} {p : List MemPlace} (ht : P.underlying t = some (.slice e)) (hdec : ∀ (r : List Value) n y, r.length = P.cellsOf e → DataW.trod enc P W 0 (fun _ => true) true n e r = some y → ∃ m, r = en m ∧ Pm m)
    (hv : Value.okWide P W .any base t v) (h : DataW.Trod enc P W 0 (fun _ => true) true t v d p) :
    ∃ (a : Option Addr) (ms : List α) (c : Nat), v = .slice a ms.length c ∧ Sl [] W a (recs en ms) ∧ (∀ m ∈ ms, Pm m) ∧ (ms.length : Int) ≤ 9223372036854775807 ∧ ms.length ≤ c ∧ (Ok a ∨ (a = none ∧ ms.length = 0 ∧ c = 0)) := by
  obtain ⟨fuel, hf⟩ := h
  obtain ⟨a, len, c, rfl, h1, h2, h3, rows, hl, hr, hs⟩ := open_rows ht hv hf
  have key : ∀ rows : List (List Value), (∀ r ∈ rows, r.length = P.cellsOf e ∧ ∃ n y, DataW.trod enc P W 0 (fun _ => true) true n e r = some y) → ∃ ms : List α, rows = ms.map en ∧ ∀ m ∈ ms, Pm m := by
    intro rows
    induction rows with
    | nil => intro _; exact ⟨[], rfl, by simp⟩
    | cons r rows ih =>
      intro hr
      obtain ⟨hrl, n, y, hy⟩ := hr r (by simp)
      obtain ⟨m, rfl, hm⟩ := hdec r n y hrl hy
      obtain ⟨ms, rfl, hms⟩ := ih (fun r' hr' => hr r' (by simp [hr']))
      exact ⟨m :: ms, rfl, fun m' hm' => by
        rcases List.mem_cons.1 hm' with rfl | hm'
        · exact hm
        · exact hms m' hm'⟩
  obtain ⟨ms, rfl, hms⟩ := key rows hr
  have hlen : ms.length = len := by simpa using hl
  subst hlen
  refine ⟨a, ms, c, rfl, ?_, hms, h1, h2, h3⟩
  rw [← List.flatMap_def] at hs
  exact hs
/-- a struct, cell by cell -/
theorem open_struct {base : Nat} {t : TypeId} {v : Value} {d : DataW H} {p : List MemPlace} {fs : Array Field} (ht : P.underlying t = some (.struct fs)) (hv : Value.okWide P W .any base t v) (h : DataW.Trod enc P W 0 (fun _ => true) true t v d p) :
    ∃ cs : List Value, v = .agg cs.toArray ∧ cs.length = P.cellsOf t ∧ Row.okWide P W .any base t cs.toArray ∧ ∀ (i : Nat) (f : Field), fs[i]? = some f → ∃ n y, DataW.trod enc P W 0 (fun _ => true) true n f.type ((cs.drop f.offset).take (P.cellsOf f.type)) = some y := by
  simp only [Value.okWide, ht] at hv
  obtain ⟨cs, rfl, hsz, hrow⟩ := hv
  obtain ⟨fuel, hf⟩ := h
  obtain ⟨xs, n, rfl, _, hl, hxl, hx⟩ := DataW.trod_struct ht hf
  refine ⟨cs.toList, by simp, by simpa using hsz, by simpa using hrow, fun i f hfi => ?_⟩
  have hi : i < fs.size := (Array.getElem?_eq_some_iff.1 hfi).1
  have := hx i f hfi
  rw [List.getElem?_eq_getElem (by omega)] at this
  exact ⟨n, _, this⟩
theorem dec_int {t : TypeId} {k : IntKind} {n : Nat} {cs : List Value} {y : DataW H × List MemPlace} (ht : P.underlying t = some (.int k)) (h : DataW.trod enc P W 0 (fun _ => true) true n t cs = some y) : ∃ x : Int, cs = [.int k x] ∧ (Lit.int k x).wf = true := by
  obtain ⟨m, h1, _, h2⟩ := DataW.trod_int ht h
  exact ⟨m, h1, h2⟩
/-- a record of ints of one kind -/
theorem dec_ints {t : TypeId} {k : IntKind} {m n : Nat} {cs : List Value} {y : DataW H × List MemPlace} {fs : Array Field} (ht : P.underlying t = some (.struct fs)) (hf : fs.toList.map (fun (f : Field) => (f.offset, P.cellsOf f.type)) = (List.range m).map (fun i => (i, 1))) (hk : ∀ f ∈ fs.toList, P.underlying f.type = some (.int k)) (hl : cs.length = m)
    (h : DataW.trod enc P W 0 (fun _ => true) true n t cs = some y) : ∃ xs : List Int, cs = xs.map (Value.int k) ∧ xs.length = m ∧ ∀ x ∈ xs, (Lit.int k x).wf = true := by
  obtain ⟨zs, n', rfl, _, _, hzl, hz⟩ := DataW.trod_struct ht h
  have each : ∀ i, i < m → ∃ x : Int, cs[i]? = some (.int k x) ∧ (Lit.int k x).wf = true := fun i hi => by
    have hsz : fs.toList.length = m := by have := congrArg List.length hf; simpa using this
    obtain ⟨f, hfi⟩ : ∃ f, fs.toList[i]? = some f := ⟨_, List.getElem?_eq_getElem (by omega)⟩
    have hoff : (f.offset, P.cellsOf f.type) = (i, 1) := by
      have : (fs.toList.map (fun f => (f.offset, P.cellsOf f.type)))[i]? = some (f.offset, P.cellsOf f.type) := by rw [List.getElem?_map, hfi]; rfl
      rw [hf, List.getElem?_map, List.getElem?_range hi] at this
      simpa using this.symm
    injection hoff with ho hc
    have hf2 : fs[i]? = some f := by simpa using hfi
    have := hz i f hf2
    rw [List.getElem?_eq_getElem (by rw [hzl]; exact (Array.getElem?_eq_some_iff.1 hf2).1), ho, hc] at this
    obtain ⟨x, hx, hw⟩ := dec_int (hk f (List.mem_of_getElem? hfi)) this
    refine ⟨x, ?_, hw⟩
    have : ((cs.drop i).take 1)[0]? = some (.int k x) := by rw [hx]; rfl
    rw [List.getElem?_take, if_pos (by omega), List.getElem?_drop] at this
    simpa using this
  refine ⟨cs.map (fun v => match v with | .int _ x => x | _ => 0), ?_, by simpa using hl, ?_⟩
  · apply List.ext_getElem
    · simp
    · intro i h1 h2
      obtain ⟨x, hx, _⟩ := each i (by omega)
      have : cs[i] = .int k x := by
        have := (List.getElem?_eq_some_iff.1 hx).2
        exact this
      simp [this]
  · intro x hx
    obtain ⟨v, hv, rfl⟩ := List.mem_map.1 hx
    obtain ⟨i, hi, rfl⟩ := List.mem_iff_getElem.1 hv
    obtain ⟨y, hy, hw⟩ := each i (by omega)
    have : cs[i] = .int k y := (List.getElem?_eq_some_iff.1 hy).2
    rw [this]
    exact hw
theorem three_of {xs : List Int} (h : xs.length = 3) : ∃ a b c, xs = [a, b, c] := by
  match xs, h with
  | [a, b, c], _ => exact ⟨a, b, c, rfl⟩
theorem Mem.startS {W : World} {I : List Imm} {a : Option Addr} {cs : List Value} (h : Mem [] W [] I W) (hs : Sl [] W a cs) : Mem [] W [] (slI a cs :: I) W := h.add (φ := slI a cs) ⟨hs⟩
end
end Go.Fx
