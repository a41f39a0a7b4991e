/- Arguments opened: matrices, lists, fractions, wherever they lie. What the laws of matrices share. -/
import Derived.Test.YtdmlebigkakplaaGreatZmbi
import Derived.Test.YtdmlebigkakplaaGreatZmbw
set_option linter.unusedSimpArgs false
set_option linter.unusedVariables false
namespace Go.Proofs.YtdmlebigkakplaaGreat
open Go Go.Fx
open Go.ChangeShapes Go.WideShapes Go.RowKit Go.ChangeAt
section
variable {H : Type} {enc : TypeId × Value → H} {P : Program} {W : World}
/-- a slice's cells, wherever the slice lies -/
theorem dec_rowsH {fuel : Nat} {t e : TypeId} {cs : List Value} {x : DataW H × List MemPlace} (ht : P.underlying t = some (.slice e)) (hc : 1 ≤ P.cellsOf e) (h : DataW.trod enc P W 0 (fun _ => true) true fuel t cs = some x) :
    ∃ (a : Option Addr) (len c : Nat), cs = [.slice a len c] ∧ (len : Int) ≤ 9223372036854775807 ∧ Cap a len c ∧
      ∃ rows : List (List Value), rows.length = len ∧ (∀ r ∈ rows, r.length = P.cellsOf e ∧ ∃ n y, DataW.trod enc P W 0 (fun _ => true) true n e r = some y) ∧ Sl [] W a rows.flatten := by
  rcases DataW.trod_slice ht h with ⟨hcs, _⟩ | ⟨a', len, c, elems, rest, n, _, hcs, _, _, hlc, hcm, hlen, hel, hsp, _⟩
  · exact ⟨none, 0, 0, hcs, by omega, ⟨Nat.le_refl _, .inr ⟨rfl, rfl⟩⟩, [], rfl, by simp, Sl.nil _ _ _⟩
  · have hm : maxLen = 9223372036854775807 := by decide
    obtain ⟨hrl, hsp⟩ := hsp rfl
    have hspot : 0 < c → Ok (some a') := fun h0 => by
      have : ∃ v, W.cell? a' = some v := by
        by_cases hl : 0 < len
        · have := hel 0 hl
          rw [List.getElem?_eq_getElem (by omega), Option.bind_eq_some_iff] at this
          obtain ⟨cs', h1, _⟩ := this
          obtain ⟨_, hl2, hcell⟩ := World.cells?_some h1
          have := hcell 0 (by omega)
          rw [List.getElem?_eq_getElem (by omega)] at this
          have e1 : (a'.add (0 * P.cellsOf e)).add 0 = a' := by simp [Addr.add]
          rw [e1] at this
          exact ⟨_, this⟩
        · have hl0 : len = 0 := by omega
          have := hsp 0 (by omega)
          rw [List.getElem?_eq_getElem (by omega), Option.bind_eq_some_iff] at this
          obtain ⟨cs', h1, _⟩ := this
          obtain ⟨_, hl2, hcell⟩ := World.cells?_some h1
          have := hcell 0 (by omega)
          rw [List.getElem?_eq_getElem (by omega)] at this
          have e1 : (a'.add ((len + 0) * P.cellsOf e)).add 0 = a' := by simp [Addr.add, hl0]
          rw [e1] at this
          exact ⟨_, this⟩
      obtain ⟨v, hv⟩ := this
      unfold World.cell? at hv
      cases a' with
      | mk b o s =>
        have : s = none := by
          cases s with
          | none => rfl
          | some s => split at hv <;> simp at hv
        subst this
        exact Ok.mk b o
    have hcap : Cap (some a') len c := ⟨hlc, by
      by_cases h0 : 0 < c
      · exact .inl (hspot h0)
      · exact .inr ⟨by omega, by omega⟩⟩
    refine ⟨some a', len, c, hcs, by omega, hcap, ?_⟩
    have each : ∀ i, i < len → ∃ cs y, W.cells? 0 (a'.add (i * P.cellsOf e)) (P.cellsOf e) = some cs ∧ DataW.trod enc P W 0 (fun _ => true) true n e cs = some y := fun i hi => by
      have := hel i hi
      rw [List.getElem?_eq_getElem (by omega), Option.bind_eq_some_iff] at this
      obtain ⟨cs, h1, h2⟩ := this
      exact ⟨cs, _, h1, h2⟩
    refine ⟨(List.range len).map (fun i => (W.cells? 0 (a'.add (i * P.cellsOf e)) (P.cellsOf e)).getD []), by simp, ?_, ?_⟩
    · intro r hr
      obtain ⟨i, hi, rfl⟩ := List.mem_map.1 hr
      obtain ⟨cs, y, h4, h5⟩ := each i (by simpa using hi)
      rw [h4]
      exact ⟨(World.cells?_some h4).2.1, n, y, h5⟩
    · intro j v hj
      have hall : ∀ r ∈ (List.range len).map (fun i => (W.cells? 0 (a'.add (i * P.cellsOf e)) (P.cellsOf e)).getD []), r.length = P.cellsOf e := by
        intro r hr
        obtain ⟨i, hi, rfl⟩ := List.mem_map.1 hr
        obtain ⟨cs, y, h4, h5⟩ := each i (by simpa using hi)
        rw [h4]
        exact (World.cells?_some h4).2.1
      obtain ⟨i, row, h4, h5, h6⟩ := flat_inv _ j v hall hj
      rw [List.getElem?_map] at h4
      obtain ⟨i', hi', rfl⟩ := Option.map_eq_some_iff.1 h4
      have hii : i' = i ∧ i < len := by
        obtain ⟨q1, q2⟩ := List.getElem?_eq_some_iff.1 hi'
        rw [List.getElem_range] at q2
        exact ⟨q2.symm, by simpa using q1⟩
      obtain ⟨rfl, hil⟩ := hii
      have hok : Ok (some a') := hspot (by omega)
      obtain ⟨cs, y, h7, h8⟩ := each i' hil
      rw [h7] at h6
      simp only [Option.getD_some] at h6
      obtain ⟨_, hl, hc'⟩ := World.cells?_some h7
      have hlt : j - i' * P.cellsOf e < P.cellsOf e := by
        have := (List.getElem?_eq_some_iff.1 h6).1
        omega
      have hcell := hc' _ hlt
      rw [h6] at hcell
      refine ⟨hok, by simp, ?_⟩
      obtain ⟨b, o, eq⟩ := hok.cases
      injection eq with eq
      subst eq
      rw [add_lit, add_lit] at hcell
      rw [← hcell]
      simp only [pt, bl, of, Option.getD_some]
      congr 2
      omega
theorem dec_sliceH {α : Type} {en : α → List Value} {Pm : α → Prop} {fuel : Nat} {t e : TypeId} {cs : List Value} {x : DataW H × List MemPlace} (ht : P.underlying t = some (.slice e)) (hc : 1 ≤ P.cellsOf e)
    (hdec : ∀ (r : List Value) n y, r.length = P.cellsOf e → DataW.trod enc P W 0 (fun _ => true) true n e r = some y → ∃ m, r = en m ∧ Pm m) (h : DataW.trod enc P W 0 (fun _ => true) true fuel t cs = some x) :
    ∃ (a : Option Addr) (ms : List α) (c : Nat), cs = [.slice a ms.length c] ∧ Sl [] W a (recs en ms) ∧ (∀ m ∈ ms, Pm m) ∧ (ms.length : Int) ≤ 9223372036854775807 ∧ Cap a ms.length c := by
  obtain ⟨a, len, c, rfl, h1, h3, rows, hl, hr, hs⟩ := dec_rowsH ht hc h
  have key : ∀ rows : List (List Value), (∀ r ∈ rows, r.length = P.cellsOf e ∧ ∃ n y, DataW.trod enc P W 0 (fun _ => true) true n e r = some y) → ∃ ms : List α, rows = ms.map en ∧ ∀ m ∈ ms, Pm m := by
    intro rows
    induction rows with
    | nil => intro _; exact ⟨[], rfl, by simp⟩
    | cons r rows ih =>
      intro hr
      obtain ⟨hrl, n, y, hy⟩ := hr r (by simp)
      obtain ⟨m, rfl, hm⟩ := hdec r n y hrl hy
      obtain ⟨ms, rfl, hms⟩ := ih (fun r' hr' => hr r' (by simp [hr']))
      exact ⟨m :: ms, rfl, fun m' hm' => by
        rcases List.mem_cons.1 hm' with rfl | hm'
        · exact hm
        · exact hms m' hm'⟩
  obtain ⟨ms, rfl, hms⟩ := key rows hr
  have hlen : ms.length = len := by simpa using hl
  subst hlen
  refine ⟨a, ms, c, rfl, ?_, hms, h1, h3⟩
  rw [← List.flatMap_def] at hs
  exact hs
theorem dec_two2 {tr t0 t1 : TypeId} {fr : Array Field} {m k n : Nat} {cs : List Value} {y : DataW H × List MemPlace} (hr : P.underlying tr = some (.struct fr)) (hfr : fr.toList.map (fun f => (f.offset, f.type)) = [(0, t0), (m, t1)]) (cm : P.cellsOf t0 = m) (ck : P.cellsOf t1 = k) (c5 : P.cellsOf tr = m + k) (h : DataW.trod enc P W 0 (fun _ => true) true n tr cs = some y) :
    cs.length = m + k ∧ ∃ n' z0 z1, DataW.trod enc P W 0 (fun _ => true) true n' t0 (cs.take m) = some z0 ∧ DataW.trod enc P W 0 (fun _ => true) true n' t1 (cs.drop m) = some z1 := by
  obtain ⟨zs, n', rfl, rfl, hl, hzl, hz⟩ := DataW.trod_struct hr h
  have hsz : fr.toList.length = 2 := by have := congrArg List.length hfr; simpa using this
  obtain ⟨f0, f1, hfs⟩ : ∃ f0 f1, fr.toList = [f0, f1] := by
    match hh : fr.toList, hsz with
    | [a, b], _ => exact ⟨a, b, rfl⟩
  rw [hfs] at hfr
  simp only [List.map_cons, List.map_nil, List.cons.injEq, Prod.mk.injEq, and_true] at hfr
  obtain ⟨⟨o0, e0⟩, o1, e1⟩ := hfr
  rw [c5] at hl
  have hg0 : fr[0]? = some f0 := by rw [← Array.getElem?_toList, hfs]; rfl
  have hg1 : fr[1]? = some f1 := by rw [← Array.getElem?_toList, hfs]; rfl
  have h0 := hz 0 f0 hg0
  have h1 := hz 1 f1 hg1
  rw [o0, e0, cm] at h0
  rw [o1, e1, ck] at h1
  have hz2 : zs.length = 2 := by rw [hzl]; simpa using hsz
  obtain ⟨z0, z1, rfl⟩ : ∃ z0 z1, zs = [z0, z1] := by
    match zs, hz2 with
    | [a, b], _ => exact ⟨a, b, rfl⟩
  simp only [List.drop_zero, List.getElem?_cons_zero, List.getElem?_cons_succ] at h0 h1
  rw [List.take_of_length_le (l := cs.drop m) (by simp; omega)] at h1
  exact ⟨hl, n', z0, z1, h0, h1⟩
/-- an integer's two cells -/
theorem dec_IH {t tb ts te : TypeId} {fs : Array Field} {n : Nat} {cs : List Value} {y : DataW H × List MemPlace} (ht : P.underlying t = some (.struct fs)) (hf : fs.toList.map (fun f => (f.offset, f.type)) = [(0, tb), (1, ts)]) (hb : P.underlying tb = some .bool) (hs : P.underlying ts = some (.slice te)) (he : P.underlying te = some (.int .u32))
    (c1 : P.cellsOf tb = 1) (c2 : P.cellsOf ts = 1) (c3 : P.cellsOf te = 1) (c4 : P.cellsOf t = 2) (h : DataW.trod enc P W 0 (fun _ => true) true n t cs = some y) :
    ∃ (nb : Bool) (a : Option Addr) (g : List Int) (c : Nat), cs = [.bool nb, .slice a g.length c] ∧ (∀ x ∈ g, 0 ≤ x) ∧ Sl [] W a (recs eG g) ∧ Cap a g.length c ∧ (g.length : Int) ≤ 9223372036854775807 := by
  obtain ⟨hl, n', z0, z1, h0, h1⟩ := dec_two2 ht hf c1 c2 c4 h
  obtain ⟨u0, u1, rfl⟩ : ∃ u0 u1, cs = [u0, u1] := by
    match cs, hl with
    | [a, b], _ => exact ⟨a, b, rfl⟩
  obtain ⟨nb, hnb, _⟩ := DataW.trod_bool hb h0
  simp at hnb
  subst hnb
  obtain ⟨a, g, c, e1, hsl, hg, hlen, hcap⟩ := dec_sliceH (en := eG) (Pm := fun x => 0 ≤ x) hs (by omega) (fun r n y hr hy => by
    obtain ⟨x, rfl, hw⟩ := dec_int he hy
    refine ⟨x, rfl, ?_⟩
    simp [Lit.wf] at hw
    have h32 : IntKind.u32.min = 0 := by decide
    rw [h32] at hw
    exact hw.1) h1
  simp at e1
  subst e1
  exact ⟨nb, a, g, c, rfl, hg, hsl, hcap, hlen⟩
/-- a fraction's four cells -/
theorem dec_RH {tr t tb ts te : TypeId} {fr fs : Array Field} {n : Nat} {cs : List Value} {y : DataW H × List MemPlace} (hr : P.underlying tr = some (.struct fr)) (hfr : fr.toList.map (fun f => (f.offset, f.type)) = [(0, t), (2, t)]) (ht : P.underlying t = some (.struct fs)) (hf : fs.toList.map (fun f => (f.offset, f.type)) = [(0, tb), (1, ts)]) (hb : P.underlying tb = some .bool) (hs : P.underlying ts = some (.slice te)) (he : P.underlying te = some (.int .u32))
    (c1 : P.cellsOf tb = 1) (c2 : P.cellsOf ts = 1) (c3 : P.cellsOf te = 1) (c4 : P.cellsOf t = 2) (c5 : P.cellsOf tr = 4) (h : DataW.trod enc P W 0 (fun _ => true) true n tr cs = some y) :
    ∃ r : RW, cs = eW r ∧ IsW r [] W := by
  obtain ⟨hl, n', z0, z1, h0, h1⟩ := dec_two2 hr hfr c4 c4 c5 h
  obtain ⟨n1, p1, g1, k1, e1, a1, a2, a3, a4⟩ := dec_IH ht hf hb hs he c1 c2 c3 c4 h0
  obtain ⟨n2, p2, g2, k2, e2, b1, b2, b3, b4⟩ := dec_IH ht hf hb hs he c1 c2 c3 c4 h1
  refine ⟨⟨n1, p1, g1, k1, n2, p2, g2, k2⟩, ?_, ⟨⟨a1, b1, a4, b4, a3, b3⟩, a2, b2⟩⟩
  rw [← List.take_append_drop 2 cs, e1, e2]
  rfl
end
section
variable {H : Type} {enc : TypeId × Value → H} {W : World}
set_option maxRecDepth 100000 in
theorem dec_ratH {n : Nat} {cs : List Value} {y : DataW H × List MemPlace} (h : DataW.trod enc Tryz.prog W 0 (fun _ => true) true n 26 cs = some y) : ∃ r : RW, cs = eW r ∧ IsW r [] W :=
  dec_RH (tb := 4) (ts := 22) (te := 180) (t := 24) (tr := 26) Tryz.underlying26 (by rfl) Tryz.underlying24 (by rfl) Tryz.underlying4 Tryz.underlying22 Tryz.underlying180 (by kernel_rfl) (by kernel_rfl) (by kernel_rfl) (by kernel_rfl) (by kernel_rfl) h
set_option maxRecDepth 100000 in
theorem dec_listH {n : Nat} {cs : List Value} {y : DataW H × List MemPlace} (h : DataW.trod enc Tryz.prog W 0 (fun _ => true) true n 61 cs = some y) : ∃ r : WL, cs = eWL r ∧ IsWL r [] W := by
  obtain ⟨a, ms, c, e, hs, hm, _, hc⟩ := dec_sliceH (en := eW) (Pm := fun r => IsW r [] W) Tryz.underlying61 (by rw [show Tryz.prog.cellsOf 26 = 4 by kernel_rfl]; decide) (fun r n y _ hy => dec_ratH hy) h
  exact ⟨⟨a, c, ms⟩, e, hs, hm, hc⟩
set_option maxRecDepth 100000 in
theorem dec_matH {n : Nat} {cs : List Value} {y : DataW H × List MemPlace} (h : DataW.trod enc Tryz.prog W 0 (fun _ => true) true n 57 cs = some y) : ∃ r : WM, cs = eWM r ∧ IsWM r [] W := by
  obtain ⟨a, ms, c, e, hs, hm, _, hc⟩ := dec_sliceH (en := eWL) (Pm := fun r => IsWL r [] W) Tryz.underlying57 (by rw [show Tryz.prog.cellsOf 61 = 1 by kernel_rfl]; decide) (fun r n y _ hy => dec_listH hy) h
  exact ⟨⟨a, c, ms⟩, e, hs, hm, hc⟩
set_option maxRecDepth 100000 in
theorem open_mat {base : Nat} {v : Value} {d : DataW H} {p : List MemPlace} (hv : Value.okWide Tryz.prog W .any base 57 v) (h : DataW.Trod enc Tryz.prog W 0 (fun _ => true) true 57 v d p) : ∃ r : WM, v = mvW r ∧ IsWM r [] W := by
  obtain ⟨a, len, c, rfl⟩ := okWide_slice Tryz.underlying57 hv
  obtain ⟨fuel, hf⟩ := h
  obtain ⟨r, e, i⟩ := dec_matH (cs := [.slice a len c]) hf
  exact ⟨r, (List.cons.inj e).1, i⟩
set_option maxRecDepth 100000 in
theorem open_lst {base : Nat} {v : Value} {d : DataW H} {p : List MemPlace} (hv : Value.okWide Tryz.prog W .any base 61 v) (h : DataW.Trod enc Tryz.prog W 0 (fun _ => true) true 61 v d p) : ∃ r : WL, v = lvW r ∧ IsWL r [] W := by
  obtain ⟨a, len, c, rfl⟩ := okWide_slice Tryz.underlying61 hv
  obtain ⟨fuel, hf⟩ := h
  obtain ⟨r, e, i⟩ := dec_listH (cs := [.slice a len c]) hf
  exact ⟨r, (List.cons.inj e).1, i⟩
set_option maxRecDepth 100000 in
theorem open_rat {base : Nat} {v : Value} {d : DataW H} {p : List MemPlace} (hv : Value.okWide Tryz.prog W .any base 26 v) (h : DataW.Trod enc Tryz.prog W 0 (fun _ => true) true 26 v d p) : ∃ r : RW, v = wv r ∧ IsW r [] W := by
  simp only [Value.okWide, Tryz.underlying26] at hv
  obtain ⟨cs, rfl, hsz, hrow⟩ := hv
  obtain ⟨fuel, hf⟩ := h
  obtain ⟨r, e, i⟩ := dec_ratH (cs := cs.toList) hf
  exact ⟨r, by rw [show cs = cs.toList.toArray by simp, e], i⟩
end
end Go.Proofs.YtdmlebigkakplaaGreat
namespace Go.Proofs.YtdmlebigkakplaaGreat
open Go Go.Fx
theorem Hv.wl1 {I : List Imm} {b : Nat} {κ : RW} (h1 : slI (some ⟨b, 0, none⟩) (recs eW [κ]) ∈ I) (h2 : isW κ ∈ I) : Hv I (isWL ⟨some ⟨b, 0, none⟩, 1, [κ]⟩) := ⟨fun X w hw => ⟨(hw _ h1 : SlI _ _ X w).go, fun e he => by rw [List.mem_singleton.1 he]; exact hw _ h2, ⟨Nat.le_refl _, .inl (Ok.mk _ _)⟩⟩⟩
theorem Hv.shtX {I : List Imm} {a : WM} {A : MX} (e : a = A.raw) (hs : a.sht) (h : isWM a ∈ I) : Hv I (isX A 30) := ⟨fun X w hw => by subst e; exact sht_isX hs (hw _ h)⟩
theorem Hv.shtL {I : List Imm} {a : WL} {A : RL} (e : a = A.raw) (hs : a.sht) (h : isWL a ∈ I) : Hv I (isL A 30) := ⟨fun X w hw => by subst e; exact sht_isL hs (hw _ h)⟩
theorem Hv.shtR {I : List Imm} {a : RW} {A : RE} (e : a = A.raw) (hs : a.brief) (h : isW a ∈ I) : Hv I (isR A 30) := ⟨fun X w hw => by subst e; exact brief_pow hs (hw _ h)⟩
/-- what comes in, if it is a matrix -/
theorem ok_raw {a : WM} (hf : ∀ r ∈ a.rows, ∀ e ∈ r.es, e.Fit) (h : a.ok) : ∃ A : MX, a = A.raw ∧ A.fit a.rows.length (gt a.rows 0).es.length := by
  obtain ⟨A, rfl⟩ := WM.good_raw hf (fun r hr => (h.2 r hr).2)
  refine ⟨A, rfl, ?_⟩
  obtain ⟨h1, h2, h3, h4, h5⟩ := ok_dim h
  have e : (gt A.raw.rows 0).es.length = (gt A.rows 0).es.length := by
    rw [show A.raw.rows = A.rows.map RL.raw from rfl, gt_map (by omega)]
    show ((gt A.rows 0).es.map RE.raw).length = _
    rw [List.length_map]
  rw [A.raw_rows, e]
  exact ⟨h1, ⟨h2, h3⟩, h4, h5⟩
theorem Mem.fitM {X : List Nat} {w0 w : World} {M : List Ent} {I : List Imm} {a : WM} (h : isWM a ∈ I) (hw : Mem X w0 M I w) : ∀ r ∈ a.rows, ∀ e ∈ r.es, e.Fit := fun r hr e he => ((((hw.imm _ h).2 : IsWM a _ w).row r hr).el e he).fit
theorem Mem.fitL {X : List Nat} {w0 w : World} {M : List Ent} {I : List Imm} {a : WL} (h : isWL a ∈ I) (hw : Mem X w0 M I w) : ∀ e ∈ a.es, e.Fit := fun e he => (((hw.imm _ h).2 : IsWL a _ w).el e he).fit
theorem Mem.fitR {X : List Nat} {w0 w : World} {M : List Ent} {I : List Imm} {a : RW} (h : isW a ∈ I) (hw : Mem X w0 M I w) : a.Fit := ((hw.imm _ h).2 : IsW a _ w).fit
theorem sht_dims {a : WM} {A : MX} {R C : Nat} (e : a = A.raw) (hs : a.sht) (d : A.fit R C) : R ≤ 6 ∧ C ≤ 6 := by
  subst e
  have h1 : A.raw.rows.length ≤ 6 := hs.1
  rw [A.raw_rows, d.1.1] at h1
  refine ⟨h1, ?_⟩
  have hl := d.1.1
  have hr := d.2.1
  have hm : (gt A.rows 0).raw ∈ A.raw.rows := List.mem_map.2 ⟨gt A.rows 0, gt_mem (by omega), rfl⟩
  have h2 : (gt A.rows 0).raw.es.length ≤ 6 := (hs.2 _ hm).1
  rw [show (gt A.rows 0).raw.es = (gt A.rows 0).es.map RE.raw from rfl, List.length_map, d.r0] at h2
  exact h2
theorem good_rawL {x : WL} (hf : ∀ e ∈ x.es, e.Fit) (h : x.good) : ∃ A : RL, x = A.raw ∧ A.es.length = x.es.length := by
  obtain ⟨A, rfl⟩ := WL.good_raw hf h
  exact ⟨A, rfl, by show A.es.length = (A.es.map RE.raw).length; rw [List.length_map]⟩
end Go.Proofs.YtdmlebigkakplaaGreat
