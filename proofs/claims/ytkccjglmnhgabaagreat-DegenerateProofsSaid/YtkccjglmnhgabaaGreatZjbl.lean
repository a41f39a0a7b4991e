/- Arguments opened, with what their sizes are at most: lists, matrices, fractions, wherever they lie. Short numbers: the document's Short; what short numbers are. What the laws of matrices share. Vectors of space in memory; products of lists. Proofs of ranks as they come in; checkIndices. -/
import Derived.Test.YtkccjglmnhgabaaGreatZjbk
import Derived.SizedLaws
import Derived.Test.YtkccjglmnhgabaaGreatZjam
import Derived.Test.YtkccjglmnhgabaaGreatZjbj
set_option linter.unusedSimpArgs false
set_option linter.unusedVariables false
set_option maxRecDepth 100000
set_option maxHeartbeats 4000000
namespace Go.Proofs.YtkccjglmnhgabaaGreat
open Go Go.Fx
open Go.ChangeShapes Go.WideShapes Go.RowKit Go.ChangeAt
def WL.rch (r : WL) : Prop := r.es.length ≤ 35184372088832 ∧ ∀ e ∈ r.es, e.reach
def WM.rch (m : WM) : Prop := m.rows.length ≤ 35184372088832 ∧ ∀ r ∈ m.rows, r.rch
section
variable {H : Type} {enc : TypeId × Value → H} {P : Program} {W : World}
theorem uE {e : TypeId} {z : Nat} : ∀ {ds : List (DataW H)} {d : DataW H}, d ∈ ds → z ∈ d.weights P e → z ∈ DataW.weightsAll P e ds
 | [], _, h, _ => by simp at h
 | x :: r, d, h, hz => by
  simp only [DataW.weightsAll, List.mem_append]
  rcases List.mem_cons.1 h with rfl | h
  ·exact .inl hz
  ·exact .inr (uE h hz)
theorem pV {ts : List TypeId} {ds : List (DataW H)} (h : (DataW.weightsEach P ts ds).all (· ≤ reachBytes) = true) {j : Nat} {t : TypeId} {d : DataW H} (ht : ts[j]? = some t) (hd : ds[j]? = some d) : ∀ x ∈ d.weights P t, x ≤ reachBytes := by
 induction ts generalizing ds j with
 | nil => simp at ht
 | cons t' ts ih =>
  cases ds with
  | nil => simp at hd
  | cons d' ds =>
   simp only [DataW.weightsEach, List.all_append, Bool.and_eq_true] at h
   cases j with
   | zero =>
    simp at ht hd
    subst ht; subst hd
    intro x hx
    exact of_decide_eq_true (List.all_eq_true.1 h.1 x hx)
   | succ j => exact ih h.2 (by simpa using ht) (by simpa using hd)
theorem aOK {fuel : Nat} {t e : TypeId} {cs : List Value} {x : DataW H × List MemPlace} (ht : P.underlying t = some (.slice e)) (hc : 1 ≤ P.cellsOf e) (h : DataW.trod enc P W 0 (fun _ => true) true fuel t cs = some x) (hw : ∀ z ∈ x.1.weights P t, z ≤ reachBytes) :
  ∃ (a : Option Addr) (len c : Nat), cs = [.slice a len c] ∧ (len : Int) ≤ 9223372036854775807 ∧ Cap a len c ∧
   ∃ rows : List (List Value), rows.length = len ∧ (∀ r ∈ rows, r.length = P.cellsOf e ∧ ∃ n y, DataW.trod enc P W 0 (fun _ => true) true n e r = some y ∧ (∀ z ∈ y.1.weights P e, z ≤ reachBytes)) ∧ len * P.bytesOf e ≤ reachBytes ∧ Sl [] W a rows.flatten := by
 rcases DataW.trod_slice ht h with ⟨hcs, _⟩ | ⟨a', len, c, elems, rest, n, _, hcs, hx, _, hlc, hcm, hlen, hel, hsp, _⟩
 ·exact ⟨none, 0, 0, hcs, by omega, ⟨Nat.le_refl _, .inr ⟨rfl, rfl⟩⟩, [], rfl, by simp, by simp, Sl.nil _ _ _⟩
 ·have hm : maxLen = 9223372036854775807 := by decide
  obtain ⟨hrl, hsp⟩ := hsp rfl
  subst hx
  have hwt : ∀ z ∈ (elems.length + rest.length) * P.bytesOf e :: (DataW.weightsAll P e (elems.map (·.1)) ++ DataW.weightsAll P e (rest.map (·.1))), z ≤ reachBytes := fun z hz => hw z (by simpa [DataW.weights, ht] using hz)
  have hwl : len * P.bytesOf e ≤ reachBytes := Nat.le_trans (Nat.mul_le_mul_right _ (by omega)) (hwt _ List.mem_cons_self)
  have hwe : ∀ y ∈ elems, ∀ z ∈ y.1.weights P e, z ≤ reachBytes := fun y hy z hz => hwt z (List.mem_cons_of_mem _ (List.mem_append_left _ (uE (List.mem_map.2 ⟨y, hy, rfl⟩) hz)))
  have hspot : 0 < c → Ok (some a') := fun h0 => by
   have : ∃ v, W.cell? a' = some v := by
    by_cases hl : 0 < len
    ·have := hel 0 hl
     rw [List.getElem?_eq_getElem (by omega), Option.bind_eq_some_iff] at this
     obtain ⟨cs', h1, _⟩ := this
     obtain ⟨_, hl2, hcell⟩ := World.cells?_some h1
     have := hcell 0 (by omega)
     rw [List.getElem?_eq_getElem (by omega)] at this
     have e1 : (a'.add (0 * P.cellsOf e)).add 0 = a' := by simp [Addr.add]
     rw [e1] at this
     exact ⟨_, this⟩
    ·have hl0 : len = 0 := by omega
     have := hsp 0 (by omega)
     rw [List.getElem?_eq_getElem (by omega), Option.bind_eq_some_iff] at this
     obtain ⟨cs', h1, _⟩ := this
     obtain ⟨_, hl2, hcell⟩ := World.cells?_some h1
     have := hcell 0 (by omega)
     rw [List.getElem?_eq_getElem (by omega)] at this
     have e1 : (a'.add ((len + 0) * P.cellsOf e)).add 0 = a' := by simp [Addr.add, hl0]
     rw [e1] at this
     exact ⟨_, this⟩
   obtain ⟨v, hv⟩ := this
   unfold World.cell? at hv
   cases a' with
   | mk b o s =>
    have : s = none := by
     cases s with
     | none => rfl
     | some s => split at hv <;> simp at hv
    subst this
    exact Ok.mk b o
  have hcap : Cap (some a') len c := ⟨hlc, by
   by_cases h0 : 0 < c
   ·exact .inl (hspot h0)
   ·exact .inr ⟨by omega, by omega⟩⟩
  refine ⟨some a', len, c, hcs, by omega, hcap, ?_⟩
  have each : ∀ i, i < len → ∃ cs y, W.cells? 0 (a'.add (i * P.cellsOf e)) (P.cellsOf e) = some cs ∧ DataW.trod enc P W 0 (fun _ => true) true n e cs = some y ∧ y ∈ elems := fun i hi => by
   have := hel i hi
   rw [List.getElem?_eq_getElem (by omega), Option.bind_eq_some_iff] at this
   obtain ⟨cs, h1, h2⟩ := this
   exact ⟨cs, _, h1, h2, List.getElem_mem _⟩
  refine ⟨(List.range len).map (fun i => (W.cells? 0 (a'.add (i * P.cellsOf e)) (P.cellsOf e)).getD []), by simp, ?_, hwl, ?_⟩
  ·intro r hr
   obtain ⟨i, hi, rfl⟩ := List.mem_map.1 hr
   obtain ⟨cs, y, h4, h5, h6⟩ := each i (by simpa using hi)
   rw [h4]
   exact ⟨(World.cells?_some h4).2.1, n, y, h5, hwe y h6⟩
  ·intro j v hj
   have hall : ∀ r ∈ (List.range len).map (fun i => (W.cells? 0 (a'.add (i * P.cellsOf e)) (P.cellsOf e)).getD []), r.length = P.cellsOf e := by
    intro r hr
    obtain ⟨i, hi, rfl⟩ := List.mem_map.1 hr
    obtain ⟨cs, y, h4, h5, _⟩ := each i (by simpa using hi)
    rw [h4]
    exact (World.cells?_some h4).2.1
   obtain ⟨i, row, h4, h5, h6⟩ := aIH _ j v hall hj
   rw [List.getElem?_map] at h4
   obtain ⟨i', hi', rfl⟩ := Option.map_eq_some_iff.1 h4
   have hii : i' = i ∧ i < len := by
    obtain ⟨q1, q2⟩ := List.getElem?_eq_some_iff.1 hi'
    rw [List.getElem_range] at q2
    exact ⟨q2.symm, by simpa using q1⟩
   obtain ⟨rfl, hil⟩ := hii
   have hok : Ok (some a') := hspot (by omega)
   obtain ⟨cs, y, h7, h8, _⟩ := each i' hil
   rw [h7] at h6
   simp only [Option.getD_some] at h6
   obtain ⟨_, hl, hc'⟩ := World.cells?_some h7
   have hlt : j - i' * P.cellsOf e < P.cellsOf e := by
    have := (List.getElem?_eq_some_iff.1 h6).1
    omega
   have hcell := hc' _ hlt
   rw [h6] at hcell
   refine ⟨hok, by simp, ?_⟩
   obtain ⟨b, o, eq⟩ := hok.cases
   injection eq with eq
   subst eq
   rw [add_lit, add_lit] at hcell
   rw [← hcell]
   simp only [pt, bl, of, Option.getD_some]
   congr 2
   omega
theorem tX {α : Type} {en : α → List Value} {Pm : α → Prop} {fuel : Nat} {t e : TypeId} {cs : List Value} {x : DataW H × List MemPlace} (ht : P.underlying t = some (.slice e)) (hc : 1 ≤ P.cellsOf e)
  (hdec : ∀ (r : List Value) n y, r.length = P.cellsOf e → DataW.trod enc P W 0 (fun _ => true) true n e r = some y → (∀ z ∈ y.1.weights P e, z ≤ reachBytes) → ∃ m, r = en m ∧ Pm m) (h : DataW.trod enc P W 0 (fun _ => true) true fuel t cs = some x) (hw : ∀ z ∈ x.1.weights P t, z ≤ reachBytes) :
  ∃ (a : Option Addr) (ms : List α) (c : Nat), cs = [.slice a ms.length c] ∧ Sl [] W a (recs en ms) ∧ (∀ m ∈ ms, Pm m) ∧ (ms.length : Int) ≤ 9223372036854775807 ∧ Cap a ms.length c ∧ ms.length * P.bytesOf e ≤ reachBytes := by
 obtain ⟨a, len, c, rfl, h1, h3, rows, hl, hr, hwl, hs⟩ := aOK ht hc h hw
 have key : ∀ rows : List (List Value), (∀ r ∈ rows, r.length = P.cellsOf e ∧ ∃ n y, DataW.trod enc P W 0 (fun _ => true) true n e r = some y ∧ (∀ z ∈ y.1.weights P e, z ≤ reachBytes)) → ∃ ms : List α, rows = ms.map en ∧ ∀ m ∈ ms, Pm m := by
  intro rows
  induction rows with
  | nil => intro _; exact ⟨[], rfl, by simp⟩
  | cons r rows ih =>
   intro hr
   obtain ⟨hrl, n, y, hy, hwy⟩ := hr r (by simp)
   obtain ⟨m, rfl, hm⟩ := hdec r n y hrl hy hwy
   obtain ⟨ms, rfl, hms⟩ := ih (fun r' hr' => hr r' (by simp [hr']))
   exact ⟨m :: ms, rfl, fun m' hm' => by
    rcases List.mem_cons.1 hm' with rfl | hm'
    ·exact hm
    ·exact hms m' hm'⟩
 obtain ⟨ms, rfl, hms⟩ := key rows hr
 have hlen : ms.length = len := by simpa using hl
 subst hlen
 refine ⟨a, ms, c, rfl, ?_, hms, h1, h3, hwl⟩
 rw [← List.flatMap_def] at hs
 exact hs
theorem aHX {tr t0 t1 : TypeId} {fr : Array Field} {m k n : Nat} {cs : List Value} {y : DataW H × List MemPlace} (hr : P.underlying tr = some (.struct fr)) (hfr : fr.toList.map (fun f => (f.offset, f.type)) = [(0, t0), (m, t1)]) (cm : P.cellsOf t0 = m) (ck : P.cellsOf t1 = k) (c5 : P.cellsOf tr = m + k) (h : DataW.trod enc P W 0 (fun _ => true) true n tr cs = some y) (hw : ∀ z ∈ y.1.weights P tr, z ≤ reachBytes) :
  cs.length = m + k ∧ ∃ n' z0 z1, DataW.trod enc P W 0 (fun _ => true) true n' t0 (cs.take m) = some z0 ∧ DataW.trod enc P W 0 (fun _ => true) true n' t1 (cs.drop m) = some z1 ∧ (∀ z ∈ z0.1.weights P t0, z ≤ reachBytes) ∧ (∀ z ∈ z1.1.weights P t1, z ≤ reachBytes) := by
 obtain ⟨zs, n', rfl, rfl, hl, hzl, hz⟩ := DataW.trod_struct hr h
 have hsz : fr.toList.length = 2 := by have := congrArg List.length hfr; simpa using this
 obtain ⟨f0, f1, hfs⟩ : ∃ f0 f1, fr.toList = [f0, f1] := by
  match hh : fr.toList, hsz with
  | [a, b], _ => exact ⟨a, b, rfl⟩
 rw [hfs] at hfr
 simp only [List.map_cons, List.map_nil, List.cons.injEq, Prod.mk.injEq, and_true] at hfr
 obtain ⟨⟨o0, e0⟩, o1, e1⟩ := hfr
 rw [c5] at hl
 have hg0 : fr[0]? = some f0 := by rw [← Array.getElem?_toList, hfs]; rfl
 have hg1 : fr[1]? = some f1 := by rw [← Array.getElem?_toList, hfs]; rfl
 have h0 := hz 0 f0 hg0
 have h1 := hz 1 f1 hg1
 rw [o0, e0, cm] at h0
 rw [o1, e1, ck] at h1
 have hz2 : zs.length = 2 := by rw [hzl]; simpa using hsz
 obtain ⟨z0, z1, rfl⟩ : ∃ z0 z1, zs = [z0, z1] := by
  match zs, hz2 with
  | [a, b], _ => exact ⟨a, b, rfl⟩
 simp only [List.drop_zero, List.getElem?_cons_zero, List.getElem?_cons_succ] at h0 h1
 rw [List.take_of_length_le (l := cs.drop m) (by simp; omega)] at h1
 have hww : ∀ x ∈ DataW.weights P t0 z0.1 ++ DataW.weights P t1 z1.1, x ≤ reachBytes := fun x hx => hw x (by simp [DataW.weights, hr, hfs, DataW.weightsEach, e0, e1]; simpa using hx)
 exact ⟨hl, n', z0, z1, h0, h1, fun x hx => hww x (List.mem_append.2 (.inl hx)), fun x hx => hww x (List.mem_append.2 (.inr hx))⟩
theorem aTS {t tb ts te : TypeId} {fs : Array Field} {n : Nat} {cs : List Value} {y : DataW H × List MemPlace} (ht : P.underlying t = some (.struct fs)) (hf : fs.toList.map (fun f => (f.offset, f.type)) = [(0, tb), (1, ts)]) (hb : P.underlying tb = some .bool) (hs : P.underlying ts = some (.slice te)) (he : P.underlying te = some (.int .u32))
  (c1 : P.cellsOf tb = 1) (c2 : P.cellsOf ts = 1) (c3 : P.cellsOf te = 1) (c4 : P.cellsOf t = 2) (hB : P.bytesOf te = 4) (h : DataW.trod enc P W 0 (fun _ => true) true n t cs = some y) (hw : ∀ z ∈ y.1.weights P t, z ≤ reachBytes) :
  ∃ (nb : Bool) (a : Option Addr) (g : List Int) (c : Nat), cs = [.bool nb, .slice a g.length c] ∧ (∀ x ∈ g, 0 ≤ x) ∧ Sl [] W a (recs eG g) ∧ Cap a g.length c ∧ (g.length : Int) ≤ 9223372036854775807 ∧ g.length ≤ 35184372088832 := by
 obtain ⟨hl, n', z0, z1, h0, h1, hw0, hw1⟩ := aHX ht hf c1 c2 c4 h hw
 obtain ⟨u0, u1, rfl⟩ : ∃ u0 u1, cs = [u0, u1] := by
  match cs, hl with
  | [a, b], _ => exact ⟨a, b, rfl⟩
 obtain ⟨nb, hnb, _⟩ := DataW.trod_bool hb h0
 simp at hnb
 subst hnb
 obtain ⟨a, g, c, e1, hsl, hg, hlen, hcap, hgl⟩ := tX (en := eG) (Pm := fun x => 0 ≤ x) hs (by omega) (fun r n y hr hy _ => by
  obtain ⟨x, rfl, hw⟩ := aLE he hy
  refine ⟨x, rfl, ?_⟩
  simp [Lit.wf] at hw
  have h32 : IntKind.u32.min = 0 := by decide
  rw [h32] at hw
  exact hw.1) h1 hw1
 simp at e1
 subst e1
 exact ⟨nb, a, g, c, rfl, hg, hsl, hcap, hlen, by rw [hB] at hgl; have : reachBytes = 140737488351232 := rfl; omega⟩
theorem aYA {tr t tb ts te : TypeId} {fr fs : Array Field} {n : Nat} {cs : List Value} {y : DataW H × List MemPlace} (hr : P.underlying tr = some (.struct fr)) (hfr : fr.toList.map (fun f => (f.offset, f.type)) = [(0, t), (2, t)]) (ht : P.underlying t = some (.struct fs)) (hf : fs.toList.map (fun f => (f.offset, f.type)) = [(0, tb), (1, ts)]) (hb : P.underlying tb = some .bool) (hs : P.underlying ts = some (.slice te)) (he : P.underlying te = some (.int .u32))
  (c1 : P.cellsOf tb = 1) (c2 : P.cellsOf ts = 1) (c3 : P.cellsOf te = 1) (c4 : P.cellsOf t = 2) (c5 : P.cellsOf tr = 4) (hB : P.bytesOf te = 4) (h : DataW.trod enc P W 0 (fun _ => true) true n tr cs = some y) (hw : ∀ z ∈ y.1.weights P tr, z ≤ reachBytes) :
  ∃ r : RW, cs = eW r ∧ IsW r [] W ∧ r.reach := by
 obtain ⟨hl, n', z0, z1, h0, h1, hw0, hw1⟩ := aHX hr hfr c4 c4 c5 h hw
 obtain ⟨n1, p1, g1, k1, e1, a1, a2, a3, a4, a5⟩ := aTS ht hf hb hs he c1 c2 c3 c4 hB h0 hw0
 obtain ⟨n2, p2, g2, k2, e2, b1, b2, b3, b4, b5⟩ := aTS ht hf hb hs he c1 c2 c3 c4 hB h1 hw1
 refine ⟨⟨n1, p1, g1, k1, n2, p2, g2, k2⟩, ?_, ⟨⟨a1, b1, a4, b4, a3, b3⟩, a2, b2⟩, a5, b5⟩
 rw [← List.take_append_drop 2 cs, e1, e2]
 rfl
end
section
variable {H : Type} {enc : TypeId × Value → H} {W : World}
theorem aIT {n : Nat} {cs : List Value} {y : DataW H × List MemPlace} (h : DataW.trod enc Tryz.prog W 0 (fun _ => true) true n 37 cs = some y) (hw : ∀ z ∈ y.1.weights Tryz.prog 37, z ≤ reachBytes) : ∃ r : RW, cs = eW r ∧ IsW r [] W ∧ r.reach :=
 aYA (tb := 4) (ts := 33) (te := 179) (t := 35) (tr := 37) Tryz.underlying37 (by rfl) Tryz.underlying35 (by rfl) Tryz.underlying4 Tryz.underlying33 Tryz.underlying179 (by kernel_rfl) (by kernel_rfl) (by kernel_rfl) (by kernel_rfl) (by kernel_rfl) (by kernel_rfl) h hw
theorem aOR {n : Nat} {cs : List Value} {y : DataW H × List MemPlace} (h : DataW.trod enc Tryz.prog W 0 (fun _ => true) true n 39 cs = some y) (hw : ∀ z ∈ y.1.weights Tryz.prog 39, z ≤ reachBytes) : ∃ r : WL, cs = uO r ∧ IsWL r [] W ∧ r.rch := by
 obtain ⟨a, ms, c, e, hs, hm, _, hc, hl⟩ := tX (en := eW) (Pm := fun r => IsW r [] W ∧ r.reach) Tryz.underlying39 (by rw [show Tryz.prog.cellsOf 37 = 4 by kernel_rfl]; decide) (fun r n y _ hy hw => aIT hy hw) h hw
 rw [show Tryz.prog.bytesOf 37 = 64 by kernel_rfl] at hl
 have hr : reachBytes = 140737488351232 := rfl
 exact ⟨⟨a, c, ms⟩, e, ⟨hs, fun e he => (hm e he).1, hc⟩, by show ms.length ≤ _; omega, fun e he => (hm e he).2⟩
theorem aIJ {n : Nat} {cs : List Value} {y : DataW H × List MemPlace} (h : DataW.trod enc Tryz.prog W 0 (fun _ => true) true n 28 cs = some y) (hw : ∀ z ∈ y.1.weights Tryz.prog 28, z ≤ reachBytes) : ∃ r : WM, cs = eWM r ∧ IsWM r [] W ∧ r.rch := by
 obtain ⟨a, ms, c, e, hs, hm, _, hc, hl⟩ := tX (en := uO) (Pm := fun r => IsWL r [] W ∧ r.rch) Tryz.underlying28 (by rw [show Tryz.prog.cellsOf 39 = 1 by kernel_rfl]; decide) (fun r n y _ hy hw => aOR hy hw) h hw
 rw [show Tryz.prog.bytesOf 39 = 24 by kernel_rfl] at hl
 have hr : reachBytes = 140737488351232 := rfl
 exact ⟨⟨a, c, ms⟩, e, ⟨hs, fun e he => (hm e he).1, hc⟩, by show ms.length ≤ _; omega, fun e he => (hm e he).2⟩
theorem uZ {base : Nat} {v : Value} {d : DataW H} {p : List MemPlace} (hv : Value.okWide Tryz.prog W .any base 28 v) (h : DataW.Trod enc Tryz.prog W 0 (fun _ => true) true 28 v d p) (hw : ∀ x ∈ d.weights Tryz.prog 28, x ≤ reachBytes) : ∃ r : WM, v = yI r ∧ IsWM r [] W ∧ r.rch := by
 obtain ⟨a, len, c, rfl⟩ := okWide_slice Tryz.underlying28 hv
 obtain ⟨fuel, hf⟩ := h
 obtain ⟨r, e, i, hr⟩ := aIJ (cs := [.slice a len c]) hf hw
 exact ⟨r, (List.cons.inj e).1, i, hr⟩
end
end Go.Proofs.YtkccjglmnhgabaaGreat
namespace Go.Proofs.YtkccjglmnhgabaaGreat
open Go Go.Fx
def RW.dig (r : RW) : Nat := r.g1.length + r.g2.length
def WL.shN (r : WL) (n g : Nat) : Prop := r.es.length ≤ n ∧ ∀ e ∈ r.es, e.dig ≤ g ∧ (g ≤ 6 → e.brief)
instance WL.decN (r : WL) (n g : Nat) : Decidable (r.shN n g) := by unfold WL.shN; exact inferInstance
def WM.shN (m : WM) (n g : Nat) : Prop := m.rows.length ≤ n ∧ ∀ r ∈ m.rows, r.shN n g
instance WM.decN (m : WM) (n g : Nat) : Decidable (m.shN n g) := by unfold WM.shN; exact inferInstance
instance WM.decG (m : WM) : Decidable (∀ r ∈ m.rows, r.good) := inferInstance
theorem Hv.shL {I : List aZ} {y : WL} {Y : RL} {n g : Nat} (e : y = Y.raw) (hs : y.shN n g) (h : vP y ∈ I) : Hv I (nD Y (30 * g)) := ⟨fun X w hw => by
 subst e
 have hi := (hw _ h : IsWL Y.raw X w)
 exact ⟨by have := hi.sl; rw [show Y.raw.es = Y.es.map RE.raw from rfl, aCK] at this; exact this, fun e he => by
  have h1 := (hs.2 e.raw (List.mem_map.2 ⟨e, he, rfl⟩)).1
  unfold RW.dig at h1
  exact RE.isR_raw (hi.el e.raw (List.mem_map.2 ⟨e, he, rfl⟩)) (by omega) (by omega), by have := hi.cap; rw [show Y.raw.es.length = Y.es.length from by show (Y.es.map RE.raw).length = _; rw [List.length_map]] at this; exact this⟩⟩
theorem WL.shN.sml {y : WL} {n g : Nat} (hn : n ≤ 1000000 ∧ g ≤ 1000000) (hs : y.shN n g) : y.sml := ⟨by have := hs.1; omega, fun e he => by have := (hs.2 e he).1; unfold RW.dig at this; exact ⟨by omega, by omega⟩⟩
theorem Hv.shX {I : List aZ} {y : WM} {Y : MX} {n g : Nat} (e : y = Y.raw) (hs : y.shN n g) (h : iE y ∈ I) : Hv I (fJ Y (30 * g)) := ⟨fun X w hw => by
 subst e
 have hi := (hw _ h : IsWM Y.raw X w)
 refine ⟨by have := hi.sl; rw [show Y.raw.rows = Y.rows.map RL.raw from rfl, zM] at this; exact this, fun r hr => ?_, by have := hi.cap; rw [show Y.raw.rows.length = Y.rows.length from MX.raw_rows _] at this; exact this⟩
 have hr2 := hi.row r.raw (List.mem_map.2 ⟨r, hr, rfl⟩)
 have hs2 := hs.2 r.raw (List.mem_map.2 ⟨r, hr, rfl⟩)
 exact (Hv.shL (I := [vP r.raw]) rfl hs2 (List.Mem.head _)).go X w (fun φ hφ => by rw [List.mem_singleton.1 hφ]; exact hr2)⟩
theorem WM.shN.smlN {m : WM} {n g : Nat} (hn : n ≤ 1000000 ∧ g ≤ 1000000) (hs : m.shN n g) : m.sml := ⟨by have := hs.1; omega, fun r hr => WL.shN.sml hn (hs.2 r hr)⟩
theorem Hv.brX {I : List aZ} {y : WM} {Y : MX} {n g : Nat} (e : y = Y.raw) (hg : g ≤ 6) (hs : y.shN n g) (h : iE y ∈ I) : Hv I (fJ Y 30) := ⟨fun X w hw => by
 subst e
 have hi := (hw _ h : IsWM Y.raw X w)
 refine ⟨by have := hi.sl; rw [show Y.raw.rows = Y.rows.map RL.raw from rfl, zM] at this; exact this, fun r hr => ?_, by have := hi.cap; rw [show Y.raw.rows.length = Y.rows.length from MX.raw_rows _] at this; exact this⟩
 have hr2 := hi.row r.raw (List.mem_map.2 ⟨r, hr, rfl⟩)
 have hs2 := hs.2 r.raw (List.mem_map.2 ⟨r, hr, rfl⟩)
 refine ⟨by have := hr2.sl; rw [show r.raw.es = r.es.map RE.raw from rfl, aCK] at this; exact this, fun e he => ?_, by have := hr2.cap; rw [show r.raw.es.length = r.es.length from by show (r.es.map RE.raw).length = _; rw [List.length_map]] at this; exact this⟩
 exact aNT ((hs2.2 e.raw (List.mem_map.2 ⟨e, he, rfl⟩)).2 hg) (hr2.el e.raw (List.mem_map.2 ⟨e, he, rfl⟩))⟩
section
variable {X : List Nat} {w0 : World} {M0 : List Ent} {I0 : List aZ}
theorem aCJ {r : RW} (h : r.reach) : CD Tryz.prog 81 [wv r] X w0 M0 I0 (fun v M I => M0 = M ∧ I0 = I ∧ v = .int .i64 (r.g1.length + r.g2.length)) := by
 obtain ⟨h1, h2⟩ := h
 refine aU Tryz.func81 rfl Tryz.ntmps81 rfl ?_
 refine aI ?_
 refine aH ?_
 (refine aR rfl rfl rfl ?_; intro b1; refine ⟨okF, ?_⟩)
 repeat (refine aK ?_)
 refine aF (by first | exact .inl rfl | exact .inr rfl) rfl rfl _ _ aG aD (⟨rfl, rfl, rfl⟩)
theorem aHP {r : WL} {n g : Nat} (hn : n ≤ 1000000 ∧ g ≤ 1000000) (hR : r.rch) (hw : vP r ∈ I0) : CD Tryz.prog 58 [lvW r, .int .i64 (n : Int), .int .i64 (g : Int)] X w0 M0 I0 (fun v M I => M0 = M ∧ I0 = I ∧ v = .bool (B (r.shN n g))) := by
 refine cK (φ := aQ r.p (recs eW r.es)) (Hv.wlsl hw) ?_
 have hl := hR.1
 refine lJ Tryz.func58 rfl Tryz.ntmps58 rfl ?_
 repeat' (first | refine aK ?_ | refine aN rfl (fun h => ?_) (fun h => ?_) | refine aO rfl rfl (fun h => ?_) (fun h => ?_) | fail)
 ·refine aF (by first | exact .inl rfl | exact .inr rfl) rfl rfl _ _ aG aD (⟨rfl, rfl, congrArg Value.bool (aX (fun e => by have := e.1; omega)).symm⟩)
 refine aM [0, 2] rfl (fun k G M I => ∃ i : Nat, i ≤ r.es.length ∧ k = r.es.length - i ∧ (∀ j : Nat, j < i → (gt r.es (j : Int)).dig ≤ g ∧ (g ≤ 6 → (gt r.es (j : Int)).brief)) ∧ G = [(7, .int .i64 i)] ∧ M0 = M ∧ I = aQ r.p (recs eW r.es) :: I0) (r.es.length) _ _ _ aP aG aD (⟨0, by omega, rfl, fun j hj => by omega, rfl, rfl, rfl⟩) ?_
 rintro k G M I ⟨i, hi, rfl, hs, rfl, rfl, rfl⟩
 by_cases hi2 : i < r.es.length
 ·have hr := hR.2 _ (dP (ms := r.es) (i := (i : Int)) (by omega))
  have hD := fun M0 I0 => aCJ (X := X) (w0 := w0) (M0 := M0) (I0 := I0) (r := gt r.es (i : Int)) hr
  refine dK (φ := isW (gt r.es (i : Int))) (Hv.wlel (List.Mem.tail _ hw) (by omega)) ?_
  have nxt : (gt r.es (i : Int)).dig ≤ g → (g ≤ 6 → (gt r.es (i : Int)).brief) → ∀ j : Nat, j < i + 1 → (gt r.es (j : Int)).dig ≤ g ∧ (g ≤ 6 → (gt r.es (j : Int)).brief) := fun h1 h2 j hj => by
   by_cases e : j = i
   ·subst e; exact ⟨h1, h2⟩
   ·exact hs j (by omega)
  repeat (refine aK ?_)
  (refine aA rfl (hD _ _) rfl rfl ?_; rintro _ _ _ ⟨rfl, rfl, rfl⟩; refine ⟨okF, ?_⟩)
  by_cases hd : (gt r.es (i : Int)).dig ≤ g
  ·have hd2 : ¬ (g : Int) < ((gt r.es (i : Int)).g1.length + (gt r.es (i : Int)).g2.length : Int) := by unfold RW.dig at hd; omega
   by_cases h6 : g ≤ 6
   ·repeat (refine aK ?_)
    (refine aA rfl (aTD (r := gt r.es (i : Int)) (Hv.mem aB)) rfl rfl ?_; rintro _ _ _ ⟨rfl, rfl, rfl⟩; refine ⟨okF, ?_⟩)
    repeat' (first | refine aK ?_ | refine aN rfl (fun h => ?_) (fun h => ?_) | refine aO rfl rfl (fun h => ?_) (fun h => ?_) | fail)
    ·have hb : ¬ (gt r.es (i : Int)).brief := by assumption
     refine aF (by first | exact .inl rfl | exact .inr rfl) rfl rfl _ _ aG aD (⟨rfl, rfl, congrArg Value.bool (aX (fun e => hb ((e.2 _ (dP (by omega))).2 h6))).symm⟩)
    ·have hb : ¬ ¬ (gt r.es (i : Int)).brief := by assumption
     refine aJ (r.es.length - (i + 1)) _ _ _ (by first | omega | (simp only [List.length_append, List.length_cons, List.length_nil]; omega)) aP aG aD (⟨i + 1, by omega, rfl, nxt hd (fun _ => Decidable.not_not.1 hb), rfl, rfl, rfl⟩)
   ·repeat (refine aK ?_)
    refine aJ (r.es.length - (i + 1)) _ _ _ (by first | omega | (simp only [List.length_append, List.length_cons, List.length_nil]; omega)) aP aG aD (⟨i + 1, by omega, rfl, nxt hd (fun h => absurd h h6), rfl, rfl, rfl⟩)
  ·have hd2 : (g : Int) < ((gt r.es (i : Int)).g1.length + (gt r.es (i : Int)).g2.length : Int) := by unfold RW.dig at hd; omega
   repeat (refine aK ?_)
   refine aF (by first | exact .inl rfl | exact .inr rfl) rfl rfl _ _ aG aD (⟨rfl, rfl, congrArg Value.bool (aX (fun e => hd (e.2 _ (dP (by omega))).1)).symm⟩)
 ·repeat (refine aK ?_)
  refine aF (by first | exact .inl rfl | exact .inr rfl) rfl rfl _ _ aG aD (⟨rfl, rfl, congrArg Value.bool (bB ⟨by omega, fun e he => ?_⟩).symm⟩)
  obtain ⟨j, hj, rfl⟩ := List.mem_iff_getElem.1 he
  have := hs j (by omega)
  rwa [jD hj] at this
end
end Go.Proofs.YtkccjglmnhgabaaGreat
namespace Go.Proofs.YtkccjglmnhgabaaGreat
open Go Go.Fx
end Go.Proofs.YtkccjglmnhgabaaGreat
namespace Go.Proofs.YtkccjglmnhgabaaGreat
open Go Go.Fx
structure V3 where
 x : Rat
 y : Rat
 z : Rat
def V3.dot (a b : V3) : Rat := a.x * b.x + a.y * b.y + a.z * b.z
def V3.sub (a b : V3) : V3 := ⟨a.x - b.x, a.y - b.y, a.z - b.z⟩
def V3.along (a : V3) (s : Rat) (b : V3) : V3 := ⟨a.x + s * b.x, a.y + s * b.y, a.z + s * b.z⟩
structure TE where
 x : RE
 y : RE
 z : RE
instance : Inhabited TE := ⟨⟨default, default, default⟩⟩
abbrev eT (p : TE) : List Value := recs eR [p.x, p.y, p.z]
abbrev tv (p : TE) : Value := .agg (recs eR [p.x, p.y, p.z]).toArray
instance : Sized eT 12 := ⟨fun _ => rfl⟩
instance : Ones eT := ⟨fun m u hu => xK _ u hu⟩
def TE.v (p : TE) : V3 := ⟨p.x.q, p.y.q, p.z.q⟩
structure IsT (p : TE) (k : Nat) (X : List Nat) (w : World) : Prop where
 x : IsR p.x k X w
 y : IsR p.y k X w
 z : IsR p.z k X w
abbrev isT (p : TE) (k : Nat) : aZ := IsT p k
instance (p : TE) (k : Nat) : Fx.Good (IsT p k) := ⟨fun X Y w w' h he hY => ⟨Fx.Good.go (φ := IsR _ _) X Y w w' h.x he hY, Fx.Good.go (φ := IsR _ _) X Y w w' h.y he hY, Fx.Good.go (φ := IsR _ _) X Y w w' h.z he hY⟩⟩
def TE.l (p : TE) (b : Nat) : RL := ⟨some ⟨b, 0, none⟩, 3, [p.x, p.y, p.z]⟩
def TQ (q : V3) (k : Nat) (M0 : List Ent) (I0 : List aZ) (v : Value) (M : List Ent) (I : List aZ) : Prop := M0 = M ∧ ∃ p : TE, v = tv p ∧ p.v = q ∧ I = isT p k :: I0
section
variable {X : List Nat} {w0 : World} {M0 : List Ent} {I0 : List aZ}
theorem aUT {a b : RL} {ka kb n : Nat} (hn : n ≤ 200) (hK : n * (ka + kb + 1) ≤ 100000000000) (la : a.es.length = n) (lb : b.es.length = n) (ha : Hv I0 (nD a ka)) (hb : Hv I0 (nD b kb)) :
  CD Tryz.prog 80 [lv a, lv b] X w0 M0 I0 (RQc (aBH n a.q b.q) (n * (ka + kb + 1)) M0 I0) := by
 have hW := fun M0 I0 => qC (X := X) (w0 := w0) (M0 := M0) (I0 := I0) (x := 0) (by decide) (k := 0) (by decide)
 refine cK (φ := nD a ka) ha (cK (φ := nD b kb) hb.cons ?_)
 refine cK (φ := aQ (a).p (recs eR (a).es)) (Hv.lsl aB) ?_
 refine cK (φ := aQ (b).p (recs eR (b).es)) (Hv.lsl aB) ?_
 refine bF Tryz.func80 rfl Tryz.ntmps80 rfl ?_
 refine aI ?_
 refine aH ?_
 (refine aL rfl rfl ?_; intro b4; refine ⟨okF, ?_⟩)
 repeat (refine aK ?_)
 (refine aA rfl (hW _ _) rfl rfl ?_; rintro _ _ _ ⟨rfl, e0, rfl, he0, rfl⟩; refine ⟨okF, ?_⟩)
 repeat (refine aK ?_)
 (refine aL rfl rfl ?_; intro b6; refine ⟨okF, ?_⟩)
 repeat (refine aK ?_)
 clear hW
 refine aM [1, 4, 6, 16, 17] rfl (fun k G M I => ∃ (t : Nat) (s : RE), t ≤ n ∧ k = n - t ∧ s.q = sm t (fun t => a.q.getD t 0 * b.q.getD t 0) ∧ G = [(18, .int .i64 t)] ∧ M = .blk b6 (eR s) 37 :: .blk b4 [.bool false, .slice none 0 0, .bool false, .slice none 0 0] 37 :: M0 ∧ I = dX s (t * (ka + kb + 1)) :: aQ b.p (recs eR b.es) :: aQ a.p (recs eR a.es) :: nD b kb :: nD a ka :: I0) (n) _ _ _ aP aG aD (⟨0, e0, by omega, rfl, he0, rfl, rfl, by rw [Nat.zero_mul]⟩) ?_
 rintro kk G M I ⟨t, s, ht, rfl, hs, rfl, rfl, rfl⟩
 have hu : t * (ka + kb + 1) ≤ 100000000000 := Nat.le_trans (Nat.mul_le_mul_right _ ht) hK
 by_cases htn : t < n
 ·have hu2 : (t + 1) * (ka + kb + 1) = t * (ka + kb + 1) + (ka + kb) + 1 := by rw [Nat.succ_mul]; omega
  have hK2 : (t + 1) * (ka + kb + 1) ≤ 100000000000 := Nat.le_trans (Nat.mul_le_mul_right _ htn) hK
  have hq : sm (t + 1) (fun t => a.q.getD t 0 * b.q.getD t 0) = s.q + (gt a.es (t : Int)).q * (gt b.es (t : Int)).q := by
   simp only [sm]
   rw [hs, kE (by omega), kE (by omega)]
  generalize t * (ka + kb + 1) = u at *
  repeat (refine aK ?_)
  (refine aL rfl rfl ?_; intro b8; refine ⟨okF, ?_⟩)
  repeat (refine aK ?_)
  (repeat refine aI ?_); refine bR 2 [0, 1, 2, 3, 4, 5, 6, 7, 8] [1, 1, 2, 2, 2, 1, 0, 0, 0] mixed (by kernel_rfl) ?_
  repeat (refine aK ?_)
  (refine aA rfl (xU (k := ka) (m := kb) (by omega) (Hv.lel (r := a) (k := ka) aB (by omega)) (Hv.lel (r := b) (k := kb) aB (by omega))) rfl rfl ?_; rintro _ _ _ ⟨rfl, e2, rfl, he2, rfl⟩; refine ⟨okF, ?_⟩)
  (refine aA rfl (aLN (k := u) (m := ka + kb) (by omega) (Hv.mem aB) (Hv.mem aB)) rfl rfl ?_; rintro _ _ _ ⟨rfl, e3, rfl, he3, rfl⟩; refine ⟨okF, ?_⟩)
  repeat (refine aK ?_)
  rw [← hu2]
  refine aJ (n - (t + 1)) _ _ _ (by first | omega | (simp only [List.length_append, List.length_cons, List.length_nil]; omega)) aP aG aD (⟨t + 1, e3, by omega, rfl, by rw [hq, he3, he2], rfl, rfl, rfl⟩)
 ·obtain rfl : t = n := by omega
  repeat (refine aK ?_)
  refine kU (rs := [.cell 4 37, .tmp 5]) (vs := [rv s, .int .i64 0]) (.inl rfl) rfl (.cellN (cs := eR s) inferInstance rfl aB rfl (.tmp rfl .nil)) rfl M0 (dX s (t * (ka + kb + 1)) :: I0) aG aD ⟨rfl, s, rfl, hs, rfl⟩
end
end Go.Proofs.YtkccjglmnhgabaaGreat
namespace Go.Proofs.YtkccjglmnhgabaaGreat
open Go Go.Fx
structure KW where
 ri : List Int
 ci : List Int
 pr : Option Addr
 cr : Nat
 pc : Option Addr
 cc : Nat
 d : RW
 kn : WM
abbrev eKW (e : KW) : List Value := [.slice e.pr e.ri.length e.cr, .slice e.pc e.ci.length e.cc] ++ (eW e.d ++ [yI e.kn])
abbrev vKW (e : KW) : Value := .agg (eKW e).toArray
structure IsKW (e : KW) (X : List Nat) (w : World) : Prop where
 r : SlI e.pr (recs eZ e.ri) X w
 c : SlI e.pc (recs eZ e.ci) X w
 d : IsW e.d X w
 n : IsWM e.kn X w
 lr : (e.ri.length : Int) ≤ 9223372036854775807
 lc : (e.ci.length : Int) ≤ 9223372036854775807
abbrev isKW (e : KW) : aZ := IsKW e
instance isKW.gd (e : KW) : Fx.Good (IsKW e) := ⟨fun X Y w w' h he hY => ⟨Fx.Good.go (φ := SlI _ _) X Y w w' h.r he hY, Fx.Good.go (φ := SlI _ _) X Y w w' h.c he hY, Fx.Good.go (φ := IsW _) X Y w w' h.d he hY, Fx.Good.go (φ := IsWM _) X Y w w' h.n he hY, h.lr, h.lc⟩⟩
theorem Hv.kwr {I : List aZ} {e : KW} (h : isKW e ∈ I) : Hv I (aQ e.pr (recs eZ e.ri)) := ⟨fun X w hw => (hw _ h : IsKW e X w).r⟩
theorem Hv.kwc {I : List aZ} {e : KW} (h : isKW e ∈ I) : Hv I (aQ e.pc (recs eZ e.ci)) := ⟨fun X w hw => (hw _ h : IsKW e X w).c⟩
theorem Hv.kwd {I : List aZ} {e : KW} (h : isKW e ∈ I) : Hv I (isW e.d) := ⟨fun X w hw => (hw _ h : IsKW e X w).d⟩
theorem Hv.kwn {I : List aZ} {e : KW} (h : isKW e ∈ I) : Hv I (iE e.kn) := ⟨fun X w hw => (hw _ h : IsKW e X w).n⟩
def KE.raw (e : KE) : KW := ⟨e.ri, e.ci, e.pr, e.cr, e.pc, e.cc, e.d.raw, e.kn.raw⟩
theorem aFU (e : KE) : vKW e.raw = vKE e := by
 show Value.agg (([Value.slice e.pr e.ri.length e.cr, Value.slice e.pc e.ci.length e.cc] : List Value) ++ (eW e.d.raw ++ [yI e.kn.raw])).toArray = _
 rw [jT]
 rfl
theorem Hv.kraw {I : List aZ} {e : KE} {k : Nat} (hk : k ≤ 20000000000) (hl : e.ri.length ≤ 1000 ∧ e.ci.length ≤ 1000) (h : isKE e k ∈ I) : Hv I (isKW e.raw) := ⟨fun X w hw => by
 have := (hw _ h : IsKE e k X w)
 exact ⟨this.r, this.c, RE.fit (by omega) this.d, IsX.raw (by omega) this.n, by show (e.ri.length : Int) ≤ _; omega, by show (e.ci.length : Int) ≤ _; omega⟩⟩
theorem Hv.ked {I : List aZ} {e : KE} {k : Nat} (h : isKE e k ∈ I) : Hv I (dX e.d k) := ⟨fun X w hw => (hw _ h : IsKE e k X w).d⟩
theorem Hv.ken {I : List aZ} {e : KE} {k : Nat} (h : isKE e k ∈ I) : Hv I (fJ e.kn k) := ⟨fun X w hw => (hw _ h : IsKE e k X w).n⟩
def inRng (l : List Int) (n : Nat) : Prop := ∀ i ∈ List.range l.length, 0 ≤ gt l (i : Int) ∧ gt l (i : Int) < n
instance inRng.dec (l : List Int) (n : Nat) : Decidable (inRng l n) := inferInstanceAs (Decidable (∀ i ∈ List.range l.length, 0 ≤ gt l (i : Int) ∧ gt l (i : Int) < n))
def rsng (l : List Int) : Prop := ∀ i ∈ List.range l.length, i = 0 ∨ gt l ((i : Int) - 1) < gt l (i : Int)
instance rsng.dec (l : List Int) : Decidable (rsng l) := inferInstanceAs (Decidable (∀ i ∈ List.range l.length, i = 0 ∨ gt l ((i : Int) - 1) < gt l (i : Int)))
def prSome (l : List Int) (n i : Nat) : Prop := ∀ j ∈ List.range i, 0 ≤ gt l (j : Int) ∧ gt l (j : Int) < n
instance prSome.dec (l : List Int) (n i : Nat) : Decidable (prSome l n i) := inferInstanceAs (Decidable (∀ j ∈ List.range i, 0 ≤ gt l (j : Int) ∧ gt l (j : Int) < n))
def prRise (l : List Int) (i : Nat) : Prop := ∀ j ∈ List.range i, j = 0 ∨ gt l ((j : Int) - 1) < gt l (j : Int)
instance prRise.dec (l : List Int) (i : Nat) : Decidable (prRise l i) := inferInstanceAs (Decidable (∀ j ∈ List.range i, j = 0 ∨ gt l ((j : Int) - 1) < gt l (j : Int)))
theorem aGY {p : Nat → Prop} {i : Nat} : (∀ j ∈ List.range (i + 1), p j) ↔ (∀ j ∈ List.range i, p j) ∧ p i := by
 constructor
 ·intro h; exact ⟨fun j hj => h j (List.mem_range.2 (by have := List.mem_range.1 hj; omega)), h i (by simp)⟩
 ·rintro ⟨h1, h2⟩ j hj
  have := List.mem_range.1 hj
  by_cases e : j = i
  ·subst e; exact h2
  ·exact h1 j (List.mem_range.2 (by omega))
theorem aID {l : List Int} {n i : Nat} : prSome l n (i + 1) ↔ prSome l n i ∧ (0 ≤ gt l (i : Int) ∧ gt l (i : Int) < n) := aGY
theorem aHA {l : List Int} {i : Nat} : prRise l (i + 1) ↔ prRise l i ∧ (i = 0 ∨ gt l ((i : Int) - 1) < gt l (i : Int)) := aGY
section
variable {X : List Nat} {w0 : World} {M0 M1 : List Ent} {I0 : List aZ}
theorem aNA {q : Option Addr} {l : List Int} {n c N : Nat} (hl : l.length = n) (hn : (n : Int) ≤ 1000000) (hq : aQ q (recs eZ l) ∈ I0) :
  CD Tryz.prog 71 [.slice q n c, .int .i64 (N : Int)] X w0 M0 I0 (fun v M I => M0 = M ∧ I0 = I ∧ v = .tuple #[.bool (B (inRng l N)), .bool (B (rsng l))]) := by
 refine cK (φ := aQ q (recs eZ l)) (Hv.mem hq) ?_
 refine bF Tryz.func71 rfl Tryz.ntmps71 rfl ?_
 repeat (refine aK ?_)
 refine aM [0, 1, 8, 9] rfl (fun k G M I => ∃ (i : Nat) (bi br : Bool), i ≤ n ∧ k = n - i ∧ bi = B (prSome l N i) ∧ br = B (prRise l i) ∧ G = [(4, .bool bi), (5, .bool br), (10, .int .i64 i)] ∧ M0 = M ∧ I = aQ q (recs eZ l) :: I0) (n) _ _ _ aP aG aD (⟨0, true, true, by omega, rfl, (bB (fun j hj => by simp at hj)).symm, (bB (fun j hj => by simp at hj)).symm, rfl, rfl, rfl⟩) ?_
 rintro kk G M I ⟨i, bi, br, hi, rfl, h1, h2, rfl, rfl, rfl⟩
 by_cases hin : i < n
 ·have e1 : B (prSome l N (i + 1)) = (bi && B (0 ≤ gt l (i : Int) ∧ gt l (i : Int) < N)) := by rw [h1, fE aID]; simp [qH]
  have e2 : B (prRise l (i + 1)) = (br && B (i = 0 ∨ gt l ((i : Int) - 1) < gt l (i : Int))) := by rw [h2, fE aHA]; simp [qH]
  obtain ⟨x, hx⟩ : ∃ x, gt l (i : Int) = x := ⟨_, rfl⟩
  rw [hx] at e1 e2
  have k1 : bi = false ∨ (bi = true ∧ ¬ 0 ≤ x) ∨ (bi = true ∧ 0 ≤ x) := by
   cases bi
   ·exact .inl rfl
   ·by_cases h : 0 ≤ x
    ·exact .inr (.inr ⟨rfl, h⟩)
    ·exact .inr (.inl ⟨rfl, h⟩)
  have k2 : br = false ∨ (br = true ∧ i = 0) ∨ (br = true ∧ ¬ i = 0) := by
   cases br
   ·exact .inl rfl
   ·by_cases h : i = 0
    ·exact .inr (.inl ⟨rfl, h⟩)
    ·exact .inr (.inr ⟨rfl, h⟩)
  clear h1 h2
  rcases k1 with rfl | ⟨rfl, hx0⟩ | ⟨rfl, hx0⟩ <;> rcases k2 with rfl | ⟨rfl, hi0⟩ | ⟨rfl, hi0⟩
  all_goals
   repeat (refine aK ?_)
   rw [hx]
   repeat (refine aK ?_)
   refine aJ (n - (i + 1)) _ _ _ (by first | omega | (simp only [List.length_append, List.length_cons, List.length_nil]; omega)) aP aG aD (⟨i + 1, _, _, by omega, rfl, ?_, ?_, rfl, rfl, rfl⟩)
   ·rw [e1]
    first
    | rfl
    | exact (aX (fun h => hx0 h.1)).symm
    | exact fE ⟨fun h => ⟨hx0, h⟩, fun h => h.2⟩
   ·rw [e2]
    first
    | rfl
    | exact (bB (.inl hi0)).symm
    | exact fE ⟨fun h => .inr h, fun h => h.resolve_left hi0⟩
 ·obtain rfl : i = n := by omega
  have e1 : B (inRng l N) = bi := by rw [h1]; exact fE (by unfold inRng prSome; rw [hl])
  have e2 : B (rsng l) = br := by rw [h2]; exact fE (by unfold rsng prRise; rw [hl])
  rw [e1, e2]
  repeat (refine aK ?_)
  refine aAZ (M' := M0) (I' := I0) SubP.refl aD ?_
  refine iA [4, 5] (by first | exact .inl rfl | exact .inr rfl) rfl rfl rfl _ _ aG aD (⟨rfl, rfl, rfl⟩)
end
end Go.Proofs.YtkccjglmnhgabaaGreat
