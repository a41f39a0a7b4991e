/- Arguments opened, with what their sizes are at most: lists, matrices, fractions, wherever they lie. Chapter 30's law on projection matrices: short, canonical, none, same, project, center. -/
import Derived.Test.YtgeagiikkeiioaaGreatZfbc
import Derived.SizedLaws
import Derived.Test.YtgeagiikkeiioaaGreatZfav
set_option linter.unusedSimpArgs false
set_option linter.unusedVariables false
set_option maxRecDepth 100000
set_option maxHeartbeats 4000000
namespace Go.Proofs.YtgeagiikkeiioaaGreat
open Go Go.Fx
open Go.ChangeShapes Go.WideShapes Go.RowKit Go.ChangeAt
def WL.rch (r : WL) : Prop := r.es.length ≤ 35184372088832 ∧ ∀ e ∈ r.es, e.reach
def WM.rch (m : WM) : Prop := m.rows.length ≤ 35184372088832 ∧ ∀ r ∈ m.rows, r.rch
section
variable {H : Type} {enc : TypeId × Value → H} {P : Program} {W : World}
theorem rZ {e : TypeId} {z : Nat} : ∀ {ds : List (DataW H)} {d : DataW H}, d ∈ ds → z ∈ d.weights P e → z ∈ DataW.weightsAll P e ds
 | [], _, h, _ => by simp at h
 | x :: r, d, h, hz => by
  simp only [DataW.weightsAll, List.mem_append]
  rcases List.mem_cons.1 h with rfl | h
  ·exact .inl hz
  ·exact .inr (rZ h hz)
theorem aBL {ts : List TypeId} {ds : List (DataW H)} (h : (DataW.weightsEach P ts ds).all (· ≤ reachBytes) = true) {j : Nat} {t : TypeId} {d : DataW H} (ht : ts[j]? = some t) (hd : ds[j]? = some d) : ∀ x ∈ d.weights P t, x ≤ reachBytes := by
 induction ts generalizing ds j with
 | nil => simp at ht
 | cons t' ts ih =>
  cases ds with
  | nil => simp at hd
  | cons d' ds =>
   simp only [DataW.weightsEach, List.all_append, Bool.and_eq_true] at h
   cases j with
   | zero =>
    simp at ht hd
    subst ht; subst hd
    intro x hx
    exact of_decide_eq_true (List.all_eq_true.1 h.1 x hx)
   | succ j => exact ih h.2 (by simpa using ht) (by simpa using hd)
theorem aKA {fuel : Nat} {t e : TypeId} {cs : List Value} {x : DataW H × List MemPlace} (ht : P.underlying t = some (.slice e)) (hc : 1 ≤ P.cellsOf e) (h : DataW.trod enc P W 0 (fun _ => true) true fuel t cs = some x) (hw : ∀ z ∈ x.1.weights P t, z ≤ reachBytes) :
  ∃ (a : Option Addr) (len c : Nat), cs = [.slice a len c] ∧ (len : Int) ≤ 9223372036854775807 ∧ Cap a len c ∧
   ∃ rows : List (List Value), rows.length = len ∧ (∀ r ∈ rows, r.length = P.cellsOf e ∧ ∃ n y, DataW.trod enc P W 0 (fun _ => true) true n e r = some y ∧ (∀ z ∈ y.1.weights P e, z ≤ reachBytes)) ∧ len * P.bytesOf e ≤ reachBytes ∧ Sl [] W a rows.flatten := by
 rcases DataW.trod_slice ht h with ⟨hcs, _⟩ | ⟨a', len, c, elems, rest, n, _, hcs, hx, _, hlc, hcm, hlen, hel, hsp, _⟩
 ·exact ⟨none, 0, 0, hcs, by omega, ⟨Nat.le_refl _, .inr ⟨rfl, rfl⟩⟩, [], rfl, by simp, by simp, Sl.nil _ _ _⟩
 ·have hm : maxLen = 9223372036854775807 := by decide
  obtain ⟨hrl, hsp⟩ := hsp rfl
  subst hx
  have hwt : ∀ z ∈ (elems.length + rest.length) * P.bytesOf e :: (DataW.weightsAll P e (elems.map (·.1)) ++ DataW.weightsAll P e (rest.map (·.1))), z ≤ reachBytes := fun z hz => hw z (by simpa [DataW.weights, ht] using hz)
  have hwl : len * P.bytesOf e ≤ reachBytes := Nat.le_trans (Nat.mul_le_mul_right _ (by omega)) (hwt _ List.mem_cons_self)
  have hwe : ∀ y ∈ elems, ∀ z ∈ y.1.weights P e, z ≤ reachBytes := fun y hy z hz => hwt z (List.mem_cons_of_mem _ (List.mem_append_left _ (rZ (List.mem_map.2 ⟨y, hy, rfl⟩) hz)))
  have hspot : 0 < c → Ok (some a') := fun h0 => by
   have : ∃ v, W.cell? a' = some v := by
    by_cases hl : 0 < len
    ·have := hel 0 hl
     rw [List.getElem?_eq_getElem (by omega), Option.bind_eq_some_iff] at this
     obtain ⟨cs', h1, _⟩ := this
     obtain ⟨_, hl2, hcell⟩ := World.cells?_some h1
     have := hcell 0 (by omega)
     rw [List.getElem?_eq_getElem (by omega)] at this
     have e1 : (a'.add (0 * P.cellsOf e)).add 0 = a' := by simp [Addr.add]
     rw [e1] at this
     exact ⟨_, this⟩
    ·have hl0 : len = 0 := by omega
     have := hsp 0 (by omega)
     rw [List.getElem?_eq_getElem (by omega), Option.bind_eq_some_iff] at this
     obtain ⟨cs', h1, _⟩ := this
     obtain ⟨_, hl2, hcell⟩ := World.cells?_some h1
     have := hcell 0 (by omega)
     rw [List.getElem?_eq_getElem (by omega)] at this
     have e1 : (a'.add ((len + 0) * P.cellsOf e)).add 0 = a' := by simp [Addr.add, hl0]
     rw [e1] at this
     exact ⟨_, this⟩
   obtain ⟨v, hv⟩ := this
   unfold World.cell? at hv
   cases a' with
   | mk b o s =>
    have : s = none := by
     cases s with
     | none => rfl
     | some s => split at hv <;> simp at hv
    subst this
    exact Ok.mk b o
  have hcap : Cap (some a') len c := ⟨hlc, by
   by_cases h0 : 0 < c
   ·exact .inl (hspot h0)
   ·exact .inr ⟨by omega, by omega⟩⟩
  refine ⟨some a', len, c, hcs, by omega, hcap, ?_⟩
  have each : ∀ i, i < len → ∃ cs y, W.cells? 0 (a'.add (i * P.cellsOf e)) (P.cellsOf e) = some cs ∧ DataW.trod enc P W 0 (fun _ => true) true n e cs = some y ∧ y ∈ elems := fun i hi => by
   have := hel i hi
   rw [List.getElem?_eq_getElem (by omega), Option.bind_eq_some_iff] at this
   obtain ⟨cs, h1, h2⟩ := this
   exact ⟨cs, _, h1, h2, List.getElem_mem _⟩
  refine ⟨(List.range len).map (fun i => (W.cells? 0 (a'.add (i * P.cellsOf e)) (P.cellsOf e)).getD []), by simp, ?_, hwl, ?_⟩
  ·intro r hr
   obtain ⟨i, hi, rfl⟩ := List.mem_map.1 hr
   obtain ⟨cs, y, h4, h5, h6⟩ := each i (by simpa using hi)
   rw [h4]
   exact ⟨(World.cells?_some h4).2.1, n, y, h5, hwe y h6⟩
  ·intro j v hj
   have hall : ∀ r ∈ (List.range len).map (fun i => (W.cells? 0 (a'.add (i * P.cellsOf e)) (P.cellsOf e)).getD []), r.length = P.cellsOf e := by
    intro r hr
    obtain ⟨i, hi, rfl⟩ := List.mem_map.1 hr
    obtain ⟨cs, y, h4, h5, _⟩ := each i (by simpa using hi)
    rw [h4]
    exact (World.cells?_some h4).2.1
   obtain ⟨i, row, h4, h5, h6⟩ := aEM _ j v hall hj
   rw [List.getElem?_map] at h4
   obtain ⟨i', hi', rfl⟩ := Option.map_eq_some_iff.1 h4
   have hii : i' = i ∧ i < len := by
    obtain ⟨q1, q2⟩ := List.getElem?_eq_some_iff.1 hi'
    rw [List.getElem_range] at q2
    exact ⟨q2.symm, by simpa using q1⟩
   obtain ⟨rfl, hil⟩ := hii
   have hok : Ok (some a') := hspot (by omega)
   obtain ⟨cs, y, h7, h8, _⟩ := each i' hil
   rw [h7] at h6
   simp only [Option.getD_some] at h6
   obtain ⟨_, hl, hc'⟩ := World.cells?_some h7
   have hlt : j - i' * P.cellsOf e < P.cellsOf e := by
    have := (List.getElem?_eq_some_iff.1 h6).1
    omega
   have hcell := hc' _ hlt
   rw [h6] at hcell
   refine ⟨hok, by simp, ?_⟩
   obtain ⟨b, o, eq⟩ := hok.cases
   injection eq with eq
   subst eq
   rw [add_lit, add_lit] at hcell
   rw [← hcell]
   simp only [pt, bl, of, Option.getD_some]
   congr 2
   omega
theorem uV {α : Type} {en : α → List Value} {Pm : α → Prop} {fuel : Nat} {t e : TypeId} {cs : List Value} {x : DataW H × List MemPlace} (ht : P.underlying t = some (.slice e)) (hc : 1 ≤ P.cellsOf e)
  (hdec : ∀ (r : List Value) n y, r.length = P.cellsOf e → DataW.trod enc P W 0 (fun _ => true) true n e r = some y → (∀ z ∈ y.1.weights P e, z ≤ reachBytes) → ∃ m, r = en m ∧ Pm m) (h : DataW.trod enc P W 0 (fun _ => true) true fuel t cs = some x) (hw : ∀ z ∈ x.1.weights P t, z ≤ reachBytes) :
  ∃ (a : Option Addr) (ms : List α) (c : Nat), cs = [.slice a ms.length c] ∧ Sl [] W a (recs en ms) ∧ (∀ m ∈ ms, Pm m) ∧ (ms.length : Int) ≤ 9223372036854775807 ∧ Cap a ms.length c ∧ ms.length * P.bytesOf e ≤ reachBytes := by
 obtain ⟨a, len, c, rfl, h1, h3, rows, hl, hr, hwl, hs⟩ := aKA ht hc h hw
 have key : ∀ rows : List (List Value), (∀ r ∈ rows, r.length = P.cellsOf e ∧ ∃ n y, DataW.trod enc P W 0 (fun _ => true) true n e r = some y ∧ (∀ z ∈ y.1.weights P e, z ≤ reachBytes)) → ∃ ms : List α, rows = ms.map en ∧ ∀ m ∈ ms, Pm m := by
  intro rows
  induction rows with
  | nil => intro _; exact ⟨[], rfl, by simp⟩
  | cons r rows ih =>
   intro hr
   obtain ⟨hrl, n, y, hy, hwy⟩ := hr r (by simp)
   obtain ⟨m, rfl, hm⟩ := hdec r n y hrl hy hwy
   obtain ⟨ms, rfl, hms⟩ := ih (fun r' hr' => hr r' (by simp [hr']))
   exact ⟨m :: ms, rfl, fun m' hm' => by
    rcases List.mem_cons.1 hm' with rfl | hm'
    ·exact hm
    ·exact hms m' hm'⟩
 obtain ⟨ms, rfl, hms⟩ := key rows hr
 have hlen : ms.length = len := by simpa using hl
 subst hlen
 refine ⟨a, ms, c, rfl, ?_, hms, h1, h3, hwl⟩
 rw [← List.flatMap_def] at hs
 exact hs
theorem aEX {tr t0 t1 : TypeId} {fr : Array Field} {m k n : Nat} {cs : List Value} {y : DataW H × List MemPlace} (hr : P.underlying tr = some (.struct fr)) (hfr : fr.toList.map (fun f => (f.offset, f.type)) = [(0, t0), (m, t1)]) (cm : P.cellsOf t0 = m) (ck : P.cellsOf t1 = k) (c5 : P.cellsOf tr = m + k) (h : DataW.trod enc P W 0 (fun _ => true) true n tr cs = some y) (hw : ∀ z ∈ y.1.weights P tr, z ≤ reachBytes) :
  cs.length = m + k ∧ ∃ n' z0 z1, DataW.trod enc P W 0 (fun _ => true) true n' t0 (cs.take m) = some z0 ∧ DataW.trod enc P W 0 (fun _ => true) true n' t1 (cs.drop m) = some z1 ∧ (∀ z ∈ z0.1.weights P t0, z ≤ reachBytes) ∧ (∀ z ∈ z1.1.weights P t1, z ≤ reachBytes) := by
 obtain ⟨zs, n', rfl, rfl, hl, hzl, hz⟩ := DataW.trod_struct hr h
 have hsz : fr.toList.length = 2 := by have := congrArg List.length hfr; simpa using this
 obtain ⟨f0, f1, hfs⟩ : ∃ f0 f1, fr.toList = [f0, f1] := by
  match hh : fr.toList, hsz with
  | [a, b], _ => exact ⟨a, b, rfl⟩
 rw [hfs] at hfr
 simp only [List.map_cons, List.map_nil, List.cons.injEq, Prod.mk.injEq, and_true] at hfr
 obtain ⟨⟨o0, e0⟩, o1, e1⟩ := hfr
 rw [c5] at hl
 have hg0 : fr[0]? = some f0 := by rw [← Array.getElem?_toList, hfs]; rfl
 have hg1 : fr[1]? = some f1 := by rw [← Array.getElem?_toList, hfs]; rfl
 have h0 := hz 0 f0 hg0
 have h1 := hz 1 f1 hg1
 rw [o0, e0, cm] at h0
 rw [o1, e1, ck] at h1
 have hz2 : zs.length = 2 := by rw [hzl]; simpa using hsz
 obtain ⟨z0, z1, rfl⟩ : ∃ z0 z1, zs = [z0, z1] := by
  match zs, hz2 with
  | [a, b], _ => exact ⟨a, b, rfl⟩
 simp only [List.drop_zero, List.getElem?_cons_zero, List.getElem?_cons_succ] at h0 h1
 rw [List.take_of_length_le (l := cs.drop m) (by simp; omega)] at h1
 have hww : ∀ x ∈ DataW.weights P t0 z0.1 ++ DataW.weights P t1 z1.1, x ≤ reachBytes := fun x hx => hw x (by simp [DataW.weights, hr, hfs, DataW.weightsEach, e0, e1]; simpa using hx)
 exact ⟨hl, n', z0, z1, h0, h1, fun x hx => hww x (List.mem_append.2 (.inl hx)), fun x hx => hww x (List.mem_append.2 (.inr hx))⟩
theorem aNC {t tb ts te : TypeId} {fs : Array Field} {n : Nat} {cs : List Value} {y : DataW H × List MemPlace} (ht : P.underlying t = some (.struct fs)) (hf : fs.toList.map (fun f => (f.offset, f.type)) = [(0, tb), (1, ts)]) (hb : P.underlying tb = some .bool) (hs : P.underlying ts = some (.slice te)) (he : P.underlying te = some (.int .u32))
  (c1 : P.cellsOf tb = 1) (c2 : P.cellsOf ts = 1) (c3 : P.cellsOf te = 1) (c4 : P.cellsOf t = 2) (hB : P.bytesOf te = 4) (h : DataW.trod enc P W 0 (fun _ => true) true n t cs = some y) (hw : ∀ z ∈ y.1.weights P t, z ≤ reachBytes) :
  ∃ (nb : Bool) (a : Option Addr) (g : List Int) (c : Nat), cs = [.bool nb, .slice a g.length c] ∧ (∀ x ∈ g, 0 ≤ x) ∧ Sl [] W a (recs eG g) ∧ Cap a g.length c ∧ (g.length : Int) ≤ 9223372036854775807 ∧ g.length ≤ 35184372088832 := by
 obtain ⟨hl, n', z0, z1, h0, h1, hw0, hw1⟩ := aEX ht hf c1 c2 c4 h hw
 obtain ⟨u0, u1, rfl⟩ : ∃ u0 u1, cs = [u0, u1] := by
  match cs, hl with
  | [a, b], _ => exact ⟨a, b, rfl⟩
 obtain ⟨nb, hnb, _⟩ := DataW.trod_bool hb h0
 simp at hnb
 subst hnb
 obtain ⟨a, g, c, e1, hsl, hg, hlen, hcap, hgl⟩ := uV (en := eG) (Pm := fun x => 0 ≤ x) hs (by omega) (fun r n y hr hy _ => by
  obtain ⟨x, rfl, hw⟩ := aOX he hy
  refine ⟨x, rfl, ?_⟩
  simp [Lit.wf] at hw
  have h32 : IntKind.u32.min = 0 := by decide
  rw [h32] at hw
  exact hw.1) h1 hw1
 simp at e1
 subst e1
 exact ⟨nb, a, g, c, rfl, hg, hsl, hcap, hlen, by rw [hB] at hgl; have : reachBytes = 140737488351232 := rfl; omega⟩
theorem aQF {tr t tb ts te : TypeId} {fr fs : Array Field} {n : Nat} {cs : List Value} {y : DataW H × List MemPlace} (hr : P.underlying tr = some (.struct fr)) (hfr : fr.toList.map (fun f => (f.offset, f.type)) = [(0, t), (2, t)]) (ht : P.underlying t = some (.struct fs)) (hf : fs.toList.map (fun f => (f.offset, f.type)) = [(0, tb), (1, ts)]) (hb : P.underlying tb = some .bool) (hs : P.underlying ts = some (.slice te)) (he : P.underlying te = some (.int .u32))
  (c1 : P.cellsOf tb = 1) (c2 : P.cellsOf ts = 1) (c3 : P.cellsOf te = 1) (c4 : P.cellsOf t = 2) (c5 : P.cellsOf tr = 4) (hB : P.bytesOf te = 4) (h : DataW.trod enc P W 0 (fun _ => true) true n tr cs = some y) (hw : ∀ z ∈ y.1.weights P tr, z ≤ reachBytes) :
  ∃ r : RW, cs = eW r ∧ IsW r [] W ∧ r.reach := by
 obtain ⟨hl, n', z0, z1, h0, h1, hw0, hw1⟩ := aEX hr hfr c4 c4 c5 h hw
 obtain ⟨n1, p1, g1, k1, e1, a1, a2, a3, a4, a5⟩ := aNC ht hf hb hs he c1 c2 c3 c4 hB h0 hw0
 obtain ⟨n2, p2, g2, k2, e2, b1, b2, b3, b4, b5⟩ := aNC ht hf hb hs he c1 c2 c3 c4 hB h1 hw1
 refine ⟨⟨n1, p1, g1, k1, n2, p2, g2, k2⟩, ?_, ⟨⟨a1, b1, a4, b4, a3, b3⟩, a2, b2⟩, a5, b5⟩
 rw [← List.take_append_drop 2 cs, e1, e2]
 rfl
end
section
variable {H : Type} {enc : TypeId × Value → H} {W : World}
theorem aNK {n : Nat} {cs : List Value} {y : DataW H × List MemPlace} (h : DataW.trod enc Tryz.prog W 0 (fun _ => true) true n 42 cs = some y) (hw : ∀ z ∈ y.1.weights Tryz.prog 42, z ≤ reachBytes) : ∃ r : RW, cs = eW r ∧ IsW r [] W ∧ r.reach :=
 aQF (tb := 4) (ts := 38) (te := 155) (t := 40) (tr := 42) Tryz.underlying42 (by rfl) Tryz.underlying40 (by rfl) Tryz.underlying4 Tryz.underlying38 Tryz.underlying155 (by kernel_rfl) (by kernel_rfl) (by kernel_rfl) (by kernel_rfl) (by kernel_rfl) (by kernel_rfl) h hw
theorem uA {n : Nat} {cs : List Value} {y : DataW H × List MemPlace} (h : DataW.trod enc Tryz.prog W 0 (fun _ => true) true n 34 cs = some y) (hw : ∀ z ∈ y.1.weights Tryz.prog 34, z ≤ reachBytes) : ∃ r : WL, cs = uT r ∧ IsWL r [] W ∧ r.rch := by
 obtain ⟨a, ms, c, e, hs, hm, _, hc, hl⟩ := uV (en := eW) (Pm := fun r => IsW r [] W ∧ r.reach) Tryz.underlying34 (by rw [show Tryz.prog.cellsOf 42 = 4 by kernel_rfl]; decide) (fun r n y _ hy hw => aNK hy hw) h hw
 rw [show Tryz.prog.bytesOf 42 = 64 by kernel_rfl] at hl
 have hr : reachBytes = 140737488351232 := rfl
 exact ⟨⟨a, c, ms⟩, e, ⟨hs, fun e he => (hm e he).1, hc⟩, by show ms.length ≤ _; omega, fun e he => (hm e he).2⟩
theorem aMA {n : Nat} {cs : List Value} {y : DataW H × List MemPlace} (h : DataW.trod enc Tryz.prog W 0 (fun _ => true) true n 29 cs = some y) (hw : ∀ z ∈ y.1.weights Tryz.prog 29, z ≤ reachBytes) : ∃ r : WM, cs = eWM r ∧ IsWM r [] W ∧ r.rch := by
 obtain ⟨a, ms, c, e, hs, hm, _, hc, hl⟩ := uV (en := uT) (Pm := fun r => IsWL r [] W ∧ r.rch) Tryz.underlying29 (by rw [show Tryz.prog.cellsOf 34 = 1 by kernel_rfl]; decide) (fun r n y _ hy hw => uA hy hw) h hw
 rw [show Tryz.prog.bytesOf 34 = 24 by kernel_rfl] at hl
 have hr : reachBytes = 140737488351232 := rfl
 exact ⟨⟨a, c, ms⟩, e, ⟨hs, fun e he => (hm e he).1, hc⟩, by show ms.length ≤ _; omega, fun e he => (hm e he).2⟩
theorem aJT {base : Nat} {v : Value} {d : DataW H} {p : List MemPlace} (hv : Value.okWide Tryz.prog W .any base 34 v) (h : DataW.Trod enc Tryz.prog W 0 (fun _ => true) true 34 v d p) (hw : ∀ x ∈ d.weights Tryz.prog 34, x ≤ reachBytes) : ∃ r : WL, v = rR r ∧ IsWL r [] W ∧ r.rch := by
 obtain ⟨a, len, c, rfl⟩ := okWide_slice Tryz.underlying34 hv
 obtain ⟨fuel, hf⟩ := h
 obtain ⟨r, e, i, hr⟩ := uA (cs := [.slice a len c]) hf hw
 exact ⟨r, (List.cons.inj e).1, i, hr⟩
end
end Go.Proofs.YtgeagiikkeiioaaGreat
namespace Go.Proofs.YtgeagiikkeiioaaGreat
open Go Go.Fx
def RW.dig (r : RW) : Nat := r.g1.length + r.g2.length
def WL.shN (r : WL) (n g : Nat) : Prop := r.es.length ≤ n ∧ ∀ e ∈ r.es, e.dig ≤ g ∧ (g ≤ 6 → e.brief)
instance WL.decN (r : WL) (n g : Nat) : Decidable (r.shN n g) := by unfold WL.shN; exact inferInstance
def WM.shN (m : WM) (n g : Nat) : Prop := m.rows.length ≤ n ∧ ∀ r ∈ m.rows, r.shN n g
instance WM.decN (m : WM) (n g : Nat) : Decidable (m.shN n g) := by unfold WM.shN; exact inferInstance
instance WM.decG (m : WM) : Decidable (∀ r ∈ m.rows, r.good) := inferInstance
section
variable {X : List Nat} {w0 : World} {M0 : List Ent} {I0 : List bA}
theorem sF {r : WL} {n g : Nat} (hn : n ≤ 1000000 ∧ g ≤ 1000000) (hR : r.rch) (hw : gQ r ∈ I0) : CD Tryz.prog 23 [rR r, .int .i64 (n : Int), .int .i64 (g : Int)] X w0 M0 I0 (fun v M I => M0 = M ∧ I0 = I ∧ v = .bool (B (r.shN n g))) := by
 refine cB (φ := aX r.p (recs eW r.es)) (Hv.wlsl hw) ?_
 have hl := hR.1
 refine lI Tryz.func23 rfl Tryz.ntmps23 rfl ?_
 repeat' (first | refine aJ ?_ | refine aR rfl (fun h => ?_) (fun h => ?_) | refine aQ rfl rfl (fun h => ?_) (fun h => ?_) | fail)
 ·refine aH (by first | exact .inl rfl | exact .inr rfl) rfl rfl _ _ aG aD (⟨rfl, rfl, congrArg Value.bool (aY (fun e => by have := e.1; omega)).symm⟩)
 refine aW [0, 2] rfl (fun k G M I => ∃ i : Nat, i ≤ r.es.length ∧ k = r.es.length - i ∧ (∀ j : Nat, j < i → (gt r.es (j : Int)).dig ≤ g ∧ (g ≤ 6 → (gt r.es (j : Int)).brief)) ∧ G = [(7, .int .i64 i)] ∧ M0 = M ∧ I = aX r.p (recs eW r.es) :: I0) (r.es.length) _ _ _ aP aG aD (⟨0, by omega, rfl, fun j hj => by omega, rfl, rfl, rfl⟩) ?_
 rintro k G M I ⟨i, hi, rfl, hs, rfl, rfl, rfl⟩
 by_cases hi2 : i < r.es.length
 ·have hr := hR.2 _ (eQ (ms := r.es) (i := (i : Int)) (by omega))
  have hD := fun M0 I0 => aGV (X := X) (w0 := w0) (M0 := M0) (I0 := I0) (r := gt r.es (i : Int)) hr
  refine fP (φ := isW (gt r.es (i : Int))) (Hv.wlel (List.Mem.tail _ hw) (by omega)) ?_
  have nxt : (gt r.es (i : Int)).dig ≤ g → (g ≤ 6 → (gt r.es (i : Int)).brief) → ∀ j : Nat, j < i + 1 → (gt r.es (j : Int)).dig ≤ g ∧ (g ≤ 6 → (gt r.es (j : Int)).brief) := fun h1 h2 j hj => by
   by_cases e : j = i
   ·subst e; exact ⟨h1, h2⟩
   ·exact hs j (by omega)
  repeat (refine aJ ?_)
  (refine aA rfl (hD _ _) rfl rfl ?_; rintro _ _ _ ⟨rfl, rfl, rfl⟩; refine ⟨okF, ?_⟩)
  by_cases hd : (gt r.es (i : Int)).dig ≤ g
  ·have hd2 : ¬ (g : Int) < ((gt r.es (i : Int)).g1.length + (gt r.es (i : Int)).g2.length : Int) := by unfold RW.dig at hd; omega
   by_cases h6 : g ≤ 6
   ·repeat (refine aJ ?_)
    (refine aA rfl (aLL (r := gt r.es (i : Int)) (Hv.mem aB)) rfl rfl ?_; rintro _ _ _ ⟨rfl, rfl, rfl⟩; refine ⟨okF, ?_⟩)
    repeat' (first | refine aJ ?_ | refine aR rfl (fun h => ?_) (fun h => ?_) | refine aQ rfl rfl (fun h => ?_) (fun h => ?_) | fail)
    ·have hb : ¬ (gt r.es (i : Int)).brief := by assumption
     refine aH (by first | exact .inl rfl | exact .inr rfl) rfl rfl _ _ aG aD (⟨rfl, rfl, congrArg Value.bool (aY (fun e => hb ((e.2 _ (eQ (by omega))).2 h6))).symm⟩)
    ·have hb : ¬ ¬ (gt r.es (i : Int)).brief := by assumption
     refine aN (r.es.length - (i + 1)) _ _ _ (by first | omega | (simp only [List.length_append, List.length_cons, List.length_nil]; omega)) aP aG aD (⟨i + 1, by omega, rfl, nxt hd (fun _ => Decidable.not_not.1 hb), rfl, rfl, rfl⟩)
   ·repeat (refine aJ ?_)
    refine aN (r.es.length - (i + 1)) _ _ _ (by first | omega | (simp only [List.length_append, List.length_cons, List.length_nil]; omega)) aP aG aD (⟨i + 1, by omega, rfl, nxt hd (fun h => absurd h h6), rfl, rfl, rfl⟩)
  ·have hd2 : (g : Int) < ((gt r.es (i : Int)).g1.length + (gt r.es (i : Int)).g2.length : Int) := by unfold RW.dig at hd; omega
   repeat (refine aJ ?_)
   refine aH (by first | exact .inl rfl | exact .inr rfl) rfl rfl _ _ aG aD (⟨rfl, rfl, congrArg Value.bool (aY (fun e => hd (e.2 _ (eQ (by omega))).1)).symm⟩)
 ·repeat (refine aJ ?_)
  refine aH (by first | exact .inl rfl | exact .inr rfl) rfl rfl _ _ aG aD (⟨rfl, rfl, congrArg Value.bool (bO ⟨by omega, fun e he => ?_⟩).symm⟩)
  obtain ⟨j, hj, rfl⟩ := List.mem_iff_getElem.1 he
  have := hs j (by omega)
  rwa [iU hj] at this
end
end Go.Proofs.YtgeagiikkeiioaaGreat
