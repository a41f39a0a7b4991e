/- Arguments, opened: slices of records, structs with slices. Arguments opened: matrices, lists, fractions, wherever they lie. What the laws of matrices share. Integers in memory as records: their contracts; sums and products of vectors. -/
import Derived.Test.YtmmmfphealhapaaGreatZrab
import Derived.Test.YtmmmfphealhapaaGreatZrae
import Derived.Test.YtmmmfphealhapaaGreatZrav
import Derived.Test.YtmmmfphealhapaaGreatZraw
import Derived.Test.YtmmmfphealhapaaGreatZrap
set_option linter.unusedSimpArgs false
set_option linter.unusedVariables false
set_option maxRecDepth 100000
set_option maxHeartbeats 4000000
namespace Go.Fx
open Go.ChangeShapes Go.WideShapes Go.RowKit Go.ChangeAt
section
variable {H : Type} {enc : TypeId × Value → H} {P : Program} {W : World}
theorem aDY {sz : Nat} : ∀ (rows : List (List Value)) (k : Nat) (v : Value), (∀ r ∈ rows, r.length = sz) → rows.flatten[k]? = some v → ∃ i row, rows[i]? = some row ∧ i * sz ≤ k ∧ row[k - i * sz]? = some v
 | [], k, v, _, h => by simp at h
 | r :: rows, k, v, hr, h => by
  rw [List.flatten_cons] at h
  have hl := hr r (by simp)
  by_cases hk : k < r.length
  ·rw [List.getElem?_append_left hk] at h
   exact ⟨0, r, by simp, by omega, by simpa using h⟩
  ·rw [List.getElem?_append_right (by omega)] at h
   obtain ⟨i, row, h1, h2, h3⟩ := aDY rows _ v (fun r' hr' => hr r' (by simp [hr'])) h
   refine ⟨i + 1, row, by simpa using h1, by rw [Nat.add_mul]; omega, ?_⟩
   rw [← h3]
   congr 1
   rw [Nat.add_mul]; omega
theorem aJD {base fuel : Nat} {t e : TypeId} {v : Value} {x : DataW H × List MemPlace} (ht : P.underlying t = some (.slice e)) (hv : Value.okWide P W .any base t v) (h : DataW.trod enc P W 0 (fun _ => true) true fuel t v.cells.toList = some x) :
  ∃ (a : Option Addr) (len c : Nat), v = .slice a len c ∧ (len : Int) ≤ 9223372036854775807 ∧ len ≤ c ∧ (Ok a ∨ (a = none ∧ len = 0 ∧ c = 0)) ∧
   ∃ rows : List (List Value), rows.length = len ∧ (∀ r ∈ rows, r.length = P.cellsOf e ∧ ∃ n y, DataW.trod enc P W 0 (fun _ => true) true n e r = some y) ∧ Sl [] W a rows.flatten := by
 obtain ⟨a, len, c, rfl⟩ := okWide_slice ht hv
 obtain ⟨h1, h2, h3⟩ := aME ht hv
 refine ⟨a, len, c, rfl, h1, h2, h3, ?_⟩
 rcases DataW.trod_slice ht h with ⟨hcs, _⟩ | ⟨a', len', cap', elems, rest, n, _, hcs, _, _, _, _, hlen, hel, _, _⟩
 ·simp [Value.cells] at hcs
  obtain ⟨rfl, rfl, rfl⟩ := hcs
  exact ⟨[], rfl, by simp, Sl.nil _ _ _⟩
 ·simp [Value.cells] at hcs
  obtain ⟨rfl, rfl, rfl⟩ := hcs
  have hok : Ok (some a') := h3.resolve_right (by simp)
  have each : ∀ i, i < len → ∃ cs y, W.cells? 0 (a'.add (i * P.cellsOf e)) (P.cellsOf e) = some cs ∧ DataW.trod enc P W 0 (fun _ => true) true n e cs = some y := fun i hi => by
   have := hel i hi
   rw [List.getElem?_eq_getElem (by omega), Option.bind_eq_some_iff] at this
   obtain ⟨cs, h1, h2⟩ := this
   exact ⟨cs, _, h1, h2⟩
  refine ⟨(List.range len).map (fun i => (W.cells? 0 (a'.add (i * P.cellsOf e)) (P.cellsOf e)).getD []), by simp, ?_, ?_⟩
  ·intro r hr
   obtain ⟨i, hi, rfl⟩ := List.mem_map.1 hr
   obtain ⟨cs, y, h4, h5⟩ := each i (by simpa using hi)
   rw [h4]
   exact ⟨(World.cells?_some h4).2.1, n, y, h5⟩
  ·intro j v hj
   have hall : ∀ r ∈ (List.range len).map (fun i => (W.cells? 0 (a'.add (i * P.cellsOf e)) (P.cellsOf e)).getD []), r.length = P.cellsOf e := by
    intro r hr
    obtain ⟨i, hi, rfl⟩ := List.mem_map.1 hr
    obtain ⟨cs, y, h4, h5⟩ := each i (by simpa using hi)
    rw [h4]
    exact (World.cells?_some h4).2.1
   obtain ⟨i, row, h4, h5, h6⟩ := aDY _ j v hall hj
   rw [List.getElem?_map] at h4
   obtain ⟨i', hi', rfl⟩ := Option.map_eq_some_iff.1 h4
   have hii : i' = i ∧ i < len := by
    obtain ⟨q1, q2⟩ := List.getElem?_eq_some_iff.1 hi'
    rw [List.getElem_range] at q2
    exact ⟨q2.symm, by simpa using q1⟩
   obtain ⟨rfl, hil⟩ := hii
   obtain ⟨cs, y, h7, h8⟩ := each i' hil
   rw [h7] at h6
   simp only [Option.getD_some] at h6
   obtain ⟨_, hl, hc⟩ := World.cells?_some h7
   have hlt : j - i' * P.cellsOf e < P.cellsOf e := by
    have := (List.getElem?_eq_some_iff.1 h6).1
    omega
   have hcell := hc _ hlt
   rw [h6] at hcell
   refine ⟨hok, by simp, ?_⟩
   obtain ⟨b, o, eq⟩ := hok.cases
   injection eq with eq
   subst eq
   rw [add_lit, add_lit] at hcell
   rw [← hcell]
   simp only [pt, bl, of, Option.getD_some]
   congr 2
   omega
theorem aCR {α : Type} {en : α → List Value} {Pm : α → Prop} {base : Nat} {t e : TypeId} {v : Value} {d : DataW H} {p : List MemPlace} (ht : P.underlying t = some (.slice e)) (hdec : ∀ (r : List Value) n y, r.length = P.cellsOf e → DataW.trod enc P W 0 (fun _ => true) true n e r = some y → ∃ m, r = en m ∧ Pm m)
  (hv : Value.okWide P W .any base t v) (h : DataW.Trod enc P W 0 (fun _ => true) true t v d p) :
  ∃ (a : Option Addr) (ms : List α) (c : Nat), v = .slice a ms.length c ∧ Sl [] W a (recs en ms) ∧ (∀ m ∈ ms, Pm m) ∧ (ms.length : Int) ≤ 9223372036854775807 ∧ ms.length ≤ c ∧ (Ok a ∨ (a = none ∧ ms.length = 0 ∧ c = 0)) := by
 obtain ⟨fuel, hf⟩ := h
 obtain ⟨a, len, c, rfl, h1, h2, h3, rows, hl, hr, hs⟩ := aJD ht hv hf
 have key : ∀ rows : List (List Value), (∀ r ∈ rows, r.length = P.cellsOf e ∧ ∃ n y, DataW.trod enc P W 0 (fun _ => true) true n e r = some y) → ∃ ms : List α, rows = ms.map en ∧ ∀ m ∈ ms, Pm m := by
  intro rows
  induction rows with
  | nil => intro _; exact ⟨[], rfl, by simp⟩
  | cons r rows ih =>
   intro hr
   obtain ⟨hrl, n, y, hy⟩ := hr r (by simp)
   obtain ⟨m, rfl, hm⟩ := hdec r n y hrl hy
   obtain ⟨ms, rfl, hms⟩ := ih (fun r' hr' => hr r' (by simp [hr']))
   exact ⟨m :: ms, rfl, fun m' hm' => by
    rcases List.mem_cons.1 hm' with rfl | hm'
    ·exact hm
    ·exact hms m' hm'⟩
 obtain ⟨ms, rfl, hms⟩ := key rows hr
 have hlen : ms.length = len := by simpa using hl
 subst hlen
 refine ⟨a, ms, c, rfl, ?_, hms, h1, h2, h3⟩
 rw [← List.flatMap_def] at hs
 exact hs
theorem aOR {t : TypeId} {k : IntKind} {n : Nat} {cs : List Value} {y : DataW H × List MemPlace} (ht : P.underlying t = some (.int k)) (h : DataW.trod enc P W 0 (fun _ => true) true n t cs = some y) : ∃ x : Int, cs = [.int k x] ∧ (Lit.int k x).wf = true := by
 obtain ⟨m, h1, _, h2⟩ := DataW.trod_int ht h
 exact ⟨m, h1, h2⟩
theorem aMD {t : TypeId} {k : IntKind} {m n : Nat} {cs : List Value} {y : DataW H × List MemPlace} {fs : Array Field} (ht : P.underlying t = some (.struct fs)) (hf : fs.toList.map (fun (f : Field) => (f.offset, P.cellsOf f.type)) = (List.range m).map (fun i => (i, 1))) (hk : ∀ f ∈ fs.toList, P.underlying f.type = some (.int k)) (hl : cs.length = m)
  (h : DataW.trod enc P W 0 (fun _ => true) true n t cs = some y) : ∃ xs : List Int, cs = xs.map (Value.int k) ∧ xs.length = m ∧ ∀ x ∈ xs, (Lit.int k x).wf = true := by
 obtain ⟨zs, n', rfl, _, _, hzl, hz⟩ := DataW.trod_struct ht h
 have each : ∀ i, i < m → ∃ x : Int, cs[i]? = some (.int k x) ∧ (Lit.int k x).wf = true := fun i hi => by
  have hsz : fs.toList.length = m := by have := congrArg List.length hf; simpa using this
  obtain ⟨f, hfi⟩ : ∃ f, fs.toList[i]? = some f := ⟨_, List.getElem?_eq_getElem (by omega)⟩
  have hoff : (f.offset, P.cellsOf f.type) = (i, 1) := by
   have : (fs.toList.map (fun f => (f.offset, P.cellsOf f.type)))[i]? = some (f.offset, P.cellsOf f.type) := by rw [List.getElem?_map, hfi]; rfl
   rw [hf, List.getElem?_map, List.getElem?_range hi] at this
   simpa using this.symm
  injection hoff with ho hc
  have hf2 : fs[i]? = some f := by simpa using hfi
  have := hz i f hf2
  rw [List.getElem?_eq_getElem (by rw [hzl]; exact (Array.getElem?_eq_some_iff.1 hf2).1), ho, hc] at this
  obtain ⟨x, hx, hw⟩ := aOR (hk f (List.mem_of_getElem? hfi)) this
  refine ⟨x, ?_, hw⟩
  have : ((cs.drop i).take 1)[0]? = some (.int k x) := by rw [hx]; rfl
  rw [List.getElem?_take, if_pos (by omega), List.getElem?_drop] at this
  simpa using this
 refine ⟨cs.map (fun v => match v with | .int _ x => x | _ => 0), ?_, by simpa using hl, ?_⟩
 ·apply List.ext_getElem
  ·simp
  ·intro i h1 h2
   obtain ⟨x, hx, _⟩ := each i (by omega)
   have : cs[i] = .int k x := by
    have := (List.getElem?_eq_some_iff.1 hx).2
    exact this
   simp [this]
 ·intro x hx
  obtain ⟨v, hv, rfl⟩ := List.mem_map.1 hx
  obtain ⟨i, hi, rfl⟩ := List.mem_iff_getElem.1 hv
  obtain ⟨y, hy, hw⟩ := each i (by omega)
  have : cs[i] = .int k y := (List.getElem?_eq_some_iff.1 hy).2
  rw [this]
  exact hw
theorem Mem.startS {W : World} {I : List bA} {a : Option Addr} {cs : List Value} (h : Mem [] W [] I W) (hs : Sl [] W a cs) : Mem [] W [] (aX a cs :: I) W := h.add (φ := aX a cs) ⟨hs⟩
end
end Go.Fx
namespace Go.Proofs.YtmmmfphealhapaaGreat
open Go Go.Fx
open Go.ChangeShapes Go.WideShapes Go.RowKit Go.ChangeAt
section
variable {H : Type} {enc : TypeId × Value → H} {P : Program} {W : World}
theorem aKW {tr t0 t1 : TypeId} {fr : Array Field} {m k n : Nat} {cs : List Value} {y : DataW H × List MemPlace} (hr : P.underlying tr = some (.struct fr)) (hfr : fr.toList.map (fun f => (f.offset, f.type)) = [(0, t0), (m, t1)]) (cm : P.cellsOf t0 = m) (ck : P.cellsOf t1 = k) (c5 : P.cellsOf tr = m + k) (h : DataW.trod enc P W 0 (fun _ => true) true n tr cs = some y) :
  cs.length = m + k ∧ ∃ n' z0 z1, DataW.trod enc P W 0 (fun _ => true) true n' t0 (cs.take m) = some z0 ∧ DataW.trod enc P W 0 (fun _ => true) true n' t1 (cs.drop m) = some z1 := by
 obtain ⟨zs, n', rfl, rfl, hl, hzl, hz⟩ := DataW.trod_struct hr h
 have hsz : fr.toList.length = 2 := by have := congrArg List.length hfr; simpa using this
 obtain ⟨f0, f1, hfs⟩ : ∃ f0 f1, fr.toList = [f0, f1] := by
  match hh : fr.toList, hsz with
  | [a, b], _ => exact ⟨a, b, rfl⟩
 rw [hfs] at hfr
 simp only [List.map_cons, List.map_nil, List.cons.injEq, Prod.mk.injEq, and_true] at hfr
 obtain ⟨⟨o0, e0⟩, o1, e1⟩ := hfr
 rw [c5] at hl
 have hg0 : fr[0]? = some f0 := by rw [← Array.getElem?_toList, hfs]; rfl
 have hg1 : fr[1]? = some f1 := by rw [← Array.getElem?_toList, hfs]; rfl
 have h0 := hz 0 f0 hg0
 have h1 := hz 1 f1 hg1
 rw [o0, e0, cm] at h0
 rw [o1, e1, ck] at h1
 have hz2 : zs.length = 2 := by rw [hzl]; simpa using hsz
 obtain ⟨z0, z1, rfl⟩ : ∃ z0 z1, zs = [z0, z1] := by
  match zs, hz2 with
  | [a, b], _ => exact ⟨a, b, rfl⟩
 simp only [List.drop_zero, List.getElem?_cons_zero, List.getElem?_cons_succ] at h0 h1
 rw [List.take_of_length_le (l := cs.drop m) (by simp; omega)] at h1
 exact ⟨hl, n', z0, z1, h0, h1⟩
end
section
variable {H : Type} {enc : TypeId × Value → H} {W : World}
end
end Go.Proofs.YtmmmfphealhapaaGreat
namespace Go.Proofs.YtmmmfphealhapaaGreat
open Go Go.Fx
end Go.Proofs.YtmmmfphealhapaaGreat
namespace Go.Proofs.YtmmmfphealhapaaGreat
open Go Go.Fx
structure ZE where
 z : Int
 p : Option Addr
 c : Nat
instance ZE.inh : Inhabited ZE := ⟨⟨0, none, 0⟩⟩
abbrev eN (e : ZE) : List Value := [.bool (B (e.z < 0)), .slice e.p (gr e.z.natAbs).length e.c]
abbrev nv (e : ZE) : Value := .agg #[.bool (B (e.z < 0)), .slice e.p (gr e.z.natAbs).length e.c]
abbrev zN : List Value := [.bool false, .slice none 0 0]
instance ZE.szd : Sized eN 2 := ⟨fun _ => rfl⟩
instance ZE.ones : Ones eN := ⟨fun m u hu => by
 simp only [eN, List.mem_cons, List.not_mem_nil, or_false] at hu
 rcases hu with rfl | rfl <;> rfl⟩
abbrev fZ (e : ZE) (k : Nat) : bA := iC (nv e) e.z k
def wN : Option ZE → List Value
 | none => zN
 | some e => eN e
instance wN.szd : Sized wN 2 := ⟨fun o => by cases o <;> rfl⟩
instance wN.ones : Ones wN := ⟨fun m u hu => by
 rcases m with _ | e
 ·simp only [wN, zN, List.mem_cons, List.not_mem_nil, or_false] at hu
  rcases hu with rfl | rfl <;> rfl
 ·exact ZE.ones.one e u hu⟩
theorem aNG (es : List ZE) : recs wN (es.map some) = recs eN es := by
 induction es with
 | nil => rfl
 | cons e r ih => show wN (some e) ++ recs wN (r.map some) = eN e ++ recs eN r; rw [ih]; rfl
structure AllO (os : List (Option ZE)) (k : Nat) (X : List Nat) (w : World) : Prop where
 go : ∀ e : ZE, some e ∈ os → IsI (nv e) e.z k X w
abbrev kD (os : List (Option ZE)) (k : Nat) : bA := AllO os k
instance (os : List (Option ZE)) (k : Nat) : Fx.Good (AllO os k) := ⟨fun X Y w w' h he hY => ⟨fun e hm => Fx.Good.go (φ := IsI _ _ _) X Y w w' (h.go e hm) he hY⟩⟩
theorem Hv.oNil {I : List bA} {n k : Nat} : Hv I (kD (List.replicate n none) k) := ⟨fun X w _ => ⟨fun e he => by cases (List.mem_replicate.1 he).2⟩⟩
theorem Hv.oSet {I : List bA} {os : List (Option ZE)} {g : ZE} {k : Nat} {i : Int} (h : kD os k ∈ I) (hg : fZ g k ∈ I) : Hv I (kD (st os i (some g)) k) := ⟨fun X w hw => ⟨fun e he => by
 rcases List.mem_or_eq_of_mem_set he with h1 | h1
 ·exact (hw _ h : AllO os k X w).go e h1
 ·cases h1
  exact hw _ hg⟩⟩
theorem Hv.oAt {I : List bA} {os : List (Option ZE)} {g : ZE} {k : Nat} {i : Int} (h : kD os k ∈ I) (hi : 0 ≤ i ∧ i < os.length) (he : gt os i = some g) : Hv I (fZ g k) := ⟨fun X w hw => (hw _ h : AllO os k X w).go g (by rw [← he]; exact jO hi)⟩
theorem AtsZ.o0 {α : Type} [Inhabited α] {enc : α → List Value} {sz : Nat} [hz : Sized enc sz] {ms : List α} {i : Int} (hi : 0 ≤ i ∧ i < ms.length) : AtsZ (recs enc ms) (0 + i.toNat * sz) (enc (gt ms i)) sz := by rw [Nat.zero_add]; exact AtsZ.r hi
theorem StAts.o0 {α : Type} {enc : α → List Value} {sz : Nat} [hz : Sized enc sz] {ms : List α} {i : Int} {vs : List Value} (mm : α) (hi : 0 ≤ i ∧ i < ms.length) (hv : vs = enc mm) : StAts (recs enc ms) (0 + i.toNat * sz) vs (recs enc (st ms i mm)) := by rw [Nat.zero_add]; exact StAts.r mm hi hv
theorem pK {α : Type} [Inhabited α] {os : List α} {g : α} {i j : Nat} (hi : i < os.length) (hj : j < os.length) : gt (st os (i : Int) g) (j : Int) = if j = i then g else gt os (j : Int) := by
 rw [vO (by simp [st]; omega), vO hj]
 simp only [st, Int.toNat_natCast, List.getElem_set]
 by_cases h : i = j
 ·rw [if_pos h, if_pos h.symm]
 ·rw [if_neg h, if_neg (fun e => h e.symm)]
theorem nT {α : Type} {os : List α} {g : α} {i : Int} : (st os i g).length = os.length := by simp [st]
theorem os3 {α : Type} [Inhabited α] {os : List α} (h : os.length = 3) : os = [gt os 0, gt os 1, gt os 2] := by
 match os, h with
 | [a, b, c], _ => rfl
theorem Hv.nUp {I : List bA} {e : ZE} {k m : Nat} (h : Hv I (fZ e k)) (hk : k ≤ m) : Hv I (fZ e m) := ⟨fun X w hw => (h.go X w hw).mono hk⟩
def NQ (z : Int) (k : Nat) (M0 : List Ent) (I0 : List bA) (v : Value) (M : List Ent) (I : List bA) : Prop := M0 = M ∧ ∃ e : ZE, v = nv e ∧ e.z = z ∧ I = fZ e k :: I0
structure TZ where
 x : ZE
 y : ZE
 z : ZE
instance TZ.inh : Inhabited TZ := ⟨⟨default, default, default⟩⟩
def TZ.l (p : TZ) : List ZE := [p.x, p.y, p.z]
abbrev kW (p : TZ) : List Value := recs eN [p.x, p.y, p.z]
abbrev dE (p : TZ) : Value := .agg (recs eN [p.x, p.y, p.z]).toArray
instance TZ.szd : Sized kW 6 := ⟨fun _ => rfl⟩
instance TZ.ones : Ones kW := ⟨fun m u hu => wB _ u hu⟩
def TZ.t (p : TZ) : T3 Int := ⟨p.x.z, p.y.z, p.z.z⟩
structure IsTZ (p : TZ) (k : Nat) (X : List Nat) (w : World) : Prop where
 x : IsI (nv p.x) p.x.z k X w
 y : IsI (nv p.y) p.y.z k X w
 z : IsI (nv p.z) p.z.z k X w
abbrev aY (p : TZ) (k : Nat) : bA := IsTZ p k
instance (p : TZ) (k : Nat) : Fx.Good (IsTZ p k) := ⟨fun X Y w w' h he hY => ⟨Fx.Good.go (φ := IsI _ _ _) X Y w w' h.x he hY, Fx.Good.go (φ := IsI _ _ _) X Y w w' h.y he hY, Fx.Good.go (φ := IsI _ _ _) X Y w w' h.z he hY⟩⟩
theorem Hv.zx {I : List bA} {p : TZ} {k : Nat} (h : aY p k ∈ I) : Hv I (fZ p.x k) := ⟨fun X w hw => (hw _ h : IsTZ p k X w).x⟩
theorem Hv.zy {I : List bA} {p : TZ} {k : Nat} (h : aY p k ∈ I) : Hv I (fZ p.y k) := ⟨fun X w hw => (hw _ h : IsTZ p k X w).y⟩
theorem Hv.zz {I : List bA} {p : TZ} {k : Nat} (h : aY p k ∈ I) : Hv I (fZ p.z k) := ⟨fun X w hw => (hw _ h : IsTZ p k X w).z⟩
theorem Hv.mkZ {I : List bA} {a b c : ZE} {k : Nat} (ha : fZ a k ∈ I) (hb : fZ b k ∈ I) (hc : fZ c k ∈ I) : Hv I (aY ⟨a, b, c⟩ k) := ⟨fun X w hw => ⟨hw _ ha, hw _ hb, hw _ hc⟩⟩
theorem Hv.zAt {I : List bA} {p : TZ} {k : Nat} {i : Int} (h : aY p k ∈ I) (hi : 0 ≤ i ∧ i < 3) : Hv I (fZ (gt [p.x, p.y, p.z] i) k) := ⟨fun X w hw => by
 have h1 : IsTZ p k X w := hw _ h
 obtain rfl | rfl | rfl : i = 0 ∨ i = 1 ∨ i = 2 := by omega
 ·exact h1.x
 ·exact h1.y
 ·exact h1.z⟩
def VQ (q : T3 Int) (k : Nat) (M0 : List Ent) (I0 : List bA) (v : Value) (M : List Ent) (I : List bA) : Prop := M0 = M ∧ ∃ p : TZ, v = dE p ∧ p.t = q ∧ I = aY p k :: I0
def sI (f : Nat → Int) : Nat → Int
 | 0 => 0
 | n + 1 => sI f n + f n
section
variable {X : List Nat} {w0 : World} {M0 : List Ent} {I0 : List bA}
theorem CD.nq {f : FuncId} {vs : List Value} {z : Int} {k : Nat} (h : CD Tryz.prog f vs X w0 M0 I0 (fun v M I => M0 = M ∧ I = iC v z k :: I0)) : CD Tryz.prog f vs X w0 M0 I0 (NQ z k M0 I0) :=
 h.post (fun v M I w h hw => by
  obtain ⟨rfl, rfl⟩ := h
  have hi : IsI v z k (muts M0) w := (hw.imm _ (List.Mem.head _)).2
  obtain ⟨q, c, rfl, _⟩ := hi.ex
  exact ⟨M0, _, ⟨rfl, ⟨z, q, c⟩, rfl, rfl, rfl⟩, hw⟩)
theorem yN {k c : Nat} (h : k + 1 ≤ c) : 2 ^ k + 2 ^ k ≤ 2 ^ c := Nat.le_trans (by rw [Nat.pow_succ]; omega) (Nat.pow_le_pow_right (by decide) h : 2 ^ (k + 1) ≤ 2 ^ c)
theorem aLU {a b : ZE} {k m : Nat} (hk : k + m ≤ 1000000000000) (ha : fZ a k ∈ I0) (hb : fZ b m ∈ I0) : CD Tryz.prog 59 [nv a, nv b] X w0 M0 I0 (NQ (a.z * b.z) (k + m) M0 I0) := CD.nq (pJ hk ha hb)
theorem NAdd {a b : ZE} {k c : Nat} (hc : c ≤ 1000000000000) (hk : k + 1 ≤ c) (ha : fZ a k ∈ I0) (hb : fZ b k ∈ I0) : CD Tryz.prog 168 [nv a, nv b] X w0 M0 I0 (NQ (a.z + b.z) c M0 I0) := CD.nq (aLQ (by omega) (by omega) hc (yN hk) ha hb)
theorem NOf {x : Int} (hx : -9223372036854775808 ≤ x ∧ x ≤ 9223372036854775807) : CD Tryz.prog 58 [.int .i64 x] X w0 M0 I0 (NQ x 63 M0 I0) := CD.nq (aCK hx)
theorem aPI {u v : Value} {y z : Int} {k m c : Nat} (hk : k ≤ 1000000000000) (hm : m ≤ 1000000000000) (hc0 : c ≤ 1000000000000) (hs : 2 ^ k + 2 ^ m ≤ 2 ^ c) (hu : iC u y k ∈ I0) (hv : iC v z m ∈ I0) : CD Tryz.prog 193 [u, v] X w0 M0 I0 (fun v M I => M0 = M ∧ I = iC v (y - z) c :: I0) := by
 refine cB hu (fun q cq e hc hy => ?_)
 subst e
 refine cB (List.Mem.tail _ hv) (fun q' cq' e hc' hz => ?_)
 subst e
 have hl := fK hy (by omega)
 have hl' := fK hz (by omega)
 unfold iv
 refine bI Tryz.func193 rfl Tryz.ntmps193 rfl ?_
 refine aH ?_
 refine aI ?_
 (refine aK rfl rfl rfl ?_; intro b; refine ⟨okF, ?_⟩)
 (refine aK rfl rfl rfl ?_; intro b2; refine ⟨okF, ?_⟩)
 (refine aC rfl rfl ?_; intro b3; refine ⟨okF, ?_⟩)
 repeat (refine aJ ?_)
 (repeat refine aH ?_); refine dG 3 [0, 1, 2, 4, 5, 6, 7, 3, 8, 9, 10] [3, 2, 2, 3, 3, 2, 2, 0, 0, 0, 0] mixed (by kernel_rfl) ?_
 repeat (refine aJ ?_)
 (refine aA rfl (iJ (c := cq) hy (by omega) aB) rfl rfl ?_; rintro _ _ _ ⟨rfl, rfl, rfl⟩; refine ⟨okF, ?_⟩)
 repeat (refine aJ ?_)
 (refine aA rfl (iJ (c := cq') hz (by omega) aB) rfl rfl ?_; rintro _ _ _ ⟨rfl, rfl, rfl⟩; refine ⟨okF, ?_⟩)
 repeat (refine aJ ?_)
 have hyz : y.natAbs + z.natAbs ≤ 2 ^ c := Nat.le_trans (Nat.add_le_add hy hz) hs
 have hS := fun M0 I0 => aMJ (X := X) (w0 := w0) (M0 := M0) (I0 := I0) (p := q) (q := q') (cp := cq) (cq := cq') (pn := y < 0) (qn := ¬ (z < 0)) (k := c) (by omega) (by omega) hyz hc0
 rw [nS, aES, ← Int.sub_eq_add_neg] at hS
 (refine aA rfl (hS _ _ aB aB) rfl rfl ?_; rintro _ _ _ ⟨rfl, rfl⟩; refine ⟨okF, ?_⟩; refine aU (List.Mem.head _) (fun q2 c2 e__ hc2 hz2 => ?_); subst e__)
 unfold iv
 repeat (refine aJ ?_)
 refine bC (cs := [.bool (B (y - z < 0)), .slice q2 (gr (y - z).natAbs).length c2]) (.inl rfl) rfl rfl aB rfl _ _ aG aF ⟨rfl, rfl⟩
theorem NSub {a b : ZE} {k c : Nat} (hc : c ≤ 1000000000000) (hk : k + 1 ≤ c) (ha : fZ a k ∈ I0) (hb : fZ b k ∈ I0) : CD Tryz.prog 193 [nv a, nv b] X w0 M0 I0 (NQ (a.z - b.z) c M0 I0) := CD.nq (aPI (by omega) (by omega) hc (yN hk) ha hb)
theorem aNL {q : Option Addr} {es : List ZE} {n c u : Nat} (hk : 63 ≤ u) (hk2 : u + n ≤ 400000000000) (hl : es.length = n) (hq : aX q (recs eN es) ∈ I0) (he : ∀ e ∈ es, fZ e u ∈ I0) :
  CD Tryz.prog 204 [.slice q n c] X w0 M0 I0 (NQ (sI (fun t => (gt es (t : Int)).z) n) (u + n) M0 I0) := by
 have hO := fun M0 I0 => NOf (X := X) (w0 := w0) (M0 := M0) (I0 := I0) (x := 0) (by decide)
 refine bX (φ := aX q (recs eN es)) (Hv.mem hq) ?_
 refine bV Tryz.func204 rfl Tryz.ntmps204 rfl ?_
 refine aH ?_
 refine aI ?_
 (refine aC rfl rfl ?_; intro b2; refine ⟨okF, ?_⟩)
 repeat (refine aJ ?_)
 (refine aA rfl (hO _ _) rfl rfl ?_; rintro _ _ _ ⟨rfl, e0, rfl, he0, rfl⟩; refine ⟨okF, ?_⟩)
 (refine aC rfl rfl ?_; intro b3; refine ⟨okF, ?_⟩)
 repeat (refine aJ ?_)
 refine dV (φ := fZ e0 (u + 0)) (Hv.nUp (k := 63) (Hv.mem aB) (by omega)) ?_
 refine bG [2, 3, 7, 8] rfl (fun k G M I => ∃ (i : Nat) (s : ZE), i ≤ n ∧ k = n - i ∧ s.z = sI (fun t => (gt es (t : Int)).z) i ∧ G = [(9, .int .i64 i)] ∧ M = .blk b3 (eN s) 42 :: .blk b2 zN 42 :: M0 ∧ I = fZ s (u + i) :: aX q (recs eN es) :: I0) (n) _ _ _ aS aG aF (⟨0, e0, by omega, rfl, he0, rfl, rfl, rfl⟩) ?_
 rintro kk G M I ⟨i, s, hi, rfl, hs, rfl, rfl, rfl⟩
 by_cases hii : i < n
 ·have hmem := jO (ms := es) (i := (i : Int)) (by omega)
  have hf := he _ hmem
  obtain ⟨x, hx⟩ : ∃ x, gt es (i : Int) = x := ⟨_, rfl⟩
  rw [hx] at hf
  have hA := fun M0 I0 h1 h2 => NAdd (X := X) (w0 := w0) (M0 := M0) (I0 := I0) (a := s) (b := x) (k := u + i) (c := u + (i + 1)) (by omega) (by omega) h1 h2
  refine dV (φ := fZ x (u + i)) (Hv.nUp (k := u) (Hv.mem (List.mem_cons_of_mem _ (List.mem_cons_of_mem _ hf))) (by omega)) ?_
  repeat (refine aJ ?_)
  rw [hx]
  (refine aC rfl rfl ?_; intro b5; refine ⟨okF, ?_⟩)
  repeat (refine aJ ?_)
  (refine aA rfl (hA _ _ aB aB) rfl rfl ?_; rintro _ _ _ ⟨rfl, g, rfl, hg, rfl⟩; refine ⟨okF, ?_⟩)
  repeat (refine aJ ?_)
  refine aQ (n - (i + 1)) _ _ _ (by first | omega | (simp only [List.length_append, List.length_cons, List.length_nil]; omega)) aS aG aF (⟨i + 1, g, by omega, rfl, by rw [hg, hs]; show _ + _ = sI _ i + (gt es (i : Int)).z; rw [hx], rfl, rfl, rfl⟩)
 ·obtain rfl : i = n := by omega
  repeat (refine aJ ?_)
  refine bC (cs := eN s) (.inl rfl) rfl rfl aB rfl M0 (fZ s (u + i) :: I0) aG aF ⟨rfl, s, rfl, hs, rfl⟩
theorem aHG {p q : TZ} {k m : Nat} (hk : 63 ≤ k + m) (hk2 : k + m ≤ 100000000000) (hp : aY p k ∈ I0) (hq : aY q m ∈ I0) : CD Tryz.prog 131 [dE p, dE q] X w0 M0 I0 (NQ (p.t.dot q.t) (k + m + 3) M0 I0) := by
 have hM := fun (a b : ZE) M0 I0 h1 h2 => aLU (X := X) (w0 := w0) (M0 := M0) (I0 := I0) (a := a) (b := b) (k := k) (m := m) (by omega) h1 h2
 have hS := fun (b : Nat) (x y z : ZE) M0 I0 h1 h2 => aNL (X := X) (w0 := w0) (M0 := M0) (I0 := I0) (q := some ⟨b, 0, none⟩) (es := [x, y, z]) (n := 3) (c := 3) (u := k + m) hk (by omega) rfl h1 h2
 refine bX (φ := fZ p.x k) (Hv.zx hp) (bX (φ := fZ p.y k) (Hv.zy (List.mem_cons_of_mem _ hp)) (bX (φ := fZ p.z k) (Hv.zz (List.mem_cons_of_mem _ (List.mem_cons_of_mem _ hp))) ?_))
 refine bX (φ := fZ q.x m) (Hv.zx (k := m) (List.mem_cons_of_mem _ (List.mem_cons_of_mem _ (List.mem_cons_of_mem _ hq)))) (bX (φ := fZ q.y m) (Hv.zy (k := m) (List.mem_cons_of_mem _ (List.mem_cons_of_mem _ (List.mem_cons_of_mem _ (List.mem_cons_of_mem _ hq))))) (bX (φ := fZ q.z m) (Hv.zz (k := m) (List.mem_cons_of_mem _ (List.mem_cons_of_mem _ (List.mem_cons_of_mem _ (List.mem_cons_of_mem _ (List.mem_cons_of_mem _ hq)))))) ?_))
 refine bI Tryz.func131 rfl Tryz.ntmps131 rfl ?_
 refine aH ?_
 refine aI ?_
 (refine aK rfl rfl rfl ?_; intro b2; refine ⟨okF, ?_⟩)
 refine aO (cs := kW p) .here ?_
 (refine aK rfl rfl rfl ?_; intro b3; refine ⟨okF, ?_⟩)
 refine aO (cs := kW q) .here ?_
 (refine aC rfl rfl ?_; intro b4; refine ⟨okF, ?_⟩)
 repeat (refine aJ ?_)
 refine nC (fun G M I => ∃ (g : ZE), g.z = p.t.dot q.t ∧ G = [(4, .pointer (some ⟨b4, 0, none⟩))] ∧ M = .blk b4 (eN g) 42 :: M0 ∧ I = fZ g (k + m + 3) :: I0) ?_ ?_
 ·(repeat refine aH ?_); refine bB (M0) (aX (some ⟨b3, 0, none⟩) (kW q) :: aX (some ⟨b2, 0, none⟩) (kW p) :: I0) [0, 1, 2, 3, 5, 6, 7, 8, 10, 11, 12, 13, 4, 9, 14, 15, 16, 17] [5, 4, 5, 4, 5, 4, 5, 4, 5, 4, 5, 4, 0, 0, 0, 0, 0, 0] aG aF mixed (by kernel_rfl) ?_
  repeat (refine aJ ?_)
  (refine aA rfl (hM p.x q.x _ _ aB aB) rfl rfl ?_; rintro _ _ _ ⟨rfl, g0, rfl, hg0, rfl⟩; refine ⟨okF, ?_⟩)
  (refine aA rfl (hM p.y q.y _ _ aB aB) rfl rfl ?_; rintro _ _ _ ⟨rfl, g1, rfl, hg1, rfl⟩; refine ⟨okF, ?_⟩)
  (refine aA rfl (hM p.z q.z _ _ aB aB) rfl rfl ?_; rintro _ _ _ ⟨rfl, g2, rfl, hg2, rfl⟩; refine ⟨okF, ?_⟩)
  (refine dM (cs := recs eN [g0, g1, g2]) ([nv g0, nv g1, nv g2]) rfl rfl (by intro v hv; repeat (first | exact absurd hv (List.not_mem_nil) | (rcases List.mem_cons.1 hv with rfl | hv; · rfl))) (by omega) rfl rfl rfl ?_; intro b; refine ⟨okF, ?_⟩)
  refine aO (cs := recs eN [g0, g1, g2]) .here ?_
  (refine aA rfl (hS b g0 g1 g2 _ _ aB (fun e he => by
   simp only [List.mem_cons, List.not_mem_nil, or_false] at he
   rcases he with rfl | rfl | rfl <;> simp)) rfl rfl ?_; rintro _ _ _ ⟨rfl, g, rfl, hg, rfl⟩; refine ⟨okF, ?_⟩)
  repeat (refine aJ ?_)
  refine bN _ _ _ aS aG aF ⟨g, by rw [hg]; show 0 + g0.z + g1.z + g2.z = p.x.z * q.x.z + p.y.z * q.y.z + p.z.z * q.z.z; rw [hg0, hg1, hg2, Int.zero_add], rfl, rfl, rfl⟩
 rintro G M I ⟨g, hg, rfl, rfl, rfl⟩
 repeat (refine aJ ?_)
 refine bC (cs := eN g) (.inl rfl) rfl rfl aB rfl M0 (fZ g (k + m + 3) :: I0) aG aF ⟨rfl, g, rfl, hg, rfl⟩
end
end Go.Proofs.YtmmmfphealhapaaGreat
