/- The law ResectDirect: every case. Pairs opened, with sizes. -/
import Derived.Test.YtgeagiikkeiioaaGreatZdbp
set_option linter.unusedSimpArgs false
set_option linter.unusedVariables false
set_option maxRecDepth 100000
set_option maxHeartbeats 4000000
namespace Go.Proofs.YtgeagiikkeiioaaGreat
open Go Go.Fx
theorem aRG {ws : List VW} (hf : ∀ v ∈ ws, v.x.Fit ∧ v.y.Fit ∧ v.z.Fit) (hg : ∀ v ∈ ws, v.w.good) : ∃ W : List VE, ws = W.map VE.raw := by
 induction ws with
 | nil => exact ⟨[], rfl⟩
 | cons v ws ih =>
  obtain ⟨W, rfl⟩ := ih (fun x hx => hf x (List.Mem.tail _ hx)) (fun x hx => hg x (List.Mem.tail _ hx))
  obtain ⟨f1, f2, f3⟩ := hf v (List.Mem.head _)
  have g := hg v (List.Mem.head _)
  obtain ⟨a, ha⟩ := RW.good_raw f1 (g v.x (by simp [VW.w]))
  obtain ⟨b, hb⟩ := RW.good_raw f2 (g v.y (by simp [VW.w]))
  obtain ⟨c, hc⟩ := RW.good_raw f3 (g v.z (by simp [VW.w]))
  exact ⟨⟨a, b, c⟩ :: W, by cases v; simp only at ha hb hc; subst ha hb hc; rfl⟩
theorem aQI {ps : List PW} (hf : ∀ v ∈ ps, v.x.Fit ∧ v.y.Fit) (hg : ∀ v ∈ ps, v.good) : ∃ P : List PE, ps = P.map PE.raw := by
 induction ps with
 | nil => exact ⟨[], rfl⟩
 | cons v ps ih =>
  obtain ⟨P, rfl⟩ := ih (fun x hx => hf x (List.Mem.tail _ hx)) (fun x hx => hg x (List.Mem.tail _ hx))
  obtain ⟨f1, f2⟩ := hf v (List.Mem.head _)
  obtain ⟨e, rfl⟩ := PW.good_raw f1 f2 (hg v (List.Mem.head _))
  exact ⟨e :: P, rfl⟩
section
variable {X : List Nat} {w0 : World} {M0 : List Ent} {I0 : List bD}
theorem LDir {q1 q2 : Option Addr} {c1 c2 : Nat} {ws : List VW} {ps : List PW} (rw_ : ws.length ≤ 35184372088832 ∧ ∀ v ∈ ws, v.reach) (rp : ps.length ≤ 35184372088832) (h1 : bH q1 (recs eVW ws) ∈ I0) (h2 : bH q2 (recs ePW ps) ∈ I0) (a1 : uR ws ∈ I0) (a2 : mE ps ∈ I0) :
  CD Tryz.prog 3 [.agg #[.slice q1 ws.length c1, .slice q2 ps.length c2]] X w0 M0 I0 (fun v M I => M0 = M ∧ I0 = I ∧ v = .bool true) := by
 by_cases hb : fewP ws ps ∧ dirOk ws ps
 ·obtain ⟨hf, hg, hn, hlen⟩ := hb
  refine yI (φ := (∀ v ∈ ws, v.x.Fit ∧ v.y.Fit ∧ v.z.Fit) ∧ ∀ v ∈ ps, v.x.Fit ∧ v.y.Fit) (fun w hw => ⟨fun v hv => by
   have := ((hw.imm _ a1).2 : AllVW ws _ w).go v hv
   exact ⟨this.x.fit, this.y.fit, this.z.fit⟩, fun v hv => by
   have := ((hw.imm _ a2).2 : AllPW ps _ w).go v hv
   exact ⟨this.x.fit, this.y.fit⟩⟩) (fun hfit => ?_)
  obtain ⟨W, rfl⟩ := aRG hfit.1 hg.1
  obtain ⟨P, rfl⟩ := aQI hfit.2 hg.2
  have hF := fun M0 => xP (X := X) (w0 := w0) (M0 := M0) (I0 := rW P 30 :: aCG W 30 :: I0) (q1 := q1) (q2 := q2) (c1 := c1) (c2 := c2) (ws := W.map VE.raw) (ps := P.map PE.raw) rw_ rp (List.Mem.tail _ (List.Mem.tail _ h1)) (List.Mem.tail _ (List.Mem.tail _ h2)) (List.Mem.tail _ (List.Mem.tail _ a1)) (List.Mem.tail _ (List.Mem.tail _ a2))
  have hsm := hf.sml
  have few20 := hf.1
  rw [bS hf] at hF
  have hV := fun M0 I0 h1 h2 a1 a2 => pO (φ := uR (W.map VE.raw)) (Hv.rawVs (k := 30) (by omega) a1) (pO (φ := mE (P.map PE.raw)) (Hv.rawPs (k := 30) (by omega) (List.Mem.tail _ a2)) (uQ (X := X) (w0 := w0) (M0 := M0) (I0 := mE (P.map PE.raw) :: uR (W.map VE.raw) :: I0) (q1 := q1) (q2 := q2) (c1 := c1) (c2 := c2) (ws := W.map VE.raw) (ps := P.map PE.raw) (by omega) (by omega) hsm.1 hsm.2 (List.Mem.tail _ (List.Mem.tail _ h1)) (List.Mem.tail _ (List.Mem.tail _ h2)) (List.Mem.tail _ (List.Mem.head _)) (List.Mem.head _)))
  rw [bS hg] at hV
  have hcan := fun M0 I0 h2 a2 => pO (φ := mE (P.map PE.raw)) (Hv.rawPs (k := 30) (by omega) a2) (sW (X := X) (w0 := w0) (M0 := M0) (I0 := mE (P.map PE.raw) :: I0) (q := q2) (c := c2) (m := (P.map PE.raw).length) (ps := P.map PE.raw) rfl (by omega) hsm.2 (List.Mem.tail _ h2) (Hv.mem (List.Mem.head _)))
  rw [bS hg.2] at hcan
  have hvV : Hv I0 (aCG W 30) := ⟨fun X w hw => ⟨fun v hv => by
   have h3 := (hw _ a1 : AllVW _ X w).go v.raw (List.mem_map.2 ⟨v, hv, rfl⟩)
   have h4 := (hf.2.2 v.raw (List.mem_map.2 ⟨v, hv, rfl⟩)).2
   exact ⟨qE ((h4 v.x.raw (by simp [VW.w, VE.raw])).2 (by omega)) h3.x, qE ((h4 v.y.raw (by simp [VW.w, VE.raw])).2 (by omega)) h3.y, qE ((h4 v.z.raw (by simp [VW.w, VE.raw])).2 (by omega)) h3.z⟩⟩⟩
  have hvP : Hv I0 (rW P 30) := ⟨fun X w hw => ⟨fun v hv => by
   have h3 := (hw _ a2 : AllPW _ X w).go v.raw (List.mem_map.2 ⟨v, hv, rfl⟩)
   have h4 := hf.2.1 v.raw (List.mem_map.2 ⟨v, hv, rfl⟩)
   exact ⟨qE h4.1 h3.x, qE h4.2 h3.y⟩⟩⟩
  rw [List.length_map] at hlen hn ⊢
  rw [List.length_map] at hlen ⊢
  simp only [List.length_map, aJH, aJX] at hF hV hcan h1 h2
  refine pO hvV (pO hvP.cons ?_)
  rw [hlen] at hF hV hcan ⊢
  exact aOM rfl hlen hn hf (List.Mem.tail _ (List.Mem.tail _ h1)) (List.Mem.tail _ (List.Mem.tail _ h2)) (List.Mem.tail _ (List.Mem.head _)) (List.Mem.head _) hF (fun M0 I0 h1 h2 a1 a2 => hV M0 I0 h1 h2 a1 a2) (fun M0 I0 h2 a2 => hcan M0 I0 h2 a2)
 ·exact aLM rw_ rp h1 h2 a1 a2 hb
end
end Go.Proofs.YtgeagiikkeiioaaGreat
namespace Go.Proofs.YtgeagiikkeiioaaGreat
open Go Go.Fx
open Go.ChangeShapes Go.WideShapes Go.RowKit Go.ChangeAt
section
variable {H : Type} {enc : TypeId × Value → H} {W : World}
theorem aLJ {n : Nat} {cs : List Value} {y : DataW H × List MemPlace} (h : DataW.trod enc Tryz.prog W 0 (fun _ => true) true n 43 cs = some y) (hw : ∀ z ∈ y.1.weights Tryz.prog 43, z ≤ reachBytes) : ∃ r : VW, cs = eVW r ∧ IsVW r [] W ∧ r.reach := by
 have hc4 : Tryz.prog.cellsOf 42 = 4 := by kernel_rfl
 have hc12 : Tryz.prog.cellsOf 43 = 12 := by kernel_rfl
 obtain ⟨xs, m, _, rfl, hl, hxl, hx⟩ := DataW.trod_array Tryz.underlying43 h
 rw [hc12] at hl
 have each : ∀ i : Nat, i < 3 → ∃ q : RW, (cs.drop (i * 4)).take 4 = eW q ∧ IsW q [] W ∧ q.reach := fun i hi => by
  have h1 := hx i hi
  rw [hc4, List.getElem?_eq_getElem (by omega)] at h1
  refine aAF h1 (fun x hxw => hw x ?_)
  simp only [DataW.weights, Tryz.underlying43]
  exact oP (List.mem_map.2 ⟨_, List.getElem_mem _, rfl⟩) hxw
 obtain ⟨p0, e0, i0, r0⟩ := each 0 (by omega)
 obtain ⟨p1, e1, i1, r1⟩ := each 1 (by omega)
 obtain ⟨p2, e2, i2, r2⟩ := each 2 (by omega)
 refine ⟨⟨p0, p1, p2⟩, ?_, ⟨i0, i1, i2⟩, r0, r1, r2⟩
 have e : cs = eW p0 ++ (eW p1 ++ eW p2) := by
  rw [← e0, ← e1, ← e2]
  simp only [Nat.zero_mul, List.drop_zero, Nat.one_mul]
  rw [List.take_of_length_le (l := cs.drop (2 * 4)) (by simp; omega)]
  have a1 : (cs.drop 4).take 4 ++ cs.drop (2 * 4) = cs.drop 4 := by
   have := List.take_append_drop 4 (cs.drop 4)
   rwa [List.drop_drop] at this
  rw [a1, List.take_append_drop]
 rw [e]; rfl
theorem aLA {n : Nat} {cs : List Value} {y : DataW H × List MemPlace} (h : DataW.trod enc Tryz.prog W 0 (fun _ => true) true n 47 cs = some y) (hw : ∀ z ∈ y.1.weights Tryz.prog 47, z ≤ reachBytes) : ∃ r : PW, cs = ePW r ∧ IsPW r [] W := by
 obtain ⟨hl, n', z0, z1, h0, h1, hw0, hw1⟩ := wD (t0 := 42) (t1 := 42) (m := 4) (k := 4) Tryz.underlying47 (by rfl) (by kernel_rfl) (by kernel_rfl) (by kernel_rfl) h hw
 obtain ⟨a, e0, i0, _⟩ := aAF h0 hw0
 obtain ⟨b, e1, i1, _⟩ := aAF h1 hw1
 refine ⟨⟨a, b⟩, ?_, i0, i1⟩
 rw [← List.take_append_drop 4 cs, e0, e1]; rfl
theorem aGZ {base : Nat} {v : Value} {d : DataW H} {p : List MemPlace} (hv : Value.okWide Tryz.prog W .any base 25 v) (h : DataW.Trod enc Tryz.prog W 0 (fun _ => true) true 25 v d p) (hw : ∀ x ∈ d.weights Tryz.prog 25, x ≤ reachBytes) :
  ∃ (q1 q2 : Option Addr) (c1 c2 : Nat) (ws : List VW) (ps : List PW), v = .agg #[.slice q1 ws.length c1, .slice q2 ps.length c2] ∧ Sl [] W q1 (recs eVW ws) ∧ Sl [] W q2 (recs ePW ps) ∧ (∀ r ∈ ws, IsVW r [] W ∧ r.reach) ∧ (∀ r ∈ ps, IsPW r [] W) ∧ ws.length ≤ 35184372088832 ∧ ps.length ≤ 35184372088832 := by
 simp only [Value.okWide, Tryz.underlying25] at hv
 obtain ⟨cs, rfl, hsz, hrow⟩ := hv
 obtain ⟨fuel, hf⟩ := h
 obtain ⟨hl, n', z0, z1, h0, h1, hw0, hw1⟩ := wD (t0 := 22) (t1 := 23) (m := 1) (k := 1) Tryz.underlying25 (by rfl) (by kernel_rfl) (by kernel_rfl) (by kernel_rfl) (show DataW.trod enc Tryz.prog W 0 (fun _ => true) true fuel 25 cs.toList = some (d, p) from hf) hw
 obtain ⟨q1, ws, c1, e1, s1, m1, _, _, l1⟩ := vF (en := eVW) (Pm := fun r => IsVW r [] W ∧ r.reach) Tryz.underlying22 (by rw [show Tryz.prog.cellsOf 43 = 12 by kernel_rfl]; decide) (fun r n y _ hy hw => aLJ hy hw) h0 hw0
 obtain ⟨q2, ps, c2, e2, s2, m2, _, _, l2⟩ := vF (en := ePW) (Pm := fun r => IsPW r [] W) Tryz.underlying23 (by rw [show Tryz.prog.cellsOf 47 = 8 by kernel_rfl]; decide) (fun r n y _ hy hw => aLA hy hw) h1 hw1
 rw [show Tryz.prog.bytesOf 43 = 192 by kernel_rfl] at l1
 rw [show Tryz.prog.bytesOf 47 = 128 by kernel_rfl] at l2
 have hr : reachBytes = 140737488351232 := rfl
 refine ⟨q1, q2, c1, c2, ws, ps, ?_, s1, s2, m1, m2, by omega, by omega⟩
 have e : cs.toList = [.slice q1 ws.length c1, .slice q2 ps.length c2] := by
  rw [← List.take_append_drop 1 cs.toList, e1, e2]; rfl
 rw [show cs = cs.toList.toArray by simp, e]
end
end Go.Proofs.YtgeagiikkeiioaaGreat
