/- Chapter 30's law on projection matrices: center. -/
import Derived.Test.YtgeagiikkeiioaaGreatZrbm
import Derived.Test.YtgeagiikkeiioaaGreatZrax
set_option linter.unusedSimpArgs false
set_option linter.unusedVariables false
set_option maxRecDepth 100000
set_option maxHeartbeats 4000000
namespace Go.Proofs.YtgeagiikkeiioaaGreat
open Go Go.Fx
section
variable {X : List Nat} {w0 : World} {M0 : List Ent} {I0 : List bL}
theorem aDU {m : WM} (sm : m.sml) (hm : kW m ∈ I0) (h0 : ¬ shP m) :
  CD Tryz.prog 33 [mvW m] X w0 M0 I0 (fun v M I => M0 = M ∧ I0 = I ∧ v = .tuple #[.agg zT3.toArray, .int .i64 4]) := by
 have hS := fun M0 I0 h => rE (X := X) (w0 := w0) (M0 := M0) (I0 := I0) (m := m) sm h
 rw [bC h0] at hS
 refine bX Tryz.func33 rfl Tryz.ntmps33 rfl ?_
 refine aN ?_
 refine aI ?_
 (refine aC rfl rfl ?_; intro b2; refine ⟨okF, ?_⟩)
 repeat (refine aK ?_)
 (refine aA rfl (hS _ _ aB) rfl rfl ?_; rintro _ _ _ ⟨rfl, rfl, rfl⟩; refine ⟨okF, ?_⟩)
 repeat (refine aK ?_)
 (refine aD rfl (fun _ => nC (pvs := []) (cells := zT3) rfl rfl) rfl rfl ?_)
 repeat (refine aK ?_)
 refine gI (rs := [.cell 2 43, .tmp 3]) (vs := [.agg zT3.toArray, .int .i64 4]) (.inl rfl) rfl (.cellN (cs := zT3) inferInstance rfl aB rfl (.tmp rfl .nil)) rfl M0 I0 aF aG ⟨rfl, rfl, rfl⟩
theorem yL {m : MX} {k K : Nat} (hK : K = kb k 4) (hk : K ≤ 1000000000) (dm : m.fit 3 4) (hm : nU m k ∈ I0) :
  CD Tryz.prog 33 [mv m] X w0 M0 I0 (fun v M I => if ctrOk (oQ m.q 4) then
   (M0 = M ∧ ∃ a b c : RE, v = .tuple #[.agg (recs eR [a, b, c]).toArray, .int .i64 0] ∧ [a.q, b.q, c.q] = (List.range 3).map (fun i => at2 (oQ m.q 4) 0 i / at2 (oQ m.q 4) 0 3) ∧ I = bZ c (2 * K) :: bZ b (2 * K) :: bZ a (2 * K) :: I0) else (M0 = M ∧ I0 = I ∧ v = .tuple #[.agg zT3.toArray, .int .i64 13])) := by
 have hkk : k ≤ K := by rw [hK]; exact tX k (Nat.zero_le 4)
 refine kV (φ := m.raw.sml) (fun w hw => Mem.xsml hm dm (by omega) hw) (fun hsm => ?_)
 have hS := fun M0 I0 h => rE (X := X) (w0 := w0) (M0 := M0) (I0 := I0) (m := m.raw) hsm h
 rw [cO (aHV dm), lU] at hS
 refine eD (φ := kW m.raw) (Hv.xraw hm (by omega)) ?_
 refine bX Tryz.func33 rfl Tryz.ntmps33 rfl ?_
 refine aN ?_
 refine aI ?_
 (refine aC rfl rfl ?_; intro b2; refine ⟨okF, ?_⟩)
 repeat (refine aK ?_)
 (refine aA rfl (hS _ _ aB) rfl rfl ?_; rintro _ _ _ ⟨rfl, rfl, rfl⟩; refine ⟨okF, ?_⟩)
 repeat (refine aK ?_)
 (refine aA rfl (aKY (R := 3) (C := 4) (k0 := k) (by omega) (by omega) (by omega) dm.1 aB) rfl rfl ?_; rintro _ _ _ ⟨rfl, n, rfl, hn, hnc, rfl⟩; refine ⟨okF, ?_⟩)
 rw [← hK]
 rw [← hn]
 have hnl : n.q.length = n.rows.length := by simp
 have hx : ∀ i : Nat, i < 4 → 0 < n.rows.length → at2 n.q 0 i = (gt (gt n.rows 0).es (i : Int)).q := fun i hi h => by
  have := hnc _ (dI (ms := n.rows) (i := 0) (by omega))
  exact rU (m := n) (i := 0) (j := i) h (by show i < (gt n.rows 0).es.length; omega)
 refine gN (φ := bP (n).p (recs eL (n).rows)) (Hv.xsl aB) ?_
 by_cases h1 : n.rows.length = 1
 ·have hc4 : (gt n.rows 0).es.length = 4 := hnc _ (dI (by omega))
  have x0 : at2 n.q 0 0 = (gt (gt n.rows 0).es 0).q := hx 0 (by omega) (by omega)
  have x1 : at2 n.q 0 1 = (gt (gt n.rows 0).es 1).q := hx 1 (by omega) (by omega)
  have x2 : at2 n.q 0 2 = (gt (gt n.rows 0).es 2).q := hx 2 (by omega) (by omega)
  have x3 : at2 n.q 0 3 = (gt (gt n.rows 0).es 3).q := hx 3 (by omega) (by omega)
  refine gN (φ := bP (gt n.rows 0).p (recs eR (gt n.rows 0).es)) (Hv.xrsl aB (by omega)) ?_
  refine gN (φ := bZ (gt (gt n.rows 0).es 0) K) (Hv.xel aB (by omega) (by omega)) ?_
  refine gN (φ := bZ (gt (gt n.rows 0).es 1) K) (Hv.xel aB (by omega) (by omega)) ?_
  refine gN (φ := bZ (gt (gt n.rows 0).es 2) K) (Hv.xel aB (by omega) (by omega)) ?_
  refine gN (φ := bZ (gt (gt n.rows 0).es 3) K) (Hv.xel aB (by omega) (by omega)) ?_
  have hZ := fun M0 I0 => yN (X := X) (w0 := w0) (M0 := M0) (I0 := I0) (a := gt (gt n.rows 0).es 3) (k := K) (by omega)
  by_cases h0 : (gt (gt n.rows 0).es 3).q = 0
  ·have hno : ¬ ctrOk n.q := fun h => h.2 (by rw [x3]; exact h0)
   simp only [if_neg hno]
   rw [cO h0] at hZ
   repeat (refine aK ?_)
   (refine aA rfl (hZ _ _ (Hv.mem aB)) rfl rfl ?_; rintro _ _ _ ⟨rfl, rfl, rfl⟩; refine ⟨okF, ?_⟩)
   repeat (refine aK ?_)
   (refine aD rfl (fun _ => nC (pvs := []) (cells := zT3) rfl rfl) rfl rfl ?_)
   repeat (refine aK ?_)
   refine gI (rs := [.cell 2 43, .tmp 3]) (vs := [.agg zT3.toArray, .int .i64 13]) (.inl rfl) rfl (.cellN (cs := zT3) inferInstance rfl aB rfl (.tmp rfl .nil)) rfl M0 I0 aF aG ⟨rfl, rfl, rfl⟩
  ·have hyes : ctrOk n.q := ⟨by omega, by rw [x3]; exact h0⟩
   simp only [if_pos hyes]
   rw [bC h0] at hZ
   have hD := fun (x : RE) M0 I0 h1 h2 => aHY (X := X) (w0 := w0) (M0 := M0) (I0 := I0) (a := x) (b := gt (gt n.rows 0).es 3) (k := K) (m := K) (by omega) h0 h1 h2
   rw [show K + K = 2 * K by omega] at hD
   repeat (refine aK ?_)
   (refine aA rfl (hZ _ _ (Hv.mem aB)) rfl rfl ?_; rintro _ _ _ ⟨rfl, rfl, rfl⟩; refine ⟨okF, ?_⟩)
   repeat (refine aK ?_)
   (repeat refine aN ?_); refine eX (M0) (bZ (gt (gt n.rows 0).es 3) K :: bZ (gt (gt n.rows 0).es 2) K :: bZ (gt (gt n.rows 0).es 1) K :: bZ (gt (gt n.rows 0).es 0) K :: bP (gt n.rows 0).p (recs eR (gt n.rows 0).es) :: I0) [0, 1, 2, 3, 4, 5, 7, 8, 9, 10, 11, 12, 14, 15, 16, 17, 18, 19, 6, 13, 20, 21, 22, 23] [3, 3, 2, 3, 3, 2, 3, 3, 2, 3, 3, 2, 3, 3, 2, 3, 3, 2, 0, 0, 0, 0, 0, 0] aF aG mixed (by kernel_rfl) ?_
   repeat (refine aK ?_)
   (refine aA rfl (hD (gt (gt n.rows 0).es 0) _ _ (Hv.mem aB) (Hv.mem aB)) rfl rfl ?_; rintro _ _ _ ⟨rfl, a, rfl, ha, rfl⟩; refine ⟨okF, ?_⟩)
   repeat (refine aK ?_)
   (refine aA rfl (hD (gt (gt n.rows 0).es 1) _ _ (Hv.mem aB) (Hv.mem aB)) rfl rfl ?_; rintro _ _ _ ⟨rfl, b, rfl, hb, rfl⟩; refine ⟨okF, ?_⟩)
   repeat (refine aK ?_)
   (refine aA rfl (hD (gt (gt n.rows 0).es 2) _ _ (Hv.mem aB) (Hv.mem aB)) rfl rfl ?_; rintro _ _ _ ⟨rfl, c, rfl, hc, rfl⟩; refine ⟨okF, ?_⟩)
   repeat (refine aK ?_)
   (refine aD rfl (fun _ => bF (vals := [rv a, rv b, rv c]) (cells := recs eR [a, b, c]) rfl ?hpl rfl ?hz) rfl rfl ?_; (case hpl => exact (by intro v hv; repeat (first | exact absurd hv (List.not_mem_nil) | (rcases List.mem_cons.1 hv with rfl | hv; · rfl)))); (case hz => rfl))
   repeat (refine aK ?_)
   refine gI (rs := [.cell 2 43, .tmp 3]) (vs := [.agg (recs eR [a, b, c]).toArray, .int .i64 0]) (.inl rfl) rfl (.cellN (cs := recs eR [a, b, c]) inferInstance rfl aB rfl (.tmp rfl .nil)) rfl M0 (bZ c (2 * K) :: bZ b (2 * K) :: bZ a (2 * K) :: I0) aF aG ⟨rfl, a, b, c, rfl, ?_, rfl⟩
   rw [ha, hb, hc, ← x0, ← x1, ← x2, ← x3]
   rfl
 ·have hno : ¬ ctrOk n.q := fun h => h1 (by rw [← hnl]; exact h.1)
  simp only [if_neg hno]
  repeat (refine aK ?_)
  (refine aD rfl (fun _ => nC (pvs := []) (cells := zT3) rfl rfl) rfl rfl ?_)
  repeat (refine aK ?_)
  refine gI (rs := [.cell 2 43, .tmp 3]) (vs := [.agg zT3.toArray, .int .i64 13]) (.inl rfl) rfl (.cellN (cs := zT3) inferInstance rfl aB rfl (.tmp rfl .nil)) rfl M0 I0 aF aG ⟨rfl, rfl, rfl⟩
end
end Go.Proofs.YtgeagiikkeiioaaGreat
