/- consensus.Best. Best of the program at every kind; Best of moved pairs. Plain: homographies of permuted and of repeated pairs; no sample has more than the best; their determinants. The law TopConsensus, plain: its example, and what it asks. -/
import Derived.Test.YtmmmfphealhapaaGreatZrbf
import Derived.Test.YtmmmfphealhapaaGreatZraw
import Derived.Test.YtmmmfphealhapaaGreatZrbe
import Derived.Test.YtmmmfphealhapaaGreatZrba
import Derived.Test.YtmmmfphealhapaaGreatZrbb
set_option linter.unusedSimpArgs false
set_option linter.unusedVariables false
set_option maxRecDepth 100000
set_option maxHeartbeats 4000000
namespace Go.Proofs.YtmmmfphealhapaaGreat
open Go Go.Fx
def aHH (o : Option (List Int × List Int × Mt)) (kd : Int) (M0 : List Ent) (I0 : List bA) (v : Value) (M : List Ent) (I : List bA) : Prop := M0 = M ∧ match o with
 | none => I0 = I ∧ v = .tuple #[.agg zF4.toArray, .int .i64 6]
 | some g => ∃ f : BF, v = .tuple #[.agg (zF f).toArray, .int .i64 0] ∧ f.kd = kd ∧ f.smp = g.1 ∧ f.inl = g.2.1 ∧ f.m.q = g.2.2 ∧ f.m.dim 3 3 ∧ I = IsBF f :: I0
section
variable {X : List Nat} {w0 : World} {M0 M1 M2 : List Ent} {I0 : List bA}
theorem aMZ {kd : Nat} {tol : Int} {q : Option Addr} {l : List Q4} {n c : Nat} {mdl : List Int → Option Mt} (hk : kd ≤ 3) (hl : l.length = n) (hn : n ≤ 12) (hc : pI l = 0) (ht : tolP tol) (hq : aX q (recs kI l) ∈ I0)
  (hM : ∀ (smp : List Int) (qs : Option Addr) (cs : Nat), SmpP n (kd + 1) 0 smp → ∀ M0 I0, aX q (recs kI l) ∈ I0 → CD Tryz.prog 44 [.int .i64 (kd : Int), .slice q n c, .slice qs (kd + 1) cs] X w0 (.row qs (kd + 1) cs (recs eZ smp) 3 1 :: M0) I0 (FitR (mdl smp) kX (.row qs (kd + 1) cs (recs eZ smp) 3 1 :: M0) I0)) :
  CD Tryz.prog 9 [.int .i64 (kd : Int), .slice q n c, .int .i64 tol] X w0 M0 I0 (aHH (kL mdl (fun A => gD A l tol) (uM n (kd + 1) 0)) (kd : Int) M0 I0) := by
 have hkc : tX (kd : Int) l = 0 := by unfold tX; rw [if_pos hc, if_pos ⟨by omega, by omega⟩]
 have hK := fun M0 I0 h => aJR (X := X) (w0 := w0) (M0 := M0) (I0 := I0) (x := (kd : Int)) (q := q) (l := l) (n := n) (c := c) hl (by omega) h
 have hT := fun M0 I0 => aPX (X := X) (w0 := w0) (M0 := M0) (I0 := I0) (t := tol)
 rw [hkc, if_pos rfl] at hK
 rw [if_pos ht] at hT
 have hs := (aBL hc).2
 refine bX (φ := aX q (recs kI l)) (Hv.mem hq) ?_
 refine oU Tryz.func9 rfl Tryz.ntmps9 rfl ?_
 refine aH ?_
 refine aI ?_
 (refine kG rfl rfl rfl ?_; intro b3; refine ⟨okF, ?_⟩)
 refine aO .here ?_
 (refine aOI rfl rfl rfl ?_; intro b4; refine ⟨okF, ?_⟩)
 (refine kG rfl rfl rfl ?_; intro b5; refine ⟨okF, ?_⟩)
 refine aO .here ?_
 (refine aC rfl rfl ?_; intro b6; refine ⟨okF, ?_⟩)
 repeat (refine aJ ?_)
 (refine aA rfl (hK _ _ aB) rfl rfl ?_; rintro _ _ _ ⟨rfl, rfl, rfl⟩; refine ⟨okF, ?_⟩)
 repeat (refine aJ ?_)
 (refine aA rfl (hT _ _) rfl rfl ?_; rintro _ _ _ ⟨rfl, rfl, rfl⟩; refine ⟨okF, ?_⟩)
 have e1 : (kd : Int) + 1 = ((kd + 1 : Nat) : Int) := rfl
 by_cases h2 : (kd : Int) = 2
 ·repeat (refine aJ ?_)
  (refine aC rfl rfl ?_; intro b10; refine ⟨okF, ?_⟩)
  repeat (refine aJ ?_)
  rw [e1]
  refine tO (φ := IsBF zBF) Hv.zBF ?_
  refine aJV (M' := enB b10 zBF :: .blk b6 zF4 36 :: M0) (I' := IsBF zBF :: aX (some ⟨b5, 0, none⟩) [.int .i64 tol] :: aX (some ⟨b4, 0, none⟩) [.slice q n c] :: aX (some ⟨b3, 0, none⟩) [.int .i64 (kd : Int)] :: aX q (recs kI l) :: I0) SubP.refl aF ?_
  (refine aA rfl (uL (enB b10) IsBF (BR mdl (fun A => gD A l tol) (kd : Int)) (M1 := .blk b6 zF4 36 :: M0) (s0 := zBF) (by omega) (by omega) rfl (fun I1 hI vis s smp qs cs M2 hR hsm => yY hl (by omega) ⟨by omega, by omega⟩ hs ht (hI _ aB) (hI _ aB) (hI _ aB) (hI _ aB) (hM smp qs cs hsm) hR hsm)) rfl rfl ?_; rintro _ _ _ ⟨f, hR, rfl, rfl⟩; refine ⟨okF, ?_⟩)
  unfold BR at hR
  cases hb : kL mdl (fun A => gD A l tol) (uM n (kd + 1) 0) with
  | none =>
   rw [hb] at hR
   have hp : f.m.p = none := by rw [hR]
   repeat (refine aJ ?_)
   refine aD rfl (fun _ => iV rfl) rfl rfl ?_
   rw [hp]
   repeat (refine aJ ?_)
   (refine aD rfl (fun _ => aZ (pvs := ([]).zipIdx.map (fun p => (p.2, p.1))) (cells := zF4) rfl rfl) rfl rfl ?_)
   repeat (refine aJ ?_)
   refine jZ (M' := .blk b6 zF4 36 :: M0) (I' := I0) aG aF ?_
   refine dP (rs := [.cell 6 36, .tmp 7]) (vs := [.agg zF4.toArray, .int .i64 6]) (.inl rfl) rfl (.cellN (cs := zF4) inferInstance rfl aB rfl (.tmp rfl .nil)) rfl M0 I0 aG aF ⟨rfl, rfl, rfl⟩
  | some g =>
   rw [hb] at hR
   have hp : f.m.p.isNone = false := by
    cases hh : f.m.p with
    | none => exact absurd hh hR.2.2.2.2.2
    | some a => rfl
   repeat (refine aJ ?_)
   refine aD rfl (fun _ => iV rfl) rfl rfl ?_
   rw [hp]
   repeat (refine aJ ?_)
   refine jZ (M' := .blk b6 (zF f) 36 :: M0) (I' := IsBF f :: I0) aG aF ?_
   refine dP (rs := [.cell 6 36, .tmp 7]) (vs := [.agg (zF f).toArray, .int .i64 0]) (.inl rfl) rfl (.cellN (cs := zF f) inferInstance rfl aB rfl (.tmp rfl .nil)) rfl M0 (IsBF f :: I0) aG aF ⟨rfl, f, rfl, hR.1, hR.2.1, hR.2.2.1, hR.2.2.2.1, hR.2.2.2.2.1, rfl⟩
 by_cases h3 : (kd : Int) = 3
 ·repeat (refine aJ ?_)
  (refine aC rfl rfl ?_; intro b10; refine ⟨okF, ?_⟩)
  repeat (refine aJ ?_)
  rw [e1]
  refine tO (φ := IsBF zBF) Hv.zBF ?_
  refine aJV (M' := enB b10 zBF :: .blk b6 zF4 36 :: M0) (I' := IsBF zBF :: aX (some ⟨b5, 0, none⟩) [.int .i64 tol] :: aX (some ⟨b4, 0, none⟩) [.slice q n c] :: aX (some ⟨b3, 0, none⟩) [.int .i64 (kd : Int)] :: aX q (recs kI l) :: I0) SubP.refl aF ?_
  (refine aA rfl (uL (enB b10) IsBF (BR mdl (fun A => gD A l tol) (kd : Int)) (M1 := .blk b6 zF4 36 :: M0) (s0 := zBF) (by omega) (by omega) rfl (fun I1 hI vis s smp qs cs M2 hR hsm => yY hl (by omega) ⟨by omega, by omega⟩ hs ht (hI _ aB) (hI _ aB) (hI _ aB) (hI _ aB) (hM smp qs cs hsm) hR hsm)) rfl rfl ?_; rintro _ _ _ ⟨f, hR, rfl, rfl⟩; refine ⟨okF, ?_⟩)
  unfold BR at hR
  cases hb : kL mdl (fun A => gD A l tol) (uM n (kd + 1) 0) with
  | none =>
   rw [hb] at hR
   have hp : f.m.p = none := by rw [hR]
   repeat (refine aJ ?_)
   refine aD rfl (fun _ => iV rfl) rfl rfl ?_
   rw [hp]
   repeat (refine aJ ?_)
   (refine aD rfl (fun _ => aZ (pvs := ([]).zipIdx.map (fun p => (p.2, p.1))) (cells := zF4) rfl rfl) rfl rfl ?_)
   repeat (refine aJ ?_)
   refine jZ (M' := .blk b6 zF4 36 :: M0) (I' := I0) aG aF ?_
   refine dP (rs := [.cell 6 36, .tmp 7]) (vs := [.agg zF4.toArray, .int .i64 6]) (.inl rfl) rfl (.cellN (cs := zF4) inferInstance rfl aB rfl (.tmp rfl .nil)) rfl M0 I0 aG aF ⟨rfl, rfl, rfl⟩
  | some g =>
   rw [hb] at hR
   have hp : f.m.p.isNone = false := by
    cases hh : f.m.p with
    | none => exact absurd hh hR.2.2.2.2.2
    | some a => rfl
   repeat (refine aJ ?_)
   refine aD rfl (fun _ => iV rfl) rfl rfl ?_
   rw [hp]
   repeat (refine aJ ?_)
   refine jZ (M' := .blk b6 (zF f) 36 :: M0) (I' := IsBF f :: I0) aG aF ?_
   refine dP (rs := [.cell 6 36, .tmp 7]) (vs := [.agg (zF f).toArray, .int .i64 0]) (.inl rfl) rfl (.cellN (cs := zF f) inferInstance rfl aB rfl (.tmp rfl .nil)) rfl M0 (IsBF f :: I0) aG aF ⟨rfl, f, rfl, hR.1, hR.2.1, hR.2.2.1, hR.2.2.2.1, hR.2.2.2.2.1, rfl⟩
 repeat (refine aJ ?_)
 (refine aC rfl rfl ?_; intro b10; refine ⟨okF, ?_⟩)
 repeat (refine aJ ?_)
 rw [e1]
 refine tO (φ := IsBF zBF) Hv.zBF ?_
 refine aJV (M' := enB b10 zBF :: .blk b6 zF4 36 :: M0) (I' := IsBF zBF :: aX (some ⟨b5, 0, none⟩) [.int .i64 tol] :: aX (some ⟨b4, 0, none⟩) [.slice q n c] :: aX (some ⟨b3, 0, none⟩) [.int .i64 (kd : Int)] :: aX q (recs kI l) :: I0) SubP.refl aF ?_
 (refine aA rfl (uL (enB b10) IsBF (BR mdl (fun A => gD A l tol) (kd : Int)) (M1 := .blk b6 zF4 36 :: M0) (s0 := zBF) (by omega) (by omega) rfl (fun I1 hI vis s smp qs cs M2 hR hsm => yY hl (by omega) ⟨by omega, by omega⟩ hs ht (hI _ aB) (hI _ aB) (hI _ aB) (hI _ aB) (hM smp qs cs hsm) hR hsm)) rfl rfl ?_; rintro _ _ _ ⟨f, hR, rfl, rfl⟩; refine ⟨okF, ?_⟩)
 unfold BR at hR
 cases hb : kL mdl (fun A => gD A l tol) (uM n (kd + 1) 0) with
 | none =>
  rw [hb] at hR
  have hp : f.m.p = none := by rw [hR]
  repeat (refine aJ ?_)
  refine aD rfl (fun _ => iV rfl) rfl rfl ?_
  rw [hp]
  repeat (refine aJ ?_)
  (refine aD rfl (fun _ => aZ (pvs := ([]).zipIdx.map (fun p => (p.2, p.1))) (cells := zF4) rfl rfl) rfl rfl ?_)
  repeat (refine aJ ?_)
  refine jZ (M' := .blk b6 zF4 36 :: M0) (I' := I0) aG aF ?_
  refine dP (rs := [.cell 6 36, .tmp 7]) (vs := [.agg zF4.toArray, .int .i64 6]) (.inl rfl) rfl (.cellN (cs := zF4) inferInstance rfl aB rfl (.tmp rfl .nil)) rfl M0 I0 aG aF ⟨rfl, rfl, rfl⟩
 | some g =>
  rw [hb] at hR
  have hp : f.m.p.isNone = false := by
   cases hh : f.m.p with
   | none => exact absurd hh hR.2.2.2.2.2
   | some a => rfl
  repeat (refine aJ ?_)
  refine aD rfl (fun _ => iV rfl) rfl rfl ?_
  rw [hp]
  repeat (refine aJ ?_)
  refine jZ (M' := .blk b6 (zF f) 36 :: M0) (I' := IsBF f :: I0) aG aF ?_
  refine dP (rs := [.cell 6 36, .tmp 7]) (vs := [.agg (zF f).toArray, .int .i64 0]) (.inl rfl) rfl (.cellN (cs := zF f) inferInstance rfl aB rfl (.tmp rfl .nil)) rfl M0 (IsBF f :: I0) aG aF ⟨rfl, f, rfl, hR.1, hR.2.1, hR.2.2.1, hR.2.2.2.1, hR.2.2.2.2.1, rfl⟩
end
end Go.Proofs.YtmmmfphealhapaaGreat
namespace Go.Proofs.YtmmmfphealhapaaGreat
open Go Go.Fx
def vV (kd : Nat) (l : List Q4) (smp : List Int) : Option Mt := if kd = 3 then zK (mD l smp) else fitP kd (mD l smp)
def SameB (o o' : Option (List Int × List Int × Mt)) : Prop := (o = none ∧ o' = none) ∨ ∃ g g', o = some g ∧ o' = some g' ∧ g.1 = g'.1 ∧ g.2.1 = g'.2.1
def movQ (a b : Int) (ex tu : Bool) (s : Q4) : Q4 := (if tu then turnQ else id) ((if ex then exchQ else id) (aQB a b s))
section
variable {X : List Nat} {w0 : World} {M0 : List Ent} {I0 : List bA}
end
end Go.Proofs.YtmmmfphealhapaaGreat
namespace Go.Proofs.YtmmmfphealhapaaGreat
open Go Go.Fx
structure SameH (ps qs : List Q4) : Prop where
 l : colP (l4 ps) ↔ colP (l4 qs)
 m : colP (m4 ps) ↔ colP (m4 qs)
 h : ¬ colP (l4 qs) → ¬ colP (m4 qs) → ∃ c : Rat, c ≠ 0 ∧ bD (dB (eD ps)) = (bD (dB (eD qs))).map (fun x => c * x)
theorem SameH.refl (ps : List Q4) : SameH ps ps := ⟨Iff.rfl, Iff.rfl, fun _ _ => ⟨1, by decide, by simp⟩⟩
theorem SameH.trans {ps qs rs : List Q4} (a : SameH ps qs) (b : SameH qs rs) : SameH ps rs := ⟨a.l.trans b.l, a.m.trans b.m, fun h1 h2 => by
 obtain ⟨c, hc, e1⟩ := a.h (fun e => h1 (b.l.1 e)) (fun e => h2 (b.m.1 e))
 obtain ⟨d, hd, e2⟩ := b.h h1 h2
 refine ⟨c * d, iF hc hd, ?_⟩
 rw [e1, e2, List.map_map]
 exact List.map_congr_left (fun x _ => (Rat.mul_assoc c d x).symm)⟩
theorem tT (p q r : T3 Int) : d3 q p r = -d3 p q r ∧ d3 p r q = -d3 p q r ∧ d3 r q p = -d3 p q r := by
 simp only [d3, T3.cross, T3.dot]
 refine ⟨?_, ?_, ?_⟩ <;> grind
theorem neg0 (z : Int) : -z = 0 ↔ z = 0 := by omega
theorem aGH (p q r s : T3 Int) : colP ⟨q, p, r, s⟩ ↔ colP ⟨p, q, r, s⟩ := by
 unfold colP P4.k0 P4.k1 P4.k2 P4.k3
 simp only
 rw [show d3 s p r = -d3 p s r from (tT p s r).1, show d3 q s r = -d3 s q r from (tT s q r).1, show d3 q p s = -d3 p q s from (tT p q s).1, show d3 q p r = -d3 p q r from (tT p q r).1]
 simp only [neg0]
 constructor
 ·rintro (h | h | h | h)
  ·exact .inr (.inl h)
  ·exact .inl h
  ·exact .inr (.inr (.inl h))
  ·exact .inr (.inr (.inr h))
 ·rintro (h | h | h | h)
  ·exact .inr (.inl h)
  ·exact .inl h
  ·exact .inr (.inr (.inl h))
  ·exact .inr (.inr (.inr h))
theorem aHJ (p q r s : T3 Int) : colP ⟨p, r, q, s⟩ ↔ colP ⟨p, q, r, s⟩ := by
 unfold colP P4.k0 P4.k1 P4.k2 P4.k3
 simp only
 rw [show d3 s r q = -d3 s q r from (tT s q r).2.1, show d3 p s q = -d3 p q s from (tT p q s).2.1, show d3 p r s = -d3 p s r from (tT p s r).2.1, show d3 p r q = -d3 p q r from (tT p q r).2.1]
 simp only [neg0]
 constructor
 ·rintro (h | h | h | h)
  ·exact .inl h
  ·exact .inr (.inr (.inl h))
  ·exact .inr (.inl h)
  ·exact .inr (.inr (.inr h))
 ·rintro (h | h | h | h)
  ·exact .inl h
  ·exact .inr (.inr (.inl h))
  ·exact .inr (.inl h)
  ·exact .inr (.inr (.inr h))
theorem aGV (p q r s : T3 Int) : colP ⟨p, q, s, r⟩ ↔ colP ⟨p, q, r, s⟩ := by
 unfold colP P4.k0 P4.k1 P4.k2 P4.k3
 simp only
 rw [show d3 r q s = -d3 s q r from (tT s q r).2.2, show d3 p r s = -d3 p s r from (tT p s r).2.1]
 simp only [neg0]
 constructor
 ·rintro (h | h | h | h)
  ·exact .inl h
  ·exact .inr (.inl h)
  ·exact .inr (.inr (.inr h))
  ·exact .inr (.inr (.inl h))
 ·rintro (h | h | h | h)
  ·exact .inl h
  ·exact .inr (.inl h)
  ·exact .inr (.inr (.inr h))
  ·exact .inr (.inr (.inl h))
theorem aBI {ps qs : List Q4} (e1 : colP (l4 ps) ↔ colP (l4 qs)) (e2 : colP (m4 ps) ↔ colP (m4 qs)) (h : ∃ c0 c1 c2 c3 : Rat, (dB (eD qs)).app (bY (l4 ps)).p = (bY (m4 ps)).p.smul c0 ∧ (dB (eD qs)).app (bY (l4 ps)).q = (bY (m4 ps)).q.smul c1 ∧ (dB (eD qs)).app (bY (l4 ps)).r = (bY (m4 ps)).r.smul c2 ∧ (dB (eD qs)).app (bY (l4 ps)).s = (bY (m4 ps)).s.smul c3) : SameH ps qs := ⟨e1, e2, fun h1 h2 => by
 obtain ⟨c0, c1, c2, c3, a0, a1, a2, a3⟩ := h
 obtain ⟨s, hs, e⟩ := aOB (fun e => h1 (e1.1 e)) (fun e => h2 (e2.1 e)) a0 a1 a2 a3 (by
  obtain ⟨x, hx, hx0⟩ := vU h1 h2
  exact ⟨(x : Rat), List.mem_map_of_mem (f := fun x : Int => (x : Rat)) hx, int_ne hx0⟩)
 refine ⟨1 / s, by grind, ?_⟩
 rw [e, List.map_map]
 refine (List.map_id' _).symm.trans (List.map_congr_left (fun x _ => ?_))
 show x = 1 / s * (s * x)
 grind⟩
theorem sS (qs : List Q4) : (dB (eD qs)).app (bY (l4 qs)).p = (bY (m4 qs)).p.smul ((bY (m4 qs)).k0 * (bY (l4 qs)).k1 * (bY (l4 qs)).k2 * (bY (l4 qs)).k3) ∧ (dB (eD qs)).app (bY (l4 qs)).q = (bY (m4 qs)).q.smul ((bY (m4 qs)).k1 * (bY (l4 qs)).k0 * (bY (l4 qs)).k2 * (bY (l4 qs)).k3) ∧ (dB (eD qs)).app (bY (l4 qs)).r = (bY (m4 qs)).r.smul ((bY (m4 qs)).k2 * (bY (l4 qs)).k0 * (bY (l4 qs)).k1 * (bY (l4 qs)).k3) ∧ (dB (eD qs)).app (bY (l4 qs)).s = (bY (m4 qs)).s.smul ((bY (m4 qs)).k3 * (bY (l4 qs)).k0 * (bY (l4 qs)).k1 * (bY (l4 qs)).k2) := by
 have h := aEM (bY (l4 qs)) (bY (m4 qs))
 rw [← wR] at h
 exact h
theorem eF (p q r s : Q4) : SameH [q, p, r, s] [p, q, r, s] := aBI (aGH _ _ _ _) (aGH _ _ _ _) (by
 obtain ⟨a, b, c, d⟩ := sS [p, q, r, s]
 exact ⟨_, _, _, _, b, a, c, d⟩)
theorem dS (p q r s : Q4) : SameH [p, r, q, s] [p, q, r, s] := aBI (aHJ _ _ _ _) (aHJ _ _ _ _) (by
 obtain ⟨a, b, c, d⟩ := sS [p, q, r, s]
 exact ⟨_, _, _, _, a, c, b, d⟩)
theorem gY (p q r s : Q4) : SameH [p, q, s, r] [p, q, r, s] := aBI (aGV _ _ _ _) (aGV _ _ _ _) (by
 obtain ⟨a, b, c, d⟩ := sS [p, q, r, s]
 exact ⟨_, _, _, _, a, b, d, c⟩)
theorem sO (p q r s : T3 Int) (h : p = q ∨ p = r ∨ p = s ∨ q = r ∨ q = s ∨ r = s) : colP ⟨p, q, r, s⟩ := by
 have z : ∀ a b : T3 Int, d3 a a b = 0 ∧ d3 a b a = 0 ∧ d3 b a a = 0 := fun a b => by
  simp only [d3, T3.cross, T3.dot]
  refine ⟨?_, ?_, ?_⟩ <;> grind
 unfold colP P4.k0 P4.k1 P4.k2 P4.k3
 rcases h with rfl | rfl | rfl | rfl | rfl | rfl
 ·exact .inr (.inr (.inr (z _ _).1))
 ·exact .inr (.inr (.inr (z _ _).2.1))
 ·exact .inr (.inr (.inl (z _ _).2.1))
 ·exact .inr (.inr (.inr (z _ _).2.2))
 ·exact .inl (z _ _).1
 ·exact .inl (z _ _).2.1
theorem sort4 {l : List Q4} {a b c d : Int} (h1 : a ≠ b) (h2 : a ≠ c) (h3 : a ≠ d) (h4 : b ≠ c) (h5 : b ≠ d) (h6 : c ≠ d) : ∃ x0 x1 x2 x3 : Int, (x0 < x1 ∧ x1 < x2 ∧ x2 < x3) ∧ (∀ y, y ∈ [x0, x1, x2, x3] → y ∈ [a, b, c, d]) ∧ SameH [gt l a, gt l b, gt l c, gt l d] [gt l x0, gt l x1, gt l x2, gt l x3] := by
 have key : ∀ x0 x1 x2 x3 : Int, SameH [gt l x0, gt l x1, gt l x2, gt l x3] [gt l x0, gt l x1, gt l x2, gt l x3] ∧ SameH [gt l x0, gt l x1, gt l x3, gt l x2] [gt l x0, gt l x1, gt l x2, gt l x3] ∧ SameH [gt l x0, gt l x2, gt l x1, gt l x3] [gt l x0, gt l x1, gt l x2, gt l x3] ∧ SameH [gt l x0, gt l x2, gt l x3, gt l x1] [gt l x0, gt l x1, gt l x2, gt l x3] ∧ SameH [gt l x0, gt l x3, gt l x1, gt l x2] [gt l x0, gt l x1, gt l x2, gt l x3] ∧ SameH [gt l x0, gt l x3, gt l x2, gt l x1] [gt l x0, gt l x1, gt l x2, gt l x3] ∧ SameH [gt l x1, gt l x0, gt l x2, gt l x3] [gt l x0, gt l x1, gt l x2, gt l x3] ∧ SameH [gt l x1, gt l x0, gt l x3, gt l x2] [gt l x0, gt l x1, gt l x2, gt l x3] ∧ SameH [gt l x1, gt l x2, gt l x0, gt l x3] [gt l x0, gt l x1, gt l x2, gt l x3] ∧ SameH [gt l x1, gt l x2, gt l x3, gt l x0] [gt l x0, gt l x1, gt l x2, gt l x3] ∧ SameH [gt l x1, gt l x3, gt l x0, gt l x2] [gt l x0, gt l x1, gt l x2, gt l x3] ∧ SameH [gt l x1, gt l x3, gt l x2, gt l x0] [gt l x0, gt l x1, gt l x2, gt l x3] ∧ SameH [gt l x2, gt l x0, gt l x1, gt l x3] [gt l x0, gt l x1, gt l x2, gt l x3] ∧ SameH [gt l x2, gt l x0, gt l x3, gt l x1] [gt l x0, gt l x1, gt l x2, gt l x3] ∧ SameH [gt l x2, gt l x1, gt l x0, gt l x3] [gt l x0, gt l x1, gt l x2, gt l x3] ∧ SameH [gt l x2, gt l x1, gt l x3, gt l x0] [gt l x0, gt l x1, gt l x2, gt l x3] ∧ SameH [gt l x2, gt l x3, gt l x0, gt l x1] [gt l x0, gt l x1, gt l x2, gt l x3] ∧ SameH [gt l x2, gt l x3, gt l x1, gt l x0] [gt l x0, gt l x1, gt l x2, gt l x3] ∧ SameH [gt l x3, gt l x0, gt l x1, gt l x2] [gt l x0, gt l x1, gt l x2, gt l x3] ∧ SameH [gt l x3, gt l x0, gt l x2, gt l x1] [gt l x0, gt l x1, gt l x2, gt l x3] ∧ SameH [gt l x3, gt l x1, gt l x0, gt l x2] [gt l x0, gt l x1, gt l x2, gt l x3] ∧ SameH [gt l x3, gt l x1, gt l x2, gt l x0] [gt l x0, gt l x1, gt l x2, gt l x3] ∧ SameH [gt l x3, gt l x2, gt l x0, gt l x1] [gt l x0, gt l x1, gt l x2, gt l x3] ∧ SameH [gt l x3, gt l x2, gt l x1, gt l x0] [gt l x0, gt l x1, gt l x2, gt l x3] := fun x0 x1 x2 x3 => ⟨SameH.refl _, gY (gt l x0) (gt l x1) (gt l x2) (gt l x3), dS (gt l x0) (gt l x1) (gt l x2) (gt l x3), (gY (gt l x0) (gt l x2) (gt l x1) (gt l x3)).trans (dS (gt l x0) (gt l x1) (gt l x2) (gt l x3)), (dS (gt l x0) (gt l x1) (gt l x3) (gt l x2)).trans (gY (gt l x0) (gt l x1) (gt l x2) (gt l x3)), (dS (gt l x0) (gt l x2) (gt l x3) (gt l x1)).trans ((gY (gt l x0) (gt l x2) (gt l x1) (gt l x3)).trans (dS (gt l x0) (gt l x1) (gt l x2) (gt l x3))), eF (gt l x0) (gt l x1) (gt l x2) (gt l x3), (eF (gt l x0) (gt l x1) (gt l x3) (gt l x2)).trans (gY (gt l x0) (gt l x1) (gt l x2) (gt l x3)), (dS (gt l x1) (gt l x0) (gt l x2) (gt l x3)).trans (eF (gt l x0) (gt l x1) (gt l x2) (gt l x3)), (gY (gt l x1) (gt l x2) (gt l x0) (gt l x3)).trans ((dS (gt l x1) (gt l x0) (gt l x2) (gt l x3)).trans (eF (gt l x0) (gt l x1) (gt l x2) (gt l x3))), (dS (gt l x1) (gt l x0) (gt l x3) (gt l x2)).trans ((gY (gt l x1) (gt l x0) (gt l x2) (gt l x3)).trans (eF (gt l x0) (gt l x1) (gt l x2) (gt l x3))), (dS (gt l x1) (gt l x2) (gt l x3) (gt l x0)).trans ((gY (gt l x1) (gt l x2) (gt l x0) (gt l x3)).trans ((dS (gt l x1) (gt l x0) (gt l x2) (gt l x3)).trans (eF (gt l x0) (gt l x1) (gt l x2) (gt l x3)))), (eF (gt l x0) (gt l x2) (gt l x1) (gt l x3)).trans (dS (gt l x0) (gt l x1) (gt l x2) (gt l x3)), (eF (gt l x0) (gt l x2) (gt l x3) (gt l x1)).trans ((gY (gt l x0) (gt l x2) (gt l x1) (gt l x3)).trans (dS (gt l x0) (gt l x1) (gt l x2) (gt l x3))), (eF (gt l x1) (gt l x2) (gt l x0) (gt l x3)).trans ((dS (gt l x1) (gt l x0) (gt l x2) (gt l x3)).trans (eF (gt l x0) (gt l x1) (gt l x2) (gt l x3))), (eF (gt l x1) (gt l x2) (gt l x3) (gt l x0)).trans ((gY (gt l x1) (gt l x2) (gt l x0) (gt l x3)).trans ((dS (gt l x1) (gt l x0) (gt l x2) (gt l x3)).trans (eF (gt l x0) (gt l x1) (gt l x2) (gt l x3)))), (dS (gt l x2) (gt l x0) (gt l x3) (gt l x1)).trans ((gY (gt l x2) (gt l x0) (gt l x1) (gt l x3)).trans ((eF (gt l x0) (gt l x2) (gt l x1) (gt l x3)).trans (dS (gt l x0) (gt l x1) (gt l x2) (gt l x3)))), (dS (gt l x2) (gt l x1) (gt l x3) (gt l x0)).trans ((gY (gt l x2) (gt l x1) (gt l x0) (gt l x3)).trans ((eF (gt l x1) (gt l x2) (gt l x0) (gt l x3)).trans ((dS (gt l x1) (gt l x0) (gt l x2) (gt l x3)).trans (eF (gt l x0) (gt l x1) (gt l x2) (gt l x3))))), (eF (gt l x0) (gt l x3) (gt l x1) (gt l x2)).trans ((dS (gt l x0) (gt l x1) (gt l x3) (gt l x2)).trans (gY (gt l x0) (gt l x1) (gt l x2) (gt l x3))), (eF (gt l x0) (gt l x3) (gt l x2) (gt l x1)).trans ((dS (gt l x0) (gt l x2) (gt l x3) (gt l x1)).trans ((gY (gt l x0) (gt l x2) (gt l x1) (gt l x3)).trans (dS (gt l x0) (gt l x1) (gt l x2) (gt l x3)))), (eF (gt l x1) (gt l x3) (gt l x0) (gt l x2)).trans ((dS (gt l x1) (gt l x0) (gt l x3) (gt l x2)).trans ((gY (gt l x1) (gt l x0) (gt l x2) (gt l x3)).trans (eF (gt l x0) (gt l x1) (gt l x2) (gt l x3)))), (eF (gt l x1) (gt l x3) (gt l x2) (gt l x0)).trans ((dS (gt l x1) (gt l x2) (gt l x3) (gt l x0)).trans ((gY (gt l x1) (gt l x2) (gt l x0) (gt l x3)).trans ((dS (gt l x1) (gt l x0) (gt l x2) (gt l x3)).trans (eF (gt l x0) (gt l x1) (gt l x2) (gt l x3))))), (eF (gt l x2) (gt l x3) (gt l x0) (gt l x1)).trans ((dS (gt l x2) (gt l x0) (gt l x3) (gt l x1)).trans ((gY (gt l x2) (gt l x0) (gt l x1) (gt l x3)).trans ((eF (gt l x0) (gt l x2) (gt l x1) (gt l x3)).trans (dS (gt l x0) (gt l x1) (gt l x2) (gt l x3))))), (eF (gt l x2) (gt l x3) (gt l x1) (gt l x0)).trans ((dS (gt l x2) (gt l x1) (gt l x3) (gt l x0)).trans ((gY (gt l x2) (gt l x1) (gt l x0) (gt l x3)).trans ((eF (gt l x1) (gt l x2) (gt l x0) (gt l x3)).trans ((dS (gt l x1) (gt l x0) (gt l x2) (gt l x3)).trans (eF (gt l x0) (gt l x1) (gt l x2) (gt l x3))))))⟩
 have mm : ∀ {x0 x1 x2 x3 : Int} {L : List Int}, [x0, x1, x2, x3].Perm L → ∀ y, y ∈ [x0, x1, x2, x3] → y ∈ L := fun h y hy => h.mem_iff.1 hy
 by_cases gba : b < a
 case pos =>
  by_cases gcb : c < b
  case pos =>
   by_cases gdc : d < c
   case pos =>
    have k := key d c b a
    exact ⟨d, c, b, a, ⟨by omega, by omega, by omega⟩, fun y hy => by simp only [List.mem_cons, List.not_mem_nil, or_false] at hy ⊢; omega, k.2.2.2.2.2.2.2.2.2.2.2.2.2.2.2.2.2.2.2.2.2.2.2⟩
   by_cases gdb : d < b
   case pos =>
    have k := key c d b a
    exact ⟨c, d, b, a, ⟨by omega, by omega, by omega⟩, fun y hy => by simp only [List.mem_cons, List.not_mem_nil, or_false] at hy ⊢; omega, k.2.2.2.2.2.2.2.2.2.2.2.2.2.2.2.2.2.2.2.2.2.2.1⟩
   by_cases gda : d < a
   case pos =>
    have k := key c b d a
    exact ⟨c, b, d, a, ⟨by omega, by omega, by omega⟩, fun y hy => by simp only [List.mem_cons, List.not_mem_nil, or_false] at hy ⊢; omega, k.2.2.2.2.2.2.2.2.2.2.2.2.2.2.2.2.2.2.2.2.1⟩
   have k := key c b a d
   exact ⟨c, b, a, d, ⟨by omega, by omega, by omega⟩, fun y hy => by simp only [List.mem_cons, List.not_mem_nil, or_false] at hy ⊢; omega, k.2.2.2.2.2.2.2.2.2.2.2.2.2.2.1⟩
  by_cases gca : c < a
  case pos =>
   by_cases gdb : d < b
   case pos =>
    have k := key d b c a
    exact ⟨d, b, c, a, ⟨by omega, by omega, by omega⟩, fun y hy => by simp only [List.mem_cons, List.not_mem_nil, or_false] at hy ⊢; omega, k.2.2.2.2.2.2.2.2.2.2.2.2.2.2.2.2.2.2.2.2.2.1⟩
   by_cases gdc : d < c
   case pos =>
    have k := key b d c a
    exact ⟨b, d, c, a, ⟨by omega, by omega, by omega⟩, fun y hy => by simp only [List.mem_cons, List.not_mem_nil, or_false] at hy ⊢; omega, k.2.2.2.2.2.2.2.2.2.2.2.2.2.2.2.2.2.2.2.1⟩
   by_cases gda : d < a
   case pos =>
    have k := key b c d a
    exact ⟨b, c, d, a, ⟨by omega, by omega, by omega⟩, fun y hy => by simp only [List.mem_cons, List.not_mem_nil, or_false] at hy ⊢; omega, k.2.2.2.2.2.2.2.2.2.2.2.2.2.2.2.2.2.2.1⟩
   have k := key b c a d
   exact ⟨b, c, a, d, ⟨by omega, by omega, by omega⟩, fun y hy => by simp only [List.mem_cons, List.not_mem_nil, or_false] at hy ⊢; omega, k.2.2.2.2.2.2.2.2.2.2.2.2.1⟩
  by_cases gdb : d < b
  case pos =>
   have k := key d b a c
   exact ⟨d, b, a, c, ⟨by omega, by omega, by omega⟩, fun y hy => by simp only [List.mem_cons, List.not_mem_nil, or_false] at hy ⊢; omega, k.2.2.2.2.2.2.2.2.2.2.2.2.2.2.2.1⟩
  by_cases gda : d < a
  case pos =>
   have k := key b d a c
   exact ⟨b, d, a, c, ⟨by omega, by omega, by omega⟩, fun y hy => by simp only [List.mem_cons, List.not_mem_nil, or_false] at hy ⊢; omega, k.2.2.2.2.2.2.2.2.2.2.2.2.2.1⟩
  by_cases gdc : d < c
  case pos =>
   have k := key b a d c
   exact ⟨b, a, d, c, ⟨by omega, by omega, by omega⟩, fun y hy => by simp only [List.mem_cons, List.not_mem_nil, or_false] at hy ⊢; omega, k.2.2.2.2.2.2.2.1⟩
  have k := key b a c d
  exact ⟨b, a, c, d, ⟨by omega, by omega, by omega⟩, fun y hy => by simp only [List.mem_cons, List.not_mem_nil, or_false] at hy ⊢; omega, k.2.2.2.2.2.2.1⟩
 by_cases gca : c < a
 case pos =>
  by_cases gdc : d < c
  case pos =>
   have k := key d c a b
   exact ⟨d, c, a, b, ⟨by omega, by omega, by omega⟩, fun y hy => by simp only [List.mem_cons, List.not_mem_nil, or_false] at hy ⊢; omega, k.2.2.2.2.2.2.2.2.2.2.2.2.2.2.2.2.2.1⟩
  by_cases gda : d < a
  case pos =>
   have k := key c d a b
   exact ⟨c, d, a, b, ⟨by omega, by omega, by omega⟩, fun y hy => by simp only [List.mem_cons, List.not_mem_nil, or_false] at hy ⊢; omega, k.2.2.2.2.2.2.2.2.2.2.2.2.2.2.2.2.1⟩
  by_cases gdb : d < b
  case pos =>
   have k := key c a d b
   exact ⟨c, a, d, b, ⟨by omega, by omega, by omega⟩, fun y hy => by simp only [List.mem_cons, List.not_mem_nil, or_false] at hy ⊢; omega, k.2.2.2.2.2.2.2.2.2.2.1⟩
  have k := key c a b d
  exact ⟨c, a, b, d, ⟨by omega, by omega, by omega⟩, fun y hy => by simp only [List.mem_cons, List.not_mem_nil, or_false] at hy ⊢; omega, k.2.2.2.2.2.2.2.2.1⟩
 by_cases gcb : c < b
 case pos =>
  by_cases gda : d < a
  case pos =>
   have k := key d a c b
   exact ⟨d, a, c, b, ⟨by omega, by omega, by omega⟩, fun y hy => by simp only [List.mem_cons, List.not_mem_nil, or_false] at hy ⊢; omega, k.2.2.2.2.2.2.2.2.2.2.2.1⟩
  by_cases gdc : d < c
  case pos =>
   have k := key a d c b
   exact ⟨a, d, c, b, ⟨by omega, by omega, by omega⟩, fun y hy => by simp only [List.mem_cons, List.not_mem_nil, or_false] at hy ⊢; omega, k.2.2.2.2.2.1⟩
  by_cases gdb : d < b
  case pos =>
   have k := key a c d b
   exact ⟨a, c, d, b, ⟨by omega, by omega, by omega⟩, fun y hy => by simp only [List.mem_cons, List.not_mem_nil, or_false] at hy ⊢; omega, k.2.2.2.2.1⟩
  have k := key a c b d
  exact ⟨a, c, b, d, ⟨by omega, by omega, by omega⟩, fun y hy => by simp only [List.mem_cons, List.not_mem_nil, or_false] at hy ⊢; omega, k.2.2.1⟩
 by_cases gda : d < a
 case pos =>
  have k := key d a b c
  exact ⟨d, a, b, c, ⟨by omega, by omega, by omega⟩, fun y hy => by simp only [List.mem_cons, List.not_mem_nil, or_false] at hy ⊢; omega, k.2.2.2.2.2.2.2.2.2.1⟩
 by_cases gdb : d < b
 case pos =>
  have k := key a d b c
  exact ⟨a, d, b, c, ⟨by omega, by omega, by omega⟩, fun y hy => by simp only [List.mem_cons, List.not_mem_nil, or_false] at hy ⊢; omega, k.2.2.2.1⟩
 by_cases gdc : d < c
 case pos =>
  have k := key a b d c
  exact ⟨a, b, d, c, ⟨by omega, by omega, by omega⟩, fun y hy => by simp only [List.mem_cons, List.not_mem_nil, or_false] at hy ⊢; omega, k.2.1⟩
 have k := key a b c d
 exact ⟨a, b, c, d, ⟨by omega, by omega, by omega⟩, fun y hy => by simp only [List.mem_cons, List.not_mem_nil, or_false] at hy ⊢; omega, k.1⟩
theorem aDR {mdl : List Int → Option Mt} {inl : Mt → List Int} : ∀ (ls : List (List Int)) (o : Option (List Int × List Int × Mt)), (∀ f, o = some f → ∃ g, ls.foldl (uQ mdl inl) o = some g ∧ f.2.1.length ≤ g.2.1.length) ∧ ∀ smp ∈ ls, ∀ m, mdl smp = some m → ∃ g, ls.foldl (uQ mdl inl) o = some g ∧ (inl m).length ≤ g.2.1.length
 | [], o => ⟨fun f h => ⟨f, h, Nat.le_refl _⟩, fun smp hs => absurd hs List.not_mem_nil⟩
 | l :: r, o => by
  have step : (∀ f, o = some f → ∃ g, uQ mdl inl o l = some g ∧ f.2.1.length ≤ g.2.1.length) ∧ ∀ m, mdl l = some m → ∃ g, uQ mdl inl o l = some g ∧ (inl m).length ≤ g.2.1.length := by
   unfold uQ
   rcases e : mdl l with _ | m
   ·exact ⟨fun f h => ⟨f, h, Nat.le_refl _⟩, fun m h => (by cases h)⟩
   ·rcases o with _ | f
    ·exact ⟨fun f h => (by cases h), fun m' h => (by cases h; exact ⟨_, rfl, Nat.le_refl _⟩)⟩
    ·by_cases hl : f.2.1.length < (inl m).length
     ·simp only [if_pos hl]
      exact ⟨fun f' h => (by cases h; exact ⟨_, rfl, Nat.le_of_lt hl⟩), fun m' h => (by cases h; exact ⟨_, rfl, Nat.le_refl _⟩)⟩
     ·simp only [if_neg hl]
      exact ⟨fun f' h => (by cases h; exact ⟨_, rfl, Nat.le_refl _⟩), fun m' h => (by cases h; exact ⟨_, rfl, by omega⟩)⟩
  obtain ⟨i1, i2⟩ := aDR r (uQ mdl inl o l)
  constructor
  ·intro f h
   obtain ⟨g, h1, h2⟩ := step.1 f h
   obtain ⟨g', h3, h4⟩ := i1 g h1
   exact ⟨g', h3, Nat.le_trans h2 h4⟩
  ·intro smp hs m hm
   rcases List.mem_cons.1 hs with e | e
   ·subst e
    obtain ⟨g, h1, h2⟩ := step.2 m hm
    obtain ⟨g', h3, h4⟩ := i1 g h1
    exact ⟨g', h3, Nat.le_trans h2 h4⟩
   ·exact i2 smp e m hm
theorem aQM (H : M9 Rat) (p q r : T3 Rat) : d3 (H.app p) (H.app q) (H.app r) = d3 H.x H.y H.z * d3 p q r := by
 simp only [d3, T3.cross, T3.dot, M9.app]
 grind
theorem aNF (a b c : Rat) (p q r : T3 Rat) : d3 (p.smul a) (q.smul b) (r.smul c) = a * b * c * d3 p q r := by
 simp only [d3, T3.cross, T3.dot, T3.smul]
 grind
theorem aDN {ps : List Q4} (hl : ¬ colP (l4 ps)) (hm : ¬ colP (m4 ps)) : d3 (dB (eD ps)).x (dB (eD ps)).y (dB (eD ps)).z ≠ 0 := by
 obtain ⟨a, b, c, _⟩ := sS ps
 have h := aQM (dB (eD ps)) (bY (l4 ps)).p (bY (l4 ps)).q (bY (l4 ps)).r
 rw [a, b, c, aNF] at h
 have oL := tC hl
 have oM := tC hm
 intro e
 rw [e, Rat.zero_mul] at h
 exact iF (iF (iF (iF (iF (iF oM.h0 oL.h1) oL.h2) oL.h3) (iF (iF (iF oM.h1 oL.h0) oL.h2) oL.h3)) (iF (iF (iF oM.h2 oL.h0) oL.h1) oL.h3)) oM.h3 h
end Go.Proofs.YtmmmfphealhapaaGreat
namespace Go.Proofs.YtmmmfphealhapaaGreat
open Go Go.Fx
def ex5 : List Q4 := [⟨0, 0, 0, 0⟩, ⟨1, 0, 2, 0⟩, ⟨1, 1, 2, 2⟩, ⟨0, 1, 0, 2⟩, ⟨5, 7, 1, 0⟩]
theorem aNQ : pI ex5 = 0 := by decide
theorem aLC : (kL (vV 3 ex5) (fun A => gD A ex5 0) (uM 5 4 0)).map (fun g => (g.1, g.2.1)) = some ([0, 1, 2, 3], [0, 1, 2, 3]) := by decide +kernel
theorem zA {m m' : Mt} {c : Rat} (hc : c ≠ 0) (h : ∀ i j, i < 3 → j < 3 → at2 m' i j = c * at2 m i j) (l : List Q4) (tol : Int) : ∀ n, yL m' l tol n = yL m l tol n
 | 0 => rfl
 | n + 1 => by
  obtain ⟨h1, h2⟩ := aKG hc h (gt l (n : Int))
  have e : okQ m' tol (gt l (n : Int)) ↔ okQ m tol (gt l (n : Int)) := by
   unfold okQ
   rw [h2]
   exact ⟨fun ⟨a, b⟩ => ⟨fun e => a (h1.2 e), b⟩, fun ⟨a, b⟩ => ⟨fun e => a (h1.1 e), b⟩⟩
  show (if okQ m' tol (gt l (n : Int)) then _ else _) = (if okQ m tol (gt l (n : Int)) then _ else _)
  rw [zA hc h l tol n]
  by_cases h0 : okQ m tol (gt l (n : Int))
  ·rw [if_pos h0, if_pos (e.2 h0)]
  ·rw [if_neg h0, if_neg (fun h => h0 (e.1 h))]
theorem uD {m m' : Mt} {c : Rat} (hc : c ≠ 0) (h : ∀ i j, i < 3 → j < 3 → at2 m' i j = c * at2 m i j) (l : List Q4) (tol : Int) : gD m' l tol = gD m l tol := zA hc h l tol _
theorem aAA {H H' : M9 Rat} {c : Rat} (h : bD H' = (bD H).map (fun x => c * x)) : ∀ i j, i < 3 → j < 3 → at2 (xP H') i j = c * at2 (xP H) i j := by
 intro i j hi hj
 unfold xP
 rw [h]
 obtain rfl | rfl | rfl : i = 0 ∨ i = 1 ∨ i = 2 := by omega
 all_goals obtain rfl | rfl | rfl : j = 0 ∨ j = 1 ∨ j = 2 := by omega
 all_goals rfl
def aJA (ps l : List Q4) (tol : Int) : List Int := gD (xP (dB (eD ps))) l tol
theorem aDF {ps : List Q4} (h1 : ¬ colP (l4 ps)) (h2 : ¬ colP (m4 ps)) (l : List Q4) (tol : Int) : gD (tK (pW (bD (dB (eD ps))))) l tol = aJA ps l tol := by
 obtain ⟨c, hc, e⟩ := aIF h1 h2 (H := dB (eD ps)) (s := 1) (by decide) (by simp)
 exact uD hc e l tol
theorem aIH {ps qs : List Q4} (h : SameH ps qs) (h1 : ¬ colP (l4 qs)) (h2 : ¬ colP (m4 qs)) (l : List Q4) (tol : Int) : aJA ps l tol = aJA qs l tol := by
 obtain ⟨c, hc, e⟩ := h.h h1 h2
 exact uD hc (aAA e) l tol
theorem aJE {ps : List Q4} (h1 : ¬ colP (l4 ps)) (h2 : ¬ colP (m4 ps)) : zK ps = some (tK (pW (bD (dB (eD ps))))) := by unfold zK; rw [if_neg (fun h => h.elim h1 h2)]
theorem aNM {ps : List Q4} {m : Mt} (h : zK ps = some m) : ¬ colP (l4 ps) ∧ ¬ colP (m4 ps) ∧ m = tK (pW (bD (dB (eD ps)))) := by
 unfold zK at h
 split at h
 ·cases h
 ·rename_i hc
  injection h with h
  exact ⟨fun e => hc (.inl e), fun e => hc (.inr e), h.symm⟩
theorem aIP {l : List Q4} {n : Nat} {tol a b c d : Int} (hl : l.length = n) (ha : 0 ≤ a ∧ a < n) (hb : 0 ≤ b ∧ b < n) (hc : 0 ≤ c ∧ c < n) (hd : 0 ≤ d ∧ d < n) (h1 : ¬ colP (l4 [gt l a, gt l b, gt l c, gt l d])) (h2 : ¬ colP (m4 [gt l a, gt l b, gt l c, gt l d])) :
  ∃ g, kL (vV 3 l) (fun A => gD A l tol) (uM n 4 0) = some g ∧ (aJA [gt l a, gt l b, gt l c, gt l d] l tol).length ≤ g.2.1.length := by
 have ne : ∀ x y : Int, (x = y → colP (l4 [gt l a, gt l b, gt l c, gt l d])) → x ≠ y := fun x y h e => h1 (h e)
 have e1 : a ≠ b := ne a b (fun e => sO _ _ _ _ (.inl (by subst e; rfl)))
 have e2 : a ≠ c := ne a c (fun e => sO _ _ _ _ (.inr (.inl (by subst e; rfl))))
 have e3 : a ≠ d := ne a d (fun e => sO _ _ _ _ (.inr (.inr (.inl (by subst e; rfl)))))
 have e4 : b ≠ c := ne b c (fun e => sO _ _ _ _ (.inr (.inr (.inr (.inl (by subst e; rfl))))))
 have e5 : b ≠ d := ne b d (fun e => sO _ _ _ _ (.inr (.inr (.inr (.inr (.inl (by subst e; rfl)))))))
 have e6 : c ≠ d := ne c d (fun e => sO _ _ _ _ (.inr (.inr (.inr (.inr (.inr (by subst e; rfl)))))))
 obtain ⟨x0, x1, x2, x3, ⟨o1, o2, o3⟩, hm, hS⟩ := sort4 (l := l) e1 e2 e3 e4 e5 e6
 have hr : ∀ y ∈ [x0, x1, x2, x3], 0 ≤ y ∧ y < (n : Int) := fun y hy => by
  have := hm y hy
  simp only [List.mem_cons, List.not_mem_nil, or_false] at this
  rcases this with rfl | rfl | rfl | rfl <;> assumption
 have hs : SmpP n 4 0 [x0, x1, x2, x3] := ⟨rfl, fun y hy => ⟨(hr y hy).1, (hr y hy).2⟩, by
  refine .cons (fun y hy => ?_) (.cons (fun y hy => ?_) (.cons (fun y hy => ?_) (.cons (fun y hy => absurd hy List.not_mem_nil) .nil))) <;> simp only [List.mem_cons, List.not_mem_nil, or_false] at hy <;> omega⟩
 have n1 : ¬ colP (l4 [gt l x0, gt l x1, gt l x2, gt l x3]) := fun e => h1 (hS.l.2 e)
 have n2 : ¬ colP (m4 [gt l x0, gt l x1, gt l x2, gt l x3]) := fun e => h2 (hS.m.2 e)
 have hmd : vV 3 l [x0, x1, x2, x3] = some (tK (pW (bD (dB (eD [gt l x0, gt l x1, gt l x2, gt l x3]))))) := by
  unfold vV
  rw [if_pos rfl]
  exact aJE n1 n2
 obtain ⟨g, hg, hle⟩ := (aDR (mdl := vV 3 l) (inl := fun A => gD A l tol) (uM n 4 0) none).2 _ (aGS hs) _ hmd
 refine ⟨g, hg, ?_⟩
 rw [aIH hS n1 n2, ← aDF n1 n2]
 exact hle
theorem aEJ {l : List Q4} {n : Nat} {tol : Int} {g : List Int × List Int × Mt} (h : kL (vV 3 l) (fun A => gD A l tol) (uM n 4 0) = some g) :
  SmpP n 4 0 g.1 ∧ ¬ colP (l4 (mD l g.1)) ∧ ¬ colP (m4 (mD l g.1)) ∧ g.2.2 = tK (pW (bD (dB (eD (mD l g.1))))) ∧ g.2.1 = aJA (mD l g.1) l tol := by
 obtain ⟨h1, h2, h3⟩ := aAK h
 unfold vV at h2
 rw [if_pos rfl] at h2
 obtain ⟨n1, n2, e⟩ := aNM h2
 refine ⟨aHT h1, n1, n2, e, ?_⟩
 rw [h3]
 show gD g.2.2 l tol = _
 rw [e, aDF n1 n2]
end Go.Proofs.YtmmmfphealhapaaGreat
