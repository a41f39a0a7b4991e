/- consensus.Best. Chapter 29: the example. Chapter 29's law: few, near, check, whole; Abs; within, densest. Consensus: a matrix as it comes in, regular or not; the law's valid, missed, inliers. Chapter 29's law: missed, inliers. Chapter 29's law: missed. consensus.Inliers and consensus.Error at every matrix of at most four short rows. The law ConsensusErrors, walked. Which lists of places are good: the program's and the law's. -/
import Derived.Test.YtjbhdfpjnjedhaaGreatZobo
import Derived.Test.YtjbhdfpjnjedhaaGreatZoan
import Derived.Test.YtjbhdfpjnjedhaaGreatZobn
import Derived.Test.YtjbhdfpjnjedhaaGreatZoax
import Derived.Test.YtjbhdfpjnjedhaaGreatZobi
import Derived.Test.YtjbhdfpjnjedhaaGreatZobg
import Derived.Test.YtjbhdfpjnjedhaaGreatZobf
import Derived.Test.YtjbhdfpjnjedhaaGreatZoal
import Derived.Test.YtjbhdfpjnjedhaaGreatZobm
set_option linter.unusedSimpArgs false
set_option linter.unusedVariables false
set_option maxRecDepth 100000
set_option maxHeartbeats 4000000
namespace Go.Proofs.YtjbhdfpjnjedhaaGreat
open Go Go.Fx
def BestR (o : Option (List Int × List Int × Mt)) (kd : Int) (M0 : List Ent) (I0 : List aY) (v : Value) (M : List Ent) (I : List aY) : Prop := M0 = M ∧ match o with
 | none => I0 = I ∧ v = .tuple #[.agg zF4.toArray, .int .i64 6]
 | some g => ∃ f : BF, v = .tuple #[.agg (eBF f).toArray, .int .i64 0] ∧ f.kd = kd ∧ f.smp = g.1 ∧ f.inl = g.2.1 ∧ f.m.q = g.2.2 ∧ f.m.dim 3 3 ∧ I = IsBF f :: I0
section
variable {X : List Nat} {w0 : World} {M0 M1 M2 : List Ent} {I0 : List aY}
theorem aTQ {kd : Nat} {tol : Int} {q : Option Addr} {l : List Q4} {n c : Nat} {mdl : List Int → Option Mt} (hk : kd ≤ 3) (hl : l.length = n) (hn : n ≤ 12) (hc : kW l = 0) (ht : tolP tol) (hq : aM q (recs kP l) ∈ I0)
  (hM : ∀ (smp : List Int) (qs : Option Addr) (cs : Nat), SmpP n (kd + 1) 0 smp → ∀ M0 I0, aM q (recs kP l) ∈ I0 → CD Tryz.prog 51 [.int .i64 (kd : Int), .slice q n c, .slice qs (kd + 1) cs] X w0 (.row qs (kd + 1) cs (recs eZ smp) 3 1 :: M0) I0 (aMT (mdl smp) kX (.row qs (kd + 1) cs (recs eZ smp) 3 1 :: M0) I0)) :
  CD Tryz.prog 14 [.int .i64 (kd : Int), .slice q n c, .int .i64 tol] X w0 M0 I0 (BestR (nQ mdl (fun A => lJ A l tol) (cmb n (kd + 1) 0)) (kd : Int) M0 I0) := by
 have hkc : tT (kd : Int) l = 0 := by unfold tT; rw [if_pos hc, if_pos ⟨by omega, by omega⟩]
 have hK := fun M0 I0 h => yE (X := X) (w0 := w0) (M0 := M0) (I0 := I0) (x := (kd : Int)) (q := q) (l := l) (n := n) (c := c) hl (by omega) h
 have hT := fun M0 I0 => aXS (X := X) (w0 := w0) (M0 := M0) (I0 := I0) (t := tol)
 rw [hkc, if_pos rfl] at hK
 rw [if_pos ht] at hT
 have hs := (zW hc).2
 refine bT (φ := aM q (recs kP l)) (Hv.mem hq) ?_
 refine jE Tryz.func14 rfl Tryz.ntmps14 rfl ?_
 refine aH ?_
 refine aL ?_
 (refine kU rfl rfl rfl ?_; intro b3; refine ⟨okF, ?_⟩)
 refine bD .here ?_
 (refine oH rfl rfl rfl ?_; intro b4; refine ⟨okF, ?_⟩)
 (refine kU rfl rfl rfl ?_; intro b5; refine ⟨okF, ?_⟩)
 refine bD .here ?_
 (refine aJ rfl rfl ?_; intro b6; refine ⟨okF, ?_⟩)
 repeat (refine aI ?_)
 (refine aA rfl (hK _ _ aB) rfl rfl ?_; rintro _ _ _ ⟨rfl, rfl, rfl⟩; refine ⟨okF, ?_⟩)
 repeat (refine aI ?_)
 (refine aA rfl (hT _ _) rfl rfl ?_; rintro _ _ _ ⟨rfl, rfl, rfl⟩; refine ⟨okF, ?_⟩)
 have e1 : (kd : Int) + 1 = ((kd + 1 : Nat) : Int) := rfl
 by_cases h2 : (kd : Int) = 2
 ·repeat (refine aI ?_)
  (refine aJ rfl rfl ?_; intro b10; refine ⟨okF, ?_⟩)
  repeat (refine aI ?_)
  rw [e1]
  refine dS (φ := IsBF zBF) Hv.zBF ?_
  refine vL (M' := enB b10 zBF :: .blk b6 zF4 36 :: M0) (I' := IsBF zBF :: aM (some ⟨b5, 0, none⟩) [.int .i64 tol] :: aM (some ⟨b4, 0, none⟩) [.slice q n c] :: aM (some ⟨b3, 0, none⟩) [.int .i64 (kd : Int)] :: aM q (recs kP l) :: I0) SubP.refl aC ?_
  (refine aA rfl (wI (enB b10) IsBF (BR mdl (fun A => lJ A l tol) (kd : Int)) (M1 := .blk b6 zF4 36 :: M0) (s0 := zBF) (by omega) (by omega) rfl (fun I1 hI vis s smp qs cs M2 hR hsm => aAV hl (by omega) ⟨by omega, by omega⟩ hs ht (hI _ aB) (hI _ aB) (hI _ aB) (hI _ aB) (hM smp qs cs hsm) hR hsm)) rfl rfl ?_; rintro _ _ _ ⟨f, hR, rfl, rfl⟩; refine ⟨okF, ?_⟩)
  unfold BR at hR
  cases hb : nQ mdl (fun A => lJ A l tol) (cmb n (kd + 1) 0) with
  | none =>
   rw [hb] at hR
   have hp : f.m.p = none := by rw [hR]
   repeat (refine aI ?_)
   refine aF rfl (fun _ => jH rfl) rfl rfl ?_
   rw [hp]
   repeat (refine aI ?_)
   (refine aF rfl (fun _ => bC (pvs := ([]).zipIdx.map (fun p => (p.2, p.1))) (cells := zF4) rfl rfl) rfl rfl ?_)
   repeat (refine aI ?_)
   refine iD (M' := .blk b6 zF4 36 :: M0) (I' := I0) aD aC ?_
   refine iF (rs := [.cell 6 36, .tmp 7]) (vs := [.agg zF4.toArray, .int .i64 6]) (.inl rfl) rfl (.cellN (cs := zF4) inferInstance rfl aB rfl (.tmp rfl .nil)) rfl M0 I0 aD aC ⟨rfl, rfl, rfl⟩
  | some g =>
   rw [hb] at hR
   have hp : f.m.p.isNone = false := by
    cases hh : f.m.p with
    | none => exact absurd hh hR.2.2.2.2.2
    | some a => rfl
   repeat (refine aI ?_)
   refine aF rfl (fun _ => jH rfl) rfl rfl ?_
   rw [hp]
   repeat (refine aI ?_)
   refine iD (M' := .blk b6 (eBF f) 36 :: M0) (I' := IsBF f :: I0) aD aC ?_
   refine iF (rs := [.cell 6 36, .tmp 7]) (vs := [.agg (eBF f).toArray, .int .i64 0]) (.inl rfl) rfl (.cellN (cs := eBF f) inferInstance rfl aB rfl (.tmp rfl .nil)) rfl M0 (IsBF f :: I0) aD aC ⟨rfl, f, rfl, hR.1, hR.2.1, hR.2.2.1, hR.2.2.2.1, hR.2.2.2.2.1, rfl⟩
 by_cases h3 : (kd : Int) = 3
 ·repeat (refine aI ?_)
  (refine aJ rfl rfl ?_; intro b10; refine ⟨okF, ?_⟩)
  repeat (refine aI ?_)
  rw [e1]
  refine dS (φ := IsBF zBF) Hv.zBF ?_
  refine vL (M' := enB b10 zBF :: .blk b6 zF4 36 :: M0) (I' := IsBF zBF :: aM (some ⟨b5, 0, none⟩) [.int .i64 tol] :: aM (some ⟨b4, 0, none⟩) [.slice q n c] :: aM (some ⟨b3, 0, none⟩) [.int .i64 (kd : Int)] :: aM q (recs kP l) :: I0) SubP.refl aC ?_
  (refine aA rfl (wI (enB b10) IsBF (BR mdl (fun A => lJ A l tol) (kd : Int)) (M1 := .blk b6 zF4 36 :: M0) (s0 := zBF) (by omega) (by omega) rfl (fun I1 hI vis s smp qs cs M2 hR hsm => aAV hl (by omega) ⟨by omega, by omega⟩ hs ht (hI _ aB) (hI _ aB) (hI _ aB) (hI _ aB) (hM smp qs cs hsm) hR hsm)) rfl rfl ?_; rintro _ _ _ ⟨f, hR, rfl, rfl⟩; refine ⟨okF, ?_⟩)
  unfold BR at hR
  cases hb : nQ mdl (fun A => lJ A l tol) (cmb n (kd + 1) 0) with
  | none =>
   rw [hb] at hR
   have hp : f.m.p = none := by rw [hR]
   repeat (refine aI ?_)
   refine aF rfl (fun _ => jH rfl) rfl rfl ?_
   rw [hp]
   repeat (refine aI ?_)
   (refine aF rfl (fun _ => bC (pvs := ([]).zipIdx.map (fun p => (p.2, p.1))) (cells := zF4) rfl rfl) rfl rfl ?_)
   repeat (refine aI ?_)
   refine iD (M' := .blk b6 zF4 36 :: M0) (I' := I0) aD aC ?_
   refine iF (rs := [.cell 6 36, .tmp 7]) (vs := [.agg zF4.toArray, .int .i64 6]) (.inl rfl) rfl (.cellN (cs := zF4) inferInstance rfl aB rfl (.tmp rfl .nil)) rfl M0 I0 aD aC ⟨rfl, rfl, rfl⟩
  | some g =>
   rw [hb] at hR
   have hp : f.m.p.isNone = false := by
    cases hh : f.m.p with
    | none => exact absurd hh hR.2.2.2.2.2
    | some a => rfl
   repeat (refine aI ?_)
   refine aF rfl (fun _ => jH rfl) rfl rfl ?_
   rw [hp]
   repeat (refine aI ?_)
   refine iD (M' := .blk b6 (eBF f) 36 :: M0) (I' := IsBF f :: I0) aD aC ?_
   refine iF (rs := [.cell 6 36, .tmp 7]) (vs := [.agg (eBF f).toArray, .int .i64 0]) (.inl rfl) rfl (.cellN (cs := eBF f) inferInstance rfl aB rfl (.tmp rfl .nil)) rfl M0 (IsBF f :: I0) aD aC ⟨rfl, f, rfl, hR.1, hR.2.1, hR.2.2.1, hR.2.2.2.1, hR.2.2.2.2.1, rfl⟩
 repeat (refine aI ?_)
 (refine aJ rfl rfl ?_; intro b10; refine ⟨okF, ?_⟩)
 repeat (refine aI ?_)
 rw [e1]
 refine dS (φ := IsBF zBF) Hv.zBF ?_
 refine vL (M' := enB b10 zBF :: .blk b6 zF4 36 :: M0) (I' := IsBF zBF :: aM (some ⟨b5, 0, none⟩) [.int .i64 tol] :: aM (some ⟨b4, 0, none⟩) [.slice q n c] :: aM (some ⟨b3, 0, none⟩) [.int .i64 (kd : Int)] :: aM q (recs kP l) :: I0) SubP.refl aC ?_
 (refine aA rfl (wI (enB b10) IsBF (BR mdl (fun A => lJ A l tol) (kd : Int)) (M1 := .blk b6 zF4 36 :: M0) (s0 := zBF) (by omega) (by omega) rfl (fun I1 hI vis s smp qs cs M2 hR hsm => aAV hl (by omega) ⟨by omega, by omega⟩ hs ht (hI _ aB) (hI _ aB) (hI _ aB) (hI _ aB) (hM smp qs cs hsm) hR hsm)) rfl rfl ?_; rintro _ _ _ ⟨f, hR, rfl, rfl⟩; refine ⟨okF, ?_⟩)
 unfold BR at hR
 cases hb : nQ mdl (fun A => lJ A l tol) (cmb n (kd + 1) 0) with
 | none =>
  rw [hb] at hR
  have hp : f.m.p = none := by rw [hR]
  repeat (refine aI ?_)
  refine aF rfl (fun _ => jH rfl) rfl rfl ?_
  rw [hp]
  repeat (refine aI ?_)
  (refine aF rfl (fun _ => bC (pvs := ([]).zipIdx.map (fun p => (p.2, p.1))) (cells := zF4) rfl rfl) rfl rfl ?_)
  repeat (refine aI ?_)
  refine iD (M' := .blk b6 zF4 36 :: M0) (I' := I0) aD aC ?_
  refine iF (rs := [.cell 6 36, .tmp 7]) (vs := [.agg zF4.toArray, .int .i64 6]) (.inl rfl) rfl (.cellN (cs := zF4) inferInstance rfl aB rfl (.tmp rfl .nil)) rfl M0 I0 aD aC ⟨rfl, rfl, rfl⟩
 | some g =>
  rw [hb] at hR
  have hp : f.m.p.isNone = false := by
   cases hh : f.m.p with
   | none => exact absurd hh hR.2.2.2.2.2
   | some a => rfl
  repeat (refine aI ?_)
  refine aF rfl (fun _ => jH rfl) rfl rfl ?_
  rw [hp]
  repeat (refine aI ?_)
  refine iD (M' := .blk b6 (eBF f) 36 :: M0) (I' := IsBF f :: I0) aD aC ?_
  refine iF (rs := [.cell 6 36, .tmp 7]) (vs := [.agg (eBF f).toArray, .int .i64 0]) (.inl rfl) rfl (.cellN (cs := eBF f) inferInstance rfl aB rfl (.tmp rfl .nil)) rfl M0 (IsBF f :: I0) aD aC ⟨rfl, f, rfl, hR.1, hR.2.1, hR.2.2.1, hR.2.2.2.1, hR.2.2.2.2.1, rfl⟩
end
end Go.Proofs.YtjbhdfpjnjedhaaGreat
namespace Go.Proofs.YtjbhdfpjnjedhaaGreat
open Go Go.Fx
def exQ : List Q4 := [⟨0, 0, 5, 5⟩, ⟨10, 0, 15, 5⟩, ⟨0, 10, 5, 16⟩, ⟨3, 3, 90, 1⟩]
instance lexL.dec (X Y x y : Int) : Decidable (lexL X Y x y) := inferInstanceAs (Decidable (X < x ∨ (X = x ∧ Y ≤ y)))
theorem aVA : BestD (oW exQ) 1 5 6 3 := ⟨by decide, by decide, by decide, by decide, by decide⟩
theorem aUG : (nQ (fun s => oK 0 (dY exQ s)) (fun A => lJ A exQ 1) (cmb 4 1 0)).map (fun g => (g.1, g.2.1)) = some ([0], [0, 1, 2]) := by decide +kernel
theorem aIS : kW exQ = 0 := by decide
section
variable {X : List Nat} {w0 : World} {M0 M1 M2 : List Ent} {I0 : List aY}
theorem aCQ : CD Tryz.prog 46 [] X w0 M0 I0 (fun v M I => M0 = M ∧ ∃ b : Nat, v = .slice (some ⟨b, 0, none⟩) 4 4 ∧ I = aM (some ⟨b, 0, none⟩) (recs kP exQ) :: I0) := by
 refine aLH Tryz.func46 rfl Tryz.ntmps46 rfl ?_
 repeat (refine aI ?_)
 (refine aF rfl (fun _ => bC (pvs := ([.int .i64 5, .int .i64 5]).zipIdx.map (fun p => (p.2, p.1))) (cells := [.int .i64 5, .int .i64 5]) rfl rfl) rfl rfl ?_)
 (refine aF rfl (fun _ => bC (pvs := [(1, .agg #[.int .i64 5, .int .i64 5])]) (cells := [.int .i64 0, .int .i64 0, .int .i64 5, .int .i64 5]) rfl rfl) rfl rfl ?_)
 (refine aF rfl (fun _ => bC (pvs := [(0, .int .i64 10)]) (cells := [.int .i64 10, .int .i64 0]) rfl rfl) rfl rfl ?_)
 (refine aF rfl (fun _ => bC (pvs := ([.int .i64 15, .int .i64 5]).zipIdx.map (fun p => (p.2, p.1))) (cells := [.int .i64 15, .int .i64 5]) rfl rfl) rfl rfl ?_)
 (refine aF rfl (fun _ => bC (pvs := [(0, .agg #[.int .i64 10, .int .i64 0]), (1, .agg #[.int .i64 15, .int .i64 5])]) (cells := [.int .i64 10, .int .i64 0, .int .i64 15, .int .i64 5]) rfl rfl) rfl rfl ?_)
 (refine aF rfl (fun _ => bC (pvs := [(1, .int .i64 10)]) (cells := [.int .i64 0, .int .i64 10]) rfl rfl) rfl rfl ?_)
 (refine aF rfl (fun _ => bC (pvs := ([.int .i64 5, .int .i64 16]).zipIdx.map (fun p => (p.2, p.1))) (cells := [.int .i64 5, .int .i64 16]) rfl rfl) rfl rfl ?_)
 (refine aF rfl (fun _ => bC (pvs := [(0, .agg #[.int .i64 0, .int .i64 10]), (1, .agg #[.int .i64 5, .int .i64 16])]) (cells := [.int .i64 0, .int .i64 10, .int .i64 5, .int .i64 16]) rfl rfl) rfl rfl ?_)
 (refine aF rfl (fun _ => bC (pvs := ([.int .i64 3, .int .i64 3]).zipIdx.map (fun p => (p.2, p.1))) (cells := [.int .i64 3, .int .i64 3]) rfl rfl) rfl rfl ?_)
 (refine aF rfl (fun _ => bC (pvs := ([.int .i64 90, .int .i64 1]).zipIdx.map (fun p => (p.2, p.1))) (cells := [.int .i64 90, .int .i64 1]) rfl rfl) rfl rfl ?_)
 (refine aF rfl (fun _ => bC (pvs := [(0, .agg #[.int .i64 3, .int .i64 3]), (1, .agg #[.int .i64 90, .int .i64 1])]) (cells := [.int .i64 3, .int .i64 3, .int .i64 90, .int .i64 1]) rfl rfl) rfl rfl ?_)
 (refine aN (cs := recs kP exQ) ([vQ4 ⟨0, 0, 5, 5⟩, vQ4 ⟨10, 0, 15, 5⟩, vQ4 ⟨0, 10, 5, 16⟩, vQ4 ⟨3, 3, 90, 1⟩]) rfl rfl (by intro v hv; repeat (first | exact absurd hv (List.not_mem_nil) | (rcases List.mem_cons.1 hv with rfl | hv; · rfl))) (by omega) rfl rfl rfl ?_; intro b; refine ⟨okF, ?_⟩)
 refine bD .here ?_
 repeat (refine aI ?_)
 refine aG (by first | exact .inl rfl | exact .inr rfl) rfl rfl _ _ aD aC (⟨rfl, b, rfl, rfl⟩)
theorem aAM : CD Tryz.prog 10 [] X w0 M0 I0 (fun v M I => M0 = M ∧ I0 = I ∧ v = .bool true) := by
 obtain ⟨g, hg, hg1⟩ : ∃ g, nQ (fun s => oK 0 (dY exQ s)) (fun A => lJ A exQ 1) (cmb 4 1 0) = some g ∧ (g.1, g.2.1) = (([0], [0, 1, 2]) : List Int × List Int) := by
  have := aUG
  cases h : nQ (fun s => oK 0 (dY exQ s)) (fun A => lJ A exQ 1) (cmb 4 1 0) with
  | none => rw [h] at this; cases this
  | some g => rw [h] at this; exact ⟨g, rfl, Option.some.inj this⟩
 injection hg1 with hgs hgi
 have hnr := (zW aIS).2
 have hB := fun (b : Nat) M0 I0 h => aTQ (X := X) (w0 := w0) (M0 := M0) (I0 := I0) (kd := 0) (tol := 1) (q := some ⟨b, 0, none⟩) (l := exQ) (n := 4) (c := 4) (mdl := fun s => oK 0 (dY exQ s)) (by omega) rfl (by omega) aIS (by decide) h
  (fun smp qs cs hsm M0 I0 h => aIV (kd := 0) (by omega) rfl (by omega) hnr hsm.len (by omega) (fun x hx => ⟨by have := hsm.lt x hx; omega, (hsm.lt x hx).2⟩) h)
 rw [hg] at hB
 have hD := fun (b : Nat) M0 I0 h => aVL (X := X) (w0 := w0) (M0 := M0) (I0 := I0) (tol := 1) (q := some ⟨b, 0, none⟩) (l := exQ) (n := 4) (c := 4) rfl (by omega) aIS (by decide) h
 have hC0 := fun M0 I0 h => yS (X := X) (w0 := w0) (M0 := M0) (I0 := I0) (q := none) (l := []) (n := 0) (c := 0) rfl (by omega) h
 refine aLH Tryz.func10 rfl Tryz.ntmps10 rfl ?_
 repeat (refine aI ?_)
 (refine aA rfl (aCQ) rfl rfl ?_; rintro _ _ _ ⟨rfl, b1, rfl, rfl⟩; refine ⟨okF, ?_⟩)
 repeat (refine aI ?_)
 (refine aA rfl (hB b1 _ _ aB) rfl rfl ?_; rintro _ _ _ ⟨rfl, f, rfl, hk, hs, hi, hmq, hmd, rfl⟩; refine ⟨okF, ?_⟩)
 rw [hgs] at hs
 rw [hgi] at hi
 repeat (refine aI ?_)
 (refine aJ rfl rfl ?_; intro b3; refine ⟨okF, ?_⟩)
 repeat (refine aI ?_)
 (refine aA rfl (aCQ) rfl rfl ?_; rintro _ _ _ ⟨rfl, b2, rfl, rfl⟩; refine ⟨okF, ?_⟩)
 repeat (refine aI ?_)
 (refine aA rfl (hD b2 _ _ aB) rfl rfl ?_; rintro _ _ _ ⟨rfl, rfl, x, y, nn, ⟨hn0, hbd⟩, rfl⟩; refine ⟨okF, ?_⟩)
 obtain ⟨rfl, rfl, rfl⟩ := hbd.uniq aVA
 repeat (refine aI ?_)
 (refine aJ rfl rfl ?_; intro b4; refine ⟨okF, ?_⟩)
 repeat (refine aI ?_)
 (refine aN (cs := recs eZ [0]) ([.int .i64 0]) rfl rfl (by intro v hv; repeat (first | exact absurd hv (List.not_mem_nil) | (rcases List.mem_cons.1 hv with rfl | hv; · rfl))) (by omega) rfl rfl rfl ?_; intro b5; refine ⟨okF, ?_⟩)
 refine bD .here ?_
 refine dS (φ := aM f.ps (recs eZ f.smp)) (Hv.bfS aB) ?_
 refine dS (φ := aM f.pi (recs eZ f.inl)) (Hv.bfI aB) ?_
 (refine aA rfl (aQS (a := f.smp) (b := [0]) (by rw [hs]; decide) aB aB) rfl rfl ?_; rintro _ _ _ ⟨rfl, rfl, rfl⟩; refine ⟨okF, ?_⟩)
 rw [bZ hs]
 repeat (refine aI ?_)
 (refine aN (cs := recs eZ [0, 1, 2]) ([.int .i64 0, .int .i64 1, .int .i64 2]) rfl rfl (by intro v hv; repeat (first | exact absurd hv (List.not_mem_nil) | (rcases List.mem_cons.1 hv with rfl | hv; · rfl))) (by omega) rfl rfl rfl ?_; intro b6; refine ⟨okF, ?_⟩)
 refine bD .here ?_
 (refine aA rfl (aQS (a := f.inl) (b := [0, 1, 2]) (by rw [hi]; decide) aB aB) rfl rfl ?_; rintro _ _ _ ⟨rfl, rfl, rfl⟩; refine ⟨okF, ?_⟩)
 rw [bZ hi]
 repeat (refine aI ?_)
 (refine aF rfl (fun _ => bC (pvs := ([.int .i64 4, .int .i64 5]).zipIdx.map (fun p => (p.2, p.1))) (cells := [.int .i64 4, .int .i64 5]) rfl rfl) rfl rfl ?_)
 (refine aF rfl (fun _ => aMN (xs := [5 - 1, 6 - 1]) (ys := [4, 5]) rfl rfl rfl rfl) rfl rfl ?_)
 rw [bZ (show ([5 - 1, 6 - 1] : List Int) = [4, 5] from rfl)]
 refine dS (φ := aM none (recs kP [])) ⟨fun X w _ => ⟨fun j v hj => by simp [recs] at hj⟩⟩ ?_
 repeat (refine aI ?_)
 (refine aA rfl (hC0 _ _ aB) rfl rfl ?_; rintro _ _ _ ⟨rfl, rfl, rfl⟩; refine ⟨okF, ?_⟩)
 rw [show kW [] = 1 from rfl]
 repeat (refine aI ?_)
 refine iD (M' := M0) (I' := I0) aD aC ?_
 refine aG (by first | exact .inl rfl | exact .inr rfl) rfl rfl _ _ aD aC (⟨rfl, rfl, congrArg Value.bool (bZ rfl)⟩)
end
end Go.Proofs.YtjbhdfpjnjedhaaGreat
namespace Go.Proofs.YtjbhdfpjnjedhaaGreat
open Go Go.Fx
section
variable {X : List Nat} {w0 : World} {M0 M1 M2 : List Ent} {I0 : List aY}
theorem aAE {q : Option Addr} {n c : Nat} {m : Int} : CD Tryz.prog 11 [.slice q n c, .int .i64 m] X w0 M0 I0 (fun v M I => M0 = M ∧ I0 = I ∧ v = .bool (B ((n : Int) ≤ m))) := by
 refine aW Tryz.func11 rfl Tryz.ntmps11 rfl ?_
 repeat (refine aI ?_)
 refine aG (by first | exact .inl rfl | exact .inr rfl) rfl rfl _ _ aD aC (⟨rfl, rfl, rfl⟩)
theorem aRW {a b : Int} : CD Tryz.prog 31 [.agg #[.int .i64 a, .int .i64 b]] X w0 M0 I0 (fun v M I => M0 = M ∧ I0 = I ∧ v = .bool (B (¬ farC a b))) := by
 refine aZ Tryz.func31 rfl Tryz.ntmps31 rfl ?_
 refine aH ?_
 refine aL ?_
 (refine aU rfl rfl rfl ?_; intro b1; refine ⟨okF, ?_⟩)
 by_cases h1 : -32768 ≤ a
 ·by_cases h2 : a ≤ 32768
  ·by_cases h3 : -32768 ≤ b
   ·by_cases h4 : b ≤ 32768
    ·repeat (refine aI ?_)
     refine iD (M' := M0) (I' := I0) aD aC ?_
     refine aG (by first | exact .inl rfl | exact .inr rfl) rfl rfl _ _ aD aC (⟨rfl, rfl, congrArg Value.bool ((bZ h4).trans (bZ (show ¬ farC a b by unfold farC; omega)).symm)⟩)
    ·repeat (refine aI ?_)
     refine iD (M' := M0) (I' := I0) aD aC ?_
     refine aG (by first | exact .inl rfl | exact .inr rfl) rfl rfl _ _ aD aC (⟨rfl, rfl, congrArg Value.bool ((bE h4).trans (bE (show ¬ ¬ farC a b by unfold farC; omega)).symm)⟩)
   ·repeat (refine aI ?_)
    refine iD (M' := M0) (I' := I0) aD aC ?_
    refine aG (by first | exact .inl rfl | exact .inr rfl) rfl rfl _ _ aD aC (⟨rfl, rfl, congrArg Value.bool (bE (show ¬ ¬ farC a b by unfold farC; omega)).symm⟩)
  ·repeat (refine aI ?_)
   refine iD (M' := M0) (I' := I0) aD aC ?_
   refine aG (by first | exact .inl rfl | exact .inr rfl) rfl rfl _ _ aD aC (⟨rfl, rfl, congrArg Value.bool (bE (show ¬ ¬ farC a b by unfold farC; omega)).symm⟩)
 ·repeat (refine aI ?_)
  refine iD (M' := M0) (I' := I0) aD aC ?_
  refine aG (by first | exact .inl rfl | exact .inr rfl) rfl rfl _ _ aD aC (⟨rfl, rfl, congrArg Value.bool (bE (show ¬ ¬ farC a b by unfold farC; omega)).symm⟩)
theorem aDT {q : Option Addr} {l : List Q4} {n c : Nat} (hl : l.length = n) (hn : (n : Int) ≤ 9223372036854775807) (hq : aM q (recs kP l) ∈ I0) : CD Tryz.prog 12 [.slice q n c] X w0 M0 I0 (fun v M I => M0 = M ∧ I0 = I ∧ v = .int .i64 (kW l)) := by
 have hN := fun a b M0 I0 => aRW (X := X) (w0 := w0) (M0 := M0) (I0 := I0) (a := a) (b := b)
 refine bT (φ := aM q (recs kP l)) (Hv.mem hq) ?_
 refine aZ Tryz.func12 rfl Tryz.ntmps12 rfl ?_
 by_cases h0 : n = 0
 ·rw [show kW l = 1 by unfold kW; rw [if_pos (by omega)]]
  repeat (refine aI ?_)
  refine aG (by first | exact .inl rfl | exact .inr rfl) rfl rfl _ _ aD aC (⟨rfl, rfl, rfl⟩)
 by_cases h1 : 64 < n
 ·rw [show kW l = 3 by unfold kW; rw [if_neg (by omega), if_pos (by omega)]]
  repeat (refine aI ?_)
  refine aG (by first | exact .inl rfl | exact .inr rfl) rfl rfl _ _ aD aC (⟨rfl, rfl, rfl⟩)
 have ec : kW l = if anyFar l then 2 else 0 := by unfold kW; rw [if_neg (by omega), if_neg (by omega)]
 repeat (refine aI ?_)
 refine aP [11, 12] rfl (fun k G M I => ∃ i : Nat, i ≤ n ∧ k = n - i ∧ (∀ j : Nat, j < i → ¬ (gt l (j : Int)).far) ∧ G = [(13, .int .i64 i)] ∧ M0 = M ∧ I = aM q (recs kP l) :: I0) (n) _ _ _ aO aD aC (⟨0, by omega, rfl, fun j hj => by omega, rfl, rfl, rfl⟩) ?_
 rintro kk G M I ⟨i, hi, rfl, hnf, rfl, rfl, rfl⟩
 by_cases hin : i < n
 ·have hmem := bS (ms := l) (i := (i : Int)) (by omega)
  have hnx : ∀ j : Nat, ¬ (gt l (i : Int)).far → j < i + 1 → ¬ (gt l (j : Int)).far := fun j h hj => by
   by_cases e : j = i
   ·subst e; exact h
   ·exact hnf j (by omega)
  obtain ⟨s, hss⟩ : ∃ s, gt l (i : Int) = s := ⟨_, rfl⟩
  rw [hss] at hmem hnx
  repeat (refine aI ?_)
  rw [hss]
  (refine aJ rfl rfl ?_; intro b4; refine ⟨okF, ?_⟩)
  repeat (refine aI ?_)
  by_cases f1 : farC s.x s.y
  ·have e2 : kW l = 2 := by rw [ec, if_pos ⟨s, hmem, .inl f1⟩]
   rw [e2]
   have hN1 := hN s.x s.y
   rw [bE (show ¬ ¬ farC s.x s.y from fun h => h f1)] at hN1
   (refine aA rfl (hN1 _ _) rfl rfl ?_; rintro _ _ _ ⟨rfl, rfl, rfl⟩; refine ⟨okF, ?_⟩)
   repeat (refine aI ?_)
   refine iD (M' := M0) (I' := I0) aD aC ?_
   refine aG (by first | exact .inl rfl | exact .inr rfl) rfl rfl _ _ aD aC (⟨rfl, rfl, rfl⟩)
  ·have hN1 := hN s.x s.y
   rw [bZ (show ¬ farC s.x s.y from f1)] at hN1
   (refine aA rfl (hN1 _ _) rfl rfl ?_; rintro _ _ _ ⟨rfl, rfl, rfl⟩; refine ⟨okF, ?_⟩)
   repeat (refine aI ?_)
   by_cases f2 : farC s.u s.v
   ·have e2 : kW l = 2 := by rw [ec, if_pos ⟨s, hmem, .inr f2⟩]
    rw [e2]
    have hN2 := hN s.u s.v
    rw [bE (show ¬ ¬ farC s.u s.v from fun h => h f2)] at hN2
    (refine aA rfl (hN2 _ _) rfl rfl ?_; rintro _ _ _ ⟨rfl, rfl, rfl⟩; refine ⟨okF, ?_⟩)
    repeat (refine aI ?_)
    refine iD (M' := M0) (I' := I0) aD aC ?_
    refine aG (by first | exact .inl rfl | exact .inr rfl) rfl rfl _ _ aD aC (⟨rfl, rfl, rfl⟩)
   ·have hN2 := hN s.u s.v
    rw [bZ (show ¬ farC s.u s.v from f2)] at hN2
    (refine aA rfl (hN2 _ _) rfl rfl ?_; rintro _ _ _ ⟨rfl, rfl, rfl⟩; refine ⟨okF, ?_⟩)
    repeat (refine aI ?_)
    refine aK (n - (i + 1)) _ _ _ (by first | omega | (simp only [List.length_append, List.length_cons, List.length_nil]; omega)) aO aD aC (⟨i + 1, by omega, rfl, fun j hj => hnx j (fun h => h.elim f1 f2) hj, rfl, rfl, rfl⟩)
 ·obtain rfl : i = n := by omega
  have e2 : kW l = 0 := by
   rw [ec, if_neg]
   rintro ⟨s, hs, hf⟩
   obtain ⟨j, hj, rfl⟩ := List.mem_iff_getElem.1 hs
   exact hnf j (by omega) (by rw [gtQ hj]; exact hf)
  rw [e2]
  repeat (refine aI ?_)
  refine aG (by first | exact .inl rfl | exact .inr rfl) rfl rfl _ _ aD aC (⟨rfl, rfl, rfl⟩)
theorem nD {x : Int} (hx : -9223372036854775808 ≤ x ∧ x ≤ 9223372036854775807) {k : Nat} (hk : x.natAbs ≤ 2 ^ k) : CD Tryz.prog 66 [.int .i64 x] X w0 M0 I0 (RQ (x : Rat) k M0 I0) := by
 refine aZ Tryz.func66 rfl Tryz.ntmps66 rfl ?_
 refine aH ?_
 refine aL ?_
 (refine aJ rfl rfl ?_; intro b2; refine ⟨okF, ?_⟩)
 repeat (refine aI ?_)
 (refine aA rfl (aBN hx hk) rfl rfl ?_; rintro _ _ _ ⟨rfl, e, rfl, he, rfl⟩; refine ⟨okF, ?_⟩)
 repeat (refine aI ?_)
 refine bG (cs := eR e) (.inl rfl) rfl rfl aB rfl M0 (dD e k :: I0) aD aC ⟨rfl, e, rfl, he, rfl⟩
end
/- ---------- the law's search ---------- -/
def VisL (l : List Q4) (i j : Nat) (x y : Int) : Prop := (∃ a : Nat, a < i ∧ a < l.length ∧ x = gt (dxs l) (a : Int) ∧ ∃ b : Nat, b < l.length ∧ y = gt (dys l) (b : Int)) ∨ (i < l.length ∧ x = gt (dxs l) (i : Int) ∧ ∃ b : Nat, b < j ∧ b < l.length ∧ y = gt (dys l) (b : Int))
section
variable {l : List Q4} {t X Y : Int} {i j n : Nat}
end
section
variable {X : List Nat} {w0 : World} {M0 M1 M2 : List Ent} {I0 : List aY}
end
end Go.Proofs.YtjbhdfpjnjedhaaGreat
namespace Go.Proofs.YtjbhdfpjnjedhaaGreat
open Go Go.Fx
def fourS (a : WM) : Prop := a.rows.length ≤ 4 ∧ ∀ r ∈ a.rows, r.es.length ≤ 4 ∧ ∀ e ∈ r.es, e.brief
def NR (a : WM) : Prop := sqC a ≠ 0 ∨ ∃ (A : MX) (n : Nat), a = A.raw ∧ A.fit n n ∧ n ≤ 4 ∧ (n = 3 → dt 3 (at2 A.q) = 0)
section
variable {X : List Nat} {w0 : World} {M0 M1 M2 : List Ent} {I0 : List aY}
end
end Go.Proofs.YtjbhdfpjnjedhaaGreat
namespace Go.Proofs.YtjbhdfpjnjedhaaGreat
open Go Go.Fx
def MisK (m : Mt) (s : Q4) (k : Nat) (M0 : List Ent) (I0 : List aY) (v : Value) (M : List Ent) (I : List aY) : Prop :=
 M0 = M ∧ if yG m 2 s = 0 then I0 = I ∧ v = .tuple #[zR, .bool false] else ∃ e : RE, v = .tuple #[rv e, .bool true] ∧ e.q = aIB m s ∧ I = dD e k :: I0
section
variable {X : List Nat} {w0 : World} {M0 M1 M2 : List Ent} {I0 : List aY}
end
end Go.Proofs.YtjbhdfpjnjedhaaGreat
namespace Go.Proofs.YtjbhdfpjnjedhaaGreat
open Go Go.Fx
section
variable {X : List Nat} {w0 : World} {M0 M1 M2 : List Ent} {I0 : List aY}
theorem Hv.three {I : List aY} {a b c : RE} {k : Nat} (h1 : dD a k ∈ I) (h2 : dD b k ∈ I) (h3 : dD c k ∈ I) : Hv I (bB [a, b, c] k) := ⟨fun X w hw => ⟨fun x hx => by
 simp only [List.mem_cons, List.not_mem_nil, or_false] at hx
 rcases hx with rfl | rfl | rfl
 ·exact hw _ h1
 ·exact hw _ h2
 ·exact hw _ h3⟩⟩
end
end Go.Proofs.YtjbhdfpjnjedhaaGreat
namespace Go.Proofs.YtjbhdfpjnjedhaaGreat
open Go Go.Fx
section
variable {X : List Nat} {w0 : World} {M0 M1 M2 : List Ent} {I0 : List aY}
def ErrK (m : Mt) (s : Q4) (k : Nat) (M0 : List Ent) (I0 : List aY) (v : Value) (M : List Ent) (I : List aY) : Prop :=
 M0 = M ∧ if yG m 2 s = 0 then I0 = I ∧ v = .tuple #[zR, .int .i64 13] else ∃ e : RE, v = .tuple #[rv e, .int .i64 0] ∧ e.q = aIB m s ∧ I = dD e k :: I0
end
end Go.Proofs.YtjbhdfpjnjedhaaGreat
namespace Go.Proofs.YtjbhdfpjnjedhaaGreat
open Go Go.Fx
section
variable {X : List Nat} {w0 : World} {M0 M1 M2 : List Ent} {I0 : List aY}
end
end Go.Proofs.YtjbhdfpjnjedhaaGreat
namespace Go.Proofs.YtjbhdfpjnjedhaaGreat
open Go Go.Fx
def aHD (l : List Int) : Prop := ∀ i, i < l.length → 0 < i → gt l ((i - 1 : Nat) : Int) < gt l (i : Int)
instance (l : List Int) : Decidable (aHD l) := by unfold aHD; exact inferInstance
def aKD (n : Nat) (l : List Int) : Prop := ∃ x ∈ l, x < 0 ∨ (n : Int) ≤ x
instance (n : Nat) (l : List Int) : Decidable (aKD n l) := by unfold aKD; exact inferInstance
def sN (n : Nat) (l : List Int) : Int := if ¬ aHD l then 5 else if aKD n l then 6 else 0
theorem aKW {n : Nat} {l : List Int} (h : sN n l = 0) : ∀ x ∈ l, 0 ≤ x ∧ x < n := fun x hx => by
 unfold sN at h
 by_cases h1 : aHD l
 ·rw [if_neg (fun h => h h1)] at h
  by_cases h2 : aKD n l
  ·rw [if_pos h2] at h; omega
  ·by_cases e : x < 0 ∨ (n : Int) ≤ x
   ·exact absurd ⟨x, hx, e⟩ h2
   ·omega
 ·rw [if_pos h1] at h; omega
section
variable {X : List Nat} {w0 : World} {M0 M1 M2 : List Ent} {I0 : List aY}
theorem aWF {q : Option Addr} {l : List Int} {n c : Nat} (hl : l.length = n) (hn : n ≤ 1000) (hq : aM q (recs eZ l) ∈ I0) :
  CD Tryz.prog 124 [.slice q n c] X w0 M0 I0 (fun v M I => M0 = M ∧ I0 = I ∧ v = .bool (B (aHD l))) := by
 refine aZ Tryz.func124 rfl Tryz.ntmps124 rfl ?_
 repeat (refine aI ?_)
 refine aP [0, 5] rfl (fun k G M I => ∃ i : Nat, i ≤ n ∧ k = n - i ∧ (∀ j : Nat, j < i → 0 < j → gt l ((j - 1 : Nat) : Int) < gt l (j : Int)) ∧ G = [(6, .int .i64 i)] ∧ M0 = M ∧ I0 = I) (n) _ _ _ aO aD aC (⟨0, by omega, rfl, fun j hj => by omega, rfl, rfl, rfl⟩) ?_
 rintro kk G M I ⟨i, hi, rfl, hP, rfl, rfl, rfl⟩
 by_cases hin : i < n
 ·by_cases hi0 : 0 < i
  ·have ei : ((i - 1 : Nat) : Int) = (i : Int) - 1 := by omega
   by_cases hlt : gt l ((i : Int) - 1) < gt l (i : Int)
   ·repeat (refine aI ?_)
    (repeat refine aH ?_); refine dI [0, 1, 2, 3, 4, 5, 6, 7, 8, 9, 10, 11, 12, 13] [0, 0, 0, 0, 0, 0, 0, 0, 0, 0, 0, 0, 0, 0] mixed (by kernel_rfl) ?_
    repeat (refine aI ?_)
    refine aK (n - (i + 1)) _ _ _ (by first | omega | (simp only [List.length_append, List.length_cons, List.length_nil]; omega)) aO aD aC (⟨i + 1, by omega, rfl, fun j hj h0 => ?_, rfl, rfl, rfl⟩)
    by_cases e : j = i
    ·subst e; rw [ei]; exact hlt
    ·exact hP j (by omega) h0
   ·repeat (refine aI ?_)
    (repeat refine aH ?_); refine dI [0, 1, 2, 3, 4, 5, 6, 7, 8, 9, 10, 11, 12, 13] [0, 0, 0, 0, 0, 0, 0, 0, 0, 0, 0, 0, 0, 0] mixed (by kernel_rfl) ?_
    repeat (refine aI ?_)
    refine aG (by first | exact .inl rfl | exact .inr rfl) rfl rfl _ _ aD aC (⟨rfl, rfl, congrArg Value.bool (bE (fun h => hlt (by have := h i (by omega) hi0; rwa [ei] at this))).symm⟩)
  ·obtain rfl : i = 0 := by omega
   repeat (refine aI ?_)
   (repeat refine aH ?_); refine dI [0, 1, 2, 3, 4, 5, 6, 7, 8, 9, 10, 11, 12, 13] [0, 0, 0, 0, 0, 0, 0, 0, 0, 0, 0, 0, 0, 0] mixed (by kernel_rfl) ?_
   repeat (refine aI ?_)
   refine aK (n - (0 + 1)) _ _ _ (by first | omega | (simp only [List.length_append, List.length_cons, List.length_nil]; omega)) aO aD aC (⟨0 + 1, by omega, rfl, fun j hj h0 => by omega, rfl, rfl, rfl⟩)
 ·repeat (refine aI ?_)
  refine aG (by first | exact .inl rfl | exact .inr rfl) rfl rfl _ _ aD aC (⟨rfl, rfl, congrArg Value.bool (bZ (fun i hi h0 => hP i (by omega) h0)).symm⟩)
theorem aTP {b : Nat} {q : Option Addr} {n c : Nat} {x : Int} (hn : (n : Int) ≤ 9223372036854775807) (hb : aM (some ⟨b, 0, none⟩) [.slice q n c] ∈ I0) :
  CD Tryz.prog 126 [.int .i64 x, .pointer (some ⟨b, 0, none⟩)] X w0 M0 I0 (fun v M I => M0 = M ∧ I0 = I ∧ v = .bool (B (x < 0 ∨ (n : Int) ≤ x))) := by
 refine aW Tryz.func126 rfl Tryz.ntmps126 rfl ?_
 by_cases h0 : x < 0
 ·repeat (refine aI ?_)
  refine aG (by first | exact .inl rfl | exact .inr rfl) rfl rfl _ _ aD aC (⟨rfl, rfl, congrArg Value.bool (bZ (.inl h0)).symm⟩)
 ·repeat (refine aI ?_)
  refine aG (by first | exact .inl rfl | exact .inr rfl) rfl rfl _ _ aD aC (⟨rfl, rfl, congrArg Value.bool (iP ⟨fun h => .inr h, fun h => by omega⟩)⟩)
theorem aCB {q qs : Option Addr} {l : List Q4} {smp : List Int} {n c ns cs : Nat} (hl : l.length = n) (hn : (n : Int) ≤ 9223372036854775807) (hsl : smp.length = ns) (hns : ns ≤ 1000) (hqs : aM qs (recs eZ smp) ∈ I0) :
  CD Tryz.prog 77 [.slice q n c, .slice qs ns cs] X w0 M0 I0 (fun v M I => M0 = M ∧ I0 = I ∧ v = .int .i64 (sN n smp)) := by
 have hA := fun M0 I0 h => aWF (X := X) (w0 := w0) (M0 := M0) (I0 := I0) (q := qs) (l := smp) (n := ns) (c := cs) hsl hns h
 subst hsl
 have hH := fun b M0 I0 h1 h2 => aVP (X := X) (w0 := w0) (M0 := M0) (I0 := I0) (p := qs) (a := smp) (c := cs) (g := 126) (fs := #[]) (cs := #[.pointer (some ⟨b, 0, none⟩)]) (fun x => x < 0 ∨ (n : Int) ≤ x) (by omega) h1 (fun i _ => aTP (b := b) (q := q) (n := n) (c := c) hn h2)
 refine aW Tryz.func77 rfl Tryz.ntmps77 rfl ?_
 refine aH ?_
 refine aL ?_
 (refine oH rfl rfl rfl ?_; intro b2; refine ⟨okF, ?_⟩)
 by_cases ha : aHD smp
 ·rw [bZ ha] at hA
  by_cases ho : aKD n smp
  ·rw [show sN n smp = 6 by unfold sN; rw [if_neg (fun h => h ha), if_pos ho]]
   repeat (refine aI ?_)
   (refine aA rfl (hA _ _ aB) rfl rfl ?_; rintro _ _ _ ⟨rfl, rfl, rfl⟩; refine ⟨okF, ?_⟩)
   repeat (refine aI ?_)
   (refine aA rfl (hH b2 _ _ aB aB) rfl rfl ?_; rintro _ _ _ ⟨rfl, rfl, rfl⟩; refine ⟨okF, ?_⟩)
   rw [bZ (show ∃ x ∈ smp, x < 0 ∨ (n : Int) ≤ x from ho)]
   repeat (refine aI ?_)
   refine iD (M' := M0) (I' := I0) aD aC ?_
   refine aG (by first | exact .inl rfl | exact .inr rfl) rfl rfl _ _ aD aC (⟨rfl, rfl, rfl⟩)
  ·rw [show sN n smp = 0 by unfold sN; rw [if_neg (fun h => h ha), if_neg ho]]
   repeat (refine aI ?_)
   (refine aA rfl (hA _ _ aB) rfl rfl ?_; rintro _ _ _ ⟨rfl, rfl, rfl⟩; refine ⟨okF, ?_⟩)
   repeat (refine aI ?_)
   (refine aA rfl (hH b2 _ _ aB aB) rfl rfl ?_; rintro _ _ _ ⟨rfl, rfl, rfl⟩; refine ⟨okF, ?_⟩)
   rw [bE (show ¬ ∃ x ∈ smp, x < 0 ∨ (n : Int) ≤ x from ho)]
   repeat (refine aI ?_)
   refine iD (M' := M0) (I' := I0) aD aC ?_
   refine aG (by first | exact .inl rfl | exact .inr rfl) rfl rfl _ _ aD aC (⟨rfl, rfl, rfl⟩)
 ·rw [bE ha] at hA
  rw [show sN n smp = 5 by unfold sN; rw [if_pos ha]]
  repeat (refine aI ?_)
  (refine aA rfl (hA _ _ aB) rfl rfl ?_; rintro _ _ _ ⟨rfl, rfl, rfl⟩; refine ⟨okF, ?_⟩)
  repeat (refine aI ?_)
  refine iD (M' := M0) (I' := I0) aD aC ?_
  refine aG (by first | exact .inl rfl | exact .inr rfl) rfl rfl _ _ aD aC (⟨rfl, rfl, rfl⟩)
theorem aIN {q : Option Addr} {l : List Int} {n m c : Nat} (hl : l.length = n) (hn : n ≤ 1000) (hq : aM q (recs eZ l) ∈ I0) :
  CD Tryz.prog 38 [.slice q n c, .int .i64 (m : Int)] X w0 M0 I0 (fun v M I => M0 = M ∧ I0 = I ∧ v = .int .i64 (sN m l)) := by
 refine aW Tryz.func38 rfl Tryz.ntmps38 rfl ?_
 repeat (refine aI ?_)
 refine aP [0, 1] rfl (fun k G M I => ∃ i : Nat, 1 ≤ i ∧ (i ≤ n ∨ i = 1) ∧ k = n - i ∧ (∀ j : Nat, j < i → 0 < j → gt l ((j - 1 : Nat) : Int) < gt l (j : Int)) ∧ G = [(5, .int .i64 i)] ∧ M0 = M ∧ I0 = I) (n - 1) _ _ _ aO aD aC (⟨1, by omega, .inr rfl, rfl, fun j hj h0 => by omega, rfl, rfl, rfl⟩) ?_
 rintro kk G M I ⟨i, hi1, hi, rfl, hP, rfl, rfl, rfl⟩
 have ei : ((i - 1 : Nat) : Int) = (i : Int) - 1 := by omega
 by_cases hin : i < n
 ·by_cases hlt : gt l ((i : Int) - 1) < gt l (i : Int)
  ·repeat (refine aI ?_)
   (repeat refine aH ?_); refine dI [0, 1, 2, 3, 4, 5, 6, 7, 8, 9] [0, 0, 0, 0, 0, 0, 0, 0, 0, 0] mixed (by kernel_rfl) ?_
   repeat (refine aI ?_)
   refine aK (n - (i + 1)) _ _ _ (by first | omega | (simp only [List.length_append, List.length_cons, List.length_nil]; omega)) aO aD aC (⟨i + 1, by omega, .inl (by omega), rfl, fun j hj h0 => ?_, rfl, rfl, rfl⟩)
   by_cases e : j = i
   ·subst e; rw [ei]; exact hlt
   ·exact hP j (by omega) h0
  ·repeat (refine aI ?_)
   (repeat refine aH ?_); refine dI [0, 1, 2, 3, 4, 5, 6, 7, 8, 9] [0, 0, 0, 0, 0, 0, 0, 0, 0, 0] mixed (by kernel_rfl) ?_
   repeat (refine aI ?_)
   refine aG (by first | exact .inl rfl | exact .inr rfl) rfl rfl _ _ aD aC (⟨rfl, rfl, by unfold sN; rw [if_pos (show ¬ aHD l from fun h => hlt (by have := h i (by omega) (by omega); rwa [ei] at this))]⟩)
 have ha : aHD l := fun j hj h0 => hP j (by omega) h0
 repeat (refine aI ?_)
 refine aP [1, 24, 25] rfl (fun k G M I => ∃ t : Nat, t ≤ n ∧ k = n - t ∧ (∀ j : Nat, j < t → 0 ≤ gt l (j : Int) ∧ gt l (j : Int) < m) ∧ G = [(26, .int .i64 t)] ∧ M0 = M ∧ I0 = I) (n) _ _ _ aO aD aC (⟨0, by omega, rfl, fun j hj => by omega, rfl, rfl, rfl⟩) ?_
 rintro kk G M I ⟨t, ht, rfl, hQ, rfl, rfl, rfl⟩
 by_cases htn : t < n
 ·have hmem := bS (ms := l) (i := (t : Int)) (by omega)
  by_cases h0 : gt l (t : Int) < 0
  ·repeat (refine aI ?_)
   refine aG (by first | exact .inl rfl | exact .inr rfl) rfl rfl _ _ aD aC (⟨rfl, rfl, by unfold sN; rw [if_neg (fun h => h ha), if_pos (show aKD m l from ⟨_, hmem, .inl h0⟩)]⟩)
  ·by_cases h1 : (m : Int) ≤ gt l (t : Int)
   ·repeat (refine aI ?_)
    refine aG (by first | exact .inl rfl | exact .inr rfl) rfl rfl _ _ aD aC (⟨rfl, rfl, by unfold sN; rw [if_neg (fun h => h ha), if_pos (show aKD m l from ⟨_, hmem, .inr h1⟩)]⟩)
   ·repeat (refine aI ?_)
    refine aK (n - (t + 1)) _ _ _ (by first | omega | (simp only [List.length_append, List.length_cons, List.length_nil]; omega)) aO aD aC (⟨t + 1, by omega, rfl, fun j hj => ?_, rfl, rfl, rfl⟩)
    by_cases e : j = t
    ·subst e; omega
    ·exact hQ j (by omega)
 ·repeat (refine aI ?_)
  refine aG (by first | exact .inl rfl | exact .inr rfl) rfl rfl _ _ aD aC (⟨rfl, rfl, ?_⟩)
  unfold sN
  rw [if_neg (fun h => h ha), if_neg]
  rintro ⟨x, hx, h⟩
  obtain ⟨j, hj, rfl⟩ := List.mem_iff_getElem.1 hx
  have := hQ j (by omega)
  rw [fK hj] at this
  omega
end
end Go.Proofs.YtjbhdfpjnjedhaaGreat
