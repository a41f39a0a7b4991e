/- consensus.Best. Chapter 29: the example. Chapter 29's law: few, near, check, whole; Abs; within, densest. Consensus: a matrix as it comes in, regular or not; the law's valid, missed, inliers. Chapter 29's law: missed, inliers. -/
import Derived.Test.YtjbhdfpjnjedhaaGreatZpbl
import Derived.Test.YtjbhdfpjnjedhaaGreatZpan
import Derived.Test.YtjbhdfpjnjedhaaGreatZpbk
import Derived.Test.YtjbhdfpjnjedhaaGreatZpax
import Derived.Test.YtjbhdfpjnjedhaaGreatZpbh
import Derived.Test.YtjbhdfpjnjedhaaGreatZpbf
import Derived.Test.YtjbhdfpjnjedhaaGreatZpbe
import Derived.Test.YtjbhdfpjnjedhaaGreatZpbg
set_option linter.unusedSimpArgs false
set_option linter.unusedVariables false
set_option maxRecDepth 100000
set_option maxHeartbeats 4000000
namespace Go.Proofs.YtjbhdfpjnjedhaaGreat
open Go Go.Fx
def BestR (o : Option (List Int × List Int × Mt)) (kd : Int) (M0 : List Ent) (I0 : List aY) (v : Value) (M : List Ent) (I : List aY) : Prop := M0 = M ∧ match o with
 | none => I0 = I ∧ v = .tuple #[.agg zF4.toArray, .int .i64 6]
 | some g => ∃ f : BF, v = .tuple #[.agg (eBF f).toArray, .int .i64 0] ∧ f.kd = kd ∧ f.smp = g.1 ∧ f.inl = g.2.1 ∧ f.m.q = g.2.2 ∧ f.m.dim 3 3 ∧ I = IsBF f :: I0
section
variable {X : List Nat} {w0 : World} {M0 M1 M2 : List Ent} {I0 : List aY}
theorem aRZ {kd : Nat} {tol : Int} {q : Option Addr} {l : List Q4} {n c : Nat} {mdl : List Int → Option Mt} (hk : kd ≤ 3) (hl : l.length = n) (hn : n ≤ 12) (hc : kK l = 0) (ht : tolP tol) (hq : aO q (recs kU l) ∈ I0)
  (hM : ∀ (smp : List Int) (qs : Option Addr) (cs : Nat), SmpP n (kd + 1) 0 smp → ∀ M0 I0, aO q (recs kU l) ∈ I0 → CD Tryz.prog 51 [.int .i64 (kd : Int), .slice q n c, .slice qs (kd + 1) cs] X w0 (.row qs (kd + 1) cs (recs eZ smp) 3 1 :: M0) I0 (aMB (mdl smp) kX (.row qs (kd + 1) cs (recs eZ smp) 3 1 :: M0) I0)) :
  CD Tryz.prog 14 [.int .i64 (kd : Int), .slice q n c, .int .i64 tol] X w0 M0 I0 (BestR (nQ mdl (fun A => lF A l tol) (cmb n (kd + 1) 0)) (kd : Int) M0 I0) := by
 have hkc : kW (kd : Int) l = 0 := by unfold kW; rw [if_pos hc, if_pos ⟨by omega, by omega⟩]
 have hK := fun M0 I0 h => uJ (X := X) (w0 := w0) (M0 := M0) (I0 := I0) (x := (kd : Int)) (q := q) (l := l) (n := n) (c := c) hl (by omega) h
 have hT := fun M0 I0 => aWQ (X := X) (w0 := w0) (M0 := M0) (I0 := I0) (t := tol)
 rw [hkc, if_pos rfl] at hK
 rw [if_pos ht] at hT
 have hs := (zQ hc).2
 refine cZ (φ := aO q (recs kU l)) (Hv.mem hq) ?_
 refine jU Tryz.func14 rfl Tryz.ntmps14 rfl ?_
 refine aG ?_
 refine aJ ?_
 (refine kP rfl rfl rfl ?_; intro b3; refine ⟨okF, ?_⟩)
 refine bC .here ?_
 (refine oC rfl rfl rfl ?_; intro b4; refine ⟨okF, ?_⟩)
 (refine kP rfl rfl rfl ?_; intro b5; refine ⟨okF, ?_⟩)
 refine bC .here ?_
 (refine aI rfl rfl ?_; intro b6; refine ⟨okF, ?_⟩)
 repeat (refine aK ?_)
 (refine aA rfl (hK _ _ aB) rfl rfl ?_; rintro _ _ _ ⟨rfl, rfl, rfl⟩; refine ⟨okF, ?_⟩)
 repeat (refine aK ?_)
 (refine aA rfl (hT _ _) rfl rfl ?_; rintro _ _ _ ⟨rfl, rfl, rfl⟩; refine ⟨okF, ?_⟩)
 have e1 : (kd : Int) + 1 = ((kd + 1 : Nat) : Int) := rfl
 by_cases h2 : (kd : Int) = 2
 ·repeat (refine aK ?_)
  (refine aI rfl rfl ?_; intro b10; refine ⟨okF, ?_⟩)
  repeat (refine aK ?_)
  rw [e1]
  refine dP (φ := IsBF zBF) Hv.zBF ?_
  refine uY (M' := enB b10 zBF :: .blk b6 zF4 36 :: M0) (I' := IsBF zBF :: aO (some ⟨b5, 0, none⟩) [.int .i64 tol] :: aO (some ⟨b4, 0, none⟩) [.slice q n c] :: aO (some ⟨b3, 0, none⟩) [.int .i64 (kd : Int)] :: aO q (recs kU l) :: I0) SubP.refl aC ?_
  (refine aA rfl (vW (enB b10) IsBF (BR mdl (fun A => lF A l tol) (kd : Int)) (M1 := .blk b6 zF4 36 :: M0) (s0 := zBF) (by omega) (by omega) rfl (fun I1 hI vis s smp qs cs M2 hR hsm => aBP hl (by omega) ⟨by omega, by omega⟩ hs ht (hI _ aB) (hI _ aB) (hI _ aB) (hI _ aB) (hM smp qs cs hsm) hR hsm)) rfl rfl ?_; rintro _ _ _ ⟨f, hR, rfl, rfl⟩; refine ⟨okF, ?_⟩)
  unfold BR at hR
  cases hb : nQ mdl (fun A => lF A l tol) (cmb n (kd + 1) 0) with
  | none =>
   rw [hb] at hR
   have hp : f.m.p = none := by rw [hR]
   repeat (refine aK ?_)
   refine aF rfl (fun _ => jB rfl) rfl rfl ?_
   rw [hp]
   repeat (refine aK ?_)
   (refine aF rfl (fun _ => bA (pvs := ([]).zipIdx.map (fun p => (p.2, p.1))) (cells := zF4) rfl rfl) rfl rfl ?_)
   repeat (refine aK ?_)
   refine gZ (M' := .blk b6 zF4 36 :: M0) (I' := I0) aD aC ?_
   refine fO (rs := [.cell 6 36, .tmp 7]) (vs := [.agg zF4.toArray, .int .i64 6]) (.inl rfl) rfl (.cellN (cs := zF4) inferInstance rfl aB rfl (.tmp rfl .nil)) rfl M0 I0 aD aC ⟨rfl, rfl, rfl⟩
  | some g =>
   rw [hb] at hR
   have hp : f.m.p.isNone = false := by
    cases hh : f.m.p with
    | none => exact absurd hh hR.2.2.2.2.2
    | some a => rfl
   repeat (refine aK ?_)
   refine aF rfl (fun _ => jB rfl) rfl rfl ?_
   rw [hp]
   repeat (refine aK ?_)
   refine gZ (M' := .blk b6 (eBF f) 36 :: M0) (I' := IsBF f :: I0) aD aC ?_
   refine fO (rs := [.cell 6 36, .tmp 7]) (vs := [.agg (eBF f).toArray, .int .i64 0]) (.inl rfl) rfl (.cellN (cs := eBF f) inferInstance rfl aB rfl (.tmp rfl .nil)) rfl M0 (IsBF f :: I0) aD aC ⟨rfl, f, rfl, hR.1, hR.2.1, hR.2.2.1, hR.2.2.2.1, hR.2.2.2.2.1, rfl⟩
 by_cases h3 : (kd : Int) = 3
 ·repeat (refine aK ?_)
  (refine aI rfl rfl ?_; intro b10; refine ⟨okF, ?_⟩)
  repeat (refine aK ?_)
  rw [e1]
  refine dP (φ := IsBF zBF) Hv.zBF ?_
  refine uY (M' := enB b10 zBF :: .blk b6 zF4 36 :: M0) (I' := IsBF zBF :: aO (some ⟨b5, 0, none⟩) [.int .i64 tol] :: aO (some ⟨b4, 0, none⟩) [.slice q n c] :: aO (some ⟨b3, 0, none⟩) [.int .i64 (kd : Int)] :: aO q (recs kU l) :: I0) SubP.refl aC ?_
  (refine aA rfl (vW (enB b10) IsBF (BR mdl (fun A => lF A l tol) (kd : Int)) (M1 := .blk b6 zF4 36 :: M0) (s0 := zBF) (by omega) (by omega) rfl (fun I1 hI vis s smp qs cs M2 hR hsm => aBP hl (by omega) ⟨by omega, by omega⟩ hs ht (hI _ aB) (hI _ aB) (hI _ aB) (hI _ aB) (hM smp qs cs hsm) hR hsm)) rfl rfl ?_; rintro _ _ _ ⟨f, hR, rfl, rfl⟩; refine ⟨okF, ?_⟩)
  unfold BR at hR
  cases hb : nQ mdl (fun A => lF A l tol) (cmb n (kd + 1) 0) with
  | none =>
   rw [hb] at hR
   have hp : f.m.p = none := by rw [hR]
   repeat (refine aK ?_)
   refine aF rfl (fun _ => jB rfl) rfl rfl ?_
   rw [hp]
   repeat (refine aK ?_)
   (refine aF rfl (fun _ => bA (pvs := ([]).zipIdx.map (fun p => (p.2, p.1))) (cells := zF4) rfl rfl) rfl rfl ?_)
   repeat (refine aK ?_)
   refine gZ (M' := .blk b6 zF4 36 :: M0) (I' := I0) aD aC ?_
   refine fO (rs := [.cell 6 36, .tmp 7]) (vs := [.agg zF4.toArray, .int .i64 6]) (.inl rfl) rfl (.cellN (cs := zF4) inferInstance rfl aB rfl (.tmp rfl .nil)) rfl M0 I0 aD aC ⟨rfl, rfl, rfl⟩
  | some g =>
   rw [hb] at hR
   have hp : f.m.p.isNone = false := by
    cases hh : f.m.p with
    | none => exact absurd hh hR.2.2.2.2.2
    | some a => rfl
   repeat (refine aK ?_)
   refine aF rfl (fun _ => jB rfl) rfl rfl ?_
   rw [hp]
   repeat (refine aK ?_)
   refine gZ (M' := .blk b6 (eBF f) 36 :: M0) (I' := IsBF f :: I0) aD aC ?_
   refine fO (rs := [.cell 6 36, .tmp 7]) (vs := [.agg (eBF f).toArray, .int .i64 0]) (.inl rfl) rfl (.cellN (cs := eBF f) inferInstance rfl aB rfl (.tmp rfl .nil)) rfl M0 (IsBF f :: I0) aD aC ⟨rfl, f, rfl, hR.1, hR.2.1, hR.2.2.1, hR.2.2.2.1, hR.2.2.2.2.1, rfl⟩
 repeat (refine aK ?_)
 (refine aI rfl rfl ?_; intro b10; refine ⟨okF, ?_⟩)
 repeat (refine aK ?_)
 rw [e1]
 refine dP (φ := IsBF zBF) Hv.zBF ?_
 refine uY (M' := enB b10 zBF :: .blk b6 zF4 36 :: M0) (I' := IsBF zBF :: aO (some ⟨b5, 0, none⟩) [.int .i64 tol] :: aO (some ⟨b4, 0, none⟩) [.slice q n c] :: aO (some ⟨b3, 0, none⟩) [.int .i64 (kd : Int)] :: aO q (recs kU l) :: I0) SubP.refl aC ?_
 (refine aA rfl (vW (enB b10) IsBF (BR mdl (fun A => lF A l tol) (kd : Int)) (M1 := .blk b6 zF4 36 :: M0) (s0 := zBF) (by omega) (by omega) rfl (fun I1 hI vis s smp qs cs M2 hR hsm => aBP hl (by omega) ⟨by omega, by omega⟩ hs ht (hI _ aB) (hI _ aB) (hI _ aB) (hI _ aB) (hM smp qs cs hsm) hR hsm)) rfl rfl ?_; rintro _ _ _ ⟨f, hR, rfl, rfl⟩; refine ⟨okF, ?_⟩)
 unfold BR at hR
 cases hb : nQ mdl (fun A => lF A l tol) (cmb n (kd + 1) 0) with
 | none =>
  rw [hb] at hR
  have hp : f.m.p = none := by rw [hR]
  repeat (refine aK ?_)
  refine aF rfl (fun _ => jB rfl) rfl rfl ?_
  rw [hp]
  repeat (refine aK ?_)
  (refine aF rfl (fun _ => bA (pvs := ([]).zipIdx.map (fun p => (p.2, p.1))) (cells := zF4) rfl rfl) rfl rfl ?_)
  repeat (refine aK ?_)
  refine gZ (M' := .blk b6 zF4 36 :: M0) (I' := I0) aD aC ?_
  refine fO (rs := [.cell 6 36, .tmp 7]) (vs := [.agg zF4.toArray, .int .i64 6]) (.inl rfl) rfl (.cellN (cs := zF4) inferInstance rfl aB rfl (.tmp rfl .nil)) rfl M0 I0 aD aC ⟨rfl, rfl, rfl⟩
 | some g =>
  rw [hb] at hR
  have hp : f.m.p.isNone = false := by
   cases hh : f.m.p with
   | none => exact absurd hh hR.2.2.2.2.2
   | some a => rfl
  repeat (refine aK ?_)
  refine aF rfl (fun _ => jB rfl) rfl rfl ?_
  rw [hp]
  repeat (refine aK ?_)
  refine gZ (M' := .blk b6 (eBF f) 36 :: M0) (I' := IsBF f :: I0) aD aC ?_
  refine fO (rs := [.cell 6 36, .tmp 7]) (vs := [.agg (eBF f).toArray, .int .i64 0]) (.inl rfl) rfl (.cellN (cs := eBF f) inferInstance rfl aB rfl (.tmp rfl .nil)) rfl M0 (IsBF f :: I0) aD aC ⟨rfl, f, rfl, hR.1, hR.2.1, hR.2.2.1, hR.2.2.2.1, hR.2.2.2.2.1, rfl⟩
end
end Go.Proofs.YtjbhdfpjnjedhaaGreat
namespace Go.Proofs.YtjbhdfpjnjedhaaGreat
open Go Go.Fx
def exQ : List Q4 := [⟨0, 0, 5, 5⟩, ⟨10, 0, 15, 5⟩, ⟨0, 10, 5, 16⟩, ⟨3, 3, 90, 1⟩]
instance lexL.dec (X Y x y : Int) : Decidable (lexL X Y x y) := inferInstanceAs (Decidable (X < x ∨ (X = x ∧ Y ≤ y)))
theorem aTT : BestD (oW exQ) 1 5 6 3 := ⟨by decide, by decide, by decide, by decide, by decide⟩
theorem aSZ : (nQ (fun s => pY 0 (kH exQ s)) (fun A => lF A exQ 1) (cmb 4 1 0)).map (fun g => (g.1, g.2.1)) = some ([0], [0, 1, 2]) := by decide +kernel
theorem aIQ : kK exQ = 0 := by decide
section
variable {X : List Nat} {w0 : World} {M0 M1 M2 : List Ent} {I0 : List aY}
theorem aBF : CD Tryz.prog 46 [] X w0 M0 I0 (fun v M I => M0 = M ∧ ∃ b : Nat, v = .slice (some ⟨b, 0, none⟩) 4 4 ∧ I = aO (some ⟨b, 0, none⟩) (recs kU exQ) :: I0) := by
 refine aKS Tryz.func46 rfl Tryz.ntmps46 rfl ?_
 repeat (refine aK ?_)
 (refine aF rfl (fun _ => bA (pvs := ([.int .i64 5, .int .i64 5]).zipIdx.map (fun p => (p.2, p.1))) (cells := [.int .i64 5, .int .i64 5]) rfl rfl) rfl rfl ?_)
 (refine aF rfl (fun _ => bA (pvs := [(1, .agg #[.int .i64 5, .int .i64 5])]) (cells := [.int .i64 0, .int .i64 0, .int .i64 5, .int .i64 5]) rfl rfl) rfl rfl ?_)
 (refine aF rfl (fun _ => bA (pvs := [(0, .int .i64 10)]) (cells := [.int .i64 10, .int .i64 0]) rfl rfl) rfl rfl ?_)
 (refine aF rfl (fun _ => bA (pvs := ([.int .i64 15, .int .i64 5]).zipIdx.map (fun p => (p.2, p.1))) (cells := [.int .i64 15, .int .i64 5]) rfl rfl) rfl rfl ?_)
 (refine aF rfl (fun _ => bA (pvs := [(0, .agg #[.int .i64 10, .int .i64 0]), (1, .agg #[.int .i64 15, .int .i64 5])]) (cells := [.int .i64 10, .int .i64 0, .int .i64 15, .int .i64 5]) rfl rfl) rfl rfl ?_)
 (refine aF rfl (fun _ => bA (pvs := [(1, .int .i64 10)]) (cells := [.int .i64 0, .int .i64 10]) rfl rfl) rfl rfl ?_)
 (refine aF rfl (fun _ => bA (pvs := ([.int .i64 5, .int .i64 16]).zipIdx.map (fun p => (p.2, p.1))) (cells := [.int .i64 5, .int .i64 16]) rfl rfl) rfl rfl ?_)
 (refine aF rfl (fun _ => bA (pvs := [(0, .agg #[.int .i64 0, .int .i64 10]), (1, .agg #[.int .i64 5, .int .i64 16])]) (cells := [.int .i64 0, .int .i64 10, .int .i64 5, .int .i64 16]) rfl rfl) rfl rfl ?_)
 (refine aF rfl (fun _ => bA (pvs := ([.int .i64 3, .int .i64 3]).zipIdx.map (fun p => (p.2, p.1))) (cells := [.int .i64 3, .int .i64 3]) rfl rfl) rfl rfl ?_)
 (refine aF rfl (fun _ => bA (pvs := ([.int .i64 90, .int .i64 1]).zipIdx.map (fun p => (p.2, p.1))) (cells := [.int .i64 90, .int .i64 1]) rfl rfl) rfl rfl ?_)
 (refine aF rfl (fun _ => bA (pvs := [(0, .agg #[.int .i64 3, .int .i64 3]), (1, .agg #[.int .i64 90, .int .i64 1])]) (cells := [.int .i64 3, .int .i64 3, .int .i64 90, .int .i64 1]) rfl rfl) rfl rfl ?_)
 (refine aQ (cs := recs kU exQ) ([vQ4 ⟨0, 0, 5, 5⟩, vQ4 ⟨10, 0, 15, 5⟩, vQ4 ⟨0, 10, 5, 16⟩, vQ4 ⟨3, 3, 90, 1⟩]) rfl rfl (by intro v hv; repeat (first | exact absurd hv (List.not_mem_nil) | (rcases List.mem_cons.1 hv with rfl | hv; · rfl))) (by omega) rfl rfl rfl ?_; intro b; refine ⟨okF, ?_⟩)
 refine bC .here ?_
 repeat (refine aK ?_)
 refine aH (by first | exact .inl rfl | exact .inr rfl) rfl rfl _ _ aD aC (⟨rfl, b, rfl, rfl⟩)
theorem aIZ : CD Tryz.prog 10 [] X w0 M0 I0 (fun v M I => M0 = M ∧ I0 = I ∧ v = .bool true) := by
 obtain ⟨g, hg, hg1⟩ : ∃ g, nQ (fun s => pY 0 (kH exQ s)) (fun A => lF A exQ 1) (cmb 4 1 0) = some g ∧ (g.1, g.2.1) = (([0], [0, 1, 2]) : List Int × List Int) := by
  have := aSZ
  cases h : nQ (fun s => pY 0 (kH exQ s)) (fun A => lF A exQ 1) (cmb 4 1 0) with
  | none => rw [h] at this; cases this
  | some g => rw [h] at this; exact ⟨g, rfl, Option.some.inj this⟩
 injection hg1 with hgs hgi
 have hnr := (zQ aIQ).2
 have hB := fun (b : Nat) M0 I0 h => aRZ (X := X) (w0 := w0) (M0 := M0) (I0 := I0) (kd := 0) (tol := 1) (q := some ⟨b, 0, none⟩) (l := exQ) (n := 4) (c := 4) (mdl := fun s => pY 0 (kH exQ s)) (by omega) rfl (by omega) aIQ (by decide) h
  (fun smp qs cs hsm M0 I0 h => aIG (kd := 0) (by omega) rfl (by omega) hnr hsm.len (by omega) (fun x hx => ⟨by have := hsm.lt x hx; omega, (hsm.lt x hx).2⟩) h)
 rw [hg] at hB
 have hD := fun (b : Nat) M0 I0 h => aTV (X := X) (w0 := w0) (M0 := M0) (I0 := I0) (tol := 1) (q := some ⟨b, 0, none⟩) (l := exQ) (n := 4) (c := 4) rfl (by omega) aIQ (by decide) h
 have hC0 := fun M0 I0 h => xR (X := X) (w0 := w0) (M0 := M0) (I0 := I0) (q := none) (l := []) (n := 0) (c := 0) rfl (by omega) h
 refine aKS Tryz.func10 rfl Tryz.ntmps10 rfl ?_
 repeat (refine aK ?_)
 (refine aA rfl (aBF) rfl rfl ?_; rintro _ _ _ ⟨rfl, b1, rfl, rfl⟩; refine ⟨okF, ?_⟩)
 repeat (refine aK ?_)
 (refine aA rfl (hB b1 _ _ aB) rfl rfl ?_; rintro _ _ _ ⟨rfl, f, rfl, hk, hs, hi, hmq, hmd, rfl⟩; refine ⟨okF, ?_⟩)
 rw [hgs] at hs
 rw [hgi] at hi
 repeat (refine aK ?_)
 (refine aI rfl rfl ?_; intro b3; refine ⟨okF, ?_⟩)
 repeat (refine aK ?_)
 (refine aA rfl (aBF) rfl rfl ?_; rintro _ _ _ ⟨rfl, b2, rfl, rfl⟩; refine ⟨okF, ?_⟩)
 repeat (refine aK ?_)
 (refine aA rfl (hD b2 _ _ aB) rfl rfl ?_; rintro _ _ _ ⟨rfl, rfl, x, y, nn, ⟨hn0, hbd⟩, rfl⟩; refine ⟨okF, ?_⟩)
 obtain ⟨rfl, rfl, rfl⟩ := hbd.uniq aTT
 repeat (refine aK ?_)
 (refine aI rfl rfl ?_; intro b4; refine ⟨okF, ?_⟩)
 repeat (refine aK ?_)
 (refine aQ (cs := recs eZ [0]) ([.int .i64 0]) rfl rfl (by intro v hv; repeat (first | exact absurd hv (List.not_mem_nil) | (rcases List.mem_cons.1 hv with rfl | hv; · rfl))) (by omega) rfl rfl rfl ?_; intro b5; refine ⟨okF, ?_⟩)
 refine bC .here ?_
 refine dP (φ := aO f.ps (recs eZ f.smp)) (Hv.bfS aB) ?_
 refine dP (φ := aO f.pi (recs eZ f.inl)) (Hv.bfI aB) ?_
 (refine aA rfl (aRF (a := f.smp) (b := [0]) (by rw [hs]; decide) aB aB) rfl rfl ?_; rintro _ _ _ ⟨rfl, rfl, rfl⟩; refine ⟨okF, ?_⟩)
 rw [bJ hs]
 repeat (refine aK ?_)
 (refine aQ (cs := recs eZ [0, 1, 2]) ([.int .i64 0, .int .i64 1, .int .i64 2]) rfl rfl (by intro v hv; repeat (first | exact absurd hv (List.not_mem_nil) | (rcases List.mem_cons.1 hv with rfl | hv; · rfl))) (by omega) rfl rfl rfl ?_; intro b6; refine ⟨okF, ?_⟩)
 refine bC .here ?_
 (refine aA rfl (aRF (a := f.inl) (b := [0, 1, 2]) (by rw [hi]; decide) aB aB) rfl rfl ?_; rintro _ _ _ ⟨rfl, rfl, rfl⟩; refine ⟨okF, ?_⟩)
 rw [bJ hi]
 repeat (refine aK ?_)
 (refine aF rfl (fun _ => bA (pvs := ([.int .i64 4, .int .i64 5]).zipIdx.map (fun p => (p.2, p.1))) (cells := [.int .i64 4, .int .i64 5]) rfl rfl) rfl rfl ?_)
 (refine aF rfl (fun _ => aMN (xs := [5 - 1, 6 - 1]) (ys := [4, 5]) rfl rfl rfl rfl) rfl rfl ?_)
 rw [bJ (show ([5 - 1, 6 - 1] : List Int) = [4, 5] from rfl)]
 refine dP (φ := aO none (recs kU [])) ⟨fun X w _ => ⟨fun j v hj => by simp [recs] at hj⟩⟩ ?_
 repeat (refine aK ?_)
 (refine aA rfl (hC0 _ _ aB) rfl rfl ?_; rintro _ _ _ ⟨rfl, rfl, rfl⟩; refine ⟨okF, ?_⟩)
 rw [show kK [] = 1 from rfl]
 repeat (refine aK ?_)
 refine gZ (M' := M0) (I' := I0) aD aC ?_
 refine aH (by first | exact .inl rfl | exact .inr rfl) rfl rfl _ _ aD aC (⟨rfl, rfl, congrArg Value.bool (bJ rfl)⟩)
end
end Go.Proofs.YtjbhdfpjnjedhaaGreat
namespace Go.Proofs.YtjbhdfpjnjedhaaGreat
open Go Go.Fx
section
variable {X : List Nat} {w0 : World} {M0 M1 M2 : List Ent} {I0 : List aY}
theorem aSP {q : Option Addr} {n c : Nat} {m : Int} : CD Tryz.prog 11 [.slice q n c, .int .i64 m] X w0 M0 I0 (fun v M I => M0 = M ∧ I0 = I ∧ v = .bool (B ((n : Int) ≤ m))) := by
 refine aX Tryz.func11 rfl Tryz.ntmps11 rfl ?_
 repeat (refine aK ?_)
 refine aH (by first | exact .inl rfl | exact .inr rfl) rfl rfl _ _ aD aC (⟨rfl, rfl, rfl⟩)
theorem aRH {a b : Int} : CD Tryz.prog 31 [.agg #[.int .i64 a, .int .i64 b]] X w0 M0 I0 (fun v M I => M0 = M ∧ I0 = I ∧ v = .bool (B (¬ farC a b))) := by
 refine aZ Tryz.func31 rfl Tryz.ntmps31 rfl ?_
 refine aG ?_
 refine aJ ?_
 (refine aR rfl rfl rfl ?_; intro b1; refine ⟨okF, ?_⟩)
 by_cases h1 : -32768 ≤ a
 ·by_cases h2 : a ≤ 32768
  ·by_cases h3 : -32768 ≤ b
   ·by_cases h4 : b ≤ 32768
    ·repeat (refine aK ?_)
     refine gZ (M' := M0) (I' := I0) aD aC ?_
     refine aH (by first | exact .inl rfl | exact .inr rfl) rfl rfl _ _ aD aC (⟨rfl, rfl, congrArg Value.bool ((bJ h4).trans (bJ (show ¬ farC a b by unfold farC; omega)).symm)⟩)
    ·repeat (refine aK ?_)
     refine gZ (M' := M0) (I' := I0) aD aC ?_
     refine aH (by first | exact .inl rfl | exact .inr rfl) rfl rfl _ _ aD aC (⟨rfl, rfl, congrArg Value.bool ((bB h4).trans (bB (show ¬ ¬ farC a b by unfold farC; omega)).symm)⟩)
   ·repeat (refine aK ?_)
    refine gZ (M' := M0) (I' := I0) aD aC ?_
    refine aH (by first | exact .inl rfl | exact .inr rfl) rfl rfl _ _ aD aC (⟨rfl, rfl, congrArg Value.bool (bB (show ¬ ¬ farC a b by unfold farC; omega)).symm⟩)
  ·repeat (refine aK ?_)
   refine gZ (M' := M0) (I' := I0) aD aC ?_
   refine aH (by first | exact .inl rfl | exact .inr rfl) rfl rfl _ _ aD aC (⟨rfl, rfl, congrArg Value.bool (bB (show ¬ ¬ farC a b by unfold farC; omega)).symm⟩)
 ·repeat (refine aK ?_)
  refine gZ (M' := M0) (I' := I0) aD aC ?_
  refine aH (by first | exact .inl rfl | exact .inr rfl) rfl rfl _ _ aD aC (⟨rfl, rfl, congrArg Value.bool (bB (show ¬ ¬ farC a b by unfold farC; omega)).symm⟩)
theorem aMA {q : Option Addr} {l : List Q4} {n c : Nat} (hl : l.length = n) (hn : (n : Int) ≤ 9223372036854775807) (hq : aO q (recs kU l) ∈ I0) : CD Tryz.prog 12 [.slice q n c] X w0 M0 I0 (fun v M I => M0 = M ∧ I0 = I ∧ v = .int .i64 (kK l)) := by
 have hN := fun a b M0 I0 => aRH (X := X) (w0 := w0) (M0 := M0) (I0 := I0) (a := a) (b := b)
 refine cZ (φ := aO q (recs kU l)) (Hv.mem hq) ?_
 refine aZ Tryz.func12 rfl Tryz.ntmps12 rfl ?_
 by_cases h0 : n = 0
 ·rw [show kK l = 1 by unfold kK; rw [if_pos (by omega)]]
  repeat (refine aK ?_)
  refine aH (by first | exact .inl rfl | exact .inr rfl) rfl rfl _ _ aD aC (⟨rfl, rfl, rfl⟩)
 by_cases h1 : 64 < n
 ·rw [show kK l = 3 by unfold kK; rw [if_neg (by omega), if_pos (by omega)]]
  repeat (refine aK ?_)
  refine aH (by first | exact .inl rfl | exact .inr rfl) rfl rfl _ _ aD aC (⟨rfl, rfl, rfl⟩)
 have ec : kK l = if anyFar l then 2 else 0 := by unfold kK; rw [if_neg (by omega), if_neg (by omega)]
 repeat (refine aK ?_)
 refine aT [11, 12] rfl (fun k G M I => ∃ i : Nat, i ≤ n ∧ k = n - i ∧ (∀ j : Nat, j < i → ¬ (gt l (j : Int)).far) ∧ G = [(13, .int .i64 i)] ∧ M0 = M ∧ I = aO q (recs kU l) :: I0) (n) _ _ _ aP aD aC (⟨0, by omega, rfl, fun j hj => by omega, rfl, rfl, rfl⟩) ?_
 rintro kk G M I ⟨i, hi, rfl, hnf, rfl, rfl, rfl⟩
 by_cases hin : i < n
 ·have hmem := dF (ms := l) (i := (i : Int)) (by omega)
  have hnx : ∀ j : Nat, ¬ (gt l (i : Int)).far → j < i + 1 → ¬ (gt l (j : Int)).far := fun j h hj => by
   by_cases e : j = i
   ·subst e; exact h
   ·exact hnf j (by omega)
  obtain ⟨s, hss⟩ : ∃ s, gt l (i : Int) = s := ⟨_, rfl⟩
  rw [hss] at hmem hnx
  repeat (refine aK ?_)
  rw [hss]
  (refine aI rfl rfl ?_; intro b4; refine ⟨okF, ?_⟩)
  repeat (refine aK ?_)
  by_cases f1 : farC s.x s.y
  ·have e2 : kK l = 2 := by rw [ec, if_pos ⟨s, hmem, .inl f1⟩]
   rw [e2]
   have hN1 := hN s.x s.y
   rw [bB (show ¬ ¬ farC s.x s.y from fun h => h f1)] at hN1
   (refine aA rfl (hN1 _ _) rfl rfl ?_; rintro _ _ _ ⟨rfl, rfl, rfl⟩; refine ⟨okF, ?_⟩)
   repeat (refine aK ?_)
   refine gZ (M' := M0) (I' := I0) aD aC ?_
   refine aH (by first | exact .inl rfl | exact .inr rfl) rfl rfl _ _ aD aC (⟨rfl, rfl, rfl⟩)
  ·have hN1 := hN s.x s.y
   rw [bJ (show ¬ farC s.x s.y from f1)] at hN1
   (refine aA rfl (hN1 _ _) rfl rfl ?_; rintro _ _ _ ⟨rfl, rfl, rfl⟩; refine ⟨okF, ?_⟩)
   repeat (refine aK ?_)
   by_cases f2 : farC s.u s.v
   ·have e2 : kK l = 2 := by rw [ec, if_pos ⟨s, hmem, .inr f2⟩]
    rw [e2]
    have hN2 := hN s.u s.v
    rw [bB (show ¬ ¬ farC s.u s.v from fun h => h f2)] at hN2
    (refine aA rfl (hN2 _ _) rfl rfl ?_; rintro _ _ _ ⟨rfl, rfl, rfl⟩; refine ⟨okF, ?_⟩)
    repeat (refine aK ?_)
    refine gZ (M' := M0) (I' := I0) aD aC ?_
    refine aH (by first | exact .inl rfl | exact .inr rfl) rfl rfl _ _ aD aC (⟨rfl, rfl, rfl⟩)
   ·have hN2 := hN s.u s.v
    rw [bJ (show ¬ farC s.u s.v from f2)] at hN2
    (refine aA rfl (hN2 _ _) rfl rfl ?_; rintro _ _ _ ⟨rfl, rfl, rfl⟩; refine ⟨okF, ?_⟩)
    repeat (refine aK ?_)
    refine aL (n - (i + 1)) _ _ _ (by first | omega | (simp only [List.length_append, List.length_cons, List.length_nil]; omega)) aP aD aC (⟨i + 1, by omega, rfl, fun j hj => hnx j (fun h => h.elim f1 f2) hj, rfl, rfl, rfl⟩)
 ·obtain rfl : i = n := by omega
  have e2 : kK l = 0 := by
   rw [ec, if_neg]
   rintro ⟨s, hs, hf⟩
   obtain ⟨j, hj, rfl⟩ := List.mem_iff_getElem.1 hs
   exact hnf j (by omega) (by rw [gtQ hj]; exact hf)
  rw [e2]
  repeat (refine aK ?_)
  refine aH (by first | exact .inl rfl | exact .inr rfl) rfl rfl _ _ aD aC (⟨rfl, rfl, rfl⟩)
theorem pF {x : Int} (hx : -9223372036854775808 ≤ x ∧ x ≤ 9223372036854775807) {k : Nat} (hk : x.natAbs ≤ 2 ^ k) : CD Tryz.prog 66 [.int .i64 x] X w0 M0 I0 (RQ (x : Rat) k M0 I0) := by
 refine aZ Tryz.func66 rfl Tryz.ntmps66 rfl ?_
 refine aG ?_
 refine aJ ?_
 (refine aI rfl rfl ?_; intro b2; refine ⟨okF, ?_⟩)
 repeat (refine aK ?_)
 (refine aA rfl (sS hx hk) rfl rfl ?_; rintro _ _ _ ⟨rfl, e, rfl, he, rfl⟩; refine ⟨okF, ?_⟩)
 repeat (refine aK ?_)
 refine bD (cs := eR e) (.inl rfl) rfl rfl aB rfl M0 (bS e k :: I0) aD aC ⟨rfl, e, rfl, he, rfl⟩
end
/- ---------- the law's search ---------- -/
def VisL (l : List Q4) (i j : Nat) (x y : Int) : Prop := (∃ a : Nat, a < i ∧ a < l.length ∧ x = gt (dxs l) (a : Int) ∧ ∃ b : Nat, b < l.length ∧ y = gt (dys l) (b : Int)) ∨ (i < l.length ∧ x = gt (dxs l) (i : Int) ∧ ∃ b : Nat, b < j ∧ b < l.length ∧ y = gt (dys l) (b : Int))
section
variable {l : List Q4} {t X Y : Int} {i j n : Nat}
end
section
variable {X : List Nat} {w0 : World} {M0 M1 M2 : List Ent} {I0 : List aY}
end
end Go.Proofs.YtjbhdfpjnjedhaaGreat
namespace Go.Proofs.YtjbhdfpjnjedhaaGreat
open Go Go.Fx
def fourS (a : WM) : Prop := a.rows.length ≤ 4 ∧ ∀ r ∈ a.rows, r.es.length ≤ 4 ∧ ∀ e ∈ r.es, e.brief
def NR (a : WM) : Prop := sqC a ≠ 0 ∨ ∃ (A : MX) (n : Nat), a = A.raw ∧ A.fit n n ∧ n ≤ 4 ∧ (n = 3 → dt 3 (at2 A.q) = 0)
section
variable {X : List Nat} {w0 : World} {M0 M1 M2 : List Ent} {I0 : List aY}
end
end Go.Proofs.YtjbhdfpjnjedhaaGreat
namespace Go.Proofs.YtjbhdfpjnjedhaaGreat
open Go Go.Fx
def MisK (m : Mt) (s : Q4) (k : Nat) (M0 : List Ent) (I0 : List aY) (v : Value) (M : List Ent) (I : List aY) : Prop :=
 M0 = M ∧ if nN m 2 s = 0 then I0 = I ∧ v = .tuple #[zR, .bool false] else ∃ e : RE, v = .tuple #[rv e, .bool true] ∧ e.q = aAQ m s ∧ I = bS e k :: I0
section
variable {X : List Nat} {w0 : World} {M0 M1 M2 : List Ent} {I0 : List aY}
theorem aSN {a b : RE} {x y : Int} {k : Nat} (hk : k ≤ 10000000000) (hx : -32768 ≤ x ∧ x ≤ 32768) (hy : -32768 ≤ y ∧ y ≤ 32768) (ha : bS a k ∈ I0) (hb : bS b k ∈ I0) :
  CD Tryz.prog 76 [.agg #[.int .i64 x, .int .i64 y], .agg (eR a ++ eR b).toArray] X w0 M0 I0 (RQ ((a.q - (x : Rat)) * (a.q - (x : Rat)) + (b.q - (y : Rat)) * (b.q - (y : Rat))) (4 * k + 65) M0 I0) := by
 have hWx := fun M0 I0 => sS (X := X) (w0 := w0) (M0 := M0) (I0 := I0) (x := x) (by omega) (k := 15) (by rw [e15]; omega)
 have hWy := fun M0 I0 => sS (X := X) (w0 := w0) (M0 := M0) (I0 := I0) (x := y) (by omega) (k := 15) (by rw [e15]; omega)
 have hS := fun (a b : RE) M0 I0 h1 h2 => aGR (X := X) (w0 := w0) (M0 := M0) (I0 := I0) (a := a) (b := b) (k := k) (m := 15) (by omega) h1 h2
 have hM := fun (a : RE) M0 I0 h1 => rA (X := X) (w0 := w0) (M0 := M0) (I0 := I0) (a := a) (b := a) (k := k + 15 + 1) (m := k + 15 + 1) (by omega) h1 h1
 have hA := fun (a b : RE) M0 I0 h1 h2 => rG (X := X) (w0 := w0) (M0 := M0) (I0 := I0) (a := a) (b := b) (k := k + 15 + 1 + (k + 15 + 1)) (m := k + 15 + 1 + (k + 15 + 1)) (by omega) h1 h2
 refine cZ (φ := bS a k) (Hv.mem ha) (cZ (φ := bS b k) (Hv.mem (List.mem_cons_of_mem _ hb)) ?_)
 refine aX Tryz.func76 rfl Tryz.ntmps76 rfl ?_
 refine aG ?_
 refine aJ ?_
 (refine aR rfl rfl rfl ?_; intro b2; refine ⟨okF, ?_⟩)
 refine bC .here ?_
 (refine aR rfl rfl rfl ?_; intro b3; refine ⟨okF, ?_⟩)
 refine bC (cs := recs eR [a, b]) .here ?_
 (refine aI rfl rfl ?_; intro b4; refine ⟨okF, ?_⟩)
 repeat (refine aK ?_)
 refine mU (fun G M I => ∃ (b5 : Nat) (ex : RE), ex.q = a.q - (x : Rat) ∧ G = [(2, .pointer (some ⟨b2, 0, none⟩)), (3, .pointer (some ⟨b3, 0, none⟩)), (4, .pointer (some ⟨b4, 0, none⟩)), (5, .pointer (some ⟨b5, 0, none⟩))] ∧ M = .blk b5 (eR ex) 50 :: .blk b4 zRg 50 :: M0 ∧ I = bS ex (k + 15 + 1) :: aO (some ⟨b3, 0, none⟩) (recs eR [a, b]) :: aO (some ⟨b2, 0, none⟩) [.int .i64 x, .int .i64 y] :: bS b k :: bS a k :: I0) ?_ ?_
 ·((repeat refine aG ?_); refine mP (M0) (aO (some ⟨b3, 0, none⟩) (recs eR [a, b]) :: aO (some ⟨b2, 0, none⟩) [.int .i64 x, .int .i64 y] :: bS b k :: bS a k :: I0) mixed ?_)
  refine iQ (fuel := 4) (listed' := #[true, true, true, true, false, false, false, false]) [0, 1, 2, 3] [3, 2, 3, 2] aD aC (by kernel_rfl) (by kernel_rfl) rfl rfl ?_
  repeat (refine aK ?_)
  refine bW (fuel := 3) (i := 4) (j := 6) (by kernel_rfl) ?_ ?_
  ·(refine aA rfl (hWx _ _) rfl rfl ?_; rintro _ _ _ ⟨rfl, g0, rfl, hg0, rfl⟩; refine ⟨okF, ?_⟩)
   refine bH ?_
   repeat (refine aK ?_)
   refine bW (fuel := 2) (i := 5) (j := 6) (by kernel_rfl) ?_ ?_
   ·(refine aA rfl (hS a g0 _ _ (Hv.mem aB) (Hv.mem aB)) rfl rfl ?_; rintro _ _ _ ⟨rfl, g1, rfl, hg1, rfl⟩; refine ⟨okF, ?_⟩)
    refine bH ?_
    refine bE [6, 7] [0, 0] aD aC (by kernel_rfl) (by kernel_rfl) rfl rfl ?_
    repeat (refine aK ?_)
    (refine aI rfl rfl ?_; intro b5; refine ⟨okF, ?_⟩)
    repeat (refine aK ?_)
    (refine eX _ _ _ aP aD aC ⟨b5, g1, by rw [hg1, hg0], rfl, rfl, rfl⟩)
   ·(refine aI rfl rfl ?_; intro b5; refine ⟨okF, ?_⟩)
    refine bH ?_
    refine bE [5, 7] [0, 0] aD aC (by kernel_rfl) (by kernel_rfl) rfl rfl ?_
    repeat (refine aK ?_)
    (refine aA rfl (hS a g0 _ _ (Hv.mem aB) (Hv.mem aB)) rfl rfl ?_; rintro _ _ _ ⟨rfl, g1, rfl, hg1, rfl⟩; refine ⟨okF, ?_⟩)
    repeat (refine aK ?_)
    (refine eX _ _ _ aP aD aC ⟨b5, g1, by rw [hg1, hg0], rfl, rfl, rfl⟩)
  ·(refine aI rfl rfl ?_; intro b5; refine ⟨okF, ?_⟩)
   refine bH ?_
   refine bE [4, 5, 7] [0, 0, 0] aD aC (by kernel_rfl) (by kernel_rfl) rfl rfl ?_
   repeat (refine aK ?_)
   (refine aA rfl (hWx _ _) rfl rfl ?_; rintro _ _ _ ⟨rfl, g0, rfl, hg0, rfl⟩; refine ⟨okF, ?_⟩)
   repeat (refine aK ?_)
   (refine aA rfl (hS a g0 _ _ (Hv.mem aB) (Hv.mem aB)) rfl rfl ?_; rintro _ _ _ ⟨rfl, g1, rfl, hg1, rfl⟩; refine ⟨okF, ?_⟩)
   repeat (refine aK ?_)
   (refine eX _ _ _ aP aD aC ⟨b5, g1, by rw [hg1, hg0], rfl, rfl, rfl⟩)
 rintro G M I ⟨b5, ex, hex, rfl, rfl, rfl⟩
 refine aG ?_
 refine mU (fun G M I => ∃ (b6 : Nat) (ey : RE), ey.q = b.q - (y : Rat) ∧ G = [(4, .pointer (some ⟨b4, 0, none⟩)), (5, .pointer (some ⟨b5, 0, none⟩)), (6, .pointer (some ⟨b6, 0, none⟩))] ∧ M = .blk b6 (eR ey) 50 :: .blk b5 (eR ex) 50 :: .blk b4 zRg 50 :: M0 ∧ I = bS ey (k + 15 + 1) :: bS ex (k + 15 + 1) :: I0) ?_ ?_
 ·((repeat refine aG ?_); refine mP (M0) (bS ex (k + 15 + 1) :: aO (some ⟨b3, 0, none⟩) (recs eR [a, b]) :: aO (some ⟨b2, 0, none⟩) [.int .i64 x, .int .i64 y] :: bS b k :: bS a k :: I0) mixed ?_)
  refine iQ (fuel := 4) (listed' := #[true, true, true, true, false, false, false, false]) [0, 1, 2, 3] [3, 2, 3, 2] aD aC (by kernel_rfl) (by kernel_rfl) rfl rfl ?_
  repeat (refine aK ?_)
  refine bW (fuel := 3) (i := 4) (j := 6) (by kernel_rfl) ?_ ?_
  ·(refine aA rfl (hWy _ _) rfl rfl ?_; rintro _ _ _ ⟨rfl, g0, rfl, hg0, rfl⟩; refine ⟨okF, ?_⟩)
   refine bH ?_
   repeat (refine aK ?_)
   refine bW (fuel := 2) (i := 5) (j := 6) (by kernel_rfl) ?_ ?_
   ·(refine aA rfl (hS b g0 _ _ (Hv.mem aB) (Hv.mem aB)) rfl rfl ?_; rintro _ _ _ ⟨rfl, g1, rfl, hg1, rfl⟩; refine ⟨okF, ?_⟩)
    refine bH ?_
    refine bE [6, 7] [0, 0] aD aC (by kernel_rfl) (by kernel_rfl) rfl rfl ?_
    repeat (refine aK ?_)
    (refine aI rfl rfl ?_; intro b6; refine ⟨okF, ?_⟩)
    repeat (refine aK ?_)
    (refine eX _ _ _ aP aD aC ⟨b6, g1, by rw [hg1, hg0], rfl, rfl, rfl⟩)
   ·(refine aI rfl rfl ?_; intro b6; refine ⟨okF, ?_⟩)
    refine bH ?_
    refine bE [5, 7] [0, 0] aD aC (by kernel_rfl) (by kernel_rfl) rfl rfl ?_
    repeat (refine aK ?_)
    (refine aA rfl (hS b g0 _ _ (Hv.mem aB) (Hv.mem aB)) rfl rfl ?_; rintro _ _ _ ⟨rfl, g1, rfl, hg1, rfl⟩; refine ⟨okF, ?_⟩)
    repeat (refine aK ?_)
    (refine eX _ _ _ aP aD aC ⟨b6, g1, by rw [hg1, hg0], rfl, rfl, rfl⟩)
  ·(refine aI rfl rfl ?_; intro b6; refine ⟨okF, ?_⟩)
   refine bH ?_
   refine bE [4, 5, 7] [0, 0, 0] aD aC (by kernel_rfl) (by kernel_rfl) rfl rfl ?_
   repeat (refine aK ?_)
   (refine aA rfl (hWy _ _) rfl rfl ?_; rintro _ _ _ ⟨rfl, g0, rfl, hg0, rfl⟩; refine ⟨okF, ?_⟩)
   repeat (refine aK ?_)
   (refine aA rfl (hS b g0 _ _ (Hv.mem aB) (Hv.mem aB)) rfl rfl ?_; rintro _ _ _ ⟨rfl, g1, rfl, hg1, rfl⟩; refine ⟨okF, ?_⟩)
   repeat (refine aK ?_)
   (refine eX _ _ _ aP aD aC ⟨b6, g1, by rw [hg1, hg0], rfl, rfl, rfl⟩)
 rintro G M I ⟨b6, ey, hey, rfl, rfl, rfl⟩
 (repeat refine aG ?_); refine bZ (.blk b6 (eR ey) 50 :: .blk b5 (eR ex) 50 :: M0) (bS ey (k + 15 + 1) :: bS ex (k + 15 + 1) :: I0) [0, 1, 3, 4, 2, 5, 6, 7] [2, 2, 2, 2, 0, 0, 0, 0] aD aC mixed (by kernel_rfl) ?_
 repeat (refine aK ?_)
 (refine aA rfl (hM ex _ _ (Hv.mem aB)) rfl rfl ?_; rintro _ _ _ ⟨rfl, f0, rfl, hf0, rfl⟩; refine ⟨okF, ?_⟩)
 (refine aA rfl (hM ey _ _ (Hv.mem aB)) rfl rfl ?_; rintro _ _ _ ⟨rfl, f1, rfl, hf1, rfl⟩; refine ⟨okF, ?_⟩)
 (refine aA rfl (hA f0 f1 _ _ (Hv.mem aB) (Hv.mem aB)) rfl rfl ?_; rintro _ _ _ ⟨rfl, f2, rfl, hf2, rfl⟩; refine ⟨okF, ?_⟩)
 repeat (refine aK ?_)
 have e9 : k + 15 + 1 + (k + 15 + 1) + (k + 15 + 1 + (k + 15 + 1)) + 1 = 4 * k + 65 := by omega
 rw [e9]
 refine bD (cs := eR f2) (.inl rfl) rfl rfl aB rfl M0 (bS f2 (4 * k + 65) :: I0) aD aC ⟨rfl, f2, rfl, by rw [hf2, hf1, hf0, hex, hey], rfl⟩
end
end Go.Proofs.YtjbhdfpjnjedhaaGreat
