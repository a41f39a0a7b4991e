/- consensus.Best. Chapter 29: the example. Chapter 29's law: few, near, check, whole; Abs; within, densest. Consensus: a matrix as it comes in, regular or not; the law's valid, missed, inliers. -/
import Derived.Test.YtjbhdfpjnjedhaaGreatZnbl
import Derived.Test.YtjbhdfpjnjedhaaGreatZnan
import Derived.Test.YtjbhdfpjnjedhaaGreatZnbk
import Derived.Test.YtjbhdfpjnjedhaaGreatZnax
import Derived.Test.YtjbhdfpjnjedhaaGreatZnbh
import Derived.Test.YtjbhdfpjnjedhaaGreatZnbf
import Derived.Test.YtjbhdfpjnjedhaaGreatZnbe
import Derived.Test.YtjbhdfpjnjedhaaGreatZnbg
set_option linter.unusedSimpArgs false
set_option linter.unusedVariables false
set_option maxRecDepth 100000
set_option maxHeartbeats 4000000
namespace Go.Proofs.YtjbhdfpjnjedhaaGreat
open Go Go.Fx
def BestR (o : Option (List Int × List Int × Mt)) (kd : Int) (M0 : List Ent) (I0 : List bA) (v : Value) (M : List Ent) (I : List bA) : Prop := M0 = M ∧ match o with
 | none => I0 = I ∧ v = .tuple #[.agg zF4.toArray, .int .i64 6]
 | some g => ∃ f : BF, v = .tuple #[.agg (eBF f).toArray, .int .i64 0] ∧ f.kd = kd ∧ f.smp = g.1 ∧ f.inl = g.2.1 ∧ f.m.q = g.2.2 ∧ f.m.dim 3 3 ∧ I = IsBF f :: I0
section
variable {X : List Nat} {w0 : World} {M0 M1 M2 : List Ent} {I0 : List bA}
theorem aRL {kd : Nat} {tol : Int} {q : Option Addr} {l : List Q4} {n c : Nat} {mdl : List Int → Option Mt} (hk : kd ≤ 3) (hl : l.length = n) (hn : n ≤ 12) (hc : jW l = 0) (ht : tolP tol) (hq : aP q (recs kG l) ∈ I0)
  (hM : ∀ (smp : List Int) (qs : Option Addr) (cs : Nat), SmpP n (kd + 1) 0 smp → ∀ M0 I0, aP q (recs kG l) ∈ I0 → CD Tryz.prog 51 [.int .i64 (kd : Int), .slice q n c, .slice qs (kd + 1) cs] X w0 (.row qs (kd + 1) cs (recs eZ smp) 3 1 :: M0) I0 (FitR (mdl smp) kX (.row qs (kd + 1) cs (recs eZ smp) 3 1 :: M0) I0)) :
  CD Tryz.prog 14 [.int .i64 (kd : Int), .slice q n c, .int .i64 tol] X w0 M0 I0 (BestR (nL mdl (fun A => jJ A l tol) (cmb n (kd + 1) 0)) (kd : Int) M0 I0) := by
 have hkc : uU (kd : Int) l = 0 := by unfold uU; rw [if_pos hc, if_pos ⟨by omega, by omega⟩]
 have hK := fun M0 I0 h => aLK (X := X) (w0 := w0) (M0 := M0) (I0 := I0) (x := (kd : Int)) (q := q) (l := l) (n := n) (c := c) hl (by omega) h
 have hT := fun M0 I0 => aII (X := X) (w0 := w0) (M0 := M0) (I0 := I0) (t := tol)
 rw [hkc, if_pos rfl] at hK
 rw [if_pos ht] at hT
 have hs := (yU hc).2
 refine cK (φ := aP q (recs kG l)) (Hv.mem hq) ?_
 refine jT Tryz.func14 rfl Tryz.ntmps14 rfl ?_
 refine aH ?_
 refine aJ ?_
 (refine kL rfl rfl rfl ?_; intro b3; refine ⟨okF, ?_⟩)
 refine bE .here ?_
 (refine oL rfl rfl rfl ?_; intro b4; refine ⟨okF, ?_⟩)
 (refine kL rfl rfl rfl ?_; intro b5; refine ⟨okF, ?_⟩)
 refine bE .here ?_
 (refine aG rfl rfl ?_; intro b6; refine ⟨okF, ?_⟩)
 repeat (refine aK ?_)
 (refine aA rfl (hK _ _ aB) rfl rfl ?_; rintro _ _ _ ⟨rfl, rfl, rfl⟩; refine ⟨okF, ?_⟩)
 repeat (refine aK ?_)
 (refine aA rfl (hT _ _) rfl rfl ?_; rintro _ _ _ ⟨rfl, rfl, rfl⟩; refine ⟨okF, ?_⟩)
 have e1 : (kd : Int) + 1 = ((kd + 1 : Nat) : Int) := rfl
 by_cases h2 : (kd : Int) = 2
 ·repeat (refine aK ?_)
  (refine aG rfl rfl ?_; intro b10; refine ⟨okF, ?_⟩)
  repeat (refine aK ?_)
  rw [e1]
  refine iO (φ := IsBF zBF) Hv.zBF ?_
  refine uS (M' := enB b10 zBF :: .blk b6 zF4 36 :: M0) (I' := IsBF zBF :: aP (some ⟨b5, 0, none⟩) [.int .i64 tol] :: aP (some ⟨b4, 0, none⟩) [.slice q n c] :: aP (some ⟨b3, 0, none⟩) [.int .i64 (kd : Int)] :: aP q (recs kG l) :: I0) SubP.refl aC ?_
  (refine aA rfl (vT (enB b10) IsBF (BR mdl (fun A => jJ A l tol) (kd : Int)) (M1 := .blk b6 zF4 36 :: M0) (s0 := zBF) (by omega) (by omega) rfl (fun I1 hI vis s smp qs cs M2 hR hsm => aBI hl (by omega) ⟨by omega, by omega⟩ hs ht (hI _ aB) (hI _ aB) (hI _ aB) (hI _ aB) (hM smp qs cs hsm) hR hsm)) rfl rfl ?_; rintro _ _ _ ⟨f, hR, rfl, rfl⟩; refine ⟨okF, ?_⟩)
  unfold BR at hR
  cases hb : nL mdl (fun A => jJ A l tol) (cmb n (kd + 1) 0) with
  | none =>
   rw [hb] at hR
   have hp : f.m.p = none := by rw [hR]
   repeat (refine aK ?_)
   refine aF rfl (fun _ => jA rfl) rfl rfl ?_
   rw [hp]
   repeat (refine aK ?_)
   (refine aF rfl (fun _ => aV (pvs := ([]).zipIdx.map (fun p => (p.2, p.1))) (cells := zF4) rfl rfl) rfl rfl ?_)
   repeat (refine aK ?_)
   refine gW (M' := .blk b6 zF4 36 :: M0) (I' := I0) aD aC ?_
   refine eO (rs := [.cell 6 36, .tmp 7]) (vs := [.agg zF4.toArray, .int .i64 6]) (.inl rfl) rfl (.cellN (cs := zF4) inferInstance rfl aB rfl (.tmp rfl .nil)) rfl M0 I0 aD aC ⟨rfl, rfl, rfl⟩
  | some g =>
   rw [hb] at hR
   have hp : f.m.p.isNone = false := by
    cases hh : f.m.p with
    | none => exact absurd hh hR.2.2.2.2.2
    | some a => rfl
   repeat (refine aK ?_)
   refine aF rfl (fun _ => jA rfl) rfl rfl ?_
   rw [hp]
   repeat (refine aK ?_)
   refine gW (M' := .blk b6 (eBF f) 36 :: M0) (I' := IsBF f :: I0) aD aC ?_
   refine eO (rs := [.cell 6 36, .tmp 7]) (vs := [.agg (eBF f).toArray, .int .i64 0]) (.inl rfl) rfl (.cellN (cs := eBF f) inferInstance rfl aB rfl (.tmp rfl .nil)) rfl M0 (IsBF f :: I0) aD aC ⟨rfl, f, rfl, hR.1, hR.2.1, hR.2.2.1, hR.2.2.2.1, hR.2.2.2.2.1, rfl⟩
 by_cases h3 : (kd : Int) = 3
 ·repeat (refine aK ?_)
  (refine aG rfl rfl ?_; intro b10; refine ⟨okF, ?_⟩)
  repeat (refine aK ?_)
  rw [e1]
  refine iO (φ := IsBF zBF) Hv.zBF ?_
  refine uS (M' := enB b10 zBF :: .blk b6 zF4 36 :: M0) (I' := IsBF zBF :: aP (some ⟨b5, 0, none⟩) [.int .i64 tol] :: aP (some ⟨b4, 0, none⟩) [.slice q n c] :: aP (some ⟨b3, 0, none⟩) [.int .i64 (kd : Int)] :: aP q (recs kG l) :: I0) SubP.refl aC ?_
  (refine aA rfl (vT (enB b10) IsBF (BR mdl (fun A => jJ A l tol) (kd : Int)) (M1 := .blk b6 zF4 36 :: M0) (s0 := zBF) (by omega) (by omega) rfl (fun I1 hI vis s smp qs cs M2 hR hsm => aBI hl (by omega) ⟨by omega, by omega⟩ hs ht (hI _ aB) (hI _ aB) (hI _ aB) (hI _ aB) (hM smp qs cs hsm) hR hsm)) rfl rfl ?_; rintro _ _ _ ⟨f, hR, rfl, rfl⟩; refine ⟨okF, ?_⟩)
  unfold BR at hR
  cases hb : nL mdl (fun A => jJ A l tol) (cmb n (kd + 1) 0) with
  | none =>
   rw [hb] at hR
   have hp : f.m.p = none := by rw [hR]
   repeat (refine aK ?_)
   refine aF rfl (fun _ => jA rfl) rfl rfl ?_
   rw [hp]
   repeat (refine aK ?_)
   (refine aF rfl (fun _ => aV (pvs := ([]).zipIdx.map (fun p => (p.2, p.1))) (cells := zF4) rfl rfl) rfl rfl ?_)
   repeat (refine aK ?_)
   refine gW (M' := .blk b6 zF4 36 :: M0) (I' := I0) aD aC ?_
   refine eO (rs := [.cell 6 36, .tmp 7]) (vs := [.agg zF4.toArray, .int .i64 6]) (.inl rfl) rfl (.cellN (cs := zF4) inferInstance rfl aB rfl (.tmp rfl .nil)) rfl M0 I0 aD aC ⟨rfl, rfl, rfl⟩
  | some g =>
   rw [hb] at hR
   have hp : f.m.p.isNone = false := by
    cases hh : f.m.p with
    | none => exact absurd hh hR.2.2.2.2.2
    | some a => rfl
   repeat (refine aK ?_)
   refine aF rfl (fun _ => jA rfl) rfl rfl ?_
   rw [hp]
   repeat (refine aK ?_)
   refine gW (M' := .blk b6 (eBF f) 36 :: M0) (I' := IsBF f :: I0) aD aC ?_
   refine eO (rs := [.cell 6 36, .tmp 7]) (vs := [.agg (eBF f).toArray, .int .i64 0]) (.inl rfl) rfl (.cellN (cs := eBF f) inferInstance rfl aB rfl (.tmp rfl .nil)) rfl M0 (IsBF f :: I0) aD aC ⟨rfl, f, rfl, hR.1, hR.2.1, hR.2.2.1, hR.2.2.2.1, hR.2.2.2.2.1, rfl⟩
 repeat (refine aK ?_)
 (refine aG rfl rfl ?_; intro b10; refine ⟨okF, ?_⟩)
 repeat (refine aK ?_)
 rw [e1]
 refine iO (φ := IsBF zBF) Hv.zBF ?_
 refine uS (M' := enB b10 zBF :: .blk b6 zF4 36 :: M0) (I' := IsBF zBF :: aP (some ⟨b5, 0, none⟩) [.int .i64 tol] :: aP (some ⟨b4, 0, none⟩) [.slice q n c] :: aP (some ⟨b3, 0, none⟩) [.int .i64 (kd : Int)] :: aP q (recs kG l) :: I0) SubP.refl aC ?_
 (refine aA rfl (vT (enB b10) IsBF (BR mdl (fun A => jJ A l tol) (kd : Int)) (M1 := .blk b6 zF4 36 :: M0) (s0 := zBF) (by omega) (by omega) rfl (fun I1 hI vis s smp qs cs M2 hR hsm => aBI hl (by omega) ⟨by omega, by omega⟩ hs ht (hI _ aB) (hI _ aB) (hI _ aB) (hI _ aB) (hM smp qs cs hsm) hR hsm)) rfl rfl ?_; rintro _ _ _ ⟨f, hR, rfl, rfl⟩; refine ⟨okF, ?_⟩)
 unfold BR at hR
 cases hb : nL mdl (fun A => jJ A l tol) (cmb n (kd + 1) 0) with
 | none =>
  rw [hb] at hR
  have hp : f.m.p = none := by rw [hR]
  repeat (refine aK ?_)
  refine aF rfl (fun _ => jA rfl) rfl rfl ?_
  rw [hp]
  repeat (refine aK ?_)
  (refine aF rfl (fun _ => aV (pvs := ([]).zipIdx.map (fun p => (p.2, p.1))) (cells := zF4) rfl rfl) rfl rfl ?_)
  repeat (refine aK ?_)
  refine gW (M' := .blk b6 zF4 36 :: M0) (I' := I0) aD aC ?_
  refine eO (rs := [.cell 6 36, .tmp 7]) (vs := [.agg zF4.toArray, .int .i64 6]) (.inl rfl) rfl (.cellN (cs := zF4) inferInstance rfl aB rfl (.tmp rfl .nil)) rfl M0 I0 aD aC ⟨rfl, rfl, rfl⟩
 | some g =>
  rw [hb] at hR
  have hp : f.m.p.isNone = false := by
   cases hh : f.m.p with
   | none => exact absurd hh hR.2.2.2.2.2
   | some a => rfl
  repeat (refine aK ?_)
  refine aF rfl (fun _ => jA rfl) rfl rfl ?_
  rw [hp]
  repeat (refine aK ?_)
  refine gW (M' := .blk b6 (eBF f) 36 :: M0) (I' := IsBF f :: I0) aD aC ?_
  refine eO (rs := [.cell 6 36, .tmp 7]) (vs := [.agg (eBF f).toArray, .int .i64 0]) (.inl rfl) rfl (.cellN (cs := eBF f) inferInstance rfl aB rfl (.tmp rfl .nil)) rfl M0 (IsBF f :: I0) aD aC ⟨rfl, f, rfl, hR.1, hR.2.1, hR.2.2.1, hR.2.2.2.1, hR.2.2.2.2.1, rfl⟩
end
end Go.Proofs.YtjbhdfpjnjedhaaGreat
namespace Go.Proofs.YtjbhdfpjnjedhaaGreat
open Go Go.Fx
def exQ : List Q4 := [⟨0, 0, 5, 5⟩, ⟨10, 0, 15, 5⟩, ⟨0, 10, 5, 16⟩, ⟨3, 3, 90, 1⟩]
instance lexL.dec (X Y x y : Int) : Decidable (lexL X Y x y) := inferInstanceAs (Decidable (X < x ∨ (X = x ∧ Y ≤ y)))
theorem aSH : BestD (oN exQ) 1 5 6 3 := ⟨by decide, by decide, by decide, by decide, by decide⟩
theorem aSL : (nL (fun s => vP 0 (sK exQ s)) (fun A => jJ A exQ 1) (cmb 4 1 0)).map (fun g => (g.1, g.2.1)) = some ([0], [0, 1, 2]) := by decide +kernel
theorem aHS : jW exQ = 0 := by decide
section
variable {X : List Nat} {w0 : World} {M0 M1 M2 : List Ent} {I0 : List bA}
theorem aAM : CD Tryz.prog 46 [] X w0 M0 I0 (fun v M I => M0 = M ∧ ∃ b : Nat, v = .slice (some ⟨b, 0, none⟩) 4 4 ∧ I = aP (some ⟨b, 0, none⟩) (recs kG exQ) :: I0) := by
 refine aIZ Tryz.func46 rfl Tryz.ntmps46 rfl ?_
 repeat (refine aK ?_)
 (refine aF rfl (fun _ => aV (pvs := ([.int .i64 5, .int .i64 5]).zipIdx.map (fun p => (p.2, p.1))) (cells := [.int .i64 5, .int .i64 5]) rfl rfl) rfl rfl ?_)
 (refine aF rfl (fun _ => aV (pvs := [(1, .agg #[.int .i64 5, .int .i64 5])]) (cells := [.int .i64 0, .int .i64 0, .int .i64 5, .int .i64 5]) rfl rfl) rfl rfl ?_)
 (refine aF rfl (fun _ => aV (pvs := [(0, .int .i64 10)]) (cells := [.int .i64 10, .int .i64 0]) rfl rfl) rfl rfl ?_)
 (refine aF rfl (fun _ => aV (pvs := ([.int .i64 15, .int .i64 5]).zipIdx.map (fun p => (p.2, p.1))) (cells := [.int .i64 15, .int .i64 5]) rfl rfl) rfl rfl ?_)
 (refine aF rfl (fun _ => aV (pvs := [(0, .agg #[.int .i64 10, .int .i64 0]), (1, .agg #[.int .i64 15, .int .i64 5])]) (cells := [.int .i64 10, .int .i64 0, .int .i64 15, .int .i64 5]) rfl rfl) rfl rfl ?_)
 (refine aF rfl (fun _ => aV (pvs := [(1, .int .i64 10)]) (cells := [.int .i64 0, .int .i64 10]) rfl rfl) rfl rfl ?_)
 (refine aF rfl (fun _ => aV (pvs := ([.int .i64 5, .int .i64 16]).zipIdx.map (fun p => (p.2, p.1))) (cells := [.int .i64 5, .int .i64 16]) rfl rfl) rfl rfl ?_)
 (refine aF rfl (fun _ => aV (pvs := [(0, .agg #[.int .i64 0, .int .i64 10]), (1, .agg #[.int .i64 5, .int .i64 16])]) (cells := [.int .i64 0, .int .i64 10, .int .i64 5, .int .i64 16]) rfl rfl) rfl rfl ?_)
 (refine aF rfl (fun _ => aV (pvs := ([.int .i64 3, .int .i64 3]).zipIdx.map (fun p => (p.2, p.1))) (cells := [.int .i64 3, .int .i64 3]) rfl rfl) rfl rfl ?_)
 (refine aF rfl (fun _ => aV (pvs := ([.int .i64 90, .int .i64 1]).zipIdx.map (fun p => (p.2, p.1))) (cells := [.int .i64 90, .int .i64 1]) rfl rfl) rfl rfl ?_)
 (refine aF rfl (fun _ => aV (pvs := [(0, .agg #[.int .i64 3, .int .i64 3]), (1, .agg #[.int .i64 90, .int .i64 1])]) (cells := [.int .i64 3, .int .i64 3, .int .i64 90, .int .i64 1]) rfl rfl) rfl rfl ?_)
 (refine bB (cs := recs kG exQ) ([vQ4 ⟨0, 0, 5, 5⟩, vQ4 ⟨10, 0, 15, 5⟩, vQ4 ⟨0, 10, 5, 16⟩, vQ4 ⟨3, 3, 90, 1⟩]) rfl rfl (by intro v hv; repeat (first | exact absurd hv (List.not_mem_nil) | (rcases List.mem_cons.1 hv with rfl | hv; · rfl))) (by omega) rfl rfl rfl ?_; intro b; refine ⟨okF, ?_⟩)
 refine bE .here ?_
 repeat (refine aK ?_)
 refine aI (by first | exact .inl rfl | exact .inr rfl) rfl rfl _ _ aD aC (⟨rfl, b, rfl, rfl⟩)
theorem aHR : CD Tryz.prog 10 [] X w0 M0 I0 (fun v M I => M0 = M ∧ I0 = I ∧ v = .bool true) := by
 obtain ⟨g, hg, hg1⟩ : ∃ g, nL (fun s => vP 0 (sK exQ s)) (fun A => jJ A exQ 1) (cmb 4 1 0) = some g ∧ (g.1, g.2.1) = (([0], [0, 1, 2]) : List Int × List Int) := by
  have := aSL
  cases h : nL (fun s => vP 0 (sK exQ s)) (fun A => jJ A exQ 1) (cmb 4 1 0) with
  | none => rw [h] at this; cases this
  | some g => rw [h] at this; exact ⟨g, rfl, Option.some.inj this⟩
 injection hg1 with hgs hgi
 have hnr := (yU aHS).2
 have hB := fun (b : Nat) M0 I0 h => aRL (X := X) (w0 := w0) (M0 := M0) (I0 := I0) (kd := 0) (tol := 1) (q := some ⟨b, 0, none⟩) (l := exQ) (n := 4) (c := 4) (mdl := fun s => vP 0 (sK exQ s)) (by omega) rfl (by omega) aHS (by decide) h
  (fun smp qs cs hsm M0 I0 h => aGX (kd := 0) (by omega) rfl (by omega) hnr hsm.len (by omega) (fun x hx => ⟨by have := hsm.lt x hx; omega, (hsm.lt x hx).2⟩) h)
 rw [hg] at hB
 have hD := fun (b : Nat) M0 I0 h => aRG (X := X) (w0 := w0) (M0 := M0) (I0 := I0) (tol := 1) (q := some ⟨b, 0, none⟩) (l := exQ) (n := 4) (c := 4) rfl (by omega) aHS (by decide) h
 have hC0 := fun M0 I0 h => nR (X := X) (w0 := w0) (M0 := M0) (I0 := I0) (q := none) (l := []) (n := 0) (c := 0) rfl (by omega) h
 refine aIZ Tryz.func10 rfl Tryz.ntmps10 rfl ?_
 repeat (refine aK ?_)
 (refine aA rfl (aAM) rfl rfl ?_; rintro _ _ _ ⟨rfl, b1, rfl, rfl⟩; refine ⟨okF, ?_⟩)
 repeat (refine aK ?_)
 (refine aA rfl (hB b1 _ _ aB) rfl rfl ?_; rintro _ _ _ ⟨rfl, f, rfl, hk, hs, hi, hmq, hmd, rfl⟩; refine ⟨okF, ?_⟩)
 rw [hgs] at hs
 rw [hgi] at hi
 repeat (refine aK ?_)
 (refine aG rfl rfl ?_; intro b3; refine ⟨okF, ?_⟩)
 repeat (refine aK ?_)
 (refine aA rfl (aAM) rfl rfl ?_; rintro _ _ _ ⟨rfl, b2, rfl, rfl⟩; refine ⟨okF, ?_⟩)
 repeat (refine aK ?_)
 (refine aA rfl (hD b2 _ _ aB) rfl rfl ?_; rintro _ _ _ ⟨rfl, rfl, x, y, nn, ⟨hn0, hbd⟩, rfl⟩; refine ⟨okF, ?_⟩)
 obtain ⟨rfl, rfl, rfl⟩ := hbd.uniq aSH
 repeat (refine aK ?_)
 (refine aG rfl rfl ?_; intro b4; refine ⟨okF, ?_⟩)
 repeat (refine aK ?_)
 (refine bB (cs := recs eZ [0]) ([.int .i64 0]) rfl rfl (by intro v hv; repeat (first | exact absurd hv (List.not_mem_nil) | (rcases List.mem_cons.1 hv with rfl | hv; · rfl))) (by omega) rfl rfl rfl ?_; intro b5; refine ⟨okF, ?_⟩)
 refine bE .here ?_
 refine iO (φ := aP f.ps (recs eZ f.smp)) (Hv.bfS aB) ?_
 refine iO (φ := aP f.pi (recs eZ f.inl)) (Hv.bfI aB) ?_
 (refine aA rfl (aHV (a := f.smp) (b := [0]) (by rw [hs]; decide) aB aB) rfl rfl ?_; rintro _ _ _ ⟨rfl, rfl, rfl⟩; refine ⟨okF, ?_⟩)
 rw [bH hs]
 repeat (refine aK ?_)
 (refine bB (cs := recs eZ [0, 1, 2]) ([.int .i64 0, .int .i64 1, .int .i64 2]) rfl rfl (by intro v hv; repeat (first | exact absurd hv (List.not_mem_nil) | (rcases List.mem_cons.1 hv with rfl | hv; · rfl))) (by omega) rfl rfl rfl ?_; intro b6; refine ⟨okF, ?_⟩)
 refine bE .here ?_
 (refine aA rfl (aHV (a := f.inl) (b := [0, 1, 2]) (by rw [hi]; decide) aB aB) rfl rfl ?_; rintro _ _ _ ⟨rfl, rfl, rfl⟩; refine ⟨okF, ?_⟩)
 rw [bH hi]
 repeat (refine aK ?_)
 (refine aF rfl (fun _ => aV (pvs := ([.int .i64 4, .int .i64 5]).zipIdx.map (fun p => (p.2, p.1))) (cells := [.int .i64 4, .int .i64 5]) rfl rfl) rfl rfl ?_)
 (refine aF rfl (fun _ => aKM (xs := [5 - 1, 6 - 1]) (ys := [4, 5]) rfl rfl rfl rfl) rfl rfl ?_)
 rw [bH (show ([5 - 1, 6 - 1] : List Int) = [4, 5] from rfl)]
 refine iO (φ := aP none (recs kG [])) ⟨fun X w _ => ⟨fun j v hj => by simp [recs] at hj⟩⟩ ?_
 repeat (refine aK ?_)
 (refine aA rfl (hC0 _ _ aB) rfl rfl ?_; rintro _ _ _ ⟨rfl, rfl, rfl⟩; refine ⟨okF, ?_⟩)
 rw [show jW [] = 1 from rfl]
 repeat (refine aK ?_)
 refine gW (M' := M0) (I' := I0) aD aC ?_
 refine aI (by first | exact .inl rfl | exact .inr rfl) rfl rfl _ _ aD aC (⟨rfl, rfl, congrArg Value.bool (bH rfl)⟩)
end
end Go.Proofs.YtjbhdfpjnjedhaaGreat
namespace Go.Proofs.YtjbhdfpjnjedhaaGreat
open Go Go.Fx
section
variable {X : List Nat} {w0 : World} {M0 M1 M2 : List Ent} {I0 : List bA}
theorem aTD {q : Option Addr} {n c : Nat} {m : Int} : CD Tryz.prog 11 [.slice q n c, .int .i64 m] X w0 M0 I0 (fun v M I => M0 = M ∧ I0 = I ∧ v = .bool (B ((n : Int) ≤ m))) := by
 refine aY Tryz.func11 rfl Tryz.ntmps11 rfl ?_
 repeat (refine aK ?_)
 refine aI (by first | exact .inl rfl | exact .inr rfl) rfl rfl _ _ aD aC (⟨rfl, rfl, rfl⟩)
theorem nD {a b : Int} : CD Tryz.prog 31 [.agg #[.int .i64 a, .int .i64 b]] X w0 M0 I0 (fun v M I => M0 = M ∧ I0 = I ∧ v = .bool (B (¬ farC a b))) := by
 refine aX Tryz.func31 rfl Tryz.ntmps31 rfl ?_
 refine aH ?_
 refine aJ ?_
 (refine aQ rfl rfl rfl ?_; intro b1; refine ⟨okF, ?_⟩)
 by_cases h1 : -32768 ≤ a
 ·by_cases h2 : a ≤ 32768
  ·by_cases h3 : -32768 ≤ b
   ·by_cases h4 : b ≤ 32768
    ·repeat (refine aK ?_)
     refine gW (M' := M0) (I' := I0) aD aC ?_
     refine aI (by first | exact .inl rfl | exact .inr rfl) rfl rfl _ _ aD aC (⟨rfl, rfl, congrArg Value.bool ((bH h4).trans (bH (show ¬ farC a b by unfold farC; omega)).symm)⟩)
    ·repeat (refine aK ?_)
     refine gW (M' := M0) (I' := I0) aD aC ?_
     refine aI (by first | exact .inl rfl | exact .inr rfl) rfl rfl _ _ aD aC (⟨rfl, rfl, congrArg Value.bool ((aZ h4).trans (aZ (show ¬ ¬ farC a b by unfold farC; omega)).symm)⟩)
   ·repeat (refine aK ?_)
    refine gW (M' := M0) (I' := I0) aD aC ?_
    refine aI (by first | exact .inl rfl | exact .inr rfl) rfl rfl _ _ aD aC (⟨rfl, rfl, congrArg Value.bool (aZ (show ¬ ¬ farC a b by unfold farC; omega)).symm⟩)
  ·repeat (refine aK ?_)
   refine gW (M' := M0) (I' := I0) aD aC ?_
   refine aI (by first | exact .inl rfl | exact .inr rfl) rfl rfl _ _ aD aC (⟨rfl, rfl, congrArg Value.bool (aZ (show ¬ ¬ farC a b by unfold farC; omega)).symm⟩)
 ·repeat (refine aK ?_)
  refine gW (M' := M0) (I' := I0) aD aC ?_
  refine aI (by first | exact .inl rfl | exact .inr rfl) rfl rfl _ _ aD aC (⟨rfl, rfl, congrArg Value.bool (aZ (show ¬ ¬ farC a b by unfold farC; omega)).symm⟩)
theorem aMS {q : Option Addr} {l : List Q4} {n c : Nat} (hl : l.length = n) (hn : (n : Int) ≤ 9223372036854775807) (hq : aP q (recs kG l) ∈ I0) : CD Tryz.prog 12 [.slice q n c] X w0 M0 I0 (fun v M I => M0 = M ∧ I0 = I ∧ v = .int .i64 (jW l)) := by
 have hN := fun a b M0 I0 => nD (X := X) (w0 := w0) (M0 := M0) (I0 := I0) (a := a) (b := b)
 refine cK (φ := aP q (recs kG l)) (Hv.mem hq) ?_
 refine aX Tryz.func12 rfl Tryz.ntmps12 rfl ?_
 by_cases h0 : n = 0
 ·rw [show jW l = 1 by unfold jW; rw [if_pos (by omega)]]
  repeat (refine aK ?_)
  refine aI (by first | exact .inl rfl | exact .inr rfl) rfl rfl _ _ aD aC (⟨rfl, rfl, rfl⟩)
 by_cases h1 : 64 < n
 ·rw [show jW l = 3 by unfold jW; rw [if_neg (by omega), if_pos (by omega)]]
  repeat (refine aK ?_)
  refine aI (by first | exact .inl rfl | exact .inr rfl) rfl rfl _ _ aD aC (⟨rfl, rfl, rfl⟩)
 have ec : jW l = if anyFar l then 2 else 0 := by unfold jW; rw [if_neg (by omega), if_neg (by omega)]
 repeat (refine aK ?_)
 refine aS [11, 12] rfl (fun k G M I => ∃ i : Nat, i ≤ n ∧ k = n - i ∧ (∀ j : Nat, j < i → ¬ (gt l (j : Int)).far) ∧ G = [(13, .int .i64 i)] ∧ M0 = M ∧ I = aP q (recs kG l) :: I0) (n) _ _ _ aM aD aC (⟨0, by omega, rfl, fun j hj => by omega, rfl, rfl, rfl⟩) ?_
 rintro kk G M I ⟨i, hi, rfl, hnf, rfl, rfl, rfl⟩
 by_cases hin : i < n
 ·have hmem := dP (ms := l) (i := (i : Int)) (by omega)
  have hnx : ∀ j : Nat, ¬ (gt l (i : Int)).far → j < i + 1 → ¬ (gt l (j : Int)).far := fun j h hj => by
   by_cases e : j = i
   ·subst e; exact h
   ·exact hnf j (by omega)
  obtain ⟨s, hss⟩ : ∃ s, gt l (i : Int) = s := ⟨_, rfl⟩
  rw [hss] at hmem hnx
  repeat (refine aK ?_)
  rw [hss]
  (refine aG rfl rfl ?_; intro b4; refine ⟨okF, ?_⟩)
  repeat (refine aK ?_)
  by_cases f1 : farC s.x s.y
  ·have e2 : jW l = 2 := by rw [ec, if_pos ⟨s, hmem, .inl f1⟩]
   rw [e2]
   have hN1 := hN s.x s.y
   rw [aZ (show ¬ ¬ farC s.x s.y from fun h => h f1)] at hN1
   (refine aA rfl (hN1 _ _) rfl rfl ?_; rintro _ _ _ ⟨rfl, rfl, rfl⟩; refine ⟨okF, ?_⟩)
   repeat (refine aK ?_)
   refine gW (M' := M0) (I' := I0) aD aC ?_
   refine aI (by first | exact .inl rfl | exact .inr rfl) rfl rfl _ _ aD aC (⟨rfl, rfl, rfl⟩)
  ·have hN1 := hN s.x s.y
   rw [bH (show ¬ farC s.x s.y from f1)] at hN1
   (refine aA rfl (hN1 _ _) rfl rfl ?_; rintro _ _ _ ⟨rfl, rfl, rfl⟩; refine ⟨okF, ?_⟩)
   repeat (refine aK ?_)
   by_cases f2 : farC s.u s.v
   ·have e2 : jW l = 2 := by rw [ec, if_pos ⟨s, hmem, .inr f2⟩]
    rw [e2]
    have hN2 := hN s.u s.v
    rw [aZ (show ¬ ¬ farC s.u s.v from fun h => h f2)] at hN2
    (refine aA rfl (hN2 _ _) rfl rfl ?_; rintro _ _ _ ⟨rfl, rfl, rfl⟩; refine ⟨okF, ?_⟩)
    repeat (refine aK ?_)
    refine gW (M' := M0) (I' := I0) aD aC ?_
    refine aI (by first | exact .inl rfl | exact .inr rfl) rfl rfl _ _ aD aC (⟨rfl, rfl, rfl⟩)
   ·have hN2 := hN s.u s.v
    rw [bH (show ¬ farC s.u s.v from f2)] at hN2
    (refine aA rfl (hN2 _ _) rfl rfl ?_; rintro _ _ _ ⟨rfl, rfl, rfl⟩; refine ⟨okF, ?_⟩)
    repeat (refine aK ?_)
    refine aL (n - (i + 1)) _ _ _ (by first | omega | (simp only [List.length_append, List.length_cons, List.length_nil]; omega)) aM aD aC (⟨i + 1, by omega, rfl, fun j hj => hnx j (fun h => h.elim f1 f2) hj, rfl, rfl, rfl⟩)
 ·obtain rfl : i = n := by omega
  have e2 : jW l = 0 := by
   rw [ec, if_neg]
   rintro ⟨s, hs, hf⟩
   obtain ⟨j, hj, rfl⟩ := List.mem_iff_getElem.1 hs
   exact hnf j (by omega) (by rw [gtQ hj]; exact hf)
  rw [e2]
  repeat (refine aK ?_)
  refine aI (by first | exact .inl rfl | exact .inr rfl) rfl rfl _ _ aD aC (⟨rfl, rfl, rfl⟩)
theorem uO {x : Int} (hx : -9223372036854775808 ≤ x ∧ x ≤ 9223372036854775807) {k : Nat} (hk : x.natAbs ≤ 2 ^ k) : CD Tryz.prog 66 [.int .i64 x] X w0 M0 I0 (RQ (x : Rat) k M0 I0) := by
 refine aX Tryz.func66 rfl Tryz.ntmps66 rfl ?_
 refine aH ?_
 refine aJ ?_
 (refine aG rfl rfl ?_; intro b2; refine ⟨okF, ?_⟩)
 repeat (refine aK ?_)
 (refine aA rfl (rW hx hk) rfl rfl ?_; rintro _ _ _ ⟨rfl, e, rfl, he, rfl⟩; refine ⟨okF, ?_⟩)
 repeat (refine aK ?_)
 refine bD (cs := eR e) (.inl rfl) rfl rfl aB rfl M0 (dD e k :: I0) aD aC ⟨rfl, e, rfl, he, rfl⟩
end
/- ---------- the law's search ---------- -/
def VisL (l : List Q4) (i j : Nat) (x y : Int) : Prop := (∃ a : Nat, a < i ∧ a < l.length ∧ x = gt (dxs l) (a : Int) ∧ ∃ b : Nat, b < l.length ∧ y = gt (dys l) (b : Int)) ∨ (i < l.length ∧ x = gt (dxs l) (i : Int) ∧ ∃ b : Nat, b < j ∧ b < l.length ∧ y = gt (dys l) (b : Int))
section
variable {l : List Q4} {t X Y : Int} {i j n : Nat}
end
section
variable {X : List Nat} {w0 : World} {M0 M1 M2 : List Ent} {I0 : List bA}
end
end Go.Proofs.YtjbhdfpjnjedhaaGreat
namespace Go.Proofs.YtjbhdfpjnjedhaaGreat
open Go Go.Fx
def fourS (a : WM) : Prop := a.rows.length ≤ 4 ∧ ∀ r ∈ a.rows, r.es.length ≤ 4 ∧ ∀ e ∈ r.es, e.brief
theorem fourS.sht {a : WM} (h : fourS a) : a.sht := ⟨by have := h.1; omega, fun r hr => ⟨by have := (h.2 r hr).1; omega, (h.2 r hr).2⟩⟩
theorem aJX {n : Nat} (h1 : 1 ≤ n) (h : n ≤ 4) : kb 30 n ≤ 100000 ∧ hD 30 n ≤ 100000 := by
 rcases (show n = 1 ∨ n = 2 ∨ n = 3 ∨ n = 4 by omega) with rfl | rfl | rfl | rfl <;> exact ⟨by decide, by decide⟩
def NR (a : WM) : Prop := sqC a ≠ 0 ∨ ∃ (A : MX) (n : Nat), a = A.raw ∧ A.fit n n ∧ n ≤ 4 ∧ (n = 3 → dt 3 (at2 A.q) = 0)
theorem aLJ {a : WM} (hf : ∀ r ∈ a.rows, ∀ e ∈ r.es, e.Fit) (h4 : fourS a) : NR a ∨ ∃ A : MX, a = A.raw ∧ A.fit 3 3 ∧ dt 3 (at2 A.q) ≠ 0 := by
 by_cases hs : sqC a = 0
 ·have hok : a.ok := by
   apply Classical.byContradiction
   intro h
   unfold sqC at hs; rw [if_neg h] at hs; omega
  have hsq : a.rows.length = (gt a.rows 0).es.length := by
   apply Classical.byContradiction
   intro h
   unfold sqC at hs; rw [if_pos hok, if_neg h] at hs; omega
  obtain ⟨A, eA, fA⟩ := aUK hf hok
  rw [← hsq] at fA
  by_cases h3 : a.rows.length = 3
  ·rw [h3] at fA
   by_cases hd : dt 3 (at2 A.q) = 0
   ·exact .inl (.inr ⟨A, 3, eA, fA, by omega, fun _ => hd⟩)
   ·exact .inr ⟨A, eA, fA, hd⟩
  ·exact .inl (.inr ⟨A, a.rows.length, eA, fA, h4.1, fun h => absurd h h3⟩)
 ·exact .inl (.inl hs)
section
variable {X : List Nat} {w0 : World} {M0 M1 M2 : List Ent} {I0 : List bA}
theorem aBG {a : WM} (h4 : fourS a) (h : NR a) (ha : kR a ∈ I0) : CD Tryz.prog 70 [mvW a] X w0 M0 I0 (fun v M I => M0 = M ∧ I0 = I ∧ v = .bool false) := by
 have sa := h4.sht.sml
 rcases h with h | ⟨A, n, eA, fA, hn, hd⟩
 ·have hDt := fun M0 I0 h1 => xL (X := X) (w0 := w0) (M0 := M0) (I0 := I0) (a := a) sa h h1
  generalize sqC a = cc at *
  refine aX Tryz.func70 rfl Tryz.ntmps70 rfl ?_
  repeat (refine aK ?_)
  (refine aA rfl (hDt _ _ aB) rfl rfl ?_; rintro _ _ _ ⟨rfl, rfl, rfl⟩; refine ⟨okF, ?_⟩)
  repeat (refine aK ?_)
  (refine aG rfl rfl ?_; intro b3; refine ⟨okF, ?_⟩)
  repeat (refine aK ?_)
  refine gW (M' := M0) (I' := I0) aD aC ?_
  refine aI (by first | exact .inl rfl | exact .inr rfl) rfl rfl _ _ aD aC (⟨rfl, rfl, rfl⟩)
 ·obtain ⟨n1, n2⟩ := fA.2.1
  obtain ⟨k1, k2⟩ := aJX n1 hn
  have hDt := fun M0 I0 h1 => sM (X := X) (w0 := w0) (M0 := M0) (I0 := I0) (a := A) (n := n) (k0 := 30) (by omega) (by omega) fA h1
  rw [← lL A, ← eA] at hDt
  have hr : a.rows.length = n := by rw [eA, A.raw_rows]; exact fA.1.1
  refine cK (φ := iL A 30) (Hv.shtX eA h4.sht ha) ?_
  refine aX Tryz.func70 rfl Tryz.ntmps70 rfl ?_
  repeat (refine aK ?_)
  (refine aA rfl (hDt _ _ aB) rfl rfl ?_; rintro _ _ _ ⟨rfl, e, rfl, he, rfl⟩; refine ⟨okF, ?_⟩)
  repeat (refine aK ?_)
  (refine aG rfl rfl ?_; intro b3; refine ⟨okF, ?_⟩)
  by_cases h3 : n = 3
  ·subst h3
   have h0 : e.q.num.sign = 0 := aFR.2 (by rw [he]; exact hd rfl)
   repeat (refine aK ?_)
   (refine aA rfl (lJ (e := e) (k := kb 30 3) (by omega) (Hv.mem aB)) rfl rfl ?_; rintro _ _ _ ⟨rfl, rfl, rfl⟩; refine ⟨okF, ?_⟩)
   repeat (refine aK ?_)
   refine gW (M' := M0) (I' := I0) aD aC ?_
   refine aI (by first | exact .inl rfl | exact .inr rfl) rfl rfl _ _ aD aC (⟨rfl, rfl, congrArg Value.bool (aZ (fun h => h h0))⟩)
  ·repeat (refine aK ?_)
   refine gW (M' := M0) (I' := I0) aD aC ?_
   refine aI (by first | exact .inl rfl | exact .inr rfl) rfl rfl _ _ aD aC (⟨rfl, rfl, rfl⟩)
theorem aLQ {a : WM} (h4 : fourS a) (h : NR a) (ha : kR a ∈ I0) : CD Tryz.prog 28 [mvW a] X w0 M0 I0 (fun v M I => M0 = M ∧ I0 = I ∧ v = .bool false) := by
 have sa := h4.sht.sml
 have hC := fun M0 I0 h1 => aCW (X := X) (w0 := w0) (M0 := M0) (I0 := I0) (m := a) sa h1
 refine cK (φ := aP a.p (recs zA a.rows)) (Hv.wmsl ha) (cK (φ := kR a) (Hv.mem (List.mem_cons_of_mem _ ha)) ?_)
 rcases h with h | ⟨A, n, eA, fA, hn, hd⟩
 ·by_cases hok : a.ok
  ·rw [WM.code_ok hok] at hC
   have hne : a.rows.length ≠ (gt a.rows 0).es.length := by
    intro e
    unfold sqC at h; rw [if_pos hok, if_pos e] at h; exact h rfl
   obtain ⟨⟨o1, o2, o3, o4⟩, _⟩ := hok
   refine aX Tryz.func28 rfl Tryz.ntmps28 rfl ?_
   repeat (refine aK ?_)
   (refine aA rfl (hC _ _ aB) rfl rfl ?_; rintro _ _ _ ⟨rfl, rfl, rfl⟩; refine ⟨okF, ?_⟩)
   by_cases h3 : a.rows.length = 3
   ·have h3' : ¬ (gt a.rows 0).es.length = 3 := by omega
    repeat (refine aK ?_)
    refine gW (M' := M0) (I' := I0) aD aC ?_
    refine aI (by first | exact .inl rfl | exact .inr rfl) rfl rfl _ _ aD aC (⟨rfl, rfl, rfl⟩)
   ·repeat (refine aK ?_)
    refine gW (M' := M0) (I' := I0) aD aC ?_
    refine aI (by first | exact .inl rfl | exact .inr rfl) rfl rfl _ _ aD aC (⟨rfl, rfl, rfl⟩)
  ·rw [show a.code = 1 by unfold WM.code; rw [if_neg hok]] at hC
   refine aX Tryz.func28 rfl Tryz.ntmps28 rfl ?_
   repeat (refine aK ?_)
   (refine aA rfl (hC _ _ aB) rfl rfl ?_; rintro _ _ _ ⟨rfl, rfl, rfl⟩; refine ⟨okF, ?_⟩)
   repeat (refine aK ?_)
   refine gW (M' := M0) (I' := I0) aD aC ?_
   refine aI (by first | exact .inl rfl | exact .inr rfl) rfl rfl _ _ aD aC (⟨rfl, rfl, rfl⟩)
 ·obtain ⟨n1, n2⟩ := fA.2.1
  obtain ⟨k1, k2⟩ := aJX n1 hn
  have hok : a.ok := by rw [eA]; exact fA.ok
  rw [WM.code_ok hok] at hC
  have hr : a.rows.length = n := by rw [eA, A.raw_rows]; exact fA.1.1
  have hr0 : (gt a.rows 0).es.length = n := by rw [eA]; exact MX.raw_c0 fA
  refine cK (φ := iL A 30) (Hv.shtX eA h4.sht aB) ?_
  have hDt := fun M0 I0 h1 => aEH n (X := X) (w0 := w0) (M0 := M0) (I0 := I0) (m := A) (k0 := 30) n1 (by omega) (by omega) fA.1 h1
  rw [← lL A, ← eA] at hDt
  refine aX Tryz.func28 rfl Tryz.ntmps28 rfl ?_
  repeat (refine aK ?_)
  (refine aA rfl (hC _ _ aB) rfl rfl ?_; rintro _ _ _ ⟨rfl, rfl, rfl⟩; refine ⟨okF, ?_⟩)
  by_cases h3 : n = 3
  ·subst h3
   repeat (refine aK ?_)
   (refine aA rfl (hDt _ _ aB) rfl rfl ?_; rintro _ _ _ ⟨rfl, e, rfl, he, rfl⟩; refine ⟨okF, ?_⟩)
   have h0 : e.q.num.sign = 0 := aFR.2 (by rw [he]; exact hd rfl)
   repeat (refine aK ?_)
   (refine aA rfl (qX (e := e) (k := hD 30 3) (by omega) (Hv.mem aB)) rfl rfl ?_; rintro _ _ _ ⟨rfl, rfl, rfl⟩; refine ⟨okF, ?_⟩)
   repeat (refine aK ?_)
   refine gW (M' := M0) (I' := I0) aD aC ?_
   refine aI (by first | exact .inl rfl | exact .inr rfl) rfl rfl _ _ aD aC (⟨rfl, rfl, congrArg Value.bool (aZ (fun h => h h0))⟩)
  ·repeat (refine aK ?_)
   refine gW (M' := M0) (I' := I0) aD aC ?_
   refine aI (by first | exact .inl rfl | exact .inr rfl) rfl rfl _ _ aD aC (⟨rfl, rfl, rfl⟩)
theorem aHJ {A : MX} (fA : A.fit 3 3) (hd : dt 3 (at2 A.q) ≠ 0) (h4 : fourS A.raw) (ha : kR A.raw ∈ I0) : CD Tryz.prog 28 [mv A] X w0 M0 I0 (fun v M I => M0 = M ∧ I0 = I ∧ v = .bool true) := by
 have sa := h4.sht.sml
 have hC := fun M0 I0 h1 => aCW (X := X) (w0 := w0) (M0 := M0) (I0 := I0) (m := A.raw) sa h1
 rw [WM.code_ok fA.ok, lL] at hC
 have hr : A.rows.length = 3 := fA.1.1
 have hr0 : (gt A.rows 0).es.length = 3 := fA.r0
 have hDt := fun M0 I0 h1 => aEH 3 (X := X) (w0 := w0) (M0 := M0) (I0 := I0) (m := A) (k0 := 30) (by omega) (by omega) (by decide) fA.1 h1
 refine cK (φ := iL A 30) (Hv.shtX rfl h4.sht ha) (cK (φ := aP A.p (recs eL A.rows)) (Hv.xsl (k := 30) aB) (cK (φ := kR A.raw) (Hv.mem (List.mem_cons_of_mem _ (List.mem_cons_of_mem _ ha))) ?_))
 refine aX Tryz.func28 rfl Tryz.ntmps28 rfl ?_
 repeat (refine aK ?_)
 (refine aA rfl (hC _ _ aB) rfl rfl ?_; rintro _ _ _ ⟨rfl, rfl, rfl⟩; refine ⟨okF, ?_⟩)
 repeat (refine aK ?_)
 (refine aA rfl (hDt _ _ aB) rfl rfl ?_; rintro _ _ _ ⟨rfl, e, rfl, he, rfl⟩; refine ⟨okF, ?_⟩)
 have h0 : ¬ e.q.num.sign = 0 := fun h => hd (by rw [← he]; exact aFR.1 h)
 repeat (refine aK ?_)
 (refine aA rfl (qX (e := e) (k := hD 30 3) (by decide) (Hv.mem aB)) rfl rfl ?_; rintro _ _ _ ⟨rfl, rfl, rfl⟩; refine ⟨okF, ?_⟩)
 repeat (refine aK ?_)
 refine gW (M' := M0) (I' := I0) aD aC ?_
 refine aI (by first | exact .inl rfl | exact .inr rfl) rfl rfl _ _ aD aC (⟨rfl, rfl, congrArg Value.bool (bH h0)⟩)
end
end Go.Proofs.YtjbhdfpjnjedhaaGreat
