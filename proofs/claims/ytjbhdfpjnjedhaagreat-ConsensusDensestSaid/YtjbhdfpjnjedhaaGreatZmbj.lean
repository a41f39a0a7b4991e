/- consensus.Best. Chapter 29: the example. -/
import Derived.Test.YtjbhdfpjnjedhaaGreatZmbi
import Derived.Test.YtjbhdfpjnjedhaaGreatZmam
import Derived.Test.YtjbhdfpjnjedhaaGreatZmbh
set_option linter.unusedSimpArgs false
set_option linter.unusedVariables false
set_option maxRecDepth 100000
set_option maxHeartbeats 4000000
namespace Go.Proofs.YtjbhdfpjnjedhaaGreat
open Go Go.Fx
def BestR (o : Option (List Int × List Int × Mt)) (kd : Int) (M0 : List Ent) (I0 : List aX) (v : Value) (M : List Ent) (I : List aX) : Prop := M0 = M ∧ match o with
 | none => I0 = I ∧ v = .tuple #[.agg zF4.toArray, .int .i64 6]
 | some g => ∃ f : BF, v = .tuple #[.agg (eBF f).toArray, .int .i64 0] ∧ f.kd = kd ∧ f.smp = g.1 ∧ f.inl = g.2.1 ∧ f.m.q = g.2.2 ∧ f.m.dim 3 3 ∧ I = IsBF f :: I0
section
variable {X : List Nat} {w0 : World} {M0 M1 M2 : List Ent} {I0 : List aX}
theorem aRC {kd : Nat} {tol : Int} {q : Option Addr} {l : List Q4} {n c : Nat} {mdl : List Int → Option Mt} (hk : kd ≤ 3) (hl : l.length = n) (hn : n ≤ 12) (hc : jY l = 0) (ht : tolP tol) (hq : aQ q (recs jZ l) ∈ I0)
  (hM : ∀ (smp : List Int) (qs : Option Addr) (cs : Nat), SmpP n (kd + 1) 0 smp → ∀ M0 I0, aQ q (recs jZ l) ∈ I0 → CD Tryz.prog 51 [.int .i64 (kd : Int), .slice q n c, .slice qs (kd + 1) cs] X w0 (.row qs (kd + 1) cs (recs eZ smp) 3 1 :: M0) I0 (FitR (mdl smp) kX (.row qs (kd + 1) cs (recs eZ smp) 3 1 :: M0) I0)) :
  CD Tryz.prog 14 [.int .i64 (kd : Int), .slice q n c, .int .i64 tol] X w0 M0 I0 (BestR (mY mdl (fun A => kK A l tol) (cmb n (kd + 1) 0)) (kd : Int) M0 I0) := by
 have hkc : uG (kd : Int) l = 0 := by unfold uG; rw [if_pos hc, if_pos ⟨by omega, by omega⟩]
 have hK := fun M0 I0 h => aLP (X := X) (w0 := w0) (M0 := M0) (I0 := I0) (x := (kd : Int)) (q := q) (l := l) (n := n) (c := c) hl (by omega) h
 have hT := fun M0 I0 => aTU (X := X) (w0 := w0) (M0 := M0) (I0 := I0) (t := tol)
 rw [hkc, if_pos rfl] at hK
 rw [if_pos ht] at hT
 have hs := (yF hc).2
 refine dW (φ := aQ q (recs jZ l)) (Hv.mem hq) ?_
 refine mJ Tryz.func14 rfl Tryz.ntmps14 rfl ?_
 refine aG ?_
 refine aH ?_
 (refine jW rfl rfl rfl ?_; intro b3; refine ⟨okF, ?_⟩)
 refine aZ .here ?_
 (refine oC rfl rfl rfl ?_; intro b4; refine ⟨okF, ?_⟩)
 (refine jW rfl rfl rfl ?_; intro b5; refine ⟨okF, ?_⟩)
 refine aZ .here ?_
 (refine aI rfl rfl ?_; intro b6; refine ⟨okF, ?_⟩)
 repeat (refine aL ?_)
 (refine aA rfl (hK _ _ aB) rfl rfl ?_; rintro _ _ _ ⟨rfl, rfl, rfl⟩; refine ⟨okF, ?_⟩)
 repeat (refine aL ?_)
 (refine aA rfl (hT _ _) rfl rfl ?_; rintro _ _ _ ⟨rfl, rfl, rfl⟩; refine ⟨okF, ?_⟩)
 have e1 : (kd : Int) + 1 = ((kd + 1 : Nat) : Int) := rfl
 by_cases h2 : (kd : Int) = 2
 ·repeat (refine aL ?_)
  (refine aI rfl rfl ?_; intro b10; refine ⟨okF, ?_⟩)
  repeat (refine aL ?_)
  rw [e1]
  refine jP (φ := IsBF zBF) Hv.zBF ?_
  refine uD (M' := enB b10 zBF :: .blk b6 zF4 36 :: M0) (I' := IsBF zBF :: aQ (some ⟨b5, 0, none⟩) [.int .i64 tol] :: aQ (some ⟨b4, 0, none⟩) [.slice q n c] :: aQ (some ⟨b3, 0, none⟩) [.int .i64 (kd : Int)] :: aQ q (recs jZ l) :: I0) SubP.refl aD ?_
  (refine aA rfl (uM (enB b10) IsBF (BR mdl (fun A => kK A l tol) (kd : Int)) (M1 := .blk b6 zF4 36 :: M0) (s0 := zBF) (by omega) (by omega) rfl (fun I1 hI vis s smp qs cs M2 hR hsm => yX hl (by omega) ⟨by omega, by omega⟩ hs ht (hI _ aB) (hI _ aB) (hI _ aB) (hI _ aB) (hM smp qs cs hsm) hR hsm)) rfl rfl ?_; rintro _ _ _ ⟨f, hR, rfl, rfl⟩; refine ⟨okF, ?_⟩)
  unfold BR at hR
  cases hb : mY mdl (fun A => kK A l tol) (cmb n (kd + 1) 0) with
  | none =>
   rw [hb] at hR
   have hp : f.m.p = none := by rw [hR]
   repeat (refine aL ?_)
   refine aC rfl (fun _ => iR rfl) rfl rfl ?_
   rw [hp]
   repeat (refine aL ?_)
   (refine aC rfl (fun _ => aU (pvs := ([]).zipIdx.map (fun p => (p.2, p.1))) (cells := zF4) rfl rfl) rfl rfl ?_)
   repeat (refine aL ?_)
   refine iV (M' := .blk b6 zF4 36 :: M0) (I' := I0) aF aD ?_
   refine fG (rs := [.cell 6 36, .tmp 7]) (vs := [.agg zF4.toArray, .int .i64 6]) (.inl rfl) rfl (.cellN (cs := zF4) inferInstance rfl aB rfl (.tmp rfl .nil)) rfl M0 I0 aF aD ⟨rfl, rfl, rfl⟩
  | some g =>
   rw [hb] at hR
   have hp : f.m.p.isNone = false := by
    cases hh : f.m.p with
    | none => exact absurd hh hR.2.2.2.2.2
    | some a => rfl
   repeat (refine aL ?_)
   refine aC rfl (fun _ => iR rfl) rfl rfl ?_
   rw [hp]
   repeat (refine aL ?_)
   refine iV (M' := .blk b6 (eBF f) 36 :: M0) (I' := IsBF f :: I0) aF aD ?_
   refine fG (rs := [.cell 6 36, .tmp 7]) (vs := [.agg (eBF f).toArray, .int .i64 0]) (.inl rfl) rfl (.cellN (cs := eBF f) inferInstance rfl aB rfl (.tmp rfl .nil)) rfl M0 (IsBF f :: I0) aF aD ⟨rfl, f, rfl, hR.1, hR.2.1, hR.2.2.1, hR.2.2.2.1, hR.2.2.2.2.1, rfl⟩
 by_cases h3 : (kd : Int) = 3
 ·repeat (refine aL ?_)
  (refine aI rfl rfl ?_; intro b10; refine ⟨okF, ?_⟩)
  repeat (refine aL ?_)
  rw [e1]
  refine jP (φ := IsBF zBF) Hv.zBF ?_
  refine uD (M' := enB b10 zBF :: .blk b6 zF4 36 :: M0) (I' := IsBF zBF :: aQ (some ⟨b5, 0, none⟩) [.int .i64 tol] :: aQ (some ⟨b4, 0, none⟩) [.slice q n c] :: aQ (some ⟨b3, 0, none⟩) [.int .i64 (kd : Int)] :: aQ q (recs jZ l) :: I0) SubP.refl aD ?_
  (refine aA rfl (uM (enB b10) IsBF (BR mdl (fun A => kK A l tol) (kd : Int)) (M1 := .blk b6 zF4 36 :: M0) (s0 := zBF) (by omega) (by omega) rfl (fun I1 hI vis s smp qs cs M2 hR hsm => yX hl (by omega) ⟨by omega, by omega⟩ hs ht (hI _ aB) (hI _ aB) (hI _ aB) (hI _ aB) (hM smp qs cs hsm) hR hsm)) rfl rfl ?_; rintro _ _ _ ⟨f, hR, rfl, rfl⟩; refine ⟨okF, ?_⟩)
  unfold BR at hR
  cases hb : mY mdl (fun A => kK A l tol) (cmb n (kd + 1) 0) with
  | none =>
   rw [hb] at hR
   have hp : f.m.p = none := by rw [hR]
   repeat (refine aL ?_)
   refine aC rfl (fun _ => iR rfl) rfl rfl ?_
   rw [hp]
   repeat (refine aL ?_)
   (refine aC rfl (fun _ => aU (pvs := ([]).zipIdx.map (fun p => (p.2, p.1))) (cells := zF4) rfl rfl) rfl rfl ?_)
   repeat (refine aL ?_)
   refine iV (M' := .blk b6 zF4 36 :: M0) (I' := I0) aF aD ?_
   refine fG (rs := [.cell 6 36, .tmp 7]) (vs := [.agg zF4.toArray, .int .i64 6]) (.inl rfl) rfl (.cellN (cs := zF4) inferInstance rfl aB rfl (.tmp rfl .nil)) rfl M0 I0 aF aD ⟨rfl, rfl, rfl⟩
  | some g =>
   rw [hb] at hR
   have hp : f.m.p.isNone = false := by
    cases hh : f.m.p with
    | none => exact absurd hh hR.2.2.2.2.2
    | some a => rfl
   repeat (refine aL ?_)
   refine aC rfl (fun _ => iR rfl) rfl rfl ?_
   rw [hp]
   repeat (refine aL ?_)
   refine iV (M' := .blk b6 (eBF f) 36 :: M0) (I' := IsBF f :: I0) aF aD ?_
   refine fG (rs := [.cell 6 36, .tmp 7]) (vs := [.agg (eBF f).toArray, .int .i64 0]) (.inl rfl) rfl (.cellN (cs := eBF f) inferInstance rfl aB rfl (.tmp rfl .nil)) rfl M0 (IsBF f :: I0) aF aD ⟨rfl, f, rfl, hR.1, hR.2.1, hR.2.2.1, hR.2.2.2.1, hR.2.2.2.2.1, rfl⟩
 repeat (refine aL ?_)
 (refine aI rfl rfl ?_; intro b10; refine ⟨okF, ?_⟩)
 repeat (refine aL ?_)
 rw [e1]
 refine jP (φ := IsBF zBF) Hv.zBF ?_
 refine uD (M' := enB b10 zBF :: .blk b6 zF4 36 :: M0) (I' := IsBF zBF :: aQ (some ⟨b5, 0, none⟩) [.int .i64 tol] :: aQ (some ⟨b4, 0, none⟩) [.slice q n c] :: aQ (some ⟨b3, 0, none⟩) [.int .i64 (kd : Int)] :: aQ q (recs jZ l) :: I0) SubP.refl aD ?_
 (refine aA rfl (uM (enB b10) IsBF (BR mdl (fun A => kK A l tol) (kd : Int)) (M1 := .blk b6 zF4 36 :: M0) (s0 := zBF) (by omega) (by omega) rfl (fun I1 hI vis s smp qs cs M2 hR hsm => yX hl (by omega) ⟨by omega, by omega⟩ hs ht (hI _ aB) (hI _ aB) (hI _ aB) (hI _ aB) (hM smp qs cs hsm) hR hsm)) rfl rfl ?_; rintro _ _ _ ⟨f, hR, rfl, rfl⟩; refine ⟨okF, ?_⟩)
 unfold BR at hR
 cases hb : mY mdl (fun A => kK A l tol) (cmb n (kd + 1) 0) with
 | none =>
  rw [hb] at hR
  have hp : f.m.p = none := by rw [hR]
  repeat (refine aL ?_)
  refine aC rfl (fun _ => iR rfl) rfl rfl ?_
  rw [hp]
  repeat (refine aL ?_)
  (refine aC rfl (fun _ => aU (pvs := ([]).zipIdx.map (fun p => (p.2, p.1))) (cells := zF4) rfl rfl) rfl rfl ?_)
  repeat (refine aL ?_)
  refine iV (M' := .blk b6 zF4 36 :: M0) (I' := I0) aF aD ?_
  refine fG (rs := [.cell 6 36, .tmp 7]) (vs := [.agg zF4.toArray, .int .i64 6]) (.inl rfl) rfl (.cellN (cs := zF4) inferInstance rfl aB rfl (.tmp rfl .nil)) rfl M0 I0 aF aD ⟨rfl, rfl, rfl⟩
 | some g =>
  rw [hb] at hR
  have hp : f.m.p.isNone = false := by
   cases hh : f.m.p with
   | none => exact absurd hh hR.2.2.2.2.2
   | some a => rfl
  repeat (refine aL ?_)
  refine aC rfl (fun _ => iR rfl) rfl rfl ?_
  rw [hp]
  repeat (refine aL ?_)
  refine iV (M' := .blk b6 (eBF f) 36 :: M0) (I' := IsBF f :: I0) aF aD ?_
  refine fG (rs := [.cell 6 36, .tmp 7]) (vs := [.agg (eBF f).toArray, .int .i64 0]) (.inl rfl) rfl (.cellN (cs := eBF f) inferInstance rfl aB rfl (.tmp rfl .nil)) rfl M0 (IsBF f :: I0) aF aD ⟨rfl, f, rfl, hR.1, hR.2.1, hR.2.2.1, hR.2.2.2.1, hR.2.2.2.2.1, rfl⟩
end
end Go.Proofs.YtjbhdfpjnjedhaaGreat
namespace Go.Proofs.YtjbhdfpjnjedhaaGreat
open Go Go.Fx
def exQ : List Q4 := [⟨0, 0, 5, 5⟩, ⟨10, 0, 15, 5⟩, ⟨0, 10, 5, 16⟩, ⟨3, 3, 90, 1⟩]
instance lexL.dec (X Y x y : Int) : Decidable (lexL X Y x y) := inferInstanceAs (Decidable (X < x ∨ (X = x ∧ Y ≤ y)))
theorem aPS : BestD (iP exQ) 1 5 6 3 := ⟨by decide, by decide, by decide, by decide, by decide⟩
theorem aRT : (mY (fun s => uP 0 (rR exQ s)) (fun A => kK A exQ 1) (cmb 4 1 0)).map (fun g => (g.1, g.2.1)) = some ([0], [0, 1, 2]) := by decide +kernel
theorem aGJ : jY exQ = 0 := by decide
section
variable {X : List Nat} {w0 : World} {M0 M1 M2 : List Ent} {I0 : List aX}
theorem yV : CD Tryz.prog 46 [] X w0 M0 I0 (fun v M I => M0 = M ∧ ∃ b : Nat, v = .slice (some ⟨b, 0, none⟩) 4 4 ∧ I = aQ (some ⟨b, 0, none⟩) (recs jZ exQ) :: I0) := by
 refine aIF Tryz.func46 rfl Tryz.ntmps46 rfl ?_
 repeat (refine aL ?_)
 (refine aC rfl (fun _ => aU (pvs := ([.int .i64 5, .int .i64 5]).zipIdx.map (fun p => (p.2, p.1))) (cells := [.int .i64 5, .int .i64 5]) rfl rfl) rfl rfl ?_)
 (refine aC rfl (fun _ => aU (pvs := [(1, .agg #[.int .i64 5, .int .i64 5])]) (cells := [.int .i64 0, .int .i64 0, .int .i64 5, .int .i64 5]) rfl rfl) rfl rfl ?_)
 (refine aC rfl (fun _ => aU (pvs := [(0, .int .i64 10)]) (cells := [.int .i64 10, .int .i64 0]) rfl rfl) rfl rfl ?_)
 (refine aC rfl (fun _ => aU (pvs := ([.int .i64 15, .int .i64 5]).zipIdx.map (fun p => (p.2, p.1))) (cells := [.int .i64 15, .int .i64 5]) rfl rfl) rfl rfl ?_)
 (refine aC rfl (fun _ => aU (pvs := [(0, .agg #[.int .i64 10, .int .i64 0]), (1, .agg #[.int .i64 15, .int .i64 5])]) (cells := [.int .i64 10, .int .i64 0, .int .i64 15, .int .i64 5]) rfl rfl) rfl rfl ?_)
 (refine aC rfl (fun _ => aU (pvs := [(1, .int .i64 10)]) (cells := [.int .i64 0, .int .i64 10]) rfl rfl) rfl rfl ?_)
 (refine aC rfl (fun _ => aU (pvs := ([.int .i64 5, .int .i64 16]).zipIdx.map (fun p => (p.2, p.1))) (cells := [.int .i64 5, .int .i64 16]) rfl rfl) rfl rfl ?_)
 (refine aC rfl (fun _ => aU (pvs := [(0, .agg #[.int .i64 0, .int .i64 10]), (1, .agg #[.int .i64 5, .int .i64 16])]) (cells := [.int .i64 0, .int .i64 10, .int .i64 5, .int .i64 16]) rfl rfl) rfl rfl ?_)
 (refine aC rfl (fun _ => aU (pvs := ([.int .i64 3, .int .i64 3]).zipIdx.map (fun p => (p.2, p.1))) (cells := [.int .i64 3, .int .i64 3]) rfl rfl) rfl rfl ?_)
 (refine aC rfl (fun _ => aU (pvs := ([.int .i64 90, .int .i64 1]).zipIdx.map (fun p => (p.2, p.1))) (cells := [.int .i64 90, .int .i64 1]) rfl rfl) rfl rfl ?_)
 (refine aC rfl (fun _ => aU (pvs := [(0, .agg #[.int .i64 3, .int .i64 3]), (1, .agg #[.int .i64 90, .int .i64 1])]) (cells := [.int .i64 3, .int .i64 3, .int .i64 90, .int .i64 1]) rfl rfl) rfl rfl ?_)
 (refine bL (cs := recs jZ exQ) ([vQ4 ⟨0, 0, 5, 5⟩, vQ4 ⟨10, 0, 15, 5⟩, vQ4 ⟨0, 10, 5, 16⟩, vQ4 ⟨3, 3, 90, 1⟩]) rfl rfl (by intro v hv; repeat (first | exact absurd hv (List.not_mem_nil) | (rcases List.mem_cons.1 hv with rfl | hv; · rfl))) (by omega) rfl rfl rfl ?_; intro b; refine ⟨okF, ?_⟩)
 refine aZ .here ?_
 repeat (refine aL ?_)
 refine aJ (by first | exact .inl rfl | exact .inr rfl) rfl rfl _ _ aF aD (⟨rfl, b, rfl, rfl⟩)
theorem aGK : CD Tryz.prog 10 [] X w0 M0 I0 (fun v M I => M0 = M ∧ I0 = I ∧ v = .bool true) := by
 obtain ⟨g, hg, hg1⟩ : ∃ g, mY (fun s => uP 0 (rR exQ s)) (fun A => kK A exQ 1) (cmb 4 1 0) = some g ∧ (g.1, g.2.1) = (([0], [0, 1, 2]) : List Int × List Int) := by
  have := aRT
  cases h : mY (fun s => uP 0 (rR exQ s)) (fun A => kK A exQ 1) (cmb 4 1 0) with
  | none => rw [h] at this; cases this
  | some g => rw [h] at this; exact ⟨g, rfl, Option.some.inj this⟩
 injection hg1 with hgs hgi
 have hnr := (yF aGJ).2
 have hB := fun (b : Nat) M0 I0 h => aRC (X := X) (w0 := w0) (M0 := M0) (I0 := I0) (kd := 0) (tol := 1) (q := some ⟨b, 0, none⟩) (l := exQ) (n := 4) (c := 4) (mdl := fun s => uP 0 (rR exQ s)) (by omega) rfl (by omega) aGJ (by decide) h
  (fun smp qs cs hsm M0 I0 h => aGG (kd := 0) (by omega) rfl (by omega) hnr hsm.len (by omega) (fun x hx => ⟨by have := hsm.lt x hx; omega, (hsm.lt x hx).2⟩) h)
 rw [hg] at hB
 have hD := fun (b : Nat) M0 I0 h => aIN (X := X) (w0 := w0) (M0 := M0) (I0 := I0) (tol := 1) (q := some ⟨b, 0, none⟩) (l := exQ) (n := 4) (c := 4) rfl (by omega) aGJ (by decide) h
 have hC0 := fun M0 I0 h => sW (X := X) (w0 := w0) (M0 := M0) (I0 := I0) (q := none) (l := []) (n := 0) (c := 0) rfl (by omega) h
 refine aIF Tryz.func10 rfl Tryz.ntmps10 rfl ?_
 repeat (refine aL ?_)
 (refine aA rfl (yV) rfl rfl ?_; rintro _ _ _ ⟨rfl, b1, rfl, rfl⟩; refine ⟨okF, ?_⟩)
 repeat (refine aL ?_)
 (refine aA rfl (hB b1 _ _ aB) rfl rfl ?_; rintro _ _ _ ⟨rfl, f, rfl, hk, hs, hi, hmq, hmd, rfl⟩; refine ⟨okF, ?_⟩)
 rw [hgs] at hs
 rw [hgi] at hi
 repeat (refine aL ?_)
 (refine aI rfl rfl ?_; intro b3; refine ⟨okF, ?_⟩)
 repeat (refine aL ?_)
 (refine aA rfl (yV) rfl rfl ?_; rintro _ _ _ ⟨rfl, b2, rfl, rfl⟩; refine ⟨okF, ?_⟩)
 repeat (refine aL ?_)
 (refine aA rfl (hD b2 _ _ aB) rfl rfl ?_; rintro _ _ _ ⟨rfl, rfl, x, y, nn, ⟨hn0, hbd⟩, rfl⟩; refine ⟨okF, ?_⟩)
 obtain ⟨rfl, rfl, rfl⟩ := hbd.uniq aPS
 repeat (refine aL ?_)
 (refine aI rfl rfl ?_; intro b4; refine ⟨okF, ?_⟩)
 repeat (refine aL ?_)
 (refine bL (cs := recs eZ [0]) ([.int .i64 0]) rfl rfl (by intro v hv; repeat (first | exact absurd hv (List.not_mem_nil) | (rcases List.mem_cons.1 hv with rfl | hv; · rfl))) (by omega) rfl rfl rfl ?_; intro b5; refine ⟨okF, ?_⟩)
 refine aZ .here ?_
 refine jP (φ := aQ f.ps (recs eZ f.smp)) (Hv.bfS aB) ?_
 refine jP (φ := aQ f.pi (recs eZ f.inl)) (Hv.bfI aB) ?_
 (refine aA rfl (aNE (a := f.smp) (b := [0]) (by rw [hs]; decide) aB aB) rfl rfl ?_; rintro _ _ _ ⟨rfl, rfl, rfl⟩; refine ⟨okF, ?_⟩)
 rw [cB hs]
 repeat (refine aL ?_)
 (refine bL (cs := recs eZ [0, 1, 2]) ([.int .i64 0, .int .i64 1, .int .i64 2]) rfl rfl (by intro v hv; repeat (first | exact absurd hv (List.not_mem_nil) | (rcases List.mem_cons.1 hv with rfl | hv; · rfl))) (by omega) rfl rfl rfl ?_; intro b6; refine ⟨okF, ?_⟩)
 refine aZ .here ?_
 (refine aA rfl (aNE (a := f.inl) (b := [0, 1, 2]) (by rw [hi]; decide) aB aB) rfl rfl ?_; rintro _ _ _ ⟨rfl, rfl, rfl⟩; refine ⟨okF, ?_⟩)
 rw [cB hi]
 repeat (refine aL ?_)
 (refine aC rfl (fun _ => aU (pvs := ([.int .i64 4, .int .i64 5]).zipIdx.map (fun p => (p.2, p.1))) (cells := [.int .i64 4, .int .i64 5]) rfl rfl) rfl rfl ?_)
 (refine aC rfl (fun _ => qO (xs := [5 - 1, 6 - 1]) (ys := [4, 5]) rfl rfl rfl rfl) rfl rfl ?_)
 rw [cB (show ([5 - 1, 6 - 1] : List Int) = [4, 5] from rfl)]
 refine jP (φ := aQ none (recs jZ [])) ⟨fun X w _ => ⟨fun j v hj => by simp [recs] at hj⟩⟩ ?_
 repeat (refine aL ?_)
 (refine aA rfl (hC0 _ _ aB) rfl rfl ?_; rintro _ _ _ ⟨rfl, rfl, rfl⟩; refine ⟨okF, ?_⟩)
 rw [show jY [] = 1 from rfl]
 repeat (refine aL ?_)
 refine iV (M' := M0) (I' := I0) aF aD ?_
 refine aJ (by first | exact .inl rfl | exact .inr rfl) rfl rfl _ _ aF aD (⟨rfl, rfl, congrArg Value.bool (cB rfl)⟩)
end
end Go.Proofs.YtjbhdfpjnjedhaaGreat
