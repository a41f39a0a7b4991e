/- Chapter 29: the example. Chapter 29's law: few, near, check, whole; Abs; within, densest. The law ConsensusDensest, walked. The arguments of the laws of Consensus, opened. The arguments of the laws of Consensus, opened: tasks and six numbers. Consensus: a matrix as it comes in, regular or not; the law's valid, missed, inliers. Chapter 29's law: missed, inliers. Chapter 29's law: missed. consensus.Inliers and consensus.Error at every matrix of at most four short rows. The law ConsensusErrors, walked. Which lists of places are good: the program's and the law's. Chapter 29's law: equations. The document's Null. The document's Beside; Solve at a regular matrix. Chapter 29's law: shape. Chapter 29's law: normal. matrix: zero, symmetric. Symmetric elimination, plain: pivots and leading determinants; the quadratic form as a sum of squares; witnesses. The document's SameList, SameMatrix, Symmetric, Nonzero, Form, Leading, Definite. The law ConsensusLists: Refit of the program; valid at every matrix; the law walked. The law ConsensusLists, walked. -/
import Derived.Test.YtjbhdfpjnjedhaaGreatZqbn
import Derived.Test.YtjbhdfpjnjedhaaGreatZqbl
import Derived.Test.YtjbhdfpjnjedhaaGreatZqau
import Derived.Test.YtjbhdfpjnjedhaaGreatZqaq
import Derived.Test.YtjbhdfpjnjedhaaGreatZqay
import Derived.Test.YtjbhdfpjnjedhaaGreatZqaw
import Derived.Test.YtjbhdfpjnjedhaaGreatZqax
import Derived.Test.YtjbhdfpjnjedhaaGreatZqbf
import Derived.Test.YtjbhdfpjnjedhaaGreatZqbi
import Derived.Test.YtjbhdfpjnjedhaaGreatZqbh
import Derived.Test.YtjbhdfpjnjedhaaGreatZqbc
import Derived.Test.YtjbhdfpjnjedhaaGreatZqav
set_option linter.unusedSimpArgs false
set_option linter.unusedVariables false
set_option maxRecDepth 100000
set_option maxHeartbeats 4000000
namespace Go.Proofs.YtjbhdfpjnjedhaaGreat
open Go Go.Fx
def exQ : List Q4 := [⟨0, 0, 5, 5⟩, ⟨10, 0, 15, 5⟩, ⟨0, 10, 5, 16⟩, ⟨3, 3, 90, 1⟩]
instance lexL.dec (X Y x y : Int) : Decidable (lexL X Y x y) := inferInstanceAs (Decidable (X < x ∨ (X = x ∧ Y ≤ y)))
theorem aUV : BestD (pQ exQ) 1 5 6 3 := ⟨by decide, by decide, by decide, by decide, by decide⟩
theorem aUU : (mK (fun s => mE 0 (nE exQ s)) (fun A => kF A exQ 1) (zK 4 1 0)).map (fun g => (g.1, g.2.1)) = some ([0], [0, 1, 2]) := by decide +kernel
theorem aJE : oD exQ = 0 := by decide
section
variable {X : List Nat} {w0 : World} {M0 M1 M2 : List Ent} {I0 : List aT}
theorem aAO : CD Tryz.prog 46 [] X w0 M0 I0 (fun v M I => M0 = M ∧ ∃ b : Nat, v = .slice (some ⟨b, 0, none⟩) 4 4 ∧ I = aR (some ⟨b, 0, none⟩) (recs kP exQ) :: I0) := by
 refine aLY Tryz.func46 rfl Tryz.ntmps46 rfl ?_
 repeat (refine aJ ?_)
 (refine aC rfl (fun _ => aU (pvs := ([.int .i64 5, .int .i64 5]).zipIdx.map (fun p => (p.2, p.1))) (cells := [.int .i64 5, .int .i64 5]) rfl rfl) rfl rfl ?_)
 (refine aC rfl (fun _ => aU (pvs := [(1, .agg #[.int .i64 5, .int .i64 5])]) (cells := [.int .i64 0, .int .i64 0, .int .i64 5, .int .i64 5]) rfl rfl) rfl rfl ?_)
 (refine aC rfl (fun _ => aU (pvs := [(0, .int .i64 10)]) (cells := [.int .i64 10, .int .i64 0]) rfl rfl) rfl rfl ?_)
 (refine aC rfl (fun _ => aU (pvs := ([.int .i64 15, .int .i64 5]).zipIdx.map (fun p => (p.2, p.1))) (cells := [.int .i64 15, .int .i64 5]) rfl rfl) rfl rfl ?_)
 (refine aC rfl (fun _ => aU (pvs := [(0, .agg #[.int .i64 10, .int .i64 0]), (1, .agg #[.int .i64 15, .int .i64 5])]) (cells := [.int .i64 10, .int .i64 0, .int .i64 15, .int .i64 5]) rfl rfl) rfl rfl ?_)
 (refine aC rfl (fun _ => aU (pvs := [(1, .int .i64 10)]) (cells := [.int .i64 0, .int .i64 10]) rfl rfl) rfl rfl ?_)
 (refine aC rfl (fun _ => aU (pvs := ([.int .i64 5, .int .i64 16]).zipIdx.map (fun p => (p.2, p.1))) (cells := [.int .i64 5, .int .i64 16]) rfl rfl) rfl rfl ?_)
 (refine aC rfl (fun _ => aU (pvs := [(0, .agg #[.int .i64 0, .int .i64 10]), (1, .agg #[.int .i64 5, .int .i64 16])]) (cells := [.int .i64 0, .int .i64 10, .int .i64 5, .int .i64 16]) rfl rfl) rfl rfl ?_)
 (refine aC rfl (fun _ => aU (pvs := ([.int .i64 3, .int .i64 3]).zipIdx.map (fun p => (p.2, p.1))) (cells := [.int .i64 3, .int .i64 3]) rfl rfl) rfl rfl ?_)
 (refine aC rfl (fun _ => aU (pvs := ([.int .i64 90, .int .i64 1]).zipIdx.map (fun p => (p.2, p.1))) (cells := [.int .i64 90, .int .i64 1]) rfl rfl) rfl rfl ?_)
 (refine aC rfl (fun _ => aU (pvs := [(0, .agg #[.int .i64 3, .int .i64 3]), (1, .agg #[.int .i64 90, .int .i64 1])]) (cells := [.int .i64 3, .int .i64 3, .int .i64 90, .int .i64 1]) rfl rfl) rfl rfl ?_)
 (refine dB (cs := recs kP exQ) ([vQ4 ⟨0, 0, 5, 5⟩, vQ4 ⟨10, 0, 15, 5⟩, vQ4 ⟨0, 10, 5, 16⟩, vQ4 ⟨3, 3, 90, 1⟩]) rfl rfl (by intro v hv; repeat (first | exact absurd hv (List.not_mem_nil) | (rcases List.mem_cons.1 hv with rfl | hv; · rfl))) (by omega) rfl rfl rfl ?_; intro b; refine ⟨okF, ?_⟩)
 refine aO .here ?_
 repeat (refine aJ ?_)
 refine aM (by first | exact .inl rfl | exact .inr rfl) rfl rfl _ _ aG aD (⟨rfl, b, rfl, rfl⟩)
theorem aJZ : CD Tryz.prog 10 [] X w0 M0 I0 (fun v M I => M0 = M ∧ I0 = I ∧ v = .bool true) := by
 obtain ⟨g, hg, hg1⟩ : ∃ g, mK (fun s => mE 0 (nE exQ s)) (fun A => kF A exQ 1) (zK 4 1 0) = some g ∧ (g.1, g.2.1) = (([0], [0, 1, 2]) : List Int × List Int) := by
  have := aUU
  cases h : mK (fun s => mE 0 (nE exQ s)) (fun A => kF A exQ 1) (zK 4 1 0) with
  | none => rw [h] at this; cases this
  | some g => rw [h] at this; exact ⟨g, rfl, Option.some.inj this⟩
 injection hg1 with hgs hgi
 have hnr := (zW aJE).2
 have hB := fun (b : Nat) M0 I0 h => aMA (X := X) (w0 := w0) (M0 := M0) (I0 := I0) (kd := 0) (tol := 1) (q := some ⟨b, 0, none⟩) (l := exQ) (n := 4) (c := 4) (mdl := fun s => mE 0 (nE exQ s)) (by omega) rfl (by omega) aJE (by decide) h
  (fun smp qs cs hsm M0 I0 h => aBW (kd := 0) (by omega) rfl (by omega) hnr hsm.len (by omega) (fun x hx => ⟨by have := hsm.lt x hx; omega, (hsm.lt x hx).2⟩) h)
 rw [hg] at hB
 have hD := fun (b : Nat) M0 I0 h => aSX (X := X) (w0 := w0) (M0 := M0) (I0 := I0) (tol := 1) (q := some ⟨b, 0, none⟩) (l := exQ) (n := 4) (c := 4) rfl (by omega) aJE (by decide) h
 have hC0 := fun M0 I0 h => yB (X := X) (w0 := w0) (M0 := M0) (I0 := I0) (q := none) (l := []) (n := 0) (c := 0) rfl (by omega) h
 refine aLY Tryz.func10 rfl Tryz.ntmps10 rfl ?_
 repeat (refine aJ ?_)
 (refine aA rfl (aAO) rfl rfl ?_; rintro _ _ _ ⟨rfl, b1, rfl, rfl⟩; refine ⟨okF, ?_⟩)
 repeat (refine aJ ?_)
 (refine aA rfl (hB b1 _ _ aB) rfl rfl ?_; rintro _ _ _ ⟨rfl, f, rfl, hk, hs, hi, hmq, hmd, rfl⟩; refine ⟨okF, ?_⟩)
 rw [hgs] at hs
 rw [hgi] at hi
 repeat (refine aJ ?_)
 (refine aF rfl rfl ?_; intro b3; refine ⟨okF, ?_⟩)
 repeat (refine aJ ?_)
 (refine aA rfl (aAO) rfl rfl ?_; rintro _ _ _ ⟨rfl, b2, rfl, rfl⟩; refine ⟨okF, ?_⟩)
 repeat (refine aJ ?_)
 (refine aA rfl (hD b2 _ _ aB) rfl rfl ?_; rintro _ _ _ ⟨rfl, rfl, x, y, nn, ⟨hn0, hbd⟩, rfl⟩; refine ⟨okF, ?_⟩)
 obtain ⟨rfl, rfl, rfl⟩ := hbd.uniq aUV
 repeat (refine aJ ?_)
 (refine aF rfl rfl ?_; intro b4; refine ⟨okF, ?_⟩)
 repeat (refine aJ ?_)
 (refine dB (cs := recs eZ [0]) ([.int .i64 0]) rfl rfl (by intro v hv; repeat (first | exact absurd hv (List.not_mem_nil) | (rcases List.mem_cons.1 hv with rfl | hv; · rfl))) (by omega) rfl rfl rfl ?_; intro b5; refine ⟨okF, ?_⟩)
 refine aO .here ?_
 refine iX (φ := aR f.ps (recs eZ f.smp)) (Hv.bfS aB) ?_
 refine iX (φ := aR f.pi (recs eZ f.inl)) (Hv.bfI aB) ?_
 (refine aA rfl (uD (a := f.smp) (b := [0]) (by rw [hs]; decide) aB aB) rfl rfl ?_; rintro _ _ _ ⟨rfl, rfl, rfl⟩; refine ⟨okF, ?_⟩)
 rw [bV hs]
 repeat (refine aJ ?_)
 (refine dB (cs := recs eZ [0, 1, 2]) ([.int .i64 0, .int .i64 1, .int .i64 2]) rfl rfl (by intro v hv; repeat (first | exact absurd hv (List.not_mem_nil) | (rcases List.mem_cons.1 hv with rfl | hv; · rfl))) (by omega) rfl rfl rfl ?_; intro b6; refine ⟨okF, ?_⟩)
 refine aO .here ?_
 (refine aA rfl (uD (a := f.inl) (b := [0, 1, 2]) (by rw [hi]; decide) aB aB) rfl rfl ?_; rintro _ _ _ ⟨rfl, rfl, rfl⟩; refine ⟨okF, ?_⟩)
 rw [bV hi]
 repeat (refine aJ ?_)
 (refine aC rfl (fun _ => aU (pvs := ([.int .i64 4, .int .i64 5]).zipIdx.map (fun p => (p.2, p.1))) (cells := [.int .i64 4, .int .i64 5]) rfl rfl) rfl rfl ?_)
 (refine aC rfl (fun _ => aNF (xs := [5 - 1, 6 - 1]) (ys := [4, 5]) rfl rfl rfl rfl) rfl rfl ?_)
 rw [bV (show ([5 - 1, 6 - 1] : List Int) = [4, 5] from rfl)]
 refine iX (φ := aR none (recs kP [])) ⟨fun X w _ => ⟨fun j v hj => by simp [recs] at hj⟩⟩ ?_
 repeat (refine aJ ?_)
 (refine aA rfl (hC0 _ _ aB) rfl rfl ?_; rintro _ _ _ ⟨rfl, rfl, rfl⟩; refine ⟨okF, ?_⟩)
 rw [show oD [] = 1 from rfl]
 repeat (refine aJ ?_)
 refine kD (M' := M0) (I' := I0) aG aD ?_
 refine aM (by first | exact .inl rfl | exact .inr rfl) rfl rfl _ _ aG aD (⟨rfl, rfl, congrArg Value.bool (bV rfl)⟩)
end
end Go.Proofs.YtjbhdfpjnjedhaaGreat
namespace Go.Proofs.YtjbhdfpjnjedhaaGreat
open Go Go.Fx
section
variable {X : List Nat} {w0 : World} {M0 M1 M2 : List Ent} {I0 : List aT}
theorem aVL {q : Option Addr} {n c : Nat} {m : Int} : CD Tryz.prog 11 [.slice q n c, .int .i64 m] X w0 M0 I0 (fun v M I => M0 = M ∧ I0 = I ∧ v = .bool (B ((n : Int) ≤ m))) := by
 refine bL Tryz.func11 rfl Tryz.ntmps11 rfl ?_
 repeat (refine aJ ?_)
 refine aM (by first | exact .inl rfl | exact .inr rfl) rfl rfl _ _ aG aD (⟨rfl, rfl, rfl⟩)
end
/- ---------- the law's search ---------- -/
def VisL (l : List Q4) (i j : Nat) (x y : Int) : Prop := (∃ a : Nat, a < i ∧ a < l.length ∧ x = gt (dxs l) (a : Int) ∧ ∃ b : Nat, b < l.length ∧ y = gt (dys l) (b : Int)) ∨ (i < l.length ∧ x = gt (dxs l) (i : Int) ∧ ∃ b : Nat, b < j ∧ b < l.length ∧ y = gt (dys l) (b : Int))
section
variable {l : List Q4} {t X Y : Int} {i j n : Nat}
end
section
variable {X : List Nat} {w0 : World} {M0 M1 M2 : List Ent} {I0 : List aT}
end
end Go.Proofs.YtjbhdfpjnjedhaaGreat
namespace Go.Proofs.YtjbhdfpjnjedhaaGreat
open Go Go.Fx
section
variable {X : List Nat} {w0 : World} {M0 M1 M2 : List Ent} {I0 : List aT}
end
end Go.Proofs.YtjbhdfpjnjedhaaGreat
namespace Go.Proofs.YtjbhdfpjnjedhaaGreat
open Go Go.Fx
open Go.ChangeShapes Go.WideShapes Go.RowKit Go.ChangeAt
section
variable {H : Type} {enc : TypeId × Value → H} {W : World}
theorem aPB {n : Nat} {cs : List Value} {y : DataW H × List MemPlace} (hl : cs.length = 2) (h : DataW.trod enc Tryz.prog W 0 (fun _ => true) true n 56 cs = some y) : ∃ a b : Int, cs = [.int .i64 a, .int .i64 b] := by
 obtain ⟨xs, rfl, hx, _⟩ := aSF (k := .i64) (m := 2) Tryz.underlying56 (by kernel_rfl) (by intro f hf; simp at hf; rcases hf with rfl | rfl <;> exact Tryz.underlying3) hl h
 obtain ⟨a, b, rfl⟩ := aWX hx
 exact ⟨a, b, rfl⟩
theorem aWV {n : Nat} {cs : List Value} {y : DataW H × List MemPlace} (h : DataW.trod enc Tryz.prog W 0 (fun _ => true) true n 65 cs = some y) : ∃ s : Q4, cs = kP s ∧ True := by
 obtain ⟨hl, n', z0, z1, h0, h1⟩ := aRP (t0 := 56) (t1 := 56) (m := 2) (k := 2) Tryz.underlying65 (by rfl) (by kernel_rfl) (by kernel_rfl) (by kernel_rfl) h
 obtain ⟨a, b, e0⟩ := aPB (by rw [List.length_take]; omega) h0
 obtain ⟨c, d, e1⟩ := aPB (by rw [List.length_drop]; omega) h1
 refine ⟨⟨a, b, c, d⟩, ?_, trivial⟩
 rw [← List.take_append_drop 2 cs, e0, e1]
 rfl
theorem aRL {base : Nat} {v : Value} {d : DataW H} {p : List MemPlace} (hv : Value.okWide Tryz.prog W .any base 22 v) (h : DataW.Trod enc Tryz.prog W 0 (fun _ => true) true 22 v d p) : ∃ (a : Option Addr) (ps : List Q4) (c : Nat), v = .slice a ps.length c ∧ Sl [] W a (recs kP ps) ∧ (ps.length : Int) ≤ 9223372036854775807 := by
 obtain ⟨a, ms, c, e, s, m, l, k, _⟩ := aHH (en := kP) (Pm := fun _ => True) Tryz.underlying22 (fun r n y _ hy => aWV hy) hv h
 exact ⟨a, ms, c, e, s, l⟩
end
end Go.Proofs.YtjbhdfpjnjedhaaGreat
namespace Go.Proofs.YtjbhdfpjnjedhaaGreat
open Go Go.Fx
open Go.ChangeShapes Go.WideShapes Go.RowKit Go.ChangeAt
abbrev eTk (kd t2 x y : Int) (ex tu : Bool) : List Value := [.int .i64 kd, .int .i64 t2, .int .i16 x, .int .i16 y, .bool ex, .bool tu]
theorem wf16 {x : Int} (h : (Lit.int .i16 x).wf = true) : -32768 ≤ x ∧ x ≤ 32767 := by
 simp [Lit.wf] at h
 have h1 : IntKind.i16.min = -32768 := by decide
 have h2 : IntKind.i16.max = 32767 := by decide
 rw [h1, h2] at h
 exact h
section
variable {H : Type} {enc : TypeId × Value → H} {W : World}
theorem aNI {base : Nat} {v : Value} {d : DataW H} {p : List MemPlace} (hv : Value.okWide Tryz.prog W .any base 26 v) (h : DataW.Trod enc Tryz.prog W 0 (fun _ => true) true 26 v d p) :
  ∃ (kd t2 x y : Int) (ex tu : Bool), v = .agg (eTk kd t2 x y ex tu).toArray ∧ (-32768 ≤ x ∧ x ≤ 32767) ∧ (-32768 ≤ y ∧ y ≤ 32767) := by
 obtain ⟨cs, rfl, hl, hrow, hf⟩ := aHO Tryz.underlying26 hv h
 have hl6 : cs.length = 6 := by rw [hl]; kernel_rfl
 match cs, hl6 with
 | [c0, c1, c2, c3, c4, c5], _ =>
  obtain ⟨n0, y0, h0⟩ := hf 0 _ rfl
  obtain ⟨n1, y1, h1⟩ := hf 1 _ rfl
  obtain ⟨n2, y2, h2⟩ := hf 2 _ rfl
  obtain ⟨n3, y3, h3⟩ := hf 3 _ rfl
  obtain ⟨n4, y4, h4⟩ := hf 4 _ rfl
  obtain ⟨n5, y5, h5⟩ := hf 5 _ rfl
  have e0 : Tryz.prog.cellsOf 23 = 1 := by kernel_rfl
  have e1 : Tryz.prog.cellsOf 3 = 1 := by kernel_rfl
  have e2 : Tryz.prog.cellsOf 24 = 1 := by kernel_rfl
  have e3 : Tryz.prog.cellsOf 4 = 1 := by kernel_rfl
  replace h0 : DataW.trod enc Tryz.prog W 0 (fun _ => true) true n0 23 (([c0, c1, c2, c3, c4, c5].drop 0).take (Tryz.prog.cellsOf 23)) = some y0 := h0
  replace h1 : DataW.trod enc Tryz.prog W 0 (fun _ => true) true n1 3 (([c0, c1, c2, c3, c4, c5].drop 1).take (Tryz.prog.cellsOf 3)) = some y1 := h1
  replace h2 : DataW.trod enc Tryz.prog W 0 (fun _ => true) true n2 24 (([c0, c1, c2, c3, c4, c5].drop 2).take (Tryz.prog.cellsOf 24)) = some y2 := h2
  replace h3 : DataW.trod enc Tryz.prog W 0 (fun _ => true) true n3 24 (([c0, c1, c2, c3, c4, c5].drop 3).take (Tryz.prog.cellsOf 24)) = some y3 := h3
  replace h4 : DataW.trod enc Tryz.prog W 0 (fun _ => true) true n4 4 (([c0, c1, c2, c3, c4, c5].drop 4).take (Tryz.prog.cellsOf 4)) = some y4 := h4
  replace h5 : DataW.trod enc Tryz.prog W 0 (fun _ => true) true n5 4 (([c0, c1, c2, c3, c4, c5].drop 5).take (Tryz.prog.cellsOf 4)) = some y5 := h5
  rw [e0] at h0
  rw [e1] at h1
  rw [e2] at h2 h3
  rw [e3] at h4 h5
  obtain ⟨x0, q0, _⟩ := vZ Tryz.underlying23 h0
  obtain ⟨x1, q1, _⟩ := vZ Tryz.underlying3 h1
  obtain ⟨x2, q2, w2⟩ := vZ Tryz.underlying24 h2
  obtain ⟨x3, q3, w3⟩ := vZ Tryz.underlying24 h3
  obtain ⟨b4, q4, _⟩ := DataW.trod_bool Tryz.underlying4 h4
  obtain ⟨b5, q5, _⟩ := DataW.trod_bool Tryz.underlying4 h5
  simp at q0 q1 q2 q3 q4 q5
  subst q0; subst q1; subst q2; subst q3; subst q4; subst q5
  exact ⟨x0, x1, x2, x3, b4, b5, rfl, wf16 w2, wf16 w3⟩
end
end Go.Proofs.YtjbhdfpjnjedhaaGreat
namespace Go.Proofs.YtjbhdfpjnjedhaaGreat
open Go Go.Fx
def fourS (a : WM) : Prop := a.rows.length ≤ 4 ∧ ∀ r ∈ a.rows, r.es.length ≤ 4 ∧ ∀ e ∈ r.es, e.brief
def NR (a : WM) : Prop := sqC a ≠ 0 ∨ ∃ (A : MX) (n : Nat), a = A.raw ∧ A.fit n n ∧ n ≤ 4 ∧ (n = 3 → dt 3 (at2 A.q) = 0)
section
variable {X : List Nat} {w0 : World} {M0 M1 M2 : List Ent} {I0 : List aT}
end
end Go.Proofs.YtjbhdfpjnjedhaaGreat
namespace Go.Proofs.YtjbhdfpjnjedhaaGreat
open Go Go.Fx
def MisK (m : Mt) (s : Q4) (k : Nat) (M0 : List Ent) (I0 : List aT) (v : Value) (M : List Ent) (I : List aT) : Prop :=
 M0 = M ∧ if oU m 2 s = 0 then I0 = I ∧ v = .tuple #[zR, .bool false] else ∃ e : RE, v = .tuple #[rv e, .bool true] ∧ e.q = tO m s ∧ I = gQ e k :: I0
section
variable {X : List Nat} {w0 : World} {M0 M1 M2 : List Ent} {I0 : List aT}
end
end Go.Proofs.YtjbhdfpjnjedhaaGreat
namespace Go.Proofs.YtjbhdfpjnjedhaaGreat
open Go Go.Fx
section
variable {X : List Nat} {w0 : World} {M0 M1 M2 : List Ent} {I0 : List aT}
end
end Go.Proofs.YtjbhdfpjnjedhaaGreat
namespace Go.Proofs.YtjbhdfpjnjedhaaGreat
open Go Go.Fx
section
variable {X : List Nat} {w0 : World} {M0 M1 M2 : List Ent} {I0 : List aT}
def ErrK (m : Mt) (s : Q4) (k : Nat) (M0 : List Ent) (I0 : List aT) (v : Value) (M : List Ent) (I : List aT) : Prop :=
 M0 = M ∧ if oU m 2 s = 0 then I0 = I ∧ v = .tuple #[zR, .int .i64 13] else ∃ e : RE, v = .tuple #[rv e, .int .i64 0] ∧ e.q = tO m s ∧ I = gQ e k :: I0
end
end Go.Proofs.YtjbhdfpjnjedhaaGreat
namespace Go.Proofs.YtjbhdfpjnjedhaaGreat
open Go Go.Fx
section
variable {X : List Nat} {w0 : World} {M0 M1 M2 : List Ent} {I0 : List aT}
end
end Go.Proofs.YtjbhdfpjnjedhaaGreat
namespace Go.Proofs.YtjbhdfpjnjedhaaGreat
open Go Go.Fx
def ascA (l : List Int) : Prop := ∀ i, i < l.length → 0 < i → gt l ((i - 1 : Nat) : Int) < gt l (i : Int)
instance (l : List Int) : Decidable (ascA l) := by unfold ascA; exact inferInstance
def outA (n : Nat) (l : List Int) : Prop := ∃ x ∈ l, x < 0 ∨ (n : Int) ≤ x
instance (n : Nat) (l : List Int) : Decidable (outA n l) := by unfold outA; exact inferInstance
def lstC (n : Nat) (l : List Int) : Int := if ¬ ascA l then 5 else if outA n l then 6 else 0
section
variable {X : List Nat} {w0 : World} {M0 M1 M2 : List Ent} {I0 : List aT}
end
end Go.Proofs.YtjbhdfpjnjedhaaGreat
namespace Go.Fx
open Go
section
variable {P : Program} {n : Nat} {G : Env} {C : World → Prop} {ty : TypeId}
end
end Go.Fx
namespace Go.Proofs.YtjbhdfpjnjedhaaGreat
open Go Go.Fx
section
variable {X : List Nat} {w0 : World} {M0 M1 M2 : List Ent} {I0 : List aT}
def inB (x : Int) : Prop := (-9223372036854775808 ≤ x ∧ x ≤ 9223372036854775807) ∧ x.natAbs ≤ 2 ^ 16
end
end Go.Proofs.YtjbhdfpjnjedhaaGreat
namespace Go.Proofs.YtjbhdfpjnjedhaaGreat
open Go Go.Fx
def NlR (A : Mt) (C k : Nat) (M0 : List Ent) (I0 : List aT) (v : Value) (M : List Ent) (I : List aT) : Prop :=
 M0 = M ∧ ∃ m : MX, v = mv m ∧ m.q = aWN A C ∧ (∀ r ∈ m.rows, r.es.length = C) ∧ I = lT m k :: I0
section
variable {X : List Nat} {w0 : World} {M : List Ent} {I : List aT}
variable {P : Program} {n : Nat} {Q : Exit → Act → World → Prop} {G : Env}
end
section
variable {X : List Nat} {w0 : World} {M0 : List Ent} {I0 : List aT}
end
end Go.Proofs.YtjbhdfpjnjedhaaGreat
namespace Go.Proofs.YtjbhdfpjnjedhaaGreat
open Go Go.Fx
def besM (R C D : Nat) (A B : Mt) : Mt := mkM R (C + D) (fun i j => if j < C then at2 A i j else at2 B i (j - C))
def SolR (l : List Rat) (k : Nat) (M0 : List Ent) (I0 : List aT) (v : Value) (M : List Ent) (I : List aT) : Prop := M0 = M ∧ ∃ r : RL, v = .tuple #[lv r, .bool true] ∧ r.q = l ∧ I = nT r k :: I0
section
variable {X : List Nat} {w0 : World} {M0 : List Ent} {I0 : List aT}
end
end Go.Proofs.YtjbhdfpjnjedhaaGreat
namespace Go.Proofs.YtjbhdfpjnjedhaaGreat
open Go Go.Fx
section
variable {X : List Nat} {w0 : World} {M0 M1 M2 : List Ent} {I0 : List aT}
abbrev l3 (b : Nat) (x y z : RE) : RL := ⟨some ⟨b, 0, none⟩, 3, [x, y, z]⟩
end
end Go.Proofs.YtjbhdfpjnjedhaaGreat
namespace Go.Proofs.YtjbhdfpjnjedhaaGreat
open Go Go.Fx
section
variable {X : List Nat} {w0 : World} {M0 M1 M2 : List Ent} {I0 : List aT}
def NorR (R C : Nat) (A : Mt) (b : List Rat) (k : Nat) (M0 : List Ent) (I0 : List aT) (v : Value) (M : List Ent) (I : List aT) : Prop :=
 M0 = M ∧ if dt C (at2 (nrN R C A)) = 0 then I0 = I ∧ v = .tuple #[.slice none 0 0, .bool false] else ∃ r : RL, v = .tuple #[lv r, .bool true] ∧ r.q = lsX R C A b ∧ I = nT r k :: I0
end
end Go.Proofs.YtjbhdfpjnjedhaaGreat
namespace Go.Proofs.YtjbhdfpjnjedhaaGreat
open Go Go.Fx
/- ---------- IndexFunc, ContainsFunc of []fiducial/api.Rat ---------- -/
section
variable {X : List Nat} {w0 : World} {M0 : List Ent} {I0 : List aT}
end
def zeroL (l : List Rat) : Prop := ∀ x ∈ l, x = 0
instance (l : List Rat) : Decidable (zeroL l) := inferInstanceAs (Decidable (∀ x ∈ l, x = 0))
def symM (A : Mt) (n : Nat) : Prop := ∀ i, i < n → ∀ j, j < i → at2 A i j = at2 A j i
instance (A : Mt) (n : Nat) : Decidable (symM A n) := inferInstanceAs (Decidable (∀ i, i < n → ∀ j, j < i → at2 A i j = at2 A j i))
def symC (A : Mt) (n : Nat) : Int := if symM A n then 0 else 11
section
variable {X : List Nat} {w0 : World} {M0 : List Ent} {I0 : List aT}
end
end Go.Proofs.YtjbhdfpjnjedhaaGreat
namespace Go.Proofs.YtjbhdfpjnjedhaaGreat
def rsF (f : Nat → Nat → Rat) : Nat → Nat → Nat → Rat
 | 0 => f
 | k + 1 => fun i j => if k < i ∧ k ≤ j then rsF f k i j - rsF f k i k / rsF f k k k * rsF f k k j else rsF f k i j
def bk (f : Nat → Nat → Rat) (k : Nat) : Nat → Nat → Rat := fun a b => rsF f k (a + k) (b + k)
def pvs (f : Nat → Nat → Rat) : Nat → Rat
 | 0 => 1
 | k + 1 => pvs f k * bk f k 0 0
def qf (f : Nat → Nat → Rat) (v : Nat → Rat) (n k : Nat) : Rat := sm (n - k) (fun a => sm (n - k) (fun b => bk f k a b * v (a + k) * v (b + k)))
def yk (f : Nat → Nat → Rat) (v : Nat → Rat) (n k : Nat) : Rat := v k + sm (n - (k + 1)) (fun a => bk f k (a + 1) 0 / bk f k 0 0 * v (a + (k + 1)))
end Go.Proofs.YtjbhdfpjnjedhaaGreat
namespace Go.Proofs.YtjbhdfpjnjedhaaGreat
open Go Go.Fx
def qfr (A : Mt) (v : List Rat) (n : Nat) : Rat := sm n (fun t => v.getD t 0 * sm n (fun j => at2 A t j * v.getD j 0))
section
variable {X : List Nat} {w0 : World} {M0 : List Ent} {I0 : List aT}
end
end Go.Proofs.YtjbhdfpjnjedhaaGreat
namespace Go.Proofs.YtjbhdfpjnjedhaaGreat
open Go Go.Fx
section
variable {X : List Nat} {w0 : World} {M0 M1 M2 : List Ent} {I0 : List aT}
def RefR (o : Option Mt) (k : Nat) (M0 : List Ent) (I0 : List aT) (v : Value) (M : List Ent) (I : List aT) : Prop := M0 = M ∧ match o with
 | none => I0 = I ∧ v = .tuple #[.slice none 0 0, .int .i64 13]
 | some A => ∃ m : MX, v = .tuple #[mv m, .int .i64 0] ∧ m.q = A ∧ m.dim 3 3 ∧ I = lT m k :: I0
end
end Go.Proofs.YtjbhdfpjnjedhaaGreat
namespace Go.Proofs.YtjbhdfpjnjedhaaGreat
open Go Go.Fx
section
variable {X : List Nat} {w0 : World} {M0 M1 M2 : List Ent} {I0 : List aT}
theorem aIV {x : Int} : CD Tryz.prog 13 [.int .i64 x] X w0 M0 I0 (fun v M I => M0 = M ∧ I0 = I ∧ v = .bool (B (kdP x))) := by
 refine bN Tryz.func13 rfl Tryz.ntmps13 rfl ?_
 by_cases h0 : 0 ≤ x
 ·repeat (refine aJ ?_)
  refine aM (by first | exact .inl rfl | exact .inr rfl) rfl rfl _ _ aG aD (⟨rfl, rfl, congrArg Value.bool (lF ⟨fun h => ⟨h0, h⟩, fun h => h.2⟩)⟩)
 ·repeat (refine aJ ?_)
  refine aM (by first | exact .inl rfl | exact .inr rfl) rfl rfl _ _ aG aD (⟨rfl, rfl, congrArg Value.bool (dP (fun h => h0 h.1)).symm⟩)
end
end Go.Proofs.YtjbhdfpjnjedhaaGreat
