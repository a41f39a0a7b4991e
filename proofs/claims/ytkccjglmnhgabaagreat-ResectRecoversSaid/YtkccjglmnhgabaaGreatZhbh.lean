/- The document's SameList, SameMatrix, Symmetric, Nonzero, Form, Leading, Definite. Arguments opened: matrices, lists, fractions, wherever they lie. Arguments opened, with what their sizes are at most: lists, matrices, fractions, wherever they lie. Chapter 30's law on projection matrices: short, canonical, none, same, project, center. Chapter 30's law on projection matrices: project, center. Chapter 30's law on projection matrices: center. -/
import Derived.Test.YtkccjglmnhgabaaGreatZhbg
import Derived.Test.YtkccjglmnhgabaaGreatZhax
import Derived.Test.YtkccjglmnhgabaaGreatZhba
import Derived.SizedLaws
import Derived.Test.YtkccjglmnhgabaaGreatZhbf
set_option linter.unusedSimpArgs false
set_option linter.unusedVariables false
set_option maxRecDepth 100000
set_option maxHeartbeats 4000000
namespace Go.Proofs.YtkccjglmnhgabaaGreat
open Go Go.Fx
def qfr (A : Mt) (v : List Rat) (n : Nat) : Rat := sm n (fun t => v.getD t 0 * sm n (fun j => at2 A t j * v.getD j 0))
section
variable {X : List Nat} {w0 : World} {M0 : List Ent} {I0 : List aZ}
theorem aBA {x y : RL} {u m : Nat} (hk : u + m + 1 ≤ 100000000000) (lx : x.es.length ≤ 1000) (ly : y.es.length ≤ 1000) (hx : Hv I0 (iY x u)) (hy : Hv I0 (iY y m)) :
  CD Tryz.prog 55 [lv x, lv y] X w0 M0 I0 (fun v M I => M0 = M ∧ I0 = I ∧ v = .bool (B (x.q = y.q))) := by
 refine uG hx (uG (φ := iY y m) (hy.cons) ?_)
 refine eD (φ := bI (x).p (recs eR (x).es)) (Hv.lsl aC) ?_
 refine eD (φ := bI (y).p (recs eR (y).es)) (Hv.lsl aC) ?_
 by_cases hlen : x.es.length = y.es.length
 ·refine bE Tryz.func55 rfl Tryz.ntmps55 rfl ?_
  repeat (refine aJ ?_)
  refine bG [0, 1] rfl (fun k G M I => ∃ i : Nat, i ≤ x.es.length ∧ k = x.es.length - i ∧ (∀ j : Nat, j < i → (gt x.es (j : Int)).q = (gt y.es (j : Int)).q) ∧ G = [(5, .int .i64 i)] ∧ M0 = M ∧ I = bI y.p (recs eR y.es) :: bI x.p (recs eR x.es) :: iY y m :: iY x u :: I0) (x.es.length) _ _ _ aO aD aF (⟨0, by omega, rfl, fun j hj => by omega, rfl, rfl, rfl⟩) ?_
  rintro kk G M I ⟨i, hi, rfl, hs, rfl, rfl, rfl⟩
  by_cases hi2 : i < x.es.length
  ·have hS := fun M0 I0 h1 h2 => aDN (X := X) (w0 := w0) (M0 := M0) (I0 := I0) (a := gt x.es (i : Int)) (b := gt y.es (i : Int)) (k := u) (m := m) (by omega) h1 h2
   by_cases he : (gt x.es (i : Int)).q = (gt y.es (i : Int)).q
   ·rw [dG he] at hS
    repeat (refine aJ ?_)
    (repeat refine aL ?_); refine bT 1 [0, 1, 2, 3, 4, 5, 6, 7, 8, 9] [1, 1, 1, 0, 1, 1, 1, 0, 0, 0] mixed (by kernel_rfl) ?_
    repeat (refine aJ ?_)
    (refine aA rfl (hS _ _ (Hv.lel aC (by omega)) (Hv.lel aC (by omega))) rfl rfl ?_; rintro _ _ _ ⟨rfl, rfl, rfl⟩; refine ⟨okF, ?_⟩)
    repeat (refine aJ ?_)
    refine aS (x.es.length - (i + 1)) _ _ _ (by first | omega | (simp only [List.length_append, List.length_cons, List.length_nil]; omega)) aO aD aF (⟨i + 1, by omega, rfl, fun j hj => ?_, rfl, rfl, rfl⟩)
    by_cases e : j = i
    ·subst e; exact he
    ·exact hs j (by omega)
   ·rw [bN he] at hS
    repeat (refine aJ ?_)
    (repeat refine aL ?_); refine bT 1 [0, 1, 2, 3, 4, 5, 6, 7, 8, 9] [1, 1, 1, 0, 1, 1, 1, 0, 0, 0] mixed (by kernel_rfl) ?_
    repeat (refine aJ ?_)
    (refine aA rfl (hS _ _ (Hv.lel aC (by omega)) (Hv.lel aC (by omega))) rfl rfl ?_; rintro _ _ _ ⟨rfl, rfl, rfl⟩; refine ⟨okF, ?_⟩)
    repeat (refine aJ ?_)
    refine aQ (by first | exact .inl rfl | exact .inr rfl) rfl rfl _ _ aD aF (⟨rfl, rfl, congrArg Value.bool (bN (fun e => he (q_at e hi2))).symm⟩)
  ·repeat (refine aJ ?_)
   refine aQ (by first | exact .inl rfl | exact .inr rfl) rfl rfl _ _ aD aF (⟨rfl, rfl, congrArg Value.bool (dG (q_ext hlen (fun j hj => hs j (by omega)))).symm⟩)
 ·refine bE Tryz.func55 rfl Tryz.ntmps55 rfl ?_
  repeat (refine aJ ?_)
  refine aQ (by first | exact .inl rfl | exact .inr rfl) rfl rfl _ _ aD aF (⟨rfl, rfl, congrArg Value.bool (bN (fun e => hlen (by have := congrArg List.length e; simpa using this))).symm⟩)
theorem zK {a b : MX} {n C k m : Nat} (hk : k + m + 1 ≤ 100000000000) (hn : n ≤ 64) (hC : C ≤ 64) (da : a.dim n C) (db : b.dim n C) (ha : nU a k ∈ I0) (hb : nU b m ∈ I0) :
  CD Tryz.prog 15 [mv a, mv b] X w0 M0 I0 (fun v M I => M0 = M ∧ I0 = I ∧ v = .bool (B (a.q = b.q))) := by
 have la := da.1
 have lb := db.1
 refine eD (φ := bI (a).p (recs eL (a).rows)) (Hv.xsl aC) ?_
 refine eD (φ := bI (b).p (recs eL (b).rows)) (Hv.xsl aC) ?_
 refine bE Tryz.func15 rfl Tryz.ntmps15 rfl ?_
 repeat (refine aJ ?_)
 refine bG [0, 1] rfl (fun k G M I => ∃ i : Nat, i ≤ n ∧ k = n - i ∧ (∀ j : Nat, j < i → (gt a.rows (j : Int)).q = (gt b.rows (j : Int)).q) ∧ G = [(5, .int .i64 i)] ∧ M0 = M ∧ I = bI b.p (recs eL b.rows) :: bI a.p (recs eL a.rows) :: I0) (n) _ _ _ aO aD aF (⟨0, by omega, rfl, fun j hj => by omega, rfl, rfl, rfl⟩) ?_
 rintro kk G M I ⟨i, hi, rfl, hs, rfl, rfl, rfl⟩
 by_cases hi2 : i < n
 ·have c1 := da.row (i := i) (by omega)
  have c2 := db.row (i := i) (by omega)
  have hS := fun M0 I0 h1 h2 => aBA (X := X) (w0 := w0) (M0 := M0) (I0 := I0) (x := gt a.rows (i : Int)) (y := gt b.rows (i : Int)) (u := k) (m := m) hk (by omega) (by omega) h1 h2
  by_cases he : (gt a.rows (i : Int)).q = (gt b.rows (i : Int)).q
  ·rw [dG he] at hS
   repeat (refine aJ ?_)
   (repeat refine aL ?_); refine bT 1 [0, 1, 2, 3, 4, 5, 6, 7, 8, 9] [1, 1, 1, 0, 1, 1, 1, 0, 0, 0] mixed (by kernel_rfl) ?_
   repeat (refine aJ ?_)
   (refine aA rfl (hS _ _ (Hv.xrow aC (by omega)) (Hv.xrow aC (by omega))) rfl rfl ?_; rintro _ _ _ ⟨rfl, rfl, rfl⟩; refine ⟨okF, ?_⟩)
   repeat (refine aJ ?_)
   refine aS (n - (i + 1)) _ _ _ (by first | omega | (simp only [List.length_append, List.length_cons, List.length_nil]; omega)) aO aD aF (⟨i + 1, by omega, rfl, fun j hj => ?_, rfl, rfl, rfl⟩)
   by_cases e : j = i
   ·subst e; exact he
   ·exact hs j (by omega)
  ·rw [bN he] at hS
   repeat (refine aJ ?_)
   (repeat refine aL ?_); refine bT 1 [0, 1, 2, 3, 4, 5, 6, 7, 8, 9] [1, 1, 1, 0, 1, 1, 1, 0, 0, 0] mixed (by kernel_rfl) ?_
   repeat (refine aJ ?_)
   (refine aA rfl (hS _ _ (Hv.xrow aC (by omega)) (Hv.xrow aC (by omega))) rfl rfl ?_; rintro _ _ _ ⟨rfl, rfl, rfl⟩; refine ⟨okF, ?_⟩)
   repeat (refine aJ ?_)
   refine aQ (by first | exact .inl rfl | exact .inr rfl) rfl rfl _ _ aD aF (⟨rfl, rfl, congrArg Value.bool (bN (fun e => he (aPB e (by omega)))).symm⟩)
 ·repeat (refine aJ ?_)
  refine aQ (by first | exact .inl rfl | exact .inr rfl) rfl rfl _ _ aD aF (⟨rfl, rfl, congrArg Value.bool (dG (aPC (by omega) (fun j hj => hs j (by omega)))).symm⟩)
end
end Go.Proofs.YtkccjglmnhgabaaGreat
namespace Go.Proofs.YtkccjglmnhgabaaGreat
open Go Go.Fx
open Go.ChangeShapes Go.WideShapes Go.RowKit Go.ChangeAt
section
variable {H : Type} {enc : TypeId × Value → H} {P : Program} {W : World}
end
section
variable {H : Type} {enc : TypeId × Value → H} {W : World}
end
end Go.Proofs.YtkccjglmnhgabaaGreat
namespace Go.Proofs.YtkccjglmnhgabaaGreat
open Go Go.Fx
open Go.ChangeShapes Go.WideShapes Go.RowKit Go.ChangeAt
def WL.rch (r : WL) : Prop := r.es.length ≤ 35184372088832 ∧ ∀ e ∈ r.es, e.reach
def WM.rch (m : WM) : Prop := m.rows.length ≤ 35184372088832 ∧ ∀ r ∈ m.rows, r.rch
section
variable {H : Type} {enc : TypeId × Value → H} {P : Program} {W : World}
end
section
variable {H : Type} {enc : TypeId × Value → H} {W : World}
end
end Go.Proofs.YtkccjglmnhgabaaGreat
namespace Go.Proofs.YtkccjglmnhgabaaGreat
open Go Go.Fx
def RW.dig (r : RW) : Nat := r.g1.length + r.g2.length
def WL.shN (r : WL) (n g : Nat) : Prop := r.es.length ≤ n ∧ ∀ e ∈ r.es, e.dig ≤ g ∧ (g ≤ 6 → e.brief)
instance WL.decN (r : WL) (n g : Nat) : Decidable (r.shN n g) := by unfold WL.shN; exact inferInstance
def WM.shN (m : WM) (n g : Nat) : Prop := m.rows.length ≤ n ∧ ∀ r ∈ m.rows, r.shN n g
instance WM.decN (m : WM) (n g : Nat) : Decidable (m.shN n g) := by unfold WM.shN; exact inferInstance
instance WM.decG (m : WM) : Decidable (∀ r ∈ m.rows, r.good) := inferInstance
section
variable {X : List Nat} {w0 : World} {M0 : List Ent} {I0 : List aZ}
end
end Go.Proofs.YtkccjglmnhgabaaGreat
namespace Go.Proofs.YtkccjglmnhgabaaGreat
open Go Go.Fx
def shP (m : WM) : Prop := m.rows.length = 3 ∧ ∀ r ∈ m.rows, r.es.length = 4
instance shP.dec (m : WM) : Decidable (shP m) := by unfold shP; exact inferInstance
section
variable {X : List Nat} {w0 : World} {M0 : List Ent} {I0 : List aZ}
end
end Go.Proofs.YtkccjglmnhgabaaGreat
namespace Go.Proofs.YtkccjglmnhgabaaGreat
open Go Go.Fx
section
variable {X : List Nat} {w0 : World} {M0 : List Ent} {I0 : List aZ}
end
end Go.Proofs.YtkccjglmnhgabaaGreat
