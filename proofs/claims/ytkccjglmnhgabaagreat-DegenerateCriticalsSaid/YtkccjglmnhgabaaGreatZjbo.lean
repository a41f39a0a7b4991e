/- Chapter 31's law: proves, walked. -/
import Derived.Test.YtkccjglmnhgabaaGreatZjbn
import Derived.Test.YtkccjglmnhgabaaGreatZjbk
import Derived.Test.YtkccjglmnhgabaaGreatZjam
set_option linter.unusedSimpArgs false
set_option linter.unusedVariables false
set_option maxRecDepth 100000
set_option maxHeartbeats 4000000
namespace Go.Proofs.YtkccjglmnhgabaaGreat
open Go Go.Fx
theorem hD7 {r : Nat} (h : r ≤ 7) : hD 30 r ≤ 3357280 := by
 have : r = 0 ∨ r = 1 ∨ r = 2 ∨ r = 3 ∨ r = 4 ∨ r = 5 ∨ r = 6 ∨ r = 7 := by omega
 rcases this with rfl | rfl | rfl | rfl | rfl | rfl | rfl | rfl <;> decide
theorem aTB {l : List Int} {n m : Nat} (hl : l.length = m) (h : ∀ j : Nat, j < m → 0 ≤ gt l (j : Int) ∧ gt l (j : Int) < n) : inRng l n := fun i hi => h i (by have := List.mem_range.1 hi; omega)
theorem aGF {l : List Int} {n i : Nat} (h : inRng l n) (hi : i < l.length) : 0 ≤ gt l (i : Int) ∧ gt l (i : Int) < n := h i (List.mem_range.2 hi)
theorem aWL {l : List Int} {m : Nat} (hl : l.length = m) (h : ∀ j : Nat, 1 ≤ j → j < m → gt l ((j : Int) - 1) < gt l (j : Int)) : rsng l := fun i hi => by
 by_cases e : i = 0
 ·exact .inl e
 ·exact .inr (h i (by omega) (by have := List.mem_range.1 hi; omega))
theorem aWT {l : List Int} {i : Nat} (h : rsng l) (h1 : 1 ≤ i) (hi : i < l.length) : gt l ((i : Int) - 1) < gt l (i : Int) := (h i (List.mem_range.2 hi)).resolve_left (by omega)
section
variable {X : List Nat} {w0 : World} {M0 M1 : List Ent} {I0 : List aZ}
theorem aEH {m : MX} {R n kd kk : Nat} {r : Int} {p : KW} {e : KE} (hr64 : -9223372036854775808 ≤ r ∧ r ≤ 9223372036854775807) (dm : m.fit R n) (hn7 : n ≤ 7) (hR7 : R ≤ 7) (hkd : kd ≤ 20000000000) (hkk0 : kk ≤ 600000000) (hkk : kb kk n ≤ 20000000000) (hm : fJ m 30 ∈ I0) (hp : isKW p ∈ I0) (hpd : p.d.sml) (hpk : p.kn.sml) (he : jI R n r p = 0 → p = e.raw ∧ Hv I0 (dX e.d kd) ∧ Hv I0 (fJ e.kn kk)) :
  CD Tryz.prog 23 [mv m, .int .i64 r, vKW p] X w0 M0 I0 (fun v M I => M0 = M ∧ I0 = I ∧ v = .int .i64 (if jI R n r p = 0 then (if prV m.q R n e then 0 else 12) else jI R n r p)) := by
 have lR := dm.1.1
 obtain ⟨r1, r2⟩ := dm.2.1
 obtain ⟨c1, c2⟩ := dm.2.2
 have m0 : (gt m.rows 0).es.length = n := dm.1.row (i := 0) (by omega)
 refine jM (φ := (p.ri.length : Int) ≤ 9223372036854775807 ∧ (p.ci.length : Int) ≤ 9223372036854775807) (fun w hw => ⟨((hw.imm _ hp).2 : IsKW p _ w).lr, ((hw.imm _ hp).2 : IsKW p _ w).lc⟩) (fun hll => ?_)
 have hkl := hpk.1
 have hVd := fun M0 I0 h => aCC (X := X) (w0 := w0) (M0 := M0) (I0 := I0) (r := p.d) hpd h
 refine cK (φ := fJ m 30) (Hv.mem hm) ?_
 refine cK (φ := aQ p.pr (recs eZ p.ri)) (Hv.kwr (List.Mem.tail _ hp)) ?_
 refine cK (φ := aQ p.pc (recs eZ p.ci)) (Hv.kwc (List.Mem.tail _ (List.Mem.tail _ hp))) ?_
 refine cK (φ := isW p.d) (Hv.kwd (List.Mem.tail _ (List.Mem.tail _ (List.Mem.tail _ hp)))) ?_
 refine cK (φ := iE p.kn) (Hv.kwn (List.Mem.tail _ (List.Mem.tail _ (List.Mem.tail _ (List.Mem.tail _ hp))))) ?_
 refine cK (φ := aQ p.kn.p (recs uO p.kn.rows)) (Hv.wmsl (List.Mem.head _)) ?_
 refine cK (φ := aQ (m).p (recs eL (m).rows)) (Hv.xsl aB) ?_
 refine lJ Tryz.func23 rfl Tryz.ntmps23 rfl ?_
 refine aI ?_
 refine aH ?_
 (refine aR rfl rfl rfl ?_; intro b5; refine ⟨okF, ?_⟩)
 refine bA .here ?_
 by_cases h1 : r < 0 ∨ (R : Int) < r ∨ (n : Int) < r
 ·rw [if_neg (show ¬ jI R n r p = 0 by rw [aJJ h1]; decide), aJJ h1]
  by_cases h1a : r < 0
  ·repeat (refine aK ?_)
   refine aF (by first | exact .inl rfl | exact .inr rfl) rfl rfl _ _ aG aD (⟨rfl, rfl, rfl⟩)
  ·by_cases h1b : (R : Int) < r
   ·repeat (refine aK ?_)
    refine aF (by first | exact .inl rfl | exact .inr rfl) rfl rfl _ _ aG aD (⟨rfl, rfl, rfl⟩)
   ·repeat (refine aK ?_)
    rw [m0]
    repeat (refine aK ?_)
    refine aF (by first | exact .inl rfl | exact .inr rfl) rfl rfl _ _ aG aD (⟨rfl, rfl, rfl⟩)
 by_cases h2 : (p.ri.length : Int) = r ∧ (p.ci.length : Int) = r
 case neg =>
  rw [if_neg (show ¬ jI R n r p = 0 by rw [aET h1 h2]; decide), aET h1 h2]
  by_cases h2a : (p.ri.length : Int) = r
  ·have h2b : ¬ (p.ci.length : Int) = r := fun h => h2 ⟨h2a, h⟩
   repeat (refine aK ?_)
   rw [m0]
   repeat (refine aK ?_)
   refine aF (by first | exact .inl rfl | exact .inr rfl) rfl rfl _ _ aG aD (⟨rfl, rfl, rfl⟩)
  ·repeat (refine aK ?_)
   rw [m0]
   repeat (refine aK ?_)
   refine aF (by first | exact .inl rfl | exact .inr rfl) rfl rfl _ _ aG aD (⟨rfl, rfl, rfl⟩)
 obtain ⟨hri, hci⟩ := h2
 obtain ⟨rn, hrn⟩ : ∃ rn : Nat, r = (rn : Int) := ⟨r.toNat, by omega⟩
 subst hrn
 have h2 : (p.ri.length : Int) = (rn : Int) ∧ (p.ci.length : Int) = (rn : Int) := ⟨hri, hci⟩
 repeat (refine aK ?_)
 rw [m0]
 repeat (refine aK ?_)
 refine qW (M' := M0) (I' := aQ (some ⟨b5, 0, none⟩) (eKW p) :: aQ m.p (recs eL m.rows) :: aQ p.kn.p (recs uO p.kn.rows) :: iE p.kn :: isW p.d :: aQ p.pc (recs eZ p.ci) :: aQ p.pr (recs eZ p.ri) :: fJ m 30 :: I0) SubP.refl aD ?_
 refine aM [0, 1, 5, 7, 52] rfl (fun k G M I => ∃ i : Nat, i ≤ rn ∧ k = rn - i ∧ (∀ j : Nat, j < i → 0 ≤ gt p.ri (j : Int) ∧ gt p.ri (j : Int) < R) ∧ (∀ j : Nat, j < i → 0 ≤ gt p.ci (j : Int) ∧ gt p.ci (j : Int) < n) ∧ G = [(53, .int .i64 i)] ∧ M0 = M ∧ I = aQ (some ⟨b5, 0, none⟩) (eKW p) :: aQ m.p (recs eL m.rows) :: aQ p.kn.p (recs uO p.kn.rows) :: iE p.kn :: isW p.d :: aQ p.pc (recs eZ p.ci) :: aQ p.pr (recs eZ p.ri) :: fJ m 30 :: I0) (rn) _ _ _ aP aG aD (⟨0, by omega, by omega, fun j hj => by omega, fun j hj => by omega, rfl, rfl, rfl⟩) ?_
 rintro kk1 G M I ⟨i, hi, rfl, ho1, ho2, rfl, rfl, rfl⟩
 by_cases hin : i < rn
 ·by_cases hb : 0 ≤ gt p.ri (i : Int) ∧ gt p.ri (i : Int) < R ∧ 0 ≤ gt p.ci (i : Int) ∧ gt p.ci (i : Int) < n
  ·obtain ⟨b1, b2, b3, b4⟩ := hb
   repeat (refine aK ?_)
   refine aJ (rn - (i + 1)) _ _ _ (by first | omega | (simp only [List.length_append, List.length_cons, List.length_nil]; omega)) aP aG aD (⟨i + 1, by omega, by omega, aBO ho1 ⟨b1, b2⟩, aBO ho2 ⟨b3, b4⟩, rfl, rfl, rfl⟩)
  ·have h3 : ¬ (inRng p.ri R ∧ inRng p.ci n) := fun h => hb ⟨(aGF h.1 (by omega)).1, (aGF h.1 (by omega)).2, (aGF h.2 (by omega)).1, (aGF h.2 (by omega)).2⟩
   rw [if_neg (show ¬ jI R n (rn : Int) p = 0 by rw [aJI h1 h2 h3]; decide), aJI h1 h2 h3]
   by_cases b1 : 0 ≤ gt p.ri (i : Int)
   ·by_cases b2 : gt p.ri (i : Int) < R
    ·by_cases b3 : 0 ≤ gt p.ci (i : Int)
     ·have b4 : ¬ gt p.ci (i : Int) < n := fun h => hb ⟨b1, b2, b3, h⟩
      repeat (refine aK ?_)
      refine aF (by first | exact .inl rfl | exact .inr rfl) rfl rfl _ _ aG aD (⟨rfl, rfl, rfl⟩)
     ·repeat (refine aK ?_)
      refine aF (by first | exact .inl rfl | exact .inr rfl) rfl rfl _ _ aG aD (⟨rfl, rfl, rfl⟩)
    ·repeat (refine aK ?_)
     refine aF (by first | exact .inl rfl | exact .inr rfl) rfl rfl _ _ aG aD (⟨rfl, rfl, rfl⟩)
   ·repeat (refine aK ?_)
    refine aF (by first | exact .inl rfl | exact .inr rfl) rfl rfl _ _ aG aD (⟨rfl, rfl, rfl⟩)
 obtain rfl : i = rn := by omega
 have h3 : inRng p.ri R ∧ inRng p.ci n := ⟨aTB (by omega) ho1, aTB (by omega) ho2⟩
 clear ho1 ho2
 repeat (refine aK ?_)
 refine qW (M' := M0) (I' := aQ (some ⟨b5, 0, none⟩) (eKW p) :: aQ m.p (recs eL m.rows) :: aQ p.kn.p (recs uO p.kn.rows) :: iE p.kn :: isW p.d :: aQ p.pc (recs eZ p.ci) :: aQ p.pr (recs eZ p.ri) :: fJ m 30 :: I0) SubP.refl aD ?_
 refine aM [0, 1, 5, 7] rfl (fun k G M I => ∃ t : Nat, 1 ≤ t ∧ k = i + 1 - t ∧ (∀ j : Nat, 1 ≤ j → j < t → j < i → gt p.ri ((j : Int) - 1) < gt p.ri (j : Int) ∧ gt p.ci ((j : Int) - 1) < gt p.ci (j : Int)) ∧ G = [(9, .int .i64 t)] ∧ M0 = M ∧ I = aQ (some ⟨b5, 0, none⟩) (eKW p) :: aQ m.p (recs eL m.rows) :: aQ p.kn.p (recs uO p.kn.rows) :: iE p.kn :: isW p.d :: aQ p.pc (recs eZ p.ci) :: aQ p.pr (recs eZ p.ri) :: fJ m 30 :: I0) (i) _ _ _ aP aG aD (⟨1, by omega, by omega, fun j h1 h2 => by omega, rfl, rfl, rfl⟩) ?_
 rintro kk1 G M I ⟨t, ht1, rfl, ho, rfl, rfl, rfl⟩
 by_cases hti : t < i
 ·by_cases hb : gt p.ri ((t : Int) - 1) < gt p.ri (t : Int) ∧ gt p.ci ((t : Int) - 1) < gt p.ci (t : Int)
  ·obtain ⟨b1, b2⟩ := hb
   repeat (refine aK ?_)
   (repeat refine aI ?_); refine dW [0, 1, 2, 3, 4, 5, 6, 7, 8, 9, 10, 11, 12, 13, 14, 15, 16, 17, 18, 19, 20, 21, 22, 23, 24, 25] [0, 0, 0, 0, 0, 0, 0, 0, 0, 0, 0, 0, 0, 0, 0, 0, 0, 0, 0, 0, 0, 0, 0, 0, 0, 0] mixed (by kernel_rfl) ?_
   repeat (refine aK ?_)
   refine aJ (i + 1 - (t + 1)) _ _ _ (by first | omega | (simp only [List.length_append, List.length_cons, List.length_nil]; omega)) aP aG aD (⟨t + 1, by omega, by omega, fun j g1 g2 g3 => ?_, rfl, rfl, rfl⟩)
   by_cases ej : j = t
   ·subst ej; exact ⟨b1, b2⟩
   ·exact ho j g1 (by omega) g3
  ·have h4 : ¬ (rsng p.ri ∧ rsng p.ci) := fun h => hb ⟨aWT h.1 ht1 (by omega), aWT h.2 ht1 (by omega)⟩
   rw [if_neg (show ¬ jI R n (i : Int) p = 0 by rw [aGX h1 h2 h3 h4]; decide), aGX h1 h2 h3 h4]
   by_cases b1 : gt p.ri ((t : Int) - 1) < gt p.ri (t : Int)
   ·have b2 : ¬ gt p.ci ((t : Int) - 1) < gt p.ci (t : Int) := fun h => hb ⟨b1, h⟩
    repeat (refine aK ?_)
    (repeat refine aI ?_); refine dW [0, 1, 2, 3, 4, 5, 6, 7, 8, 9, 10, 11, 12, 13, 14, 15, 16, 17, 18, 19, 20, 21, 22, 23, 24, 25] [0, 0, 0, 0, 0, 0, 0, 0, 0, 0, 0, 0, 0, 0, 0, 0, 0, 0, 0, 0, 0, 0, 0, 0, 0, 0] mixed (by kernel_rfl) ?_
    repeat (refine aK ?_)
    refine aF (by first | exact .inl rfl | exact .inr rfl) rfl rfl _ _ aG aD (⟨rfl, rfl, rfl⟩)
   ·repeat (refine aK ?_)
    (repeat refine aI ?_); refine dW [0, 1, 2, 3, 4, 5, 6, 7, 8, 9, 10, 11, 12, 13, 14, 15, 16, 17, 18, 19, 20, 21, 22, 23, 24, 25] [0, 0, 0, 0, 0, 0, 0, 0, 0, 0, 0, 0, 0, 0, 0, 0, 0, 0, 0, 0, 0, 0, 0, 0, 0, 0] mixed (by kernel_rfl) ?_
    repeat (refine aK ?_)
    refine aF (by first | exact .inl rfl | exact .inr rfl) rfl rfl _ _ aG aD (⟨rfl, rfl, rfl⟩)
 have h4 : rsng p.ri ∧ rsng p.ci := ⟨aWL (m := i) (by omega) (fun j g1 g2 => (ho j g1 (by omega) g2).1), aWL (m := i) (by omega) (fun j g1 g2 => (ho j g1 (by omega) g2).2)⟩
 clear ho
 by_cases h5a : (p.kn.rows.length : Int) = n - (i : Int)
 case neg =>
  have h5 : ¬ ((p.kn.rows.length : Int) = n - (i : Int) ∧ ∀ v ∈ p.kn.rows, v.es.length = n) := fun h => h5a h.1
  rw [if_neg (show ¬ jI R n (i : Int) p = 0 by rw [xN h1 h2 h3 h4 h5]; decide), xN h1 h2 h3 h4 h5]
  repeat (refine aK ?_)
  refine aF (by first | exact .inl rfl | exact .inr rfl) rfl rfl _ _ aG aD (⟨rfl, rfl, rfl⟩)
 repeat (refine aK ?_)
 refine qW (M' := M0) (I' := aQ (some ⟨b5, 0, none⟩) (eKW p) :: aQ m.p (recs eL m.rows) :: aQ p.kn.p (recs uO p.kn.rows) :: iE p.kn :: isW p.d :: aQ p.pc (recs eZ p.ci) :: aQ p.pr (recs eZ p.ri) :: fJ m 30 :: I0) SubP.refl aD ?_
 refine aM [0, 1, 5, 7, 129, 130] rfl (fun k G M I => ∃ t : Nat, t ≤ p.kn.rows.length ∧ k = p.kn.rows.length - t ∧ (∀ j : Nat, j < t → (gt p.kn.rows (j : Int)).es.length = n) ∧ G = [(131, .int .i64 t)] ∧ M0 = M ∧ I = aQ (some ⟨b5, 0, none⟩) (eKW p) :: aQ m.p (recs eL m.rows) :: aQ p.kn.p (recs uO p.kn.rows) :: iE p.kn :: isW p.d :: aQ p.pc (recs eZ p.ci) :: aQ p.pr (recs eZ p.ri) :: fJ m 30 :: I0) (p.kn.rows.length) _ _ _ aP aG aD (⟨0, by omega, by omega, fun j hj => by omega, rfl, rfl, rfl⟩) ?_
 rintro kk1 G M I ⟨t, ht, rfl, ho, rfl, rfl, rfl⟩
 by_cases htn : t < p.kn.rows.length
 ·by_cases hb : (gt p.kn.rows (t : Int)).es.length = n
  ·repeat (refine aK ?_)
   refine aJ (p.kn.rows.length - (t + 1)) _ _ _ (by first | omega | (simp only [List.length_append, List.length_cons, List.length_nil]; omega)) aP aG aD (⟨t + 1, by omega, by omega, aBO ho hb, rfl, rfl, rfl⟩)
  ·have h5 : ¬ ((p.kn.rows.length : Int) = n - (i : Int) ∧ ∀ v ∈ p.kn.rows, v.es.length = n) := fun h => hb (wW h.2 htn)
   rw [if_neg (show ¬ jI R n (i : Int) p = 0 by rw [xN h1 h2 h3 h4 h5]; decide), xN h1 h2 h3 h4 h5]
   repeat (refine aK ?_)
   refine aF (by first | exact .inl rfl | exact .inr rfl) rfl rfl _ _ aG aD (⟨rfl, rfl, rfl⟩)
 have h5 : (p.kn.rows.length : Int) = n - (i : Int) ∧ ∀ v ∈ p.kn.rows, v.es.length = n := ⟨h5a, aLY ho (by omega)⟩
 clear ho
 by_cases h6a : p.d.good
 case neg =>
  have h6 : ¬ (p.d.good ∧ ∀ v ∈ p.kn.rows, v.good) := fun h => h6a h.1
  rw [if_neg (show ¬ jI R n (i : Int) p = 0 by rw [wR h1 h2 h3 h4 h5 h6]; decide), wR h1 h2 h3 h4 h5 h6]
  rw [aX h6a] at hVd
  repeat (refine aK ?_)
  (refine aA rfl (hVd _ _ (Hv.mem aB)) rfl rfl ?_; rintro _ _ _ ⟨rfl, rfl, rfl⟩; refine ⟨okF, ?_⟩)
  repeat (refine aK ?_)
  refine aF (by first | exact .inl rfl | exact .inr rfl) rfl rfl _ _ aG aD (⟨rfl, rfl, rfl⟩)
 rw [bB h6a] at hVd
 repeat (refine aK ?_)
 (refine aA rfl (hVd _ _ (Hv.mem aB)) rfl rfl ?_; rintro _ _ _ ⟨rfl, rfl, rfl⟩; refine ⟨okF, ?_⟩)
 repeat (refine aK ?_)
 refine qW (M' := M0) (I' := aQ (some ⟨b5, 0, none⟩) (eKW p) :: aQ m.p (recs eL m.rows) :: aQ p.kn.p (recs uO p.kn.rows) :: iE p.kn :: isW p.d :: aQ p.pc (recs eZ p.ci) :: aQ p.pr (recs eZ p.ri) :: fJ m 30 :: I0) SubP.refl aD ?_
 refine aM [0, 1, 5, 145, 146] rfl (fun k G M I => ∃ s : Nat, s ≤ p.kn.rows.length ∧ k = p.kn.rows.length - s ∧ (∀ j : Nat, j < s → (gt p.kn.rows (j : Int)).good) ∧ G = [(147, .int .i64 s)] ∧ M0 = M ∧ I = aQ (some ⟨b5, 0, none⟩) (eKW p) :: aQ m.p (recs eL m.rows) :: aQ p.kn.p (recs uO p.kn.rows) :: iE p.kn :: isW p.d :: aQ p.pc (recs eZ p.ci) :: aQ p.pr (recs eZ p.ri) :: fJ m 30 :: I0) (p.kn.rows.length) _ _ _ aP aG aD (⟨0, by omega, by omega, fun j hj => by omega, rfl, rfl, rfl⟩) ?_
 rintro kk1 G M I ⟨s, hs, rfl, ho, rfl, rfl, rfl⟩
 by_cases hsn : s < p.kn.rows.length
 ·have hVl := fun M0 I0 h => vV (X := X) (w0 := w0) (M0 := M0) (I0 := I0) (r := gt p.kn.rows (s : Int)) (wW hpk.2 hsn) h
  refine dK (φ := vP (gt p.kn.rows (s : Int))) (Hv.wmrow aB (by omega)) ?_
  by_cases hb : (gt p.kn.rows (s : Int)).good
  ·rw [bB hb] at hVl
   repeat (refine aK ?_)
   (refine aA rfl (hVl _ _ aB) rfl rfl ?_; rintro _ _ _ ⟨rfl, rfl, rfl⟩; refine ⟨okF, ?_⟩)
   repeat (refine aK ?_)
   refine aJ (p.kn.rows.length - (s + 1)) _ _ _ (by first | omega | (simp only [List.length_append, List.length_cons, List.length_nil]; omega)) aP aG aD (⟨s + 1, by omega, by omega, aBO ho hb, rfl, rfl, rfl⟩)
  ·have h6 : ¬ (p.d.good ∧ ∀ v ∈ p.kn.rows, v.good) := fun h => hb (wW h.2 hsn)
   rw [if_neg (show ¬ jI R n (i : Int) p = 0 by rw [wR h1 h2 h3 h4 h5 h6]; decide), wR h1 h2 h3 h4 h5 h6]
   rw [aX hb] at hVl
   repeat (refine aK ?_)
   (refine aA rfl (hVl _ _ aB) rfl rfl ?_; rintro _ _ _ ⟨rfl, rfl, rfl⟩; refine ⟨okF, ?_⟩)
   repeat (refine aK ?_)
   refine aF (by first | exact .inl rfl | exact .inr rfl) rfl rfl _ _ aG aD (⟨rfl, rfl, rfl⟩)
 have h6b : ∀ v ∈ p.kn.rows, v.good := aLY ho (by omega)
 clear ho
 have hz := aMM h1 h2 h3 h4 h5 ⟨h6a, h6b⟩
 rw [if_pos hz]
 obtain ⟨hpe, hd9, hk9⟩ := he hz
 subst hpe
 have hcell : eKW e.raw = eKE e := by
  show ([Value.slice e.pr e.ri.length e.cr, Value.slice e.pc e.ci.length e.cc] : List Value) ++ (eW e.d.raw ++ [yI e.kn.raw]) = _
  rw [jT]
  rfl
 have hmvk : yI e.raw.kn = mv e.kn := jT _
 have hlk : e.raw.kn.rows.length = e.kn.rows.length := MX.raw_rows _
 have hrn : e.ri.length = i := by have : (e.ri.length : Int) = i := hri; omega
 have hcn : e.ci.length = i := by have : (e.ci.length : Int) = i := hci; omega
 have hI1' : inRng e.ri R := h3.1
 have hI2' : inRng e.ci n := h3.2
 have hkl' : (e.kn.rows.length : Int) = n - (i : Int) := by rw [← hlk]; exact h5a
 have hkc : ∀ x ∈ e.kn.rows, x.es.length = n := fun x hx => by
  have := h5.2 x.raw (List.mem_map.2 ⟨x, hx, rfl⟩)
  have e2 : (x.es.map RE.raw).length = n := this
  rwa [List.length_map] at e2
 have hil : i ≤ n ∧ i ≤ R := by omega
 have dk : e.kn.dim (n - i) n := ⟨by omega, hkc⟩
 have lk := dk.1
 have hz1 := aLJ hI1'
 have hz2 := aLJ hI2'
 obtain ⟨ix, hix0⟩ : ∃ ix, tN e.ri = ix := ⟨_, rfl⟩
 obtain ⟨jx, hjx0⟩ : ∃ jx, tN e.ci = jx := ⟨_, rfl⟩
 have lix : ix.length = i := by rw [← hix0, yS, hrn]
 have ljx : jx.length = i := by rw [← hjx0, yS, hcn]
 have hix : ∀ a : Nat, a < i → gt e.ri (a : Int) = ((ix.getD a 0 : Nat) : Int) ∧ ix.getD a 0 < R := fun a ha => ⟨by rw [← hz1, hix0]; exact xA (by omega), by rw [← hix0] at lix ⊢; exact aDQ hI1' _ (eP.2 ⟨a, by omega, rfl⟩)⟩
 have hjx : ∀ a : Nat, a < i → gt e.ci (a : Int) = ((jx.getD a 0 : Nat) : Int) ∧ jx.getD a 0 < n := fun a ha => ⟨by rw [← hz2, hjx0]; exact xA (by omega), by rw [← hjx0] at ljx ⊢; exact aDQ hI2' _ (eP.2 ⟨a, by omega, rfl⟩)⟩
 obtain ⟨dq, hdq⟩ : ∃ z, dt i (at2 (mnr m.q ix jx)) = z := ⟨_, rfl⟩
 have hP : prV m.q R n e ↔ e.d.q ≠ 0 ∧ e.d.q = dq ∧ rk e.kn.q n = n - i ∧ ∀ t ∈ List.range (n - i), ∀ s ∈ List.range R, aBH n (rowAt m.q s) (rowAt e.kn.q t) = 0 := by unfold prV; rw [hrn, hix0, hjx0, hdq]
 have hW := fun M0 I0 => sS (X := X) (w0 := w0) (M0 := M0) (I0 := I0) (x := 1) (by decide) (k := 0) (by decide)
 have hHD := hD7 (r := i) (by omega)
 rw [hcell]
 refine dK (φ := fJ e.kn kk) ⟨fun X w hw => hk9.go X w (fun φ hφ => hw φ (by repeat (first | exact hφ | apply List.Mem.tail)))⟩ ?_
 refine dK (φ := dX e.d kd) ⟨fun X w hw => hd9.go X w (fun φ hφ => hw φ (by repeat (first | exact hφ | apply List.Mem.tail)))⟩ ?_
 refine dK (φ := aQ e.kn.p (recs eL e.kn.rows)) (Hv.xsl aB) ?_
 refine qW (M' := M0) (I' := dX e.d kd :: fJ e.kn kk :: aQ (some ⟨b5, 0, none⟩) (eKE e) :: aQ m.p (recs eL m.rows) :: aQ e.kn.p (recs eL e.kn.rows) :: aQ e.pc (recs eZ e.ci) :: aQ e.pr (recs eZ e.ri) :: fJ m 30 :: I0) SubP.refl aD ?_
 clear h1 h2 h3 h4 h5 h5a h6b hz he hpk hpd hVd hp hll hkl
 repeat (refine aK ?_)
 (refine aA rfl (hW _ _) rfl rfl ?_; rintro _ _ _ ⟨rfl, e1, rfl, he1, rfl⟩; refine ⟨okF, ?_⟩)
 (refine aL rfl rfl ?_; intro b14; refine ⟨okF, ?_⟩)
 repeat (refine aK ?_)
 refine uX (fun G M I => ∃ e2 : RE, e2.q = dq ∧ G = [(0, mv m), (5, .pointer (some ⟨b5, 0, none⟩)), (14, .pointer (some ⟨b14, 0, none⟩))] ∧ M = .blk b14 (eR e2) 37 :: M0 ∧ I = dX e2 3357280 :: dX e.d kd :: fJ e.kn kk :: aQ (some ⟨b5, 0, none⟩) (eKE e) :: aQ m.p (recs eL m.rows) :: aQ e.kn.p (recs eL e.kn.rows) :: aQ e.pc (recs eZ e.ci) :: aQ e.pr (recs eZ e.ri) :: fJ m 30 :: I0) ?_ ?_
 ·by_cases h0 : i = 0
  ·repeat (refine aK ?_)
   refine gP (φ := dX e1 3357280) (Hv.q (k := 0) aB (by omega)) ?_
   refine kQ _ _ _ aP aG aD ⟨e1, ?_, rfl, rfl, rfl⟩
   rw [he1, ← hdq]; subst h0; rfl
  ·repeat (refine aK ?_)
   (refine aW (cs := recs eL []) ([]) rfl rfl (by intro v hv; repeat (first | exact absurd hv (List.not_mem_nil) | (rcases List.mem_cons.1 hv with rfl | hv; · rfl))) (by omega) rfl rfl rfl ?_; intro bo; refine ⟨okF, ?_⟩; refine fO (mm := 0) 1 .here rfl (by omega) ?_)
   repeat (refine aK ?_)
   rw [hrn]
   refine dK (φ := nS [] 30) Hv.nilL ?_
   refine qW (M' := .row (some ⟨bo, 0, none⟩) 0 0 (recs eL []) 39 1 :: .blk b14 (eR e1) 37 :: M0) (I' := nS [] 30 :: dX e1 0 :: dX e.d kd :: fJ e.kn kk :: aQ (some ⟨b5, 0, none⟩) (eKE e) :: aQ m.p (recs eL m.rows) :: aQ e.kn.p (recs eL e.kn.rows) :: aQ e.pc (recs eZ e.ci) :: aQ e.pr (recs eZ e.ri) :: fJ m 30 :: I0) SubP.refl aD ?_
   refine aM [0, 5, 14, 160, 161] rfl (fun k G M I => ∃ (t : Nat) (rs : List RL) (q : Option Addr) (c : Nat), t ≤ i ∧ k = i - t ∧ rs.length = t ∧ (∀ y ∈ rs, y.es.length = i) ∧ rs.map RL.q = mnr m.q (ix.take t) jx ∧ G = [(15, .slice q rs.length c), (162, .int .i64 t)] ∧ M = .row q rs.length c (recs eL rs) 39 1 :: .blk b14 (eR e1) 37 :: M0 ∧ I = nS rs 30 :: dX e1 0 :: dX e.d kd :: fJ e.kn kk :: aQ (some ⟨b5, 0, none⟩) (eKE e) :: aQ m.p (recs eL m.rows) :: aQ e.kn.p (recs eL e.kn.rows) :: aQ e.pc (recs eZ e.ci) :: aQ e.pr (recs eZ e.ri) :: fJ m 30 :: I0) (i) _ _ _ aP aG aD (⟨0, [], _, _, by omega, rfl, rfl, by simp, rfl, rfl, rfl, rfl⟩) ?_
   rintro kk2 G M I ⟨t, rs, q, c, hti, rfl, hrl, hrc, hrq, rfl, rfl, rfl⟩
   by_cases hin : t < i
   ·obtain ⟨g1, g2⟩ := hix t hin
    obtain ⟨z, hz⟩ : ∃ z, ix.getD t 0 = z := ⟨_, rfl⟩
    have hts := sV (l := ix) (i := t) (by omega)
    rw [hz] at g1 g2 hts
    have hrow := dm.1.row (i := z) g2
    refine dK (φ := aQ (gt m.rows (z : Int)).p (recs eR (gt m.rows (z : Int)).es)) (Hv.xrsl aB (by omega)) ?_
    refine dK (φ := nD (gt m.rows (z : Int)) 30) (Hv.xrow aB (by omega)) ?_
    repeat (refine aK ?_)
    rw [g1]
    repeat (refine aK ?_)
    (refine aW (cs := recs eR []) ([]) rfl rfl (by intro v hv; repeat (first | exact absurd hv (List.not_mem_nil) | (rcases List.mem_cons.1 hv with rfl | hv; · rfl))) (by omega) rfl rfl rfl ?_; intro bl; refine ⟨okF, ?_⟩; refine fO (mm := 0) 4 .here rfl (by omega) ?_)
    repeat (refine aK ?_)
    rw [hcn]
    refine dK (φ := dB [] 30) Hv.nilR ?_
    refine aM [0, 5, 14, 15, 17, 160, 161, 162, 168, 169] rfl (fun k G M I => ∃ (j : Nat) (es : List RE) (ql : Option Addr) (cl : Nat), j ≤ i ∧ k = i - j ∧ es.length = j ∧ qs es = (jx.take j).map (fun j => at2 m.q z j) ∧ G = [(18, .slice ql es.length cl), (170, .int .i64 j)] ∧ M = .row ql es.length cl (recs eR es) 37 4 :: .row q rs.length c (recs eL rs) 39 1 :: .blk b14 (eR e1) 37 :: M0 ∧ I = dB es 30 :: nD (gt m.rows (z : Int)) 30 :: aQ (gt m.rows (z : Int)).p (recs eR (gt m.rows (z : Int)).es) :: nS rs 30 :: dX e1 0 :: dX e.d kd :: fJ e.kn kk :: aQ (some ⟨b5, 0, none⟩) (eKE e) :: aQ m.p (recs eL m.rows) :: aQ e.kn.p (recs eL e.kn.rows) :: aQ e.pc (recs eZ e.ci) :: aQ e.pr (recs eZ e.ri) :: fJ m 30 :: I0) (i) _ _ _ aP aG aD (⟨0, [], _, _, by omega, rfl, rfl, rfl, rfl, rfl, rfl⟩) ?_
    rintro kk3 G M I ⟨j, es, ql, cl, hjr, rfl, hel, heq, rfl, rfl, rfl⟩
    by_cases hjn : j < i
    ·obtain ⟨f1, f2⟩ := hjx j hjn
     obtain ⟨y, hy⟩ : ∃ y, jx.getD j 0 = y := ⟨_, rfl⟩
     have ht2 := sV (l := jx) (i := j) (by omega)
     rw [hy] at f1 f2 ht2
     obtain ⟨f, hf⟩ : ∃ f, gt (gt m.rows (z : Int)).es (y : Int) = f := ⟨_, rfl⟩
     have hat := sN (m := m) (i := z) (j := y) (by omega) (by omega)
     rw [hf] at hat
     refine dK (φ := dX f 30) (by rw [← hf]; exact Hv.lel aB (by omega)) ?_
     repeat (refine aK ?_)
     rw [f1]
     repeat (refine aK ?_)
     rw [hf]
     (refine aW (cs := recs eR [f]) ([rv f]) rfl rfl (by intro v hv; repeat (first | exact absurd hv (List.not_mem_nil) | (rcases List.mem_cons.1 hv with rfl | hv; · rfl))) (by omega) rfl rfl rfl ?_; intro bv; refine ⟨okF, ?_⟩)
     (refine dD (ys := [f]) 1 rfl rfl rfl ?_ (by decide) rfl (by omega) (by omega) rfl rfl ?_; (· first | exact Src.blk aB | exact Src.row aB | exact Src.imm aB (by first | assumption | exact .inl (Ok.mk _ _))); intro q2 c3; refine ⟨okF, ?_⟩)
     repeat (refine aK ?_)
     refine gP (φ := dB (es ++ [f]) 30) (Hv.snoc aB aB) ?_
     refine aJ (i - (j + 1)) _ _ _ (by first | omega | (simp only [List.length_append, List.length_cons, List.length_nil]; omega)) aP aG aD (⟨j + 1, es ++ [f], q2, c3, by omega, rfl, by simp [hel], ?_, rfl, rfl, rfl⟩)
     rw [ht2, List.map_append, ← heq, List.map_singleton, hat]
     simp [qs]
    ·obtain rfl : j = i := by omega
     rw [← ljx, List.take_length] at heq
     refine aTE (k := 30) aB ?_
     obtain ⟨y, hy⟩ : ∃ y : RL, y = ⟨ql, cl, es⟩ := ⟨_, rfl⟩
     have hvv : Value.slice ql es.length cl = lv y := by rw [hy]
     have hyq : y.q = jx.map (fun j => at2 m.q z j) := by rw [hy]; exact heq
     have hyl : y.es.length = j := by rw [hy]; exact hel
     rw [hvv, ← hy]
     repeat (refine aK ?_)
     (refine aW (cs := recs eL [y]) ([lv y]) rfl rfl (by intro v hv; repeat (first | exact absurd hv (List.not_mem_nil) | (rcases List.mem_cons.1 hv with rfl | hv; · rfl))) (by omega) rfl rfl rfl ?_; intro b2; refine ⟨okF, ?_⟩)
     (refine dD (ys := [y]) 1 rfl rfl rfl ?_ (by decide) rfl (by omega) (by omega) rfl rfl ?_; (· first | exact Src.blk aB | exact Src.row aB | exact Src.imm aB (by first | assumption | exact .inl (Ok.mk _ _))); intro q2 c3; refine ⟨okF, ?_⟩)
     repeat (refine aK ?_)
     refine gP (φ := nS (rs ++ [y]) 30) (Hv.snocL aB aB) ?_
     refine aJ (j - (t + 1)) _ _ _ (by first | omega | (simp only [List.length_append, List.length_cons, List.length_nil]; omega)) aP aG aD (⟨t + 1, rs ++ [y], q2, c3, by omega, rfl, by simp [hrl], fun x hx => ?_, ?_, rfl, rfl, rfl⟩)
     ·rcases List.mem_append.1 hx with h | h
      ·exact hrc x h
      ·rw [List.mem_singleton.1 h]; exact hyl
     ·rw [yT, hrq, hts, aIN, hyq]
   ·obtain rfl : t = i := by omega
    rw [← lix, List.take_length] at hrq
    obtain ⟨y, hy⟩ : ∃ y : MX, y = ⟨q, c, rs⟩ := ⟨_, rfl⟩
    have hvv : Value.slice q rs.length c = mv y := by rw [hy]
    have hyq : y.q = mnr m.q ix jx := by rw [hy]; exact hrq
    have hyd : y.dim t t := by rw [hy]; exact ⟨hrl, hrc⟩
    refine aDJ (fun _ hw => Mem.toX (k := 30) hw aB) ?_
    rw [hvv, ← hy]
    have hDt := fun M0 I0 h => aMF t (X := X) (w0 := w0) (M0 := M0) (I0 := I0) (m := y) (k0 := 30) (by omega) (by omega) (by omega) hyd h
    rw [hyq, hdq] at hDt
    repeat (refine aK ?_)
    (refine aA rfl (hDt _ _ aB) rfl rfl ?_; rintro _ _ _ ⟨rfl, f, rfl, hf, rfl⟩; refine ⟨okF, ?_⟩)
    repeat (refine aK ?_)
    refine gP (φ := dX f 3357280) (Hv.q (k := hD 30 t) aB hHD) ?_
    refine kQ _ _ _ aP aG aD ⟨f, hf, rfl, rfl, rfl⟩
 ·rintro G M I ⟨e2, he2, rfl, rfl, rfl⟩
  have hSg := fun M0 I0 h => pU (X := X) (w0 := w0) (M0 := M0) (I0 := I0) (e := e2) (k := 3357280) (by omega) h
  have hSm := fun M0 I0 h1 h2 => aRO (X := X) (w0 := w0) (M0 := M0) (I0 := I0) (a := e2) (b := e.d) (k := 3357280) (m := kd) (by omega) h1 h2
  by_cases g1 : e2.q = 0
  ·rw [(kP _).2 g1] at hSg
   rw [if_neg (fun h => (hP.1 h).1 (by rw [(hP.1 h).2.1, ← he2, g1]))]
   repeat (refine aK ?_)
   (refine aA rfl (hSg _ _ (Hv.mem aB)) rfl rfl ?_; rintro _ _ _ ⟨rfl, rfl, rfl⟩; refine ⟨okF, ?_⟩)
   repeat (refine aK ?_)
   refine aF (by first | exact .inl rfl | exact .inr rfl) rfl rfl _ _ aG aD (⟨rfl, rfl, rfl⟩)
  have hs0 : ¬ e2.q.num.sign = 0 := fun h => g1 ((kP _).1 h)
  by_cases g2 : e2.q = e.d.q
  case neg =>
   rw [aX g2] at hSm
   rw [if_neg (fun h => g2 (by rw [he2, ← (hP.1 h).2.1]))]
   repeat (refine aK ?_)
   (refine aA rfl (hSg _ _ (Hv.mem aB)) rfl rfl ?_; rintro _ _ _ ⟨rfl, rfl, rfl⟩; refine ⟨okF, ?_⟩)
   repeat (refine aK ?_)
   (refine aA rfl (hSm _ _ (Hv.mem aB) (Hv.mem aB)) rfl rfl ?_; rintro _ _ _ ⟨rfl, rfl, rfl⟩; refine ⟨okF, ?_⟩)
   repeat (refine aK ?_)
   refine aF (by first | exact .inl rfl | exact .inr rfl) rfl rfl _ _ aG aD (⟨rfl, rfl, rfl⟩)
  rw [bB g2] at hSm
  repeat (refine aK ?_)
  (refine aA rfl (hSg _ _ (Hv.mem aB)) rfl rfl ?_; rintro _ _ _ ⟨rfl, rfl, rfl⟩; refine ⟨okF, ?_⟩)
  repeat (refine aK ?_)
  (refine aA rfl (hSm _ _ (Hv.mem aB) (Hv.mem aB)) rfl rfl ?_; rintro _ _ _ ⟨rfl, rfl, rfl⟩; refine ⟨okF, ?_⟩)
  repeat (refine aK ?_)
  refine qW (M' := M0) (I' := dX e.d kd :: fJ e.kn kk :: aQ (some ⟨b5, 0, none⟩) (eKE e) :: aQ m.p (recs eL m.rows) :: aQ e.kn.p (recs eL e.kn.rows) :: aQ e.pc (recs eZ e.ci) :: aQ e.pr (recs eZ e.ri) :: fJ m 30 :: I0) aG aD ?_
  refine aM [0, 5, 203, 204] rfl (fun k G M I => ∃ t : Nat, t ≤ n - i ∧ k = n - i - t ∧ (∀ s : Nat, s < t → ∀ j ∈ List.range R, aBH n (rowAt m.q j) (rowAt e.kn.q s) = 0) ∧ G = [(205, .int .i64 t)] ∧ M0 = M ∧ I = dX e.d kd :: fJ e.kn kk :: aQ (some ⟨b5, 0, none⟩) (eKE e) :: aQ m.p (recs eL m.rows) :: aQ e.kn.p (recs eL e.kn.rows) :: aQ e.pc (recs eZ e.ci) :: aQ e.pr (recs eZ e.ri) :: fJ m 30 :: I0) (n - i) _ _ _ aP aG aD (⟨0, by omega, by omega, fun s hs => by omega, rfl, rfl, rfl⟩) ?_
  rintro kk2 G M I ⟨t, ht, rfl, hok, rfl, rfl, rfl⟩
  by_cases htn : t < n - i
  ·have hkq := zA (m := e.kn) (i := t) (by omega)
   have hkl3 := dk.row (i := t) htn
   have hAp := fun M0 I0 h1 h2 => aOF (X := X) (w0 := w0) (M0 := M0) (I0 := I0) (a := m) (x := gt e.kn.rows (t : Int)) (R := R) (C := n) (k0 := 30) (m := kk) (by omega) hkk0 ⟨r1, r2⟩ ⟨c1, c2⟩ dm.1 hkl3 h1 h2
   refine dK (φ := nD (gt e.kn.rows (t : Int)) kk) (Hv.xrow aB (by omega)) ?_
   repeat (refine aK ?_)
   (refine aA rfl (hAp _ _ aB aB) rfl rfl ?_; rintro _ _ _ ⟨rfl, l, rfl, hl, rfl⟩; refine ⟨okF, ?_⟩)
   have hll : l.es.length = R := by have := congrArg List.length hl; simpa [RL.q, qs] using this
   have hNz := fun M0 I0 h => aJF (X := X) (w0 := w0) (M0 := M0) (I0 := I0) (x := l) (k := n * (30 + kk + 1)) (by have := Nat.mul_le_mul_right (30 + kk + 1) hn7; omega) (by omega) h
   have hzl : aCT l.q ↔ ∀ j ∈ List.range R, aBH n (rowAt m.q j) (rowAt e.kn.q t) = 0 := by
    rw [hl, hkq]
    unfold aCT
    constructor
    ·intro h j hj; exact h _ (List.mem_map.2 ⟨j, hj, rfl⟩)
    ·intro h x hx
     obtain ⟨j, hj, rfl⟩ := List.mem_map.1 hx
     exact h j hj
   by_cases h0 : aCT l.q
   ·rw [aX (fun h => h h0)] at hNz
    (refine aA rfl (hNz _ _ aB) rfl rfl ?_; rintro _ _ _ ⟨rfl, rfl, rfl⟩; refine ⟨okF, ?_⟩)
    repeat (refine aK ?_)
    refine aJ (n - i - (t + 1)) _ _ _ (by first | omega | (simp only [List.length_append, List.length_cons, List.length_nil]; omega)) aP aG aD (⟨t + 1, by omega, by omega, aBO hok (hzl.1 h0), rfl, rfl, rfl⟩)
   ·rw [bB h0] at hNz
    rw [if_neg (fun h => h0 (hzl.2 ((hP.1 h).2.2.2 t (List.mem_range.2 htn))))]
    (refine aA rfl (hNz _ _ aB) rfl rfl ?_; rintro _ _ _ ⟨rfl, rfl, rfl⟩; refine ⟨okF, ?_⟩)
    repeat (refine aK ?_)
    refine aF (by first | exact .inl rfl | exact .inr rfl) rfl rfl _ _ aG aD (⟨rfl, rfl, rfl⟩)
  ·have hall : ∀ s ∈ List.range (n - i), ∀ j ∈ List.range R, aBH n (rowAt m.q j) (rowAt e.kn.q s) = 0 := fun s hs => hok s (by have := List.mem_range.1 hs; omega)
   clear hok
   have hrkl := wN (kL dk)
   by_cases hni : n - i = 0
   ·rw [if_pos (hP.2 ⟨by rw [← g2]; exact g1, by rw [← g2, he2], by omega, hall⟩)]
    repeat (refine aK ?_)
    (repeat refine aI ?_); refine dW [0, 1, 2, 3, 4, 5, 6, 8, 9, 10, 7, 11, 12] [1, 1, 1, 1, 0, 1, 0, 1, 1, 1, 0, 0, 0] mixed (by kernel_rfl) ?_
    repeat (refine aK ?_)
    refine aF (by first | exact .inl rfl | exact .inr rfl) rfl rfl _ _ aG aD (⟨rfl, rfl, rfl⟩)
   ·have hRk := fun M0 I0 h => xZ (X := X) (w0 := w0) (M0 := M0) (I0 := I0) (a := e.kn) (R := n - i) (C := n) (k0 := kk) (by omega) (by omega) (by omega) dk h
    by_cases g3 : rk e.kn.q n = n - i
    ·rw [if_pos (hP.2 ⟨by rw [← g2]; exact g1, by rw [← g2, he2], g3, hall⟩)]
     repeat (refine aK ?_)
     (repeat refine aI ?_); refine dW [0, 1, 2, 3, 4, 5, 6, 8, 9, 10, 7, 11, 12] [1, 1, 1, 1, 0, 1, 0, 1, 1, 1, 0, 0, 0] mixed (by kernel_rfl) ?_
     repeat (refine aK ?_)
     (refine aA rfl (hRk _ _ aB) rfl rfl ?_; rintro _ _ _ ⟨rfl, rfl, rfl⟩; refine ⟨okF, ?_⟩)
     repeat (refine aK ?_)
     refine aF (by first | exact .inl rfl | exact .inr rfl) rfl rfl _ _ aG aD (⟨rfl, rfl, rfl⟩)
    ·rw [if_neg (fun h => g3 (hP.1 h).2.2.1)]
     repeat (refine aK ?_)
     (repeat refine aI ?_); refine dW [0, 1, 2, 3, 4, 5, 6, 8, 9, 10, 7, 11, 12] [1, 1, 1, 1, 0, 1, 0, 1, 1, 1, 0, 0, 0] mixed (by kernel_rfl) ?_
     repeat (refine aK ?_)
     (refine aA rfl (hRk _ _ aB) rfl rfl ?_; rintro _ _ _ ⟨rfl, rfl, rfl⟩; refine ⟨okF, ?_⟩)
     repeat (refine aK ?_)
     refine aF (by first | exact .inl rfl | exact .inr rfl) rfl rfl _ _ aG aD (⟨rfl, rfl, rfl⟩)
end
end Go.Proofs.YtkccjglmnhgabaaGreat
