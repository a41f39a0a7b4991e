/- Chapter 29's law: normal. matrix: zero, symmetric. Symmetric elimination, plain: pivots and leading determinants; the quadratic form as a sum of squares; witnesses. The document's SameList, SameMatrix, Symmetric, Nonzero, Form, Leading, Definite. The law ConsensusLists: Refit of the program; valid at every matrix; the law walked. The law ConsensusLists, walked. The law ConsensusDensest, walked. The arguments of the laws of Consensus, opened. -/
import Derived.Test.YtjbhdfpjnjedhaaGreatZobr
import Derived.Test.YtjbhdfpjnjedhaaGreatZoan
import Derived.Test.YtjbhdfpjnjedhaaGreatZobf
import Derived.Test.YtjbhdfpjnjedhaaGreatZobb
import Derived.Test.YtjbhdfpjnjedhaaGreatZobi
import Derived.Test.YtjbhdfpjnjedhaaGreatZobp
import Derived.Test.YtjbhdfpjnjedhaaGreatZobq
import Derived.Test.YtjbhdfpjnjedhaaGreatZoba
set_option linter.unusedSimpArgs false
set_option linter.unusedVariables false
set_option maxRecDepth 100000
set_option maxHeartbeats 4000000
namespace Go.Proofs.YtjbhdfpjnjedhaaGreat
open Go Go.Fx
theorem kb7 {K c : Nat} (hK : K ≤ 4224) (hc : c ≤ 7) : kb K c ≤ 100000000 := by
 refine Nat.le_trans (sV K hc) ?_
 show 4 * (4 * (4 * (4 * (4 * (4 * (4 * K + 1) + 1) + 1) + 1) + 1) + 1) + 1 ≤ _
 omega
section
variable {X : List Nat} {w0 : World} {M0 M1 M2 : List Ent} {I0 : List aY}
def NorR (R C : Nat) (A : Mt) (b : List Rat) (k : Nat) (M0 : List Ent) (I0 : List aY) (v : Value) (M : List Ent) (I : List aY) : Prop :=
 M0 = M ∧ if dt C (at2 (zG R C A)) = 0 then I0 = I ∧ v = .tuple #[.slice none 0 0, .bool false] else ∃ r : RL, v = .tuple #[lv r, .bool true] ∧ r.q = lsX R C A b ∧ I = jI r k :: I0
theorem aJE {a : MX} {b : RL} {R C : Nat} (hR : 1 ≤ R ∧ R ≤ 60) (hC : 1 ≤ C ∧ C ≤ 6) (da : a.dim R C) (hl : b.es.length = R) (ha : iT a 16 ∈ I0) (hb : jI b 16 ∈ I0) :
  CD Tryz.prog 45 [mv a, lv b] X w0 M0 I0 (NorR R C a.q b.q (kb (R * (16 + 16 + 1)) (C + 1)) M0 I0) := by
 have hT := fun M0 I0 h => aPP (aGR (X := X) (w0 := w0) (M0 := M0) (I0 := I0) (a := a) (R := R) (C := C) (k0 := 16) (by omega) (by omega) da h)
 obtain ⟨K, hK⟩ : ∃ K, R * (16 + 16 + 1) = K := ⟨_, rfl⟩
 have hK2 : K ≤ 1980 := by omega
 have hM := fun (y : MX) (hy : y.dim C R) M0 I0 h1 h2 => aPP (aEI (X := X) (w0 := w0) (M0 := M0) (I0 := I0) (a := y) (b := a) (R := C) (C := R) (D := C) (k0 := 16) (m := 16) (by omega) (by omega) (by omega) (by omega) (by omega) hy da h1 h2)
 have hA := fun (y : MX) (hy : y.dim C R) M0 I0 h1 h2 => aJP (X := X) (w0 := w0) (M0 := M0) (I0 := I0) (a := y) (x := b) (R := C) (C := R) (k0 := 16) (m := 16) (by omega) (by omega) (by omega) (by omega) hy hl h1 h2
 have hRk := fun (y : MX) (hy : y.dim C C) M0 I0 h1 => aQE (X := X) (w0 := w0) (M0 := M0) (I0 := I0) (a := y) (R := C) (C := C) (k0 := K) (Nat.le_trans (kb7 (by omega) (by omega)) (by omega)) (by omega) (by omega) hy h1
 have hS := fun (y : MX) (hy : y.dim C C) (r : RL) (hr : r.es.length = C) (hd : dt C (at2 y.q) ≠ 0) M0 I0 h1 h2 => aNN (X := X) (w0 := w0) (M0 := M0) (I0 := I0) (a := y) (b := r) (C := C) (u := K) (by omega) (Nat.le_trans (kb7 (by omega) (by omega)) (by omega)) hy hr hd h1 h2
 rw [hK] at hM hA ⊢
 refine aW Tryz.func45 rfl Tryz.ntmps45 rfl ?_
 repeat (refine aI ?_)
 (refine aA rfl (hT _ _ aB) rfl rfl ?_; rintro _ _ _ ⟨rfl, t, rfl, ht, htd, rfl⟩; refine ⟨okF, ?_⟩)
 repeat (refine aI ?_)
 (refine aA rfl (hM t htd _ _ aB aB) rfl rfl ?_; rintro _ _ _ ⟨rfl, y, rfl, hy, hyd, rfl⟩; refine ⟨okF, ?_⟩)
 have hyq : y.q = zG R C a.q := by
  rw [hy, ht]
  exact sD (fun i j hi hj => dH (fun s hs => by rw [oP hi hs]))
 have hyl := hyd.1
 have hle : rk y.q C ≤ C := by rw [hyq]; exact aXM aER
 repeat (refine aI ?_)
 (refine aA rfl (hRk y hyd _ _ aB) rfl rfl ?_; rintro _ _ _ ⟨rfl, rfl, rfl⟩; refine ⟨okF, ?_⟩)
 by_cases hd : dt C (at2 (zG R C a.q)) = 0
 ·have hlt : rk y.q C < C := by
   have : rk y.q C ≠ C := fun e => by rw [hyq] at e; exact (aVT aER).1 e hd
   omega
  repeat (refine aI ?_)
  refine iD (M' := M0) (I' := I0) aD aC ?_
  refine dV [4, 5] (by first | exact .inl rfl | exact .inr rfl) rfl rfl rfl _ _ aD aC (⟨rfl, by rw [if_pos hd]; exact ⟨rfl, rfl⟩⟩)
 ·have hge : rk y.q C = C := by rw [hyq]; exact (aVT aER).2 hd
  repeat (refine aI ?_)
  (refine aA rfl (hA t htd _ _ aB aB) rfl rfl ?_; rintro _ _ _ ⟨rfl, r, rfl, hr, rfl⟩; refine ⟨okF, ?_⟩)
  have hrq : r.q = nrB R C a.q b.q := by
   rw [hr, ht]
   unfold nrB
   exact List.map_congr_left (fun i hi => dH (fun s hs => by rw [oP (List.mem_range.1 hi) hs]))
  have hrl : r.es.length = C := by
   have h : r.q.length = C := by rw [hr]; simp
   rwa [show r.q.length = r.es.length from List.length_map _] at h
  (refine aA rfl (hS y hyd r hrl (by rw [hyq]; exact hd) _ _ aB aB) rfl rfl ?_; rintro _ _ _ ⟨rfl, z, rfl, hz, rfl⟩; refine ⟨okF, ?_⟩)
  repeat (refine aI ?_)
  refine iD (M' := M0) (I' := jI z (kb K (C + 1)) :: I0) aD aC ?_
  refine dV [4, 5] (by first | exact .inl rfl | exact .inr rfl) rfl rfl rfl _ _ aD aC (⟨rfl, by rw [if_neg hd]; exact ⟨z, rfl, by rw [hz, hyq, hrq, (aTK hd).2], rfl⟩⟩)
end
end Go.Proofs.YtjbhdfpjnjedhaaGreat
namespace Go.Proofs.YtjbhdfpjnjedhaaGreat
open Go Go.Fx
/- ---------- IndexFunc, ContainsFunc of []fiducial/api.Rat ---------- -/
section
variable {X : List Nat} {w0 : World} {M0 : List Ent} {I0 : List aY}
end
def zeroL (l : List Rat) : Prop := ∀ x ∈ l, x = 0
instance (l : List Rat) : Decidable (zeroL l) := inferInstanceAs (Decidable (∀ x ∈ l, x = 0))
def symM (A : Mt) (n : Nat) : Prop := ∀ i, i < n → ∀ j, j < i → at2 A i j = at2 A j i
instance (A : Mt) (n : Nat) : Decidable (symM A n) := inferInstanceAs (Decidable (∀ i, i < n → ∀ j, j < i → at2 A i j = at2 A j i))
def symC (A : Mt) (n : Nat) : Int := if symM A n then 0 else 11
section
variable {X : List Nat} {w0 : World} {M0 : List Ent} {I0 : List aY}
end
end Go.Proofs.YtjbhdfpjnjedhaaGreat
namespace Go.Proofs.YtjbhdfpjnjedhaaGreat
def rsF (f : Nat → Nat → Rat) : Nat → Nat → Nat → Rat
 | 0 => f
 | k + 1 => fun i j => if k < i ∧ k ≤ j then rsF f k i j - rsF f k i k / rsF f k k k * rsF f k k j else rsF f k i j
def bk (f : Nat → Nat → Rat) (k : Nat) : Nat → Nat → Rat := fun a b => rsF f k (a + k) (b + k)
def pvs (f : Nat → Nat → Rat) : Nat → Rat
 | 0 => 1
 | k + 1 => pvs f k * bk f k 0 0
def qf (f : Nat → Nat → Rat) (v : Nat → Rat) (n k : Nat) : Rat := sm (n - k) (fun a => sm (n - k) (fun b => bk f k a b * v (a + k) * v (b + k)))
def yk (f : Nat → Nat → Rat) (v : Nat → Rat) (n k : Nat) : Rat := v k + sm (n - (k + 1)) (fun a => bk f k (a + 1) 0 / bk f k 0 0 * v (a + (k + 1)))
end Go.Proofs.YtjbhdfpjnjedhaaGreat
namespace Go.Proofs.YtjbhdfpjnjedhaaGreat
open Go Go.Fx
def qfr (A : Mt) (v : List Rat) (n : Nat) : Rat := sm n (fun t => v.getD t 0 * sm n (fun j => at2 A t j * v.getD j 0))
section
variable {X : List Nat} {w0 : World} {M0 : List Ent} {I0 : List aY}
theorem aFX {x y : RL} {u m : Nat} (hk : u + m + 1 ≤ 100000000000) (lx : x.es.length ≤ 1000) (ly : y.es.length ≤ 1000) (hx : Hv I0 (jI x u)) (hy : Hv I0 (jI y m)) :
  CD Tryz.prog 105 [lv x, lv y] X w0 M0 I0 (fun v M I => M0 = M ∧ I0 = I ∧ v = .bool (B (x.q = y.q))) := by
 refine aQJ hx (aQJ (φ := jI y m) (hy.cons) ?_)
 refine bT (φ := aM (x).p (recs eR (x).es)) (Hv.lsl aB) ?_
 refine bT (φ := aM (y).p (recs eR (y).es)) (Hv.lsl aB) ?_
 by_cases hlen : x.es.length = y.es.length
 ·refine aW Tryz.func105 rfl Tryz.ntmps105 rfl ?_
  repeat (refine aI ?_)
  refine aP [0, 1] rfl (fun k G M I => ∃ i : Nat, i ≤ x.es.length ∧ k = x.es.length - i ∧ (∀ j : Nat, j < i → (gt x.es (j : Int)).q = (gt y.es (j : Int)).q) ∧ G = [(5, .int .i64 i)] ∧ M0 = M ∧ I = aM y.p (recs eR y.es) :: aM x.p (recs eR x.es) :: jI y m :: jI x u :: I0) (x.es.length) _ _ _ aO aD aC (⟨0, by omega, rfl, fun j hj => by omega, rfl, rfl, rfl⟩) ?_
  rintro kk G M I ⟨i, hi, rfl, hs, rfl, rfl, rfl⟩
  by_cases hi2 : i < x.es.length
  ·have hS := fun M0 I0 h1 h2 => aSH (X := X) (w0 := w0) (M0 := M0) (I0 := I0) (a := gt x.es (i : Int)) (b := gt y.es (i : Int)) (k := u) (m := m) (by omega) h1 h2
   by_cases he : (gt x.es (i : Int)).q = (gt y.es (i : Int)).q
   ·rw [bZ he] at hS
    repeat (refine aI ?_)
    (repeat refine aH ?_); refine bA 1 [0, 1, 2, 3, 4, 5, 6, 7, 8, 9] [1, 1, 1, 0, 1, 1, 1, 0, 0, 0] mixed (by kernel_rfl) ?_
    repeat (refine aI ?_)
    (refine aA rfl (hS _ _ (Hv.lel aB (by omega)) (Hv.lel aB (by omega))) rfl rfl ?_; rintro _ _ _ ⟨rfl, rfl, rfl⟩; refine ⟨okF, ?_⟩)
    repeat (refine aI ?_)
    refine aK (x.es.length - (i + 1)) _ _ _ (by first | omega | (simp only [List.length_append, List.length_cons, List.length_nil]; omega)) aO aD aC (⟨i + 1, by omega, rfl, fun j hj => ?_, rfl, rfl, rfl⟩)
    by_cases e : j = i
    ·subst e; exact he
    ·exact hs j (by omega)
   ·rw [bE he] at hS
    repeat (refine aI ?_)
    (repeat refine aH ?_); refine bA 1 [0, 1, 2, 3, 4, 5, 6, 7, 8, 9] [1, 1, 1, 0, 1, 1, 1, 0, 0, 0] mixed (by kernel_rfl) ?_
    repeat (refine aI ?_)
    (refine aA rfl (hS _ _ (Hv.lel aB (by omega)) (Hv.lel aB (by omega))) rfl rfl ?_; rintro _ _ _ ⟨rfl, rfl, rfl⟩; refine ⟨okF, ?_⟩)
    repeat (refine aI ?_)
    refine aG (by first | exact .inl rfl | exact .inr rfl) rfl rfl _ _ aD aC (⟨rfl, rfl, congrArg Value.bool (bE (fun e => he (q_at e hi2))).symm⟩)
  ·repeat (refine aI ?_)
   refine aG (by first | exact .inl rfl | exact .inr rfl) rfl rfl _ _ aD aC (⟨rfl, rfl, congrArg Value.bool (bZ (q_ext hlen (fun j hj => hs j (by omega)))).symm⟩)
 ·refine aW Tryz.func105 rfl Tryz.ntmps105 rfl ?_
  repeat (refine aI ?_)
  refine aG (by first | exact .inl rfl | exact .inr rfl) rfl rfl _ _ aD aC (⟨rfl, rfl, congrArg Value.bool (bE (fun e => hlen (by have := congrArg List.length e; simpa using this))).symm⟩)
theorem aCW {a b : MX} {n C k m : Nat} (hk : k + m + 1 ≤ 100000000000) (hn : n ≤ 64) (hC : C ≤ 64) (da : a.dim n C) (db : b.dim n C) (ha : iT a k ∈ I0) (hb : iT b m ∈ I0) :
  CD Tryz.prog 61 [mv a, mv b] X w0 M0 I0 (fun v M I => M0 = M ∧ I0 = I ∧ v = .bool (B (a.q = b.q))) := by
 have la := da.1
 have lb := db.1
 refine bT (φ := aM (a).p (recs eL (a).rows)) (Hv.xsl aB) ?_
 refine bT (φ := aM (b).p (recs eL (b).rows)) (Hv.xsl aB) ?_
 refine aW Tryz.func61 rfl Tryz.ntmps61 rfl ?_
 repeat (refine aI ?_)
 refine aP [0, 1] rfl (fun k G M I => ∃ i : Nat, i ≤ n ∧ k = n - i ∧ (∀ j : Nat, j < i → (gt a.rows (j : Int)).q = (gt b.rows (j : Int)).q) ∧ G = [(5, .int .i64 i)] ∧ M0 = M ∧ I = aM b.p (recs eL b.rows) :: aM a.p (recs eL a.rows) :: I0) (n) _ _ _ aO aD aC (⟨0, by omega, rfl, fun j hj => by omega, rfl, rfl, rfl⟩) ?_
 rintro kk G M I ⟨i, hi, rfl, hs, rfl, rfl, rfl⟩
 by_cases hi2 : i < n
 ·have c1 := da.row (i := i) (by omega)
  have c2 := db.row (i := i) (by omega)
  have hS := fun M0 I0 h1 h2 => aFX (X := X) (w0 := w0) (M0 := M0) (I0 := I0) (x := gt a.rows (i : Int)) (y := gt b.rows (i : Int)) (u := k) (m := m) hk (by omega) (by omega) h1 h2
  by_cases he : (gt a.rows (i : Int)).q = (gt b.rows (i : Int)).q
  ·rw [bZ he] at hS
   repeat (refine aI ?_)
   (repeat refine aH ?_); refine bA 1 [0, 1, 2, 3, 4, 5, 6, 7, 8, 9] [1, 1, 1, 0, 1, 1, 1, 0, 0, 0] mixed (by kernel_rfl) ?_
   repeat (refine aI ?_)
   (refine aA rfl (hS _ _ (Hv.xrow aB (by omega)) (Hv.xrow aB (by omega))) rfl rfl ?_; rintro _ _ _ ⟨rfl, rfl, rfl⟩; refine ⟨okF, ?_⟩)
   repeat (refine aI ?_)
   refine aK (n - (i + 1)) _ _ _ (by first | omega | (simp only [List.length_append, List.length_cons, List.length_nil]; omega)) aO aD aC (⟨i + 1, by omega, rfl, fun j hj => ?_, rfl, rfl, rfl⟩)
   by_cases e : j = i
   ·subst e; exact he
   ·exact hs j (by omega)
  ·rw [bE he] at hS
   repeat (refine aI ?_)
   (repeat refine aH ?_); refine bA 1 [0, 1, 2, 3, 4, 5, 6, 7, 8, 9] [1, 1, 1, 0, 1, 1, 1, 0, 0, 0] mixed (by kernel_rfl) ?_
   repeat (refine aI ?_)
   (refine aA rfl (hS _ _ (Hv.xrow aB (by omega)) (Hv.xrow aB (by omega))) rfl rfl ?_; rintro _ _ _ ⟨rfl, rfl, rfl⟩; refine ⟨okF, ?_⟩)
   repeat (refine aI ?_)
   refine aG (by first | exact .inl rfl | exact .inr rfl) rfl rfl _ _ aD aC (⟨rfl, rfl, congrArg Value.bool (bE (fun e => he (aXV e (by omega)))).symm⟩)
 ·repeat (refine aI ?_)
  refine aG (by first | exact .inl rfl | exact .inr rfl) rfl rfl _ _ aD aC (⟨rfl, rfl, congrArg Value.bool (bZ (aXX (by omega) (fun j hj => hs j (by omega)))).symm⟩)
end
end Go.Proofs.YtjbhdfpjnjedhaaGreat
namespace Go.Proofs.YtjbhdfpjnjedhaaGreat
open Go Go.Fx
theorem aEG {kd : Nat} {l : List Q4} (hk : kd ≤ 3) (h : kW l = 0) : tT (kd : Int) l = 0 := by
 unfold tT
 rw [if_pos h, if_pos (show kdP (kd : Int) from ⟨by omega, by omega⟩)]
section
variable {X : List Nat} {w0 : World} {M0 M1 M2 : List Ent} {I0 : List aY}
theorem aJD {A : MX} {u : Nat} (hu : u ≤ 110000000) (fA : A.fit 3 3) (ha : iT A u ∈ I0) : CD Tryz.prog 28 [mv A] X w0 M0 I0 (fun v M I => M0 = M ∧ I0 = I ∧ v = .bool (B (dt 3 (at2 A.q) ≠ 0))) := by
 refine pR (fun w hw => Mem.xsml ha fA (by omega) hw) (fun sa => ?_)
 have hC := fun M0 I0 h1 => aNK (X := X) (w0 := w0) (M0 := M0) (I0 := I0) (m := A.raw) sa h1
 rw [WM.code_ok fA.ok, aEU] at hC
 have hr : A.rows.length = 3 := fA.1.1
 have hr0 : (gt A.rows 0).es.length = 3 := fA.r0
 have hh : hD u 3 ≤ 50000000000 := by show (2 + 2) * (u + (1 + 2) * (u + (0 + 2) * (u + u + 1) + 1) + 1) ≤ _; omega
 have hDt := fun M0 I0 h1 => aKN 3 (X := X) (w0 := w0) (M0 := M0) (I0 := I0) (m := A) (k0 := u) (by omega) (by omega) hh fA.1 h1
 refine bT (φ := iT A u) (Hv.mem ha) (bT (φ := aM A.p (recs eL A.rows)) (Hv.xsl (k := u) aB) (bT (φ := xA A.raw) (Hv.xraw (k := u) aB (by omega)) ?_))
 refine aZ Tryz.func28 rfl Tryz.ntmps28 rfl ?_
 repeat (refine aI ?_)
 (refine aA rfl (hC _ _ aB) rfl rfl ?_; rintro _ _ _ ⟨rfl, rfl, rfl⟩; refine ⟨okF, ?_⟩)
 repeat (refine aI ?_)
 (refine aA rfl (hDt _ _ aB) rfl rfl ?_; rintro _ _ _ ⟨rfl, e, rfl, he, rfl⟩; refine ⟨okF, ?_⟩)
 repeat (refine aI ?_)
 (refine aA rfl (rU (e := e) (k := hD u 3) (by omega) (Hv.mem aB)) rfl rfl ?_; rintro _ _ _ ⟨rfl, rfl, rfl⟩; refine ⟨okF, ?_⟩)
 repeat (refine aI ?_)
 refine iD (M' := M0) (I' := I0) aD aC ?_
 refine aG (by first | exact .inl rfl | exact .inr rfl) rfl rfl _ _ aD aC (⟨rfl, rfl, congrArg Value.bool (iP (by rw [← he]; exact not_congr sgnQ))⟩)
def aNO (o : Option Mt) (k : Nat) (M0 : List Ent) (I0 : List aY) (v : Value) (M : List Ent) (I : List aY) : Prop := M0 = M ∧ match o with
 | none => I0 = I ∧ v = .tuple #[.slice none 0 0, .int .i64 13]
 | some A => ∃ m : MX, v = .tuple #[mv m, .int .i64 0] ∧ m.q = A ∧ m.dim 3 3 ∧ I = iT m k :: I0
theorem aNZ {kd : Nat} {q qs_ : Option Addr} {l : List Q4} {smp : List Int} {n c ns cs_ : Nat} (hk : kd ≤ 2) (hl : l.length = n) (hn : n ≤ 64) (hc : kW l = 0) (hsl : smp.length = ns) (hns : ns ≤ 64) (hls : sN n smp ≠ 0) (hq : aM q (recs kP l) ∈ I0) (hqs : aM qs_ (recs eZ smp) ∈ I0) :
  CD Tryz.prog 40 [.int .i64 (kd : Int), .slice q n c, .slice qs_ ns cs_] X w0 M0 I0 (fun v M I => M0 = M ∧ I0 = I ∧ v = .tuple #[.slice none 0 0, .int .i64 (sN n smp)]) := by
 have hK := fun M0 I0 h => yE (X := X) (w0 := w0) (M0 := M0) (I0 := I0) (x := (kd : Int)) (q := q) (l := l) (n := n) (c := c) hl (by omega) h
 rw [aEG (by omega) hc] at hK
 have hLs := fun M0 I0 h => aCB (X := X) (w0 := w0) (M0 := M0) (I0 := I0) (q := q) (qs := qs_) (l := l) (smp := smp) (n := n) (c := c) (ns := ns) (cs := cs_) hl (by omega) hsl (by omega) h
 generalize sN n smp = C at *
 refine jE Tryz.func40 rfl Tryz.ntmps40 rfl ?_
 repeat (refine aI ?_)
 (refine aA rfl (hK _ _ aB) rfl rfl ?_; rintro _ _ _ ⟨rfl, rfl, rfl⟩; refine ⟨okF, ?_⟩)
 repeat (refine aI ?_)
 (refine aA rfl (hLs _ _ aB) rfl rfl ?_; rintro _ _ _ ⟨rfl, rfl, rfl⟩; refine ⟨okF, ?_⟩)
 repeat (refine aI ?_)
 refine dV [6, 7] (by first | exact .inl rfl | exact .inr rfl) rfl rfl rfl _ _ aD aC (⟨rfl, rfl, rfl⟩)
theorem aQM {kd : Nat} {q qs_ : Option Addr} {l : List Q4} {smp : List Int} {n c ns cs_ : Nat} (hk : kd ≤ 2) (hl : l.length = n) (hn : n ≤ 64) (hs : ∀ s ∈ l, s.near) (hc : kW l = 0) (hsl : smp.length = ns) (hns : ns ≤ 64) (hls : sN n smp = 0) (hq : aM q (recs kP l) ∈ I0) (hqs : aM qs_ (recs eZ smp) ∈ I0) :
  CD Tryz.prog 40 [.int .i64 (kd : Int), .slice q n c, .slice qs_ ns cs_] X w0 M0 I0 (aNO (oK kd (dY l smp)) kX M0 I0) := by
 have hK := fun M0 I0 h => yE (X := X) (w0 := w0) (M0 := M0) (I0 := I0) (x := (kd : Int)) (q := q) (l := l) (n := n) (c := c) hl (by omega) h
 rw [aEG (by omega) hc] at hK
 have hLs := fun M0 I0 h => aCB (X := X) (w0 := w0) (M0 := M0) (I0 := I0) (q := q) (qs := qs_) (l := l) (smp := smp) (n := n) (c := c) (ns := ns) (cs := cs_) hl (by omega) hsl (by omega) h
 rw [hls] at hLs
 have hM := fun M0 I0 h1 h2 => aNY (X := X) (w0 := w0) (M0 := M0) (I0 := I0) (kd := kd) (q := q) (qs := qs_) (l := l) (smp := smp) (n := n) (c := c) (ns := ns) (cs := cs_) hk hl hn hs hsl hns (aKW hls) h1 h2
 unfold aNO
 unfold aMT at hM
 generalize oK kd (dY l smp) = o at *
 refine jE Tryz.func40 rfl Tryz.ntmps40 rfl ?_
 repeat (refine aI ?_)
 (refine aA rfl (hK _ _ aB) rfl rfl ?_; rintro _ _ _ ⟨rfl, rfl, rfl⟩; refine ⟨okF, ?_⟩)
 repeat (refine aI ?_)
 (refine aA rfl (hLs _ _ aB) rfl rfl ?_; rintro _ _ _ ⟨rfl, rfl, rfl⟩; refine ⟨okF, ?_⟩)
 rcases o with _ | A
 ·repeat (refine aI ?_)
  (refine aA rfl (hM _ _ aB aB) rfl rfl ?_; rintro _ _ _ ⟨rfl, rfl, u, rfl⟩; refine ⟨okF, ?_⟩)
  repeat (refine aI ?_)
  refine dV [6, 7] (by first | exact .inl rfl | exact .inr rfl) rfl rfl rfl _ _ aD aC (⟨rfl, rfl, rfl⟩)
 ·repeat (refine aI ?_)
  (refine aA rfl (hM _ _ aB aB) rfl rfl ?_; rintro _ _ _ ⟨rfl, m, rfl, hmq, hmd, rfl⟩; refine ⟨okF, ?_⟩)
  repeat (refine aI ?_)
  refine dV [6, 7] (by first | exact .inl rfl | exact .inr rfl) rfl rfl rfl _ _ aD aC (⟨rfl, m, rfl, hmq, hmd, rfl⟩)
end
end Go.Proofs.YtjbhdfpjnjedhaaGreat
namespace Go.Proofs.YtjbhdfpjnjedhaaGreat
open Go Go.Fx
theorem aBD {A : MX} {R C : Nat} (h : qO A.q R C) : A.dim R C := by
 have hl : A.rows.length = R := by have := h.1; simpa [MX.q] using this
 refine ⟨hl, fun r hr => ?_⟩
 obtain ⟨i, hi, rfl⟩ := List.mem_iff_getElem.1 hr
 have h2 := h.2 i (by omega)
 have e : rowAt A.q i = A.rows[i].q := by simp [rowAt, MX.q, List.getD, hi]
 rw [e] at h2
 rwa [show (A.rows[i].q).length = A.rows[i].es.length from List.length_map ..] at h2
section
variable {X : List Nat} {w0 : World} {M0 M1 M2 : List Ent} {I0 : List aY}
theorem aBG {x : Int} : CD Tryz.prog 13 [.int .i64 x] X w0 M0 I0 (fun v M I => M0 = M ∧ I0 = I ∧ v = .bool (B (kdP x))) := by
 refine aZ Tryz.func13 rfl Tryz.ntmps13 rfl ?_
 by_cases h0 : 0 ≤ x
 ·repeat (refine aI ?_)
  refine aG (by first | exact .inl rfl | exact .inr rfl) rfl rfl _ _ aD aC (⟨rfl, rfl, congrArg Value.bool (iP ⟨fun h => ⟨h0, h⟩, fun h => h.2⟩)⟩)
 ·repeat (refine aI ?_)
  refine aG (by first | exact .inl rfl | exact .inr rfl) rfl rfl _ _ aD aC (⟨rfl, rfl, congrArg Value.bool (bE (fun h => h0 h.1)).symm⟩)
theorem aSQ {a b : MX} {k m : Nat} (hk : k + m + 1 ≤ 100000000000) (da : a.dim 3 3) (db : b.dim 3 3) (ha : iT a k ∈ I0) (hb : iT b m ∈ I0) :
  CD Tryz.prog 18 [mv a, mv b] X w0 M0 I0 (fun v M I => M0 = M ∧ I0 = I ∧ v = .bool (B (a.q = b.q))) := by
 have hS := fun M0 I0 h1 h2 => aCW (X := X) (w0 := w0) (M0 := M0) (I0 := I0) (a := a) (b := b) (n := 3) (C := 3) (k := k) (m := m) hk (by omega) (by omega) da db h1 h2
 refine aW Tryz.func18 rfl Tryz.ntmps18 rfl ?_
 repeat (refine aI ?_)
 (refine aA rfl (hS _ _ aB aB) rfl rfl ?_; rintro _ _ _ ⟨rfl, rfl, rfl⟩; refine ⟨okF, ?_⟩)
 repeat (refine aI ?_)
 refine aG (by first | exact .inl rfl | exact .inr rfl) rfl rfl _ _ aD aC (⟨rfl, rfl, rfl⟩)
theorem aPJ {kd : Nat} {q qs_ : Option Addr} {l : List Q4} {smp : List Int} {n c ns cs_ : Nat} (hk : kd ≤ 2) (hl : l.length = n) (h10 : (n : Int) ≤ 10) (hsl : smp.length = ns) (h12 : ns ≤ 12) (hc : kW l = 0) (hq : aM q (recs kP l) ∈ I0) (hqs : aM qs_ (recs eZ smp) ∈ I0) :
  CD Tryz.prog 9 [.int .i64 (kd : Int), .slice q n c, .slice qs_ ns cs_] X w0 M0 I0 (fun v M I => M0 = M ∧ I0 = I ∧ v = .bool true) := by
 have hKn := fun M0 I0 => aAM (X := X) (w0 := w0) (M0 := M0) (I0 := I0)
 have hCh := fun M0 I0 h => aDT (X := X) (w0 := w0) (M0 := M0) (I0 := I0) (q := q) (l := l) (n := n) (c := c) hl (by omega) h
 have hIk := fun M0 I0 => aBG (X := X) (w0 := w0) (M0 := M0) (I0 := I0) (x := (kd : Int))
 rw [bZ (show kdP (kd : Int) from ⟨by omega, by omega⟩)] at hIk
 rw [hc] at hCh
 have hLl := fun M0 I0 h => aIN (X := X) (w0 := w0) (M0 := M0) (I0 := I0) (q := qs_) (l := smp) (n := ns) (m := n) (c := cs_) hsl (by omega) h
 obtain ⟨⟨hn1, hn2⟩, hs⟩ := zW hc
 refine bT (φ := aM q (recs kP l)) (Hv.mem hq) (bT (φ := aM qs_ (recs eZ smp)) (Hv.mem (List.mem_cons_of_mem _ hqs)) ?_)
 by_cases hls : sN n smp = 0
 case neg =>
  have hRf := fun M0 I0 h1 h2 => aNZ (X := X) (w0 := w0) (M0 := M0) (I0 := I0) (kd := kd) (q := q) (qs_ := qs_) (l := l) (smp := smp) (n := n) (c := c) (ns := ns) (cs_ := cs_) hk hl (by omega) hc hsl (by omega) hls h1 h2
  generalize sN n smp = C at *
  refine jE Tryz.func9 rfl Tryz.ntmps9 rfl ?_
  repeat (refine aI ?_)
  (refine aA rfl (hKn _ _) rfl rfl ?_; rintro _ _ _ ⟨rfl, rfl, rfl⟩; refine ⟨okF, ?_⟩)
  repeat (refine aI ?_)
  (refine aA rfl (aAE) rfl rfl ?_; rintro _ _ _ ⟨rfl, rfl, rfl⟩; refine ⟨okF, ?_⟩)
  repeat (refine aI ?_)
  (refine aA rfl (hIk _ _) rfl rfl ?_; rintro _ _ _ ⟨rfl, rfl, rfl⟩; refine ⟨okF, ?_⟩)
  repeat (refine aI ?_)
  (refine aA rfl (hCh _ _ aB) rfl rfl ?_; rintro _ _ _ ⟨rfl, rfl, rfl⟩; refine ⟨okF, ?_⟩)
  repeat (refine aI ?_)
  (refine aA rfl (hRf _ _ aB aB) rfl rfl ?_; rintro _ _ _ ⟨rfl, rfl, rfl⟩; refine ⟨okF, ?_⟩)
  repeat (refine aI ?_)
  (refine aA rfl (hLl _ _ aB) rfl rfl ?_; rintro _ _ _ ⟨rfl, rfl, rfl⟩; refine ⟨okF, ?_⟩)
  repeat (refine aI ?_)
  refine iD (M' := M0) (I' := I0) aD aC ?_
  refine aG (by first | exact .inl rfl | exact .inr rfl) rfl rfl _ _ aD aC (⟨rfl, rfl, congrArg Value.bool (bZ rfl)⟩)
 have hRf := fun M0 I0 h1 h2 => aQM (X := X) (w0 := w0) (M0 := M0) (I0 := I0) (kd := kd) (q := q) (qs_ := qs_) (l := l) (smp := smp) (n := n) (c := c) (ns := ns) (cs_ := cs_) hk hl (by omega) hs hc hsl (by omega) hls h1 h2
 have hin := aKW hls
 rw [hls] at hLl
 by_cases hns0 : ns = 0
 ·have hp : oK kd (dY l smp) = none := by
   have e : smp = [] := List.length_eq_zero_iff.1 (by omega)
   subst e
   rfl
  rw [hp] at hRf
  unfold aNO at hRf
  simp only at hRf
  refine jE Tryz.func9 rfl Tryz.ntmps9 rfl ?_
  repeat (refine aI ?_)
  (refine aA rfl (hKn _ _) rfl rfl ?_; rintro _ _ _ ⟨rfl, rfl, rfl⟩; refine ⟨okF, ?_⟩)
  repeat (refine aI ?_)
  (refine aA rfl (aAE) rfl rfl ?_; rintro _ _ _ ⟨rfl, rfl, rfl⟩; refine ⟨okF, ?_⟩)
  repeat (refine aI ?_)
  (refine aA rfl (hIk _ _) rfl rfl ?_; rintro _ _ _ ⟨rfl, rfl, rfl⟩; refine ⟨okF, ?_⟩)
  repeat (refine aI ?_)
  (refine aA rfl (hCh _ _ aB) rfl rfl ?_; rintro _ _ _ ⟨rfl, rfl, rfl⟩; refine ⟨okF, ?_⟩)
  repeat (refine aI ?_)
  (refine aA rfl (hRf _ _ aB aB) rfl rfl ?_; rintro _ _ _ ⟨rfl, rfl, rfl⟩; refine ⟨okF, ?_⟩)
  repeat (refine aI ?_)
  (refine aA rfl (hLl _ _ aB) rfl rfl ?_; rintro _ _ _ ⟨rfl, rfl, rfl⟩; refine ⟨okF, ?_⟩)
  repeat (refine aI ?_)
  refine iD (M' := M0) (I' := I0) aD aC ?_
  refine aG (by first | exact .inl rfl | exact .inr rfl) rfl rfl _ _ aD aC (⟨rfl, rfl, congrArg Value.bool (bZ rfl)⟩)
 have hpl : (dY l smp).length = ns := by rw [vD]; exact hsl
 have hpn : dY l smp ≠ [] := fun e => hns0 (by rw [← hpl, e]; rfl)
 have hfd : aOE kd (dY l smp) = dt (wT kd) (at2 (zG (2 * ns) (wT kd) (vQ kd (dY l smp)))) := by unfold aOE; rw [hpl]
 have hfx : aCX kd (dY l smp) = lsX (2 * ns) (wT kd) (vQ kd (dY l smp)) (dsB kd (dY l smp)) := by unfold aCX; rw [hpl]
 have hdA := aLK (k := kd) (l := dY l smp)
 have hdB := tN (k := kd) (l := dY l smp)
 rw [hpl] at hdA hdB
 have hC6 := aSL kd
 have hEq := fun M0 I0 h1 h2 => aCY (X := X) (w0 := w0) (M0 := M0) (I0 := I0) (kd := kd) (q := q) (qs_ := qs_) (l := l) (smp := smp) (n := n) (c := c) (ns := ns) (cs_ := cs_) hk hl (by omega) hs hsl (by omega) hin h1 h2
 have hNm := fun (A : MX) (b : RL) (dA : A.dim (2 * ns) (wT kd)) (hb : b.es.length = 2 * ns) M0 I0 h1 h2 => aJE (X := X) (w0 := w0) (M0 := M0) (I0 := I0) (a := A) (b := b) (R := 2 * ns) (C := wT kd) (by omega) (by omega) dA hb h1 h2
 obtain ⟨K, hK⟩ : ∃ K, kb (2 * ns * (16 + 16 + 1)) (wT kd + 1) = K := ⟨_, rfl⟩
 have hK2 : K ≤ 100000000 := by rw [← hK]; exact kb7 (by omega) (by omega)
 rw [hK] at hNm
 unfold NorR at hNm
 have hSh := fun (x : RL) (hx : x.es.length = wT kd) M0 I0 h => aMX (X := X) (w0 := w0) (M0 := M0) (I0 := I0) (kd := kd) (u := K) (x := x) hk (by omega) (by omega) h
 have hVa := fun (m : MX) (dm : m.dim 3 3) M0 I0 h => aJD (X := X) (w0 := w0) (M0 := M0) (I0 := I0) (A := m) (u := K) (by omega) ⟨dm, by omega, by omega⟩ h
 refine jE Tryz.func9 rfl Tryz.ntmps9 rfl ?_
 repeat (refine aI ?_)
 (refine aA rfl (hKn _ _) rfl rfl ?_; rintro _ _ _ ⟨rfl, rfl, rfl⟩; refine ⟨okF, ?_⟩)
 repeat (refine aI ?_)
 (refine aA rfl (aAE) rfl rfl ?_; rintro _ _ _ ⟨rfl, rfl, rfl⟩; refine ⟨okF, ?_⟩)
 repeat (refine aI ?_)
 (refine aA rfl (hIk _ _) rfl rfl ?_; rintro _ _ _ ⟨rfl, rfl, rfl⟩; refine ⟨okF, ?_⟩)
 repeat (refine aI ?_)
 (refine aA rfl (hCh _ _ aB) rfl rfl ?_; rintro _ _ _ ⟨rfl, rfl, rfl⟩; refine ⟨okF, ?_⟩)
 repeat (refine aI ?_)
 by_cases hd : dt (wT kd) (at2 (zG (2 * ns) (wT kd) (vQ kd (dY l smp)))) = 0
 ·have hp : oK kd (dY l smp) = none := by unfold oK; rw [if_neg hpn, if_pos (hfd.trans hd)]
  rw [hp] at hRf
  unfold aNO at hRf
  simp only at hRf
  (refine aA rfl (hRf _ _ aB aB) rfl rfl ?_; rintro _ _ _ ⟨rfl, rfl, rfl⟩; refine ⟨okF, ?_⟩)
  repeat (refine aI ?_)
  (refine aA rfl (hLl _ _ aB) rfl rfl ?_; rintro _ _ _ ⟨rfl, rfl, rfl⟩; refine ⟨okF, ?_⟩)
  repeat (refine aI ?_)
  (refine aA rfl (hEq _ _ aB aB) rfl rfl ?_; rintro _ _ _ ⟨rfl, A, b, rfl, hAq, hbq, rfl⟩; refine ⟨okF, ?_⟩)
  have hN2 := hNm A b (aBD (by rw [hAq]; exact hdA)) (by rw [show b.es.length = b.q.length from (List.length_map ..).symm, hbq]; exact hdB)
  rw [hAq, hbq] at hN2
  simp only [if_pos hd] at hN2
  repeat (refine aI ?_)
  (refine aA rfl (hN2 _ _ aB aB) rfl rfl ?_; rintro _ _ _ ⟨rfl, rfl, rfl⟩; refine ⟨okF, ?_⟩)
  repeat (refine aI ?_)
  refine iD (M' := M0) (I' := I0) aD aC ?_
  refine aG (by first | exact .inl rfl | exact .inr rfl) rfl rfl _ _ aD aC (⟨rfl, rfl, congrArg Value.bool (bZ rfl)⟩)
 by_cases hd3 : dt 3 (at2 (frm kd (lsX (2 * ns) (wT kd) (vQ kd (dY l smp)) (dsB kd (dY l smp))))) = 0
 ·have hp : oK kd (dY l smp) = none := by unfold oK; rw [if_neg hpn, if_neg (fun h => hd (hfd.symm.trans h)), hfx, if_pos hd3]
  rw [hp] at hRf
  unfold aNO at hRf
  simp only at hRf
  (refine aA rfl (hRf _ _ aB aB) rfl rfl ?_; rintro _ _ _ ⟨rfl, rfl, rfl⟩; refine ⟨okF, ?_⟩)
  repeat (refine aI ?_)
  (refine aA rfl (hLl _ _ aB) rfl rfl ?_; rintro _ _ _ ⟨rfl, rfl, rfl⟩; refine ⟨okF, ?_⟩)
  repeat (refine aI ?_)
  (refine aA rfl (hEq _ _ aB aB) rfl rfl ?_; rintro _ _ _ ⟨rfl, A, b, rfl, hAq, hbq, rfl⟩; refine ⟨okF, ?_⟩)
  have hN2 := hNm A b (aBD (by rw [hAq]; exact hdA)) (by rw [show b.es.length = b.q.length from (List.length_map ..).symm, hbq]; exact hdB)
  rw [hAq, hbq] at hN2
  simp only [if_neg hd] at hN2
  repeat (refine aI ?_)
  (refine aA rfl (hN2 _ _ aB aB) rfl rfl ?_; rintro _ _ _ ⟨rfl, r, rfl, hr, rfl⟩; refine ⟨okF, ?_⟩)
  have hrl : r.es.length = wT kd := by rw [show r.es.length = r.q.length from (List.length_map ..).symm, hr]; exact aFG
  repeat (refine aI ?_)
  (refine aA rfl (hSh r hrl _ _ aB) rfl rfl ?_; rintro _ _ _ ⟨rfl, m, rfl, hm, hmd, rfl⟩; refine ⟨okF, ?_⟩)
  (refine aA rfl (hVa m hmd _ _ aB) rfl rfl ?_; rintro _ _ _ ⟨rfl, rfl, rfl⟩; refine ⟨okF, ?_⟩)
  rw [bE (show ¬ dt 3 (at2 m.q) ≠ 0 from fun h => h (by rw [hm, hr]; exact hd3))]
  repeat (refine aI ?_)
  refine iD (M' := M0) (I' := I0) aD aC ?_
  refine aG (by first | exact .inl rfl | exact .inr rfl) rfl rfl _ _ aD aC (⟨rfl, rfl, congrArg Value.bool (bZ rfl)⟩)
 ·have hp : oK kd (dY l smp) = some (frm kd (lsX (2 * ns) (wT kd) (vQ kd (dY l smp)) (dsB kd (dY l smp)))) := by unfold oK; rw [if_neg hpn, if_neg (fun h => hd (hfd.symm.trans h)), hfx, if_neg hd3]
  rw [hp] at hRf
  unfold aNO at hRf
  simp only at hRf
  (refine aA rfl (hRf _ _ aB aB) rfl rfl ?_; rintro _ _ _ ⟨rfl, m0, rfl, hm0, hmd0, rfl⟩; refine ⟨okF, ?_⟩)
  repeat (refine aI ?_)
  (refine aA rfl (hLl _ _ aB) rfl rfl ?_; rintro _ _ _ ⟨rfl, rfl, rfl⟩; refine ⟨okF, ?_⟩)
  repeat (refine aI ?_)
  (refine aA rfl (hEq _ _ aB aB) rfl rfl ?_; rintro _ _ _ ⟨rfl, A, b, rfl, hAq, hbq, rfl⟩; refine ⟨okF, ?_⟩)
  have hN2 := hNm A b (aBD (by rw [hAq]; exact hdA)) (by rw [show b.es.length = b.q.length from (List.length_map ..).symm, hbq]; exact hdB)
  rw [hAq, hbq] at hN2
  simp only [if_neg hd] at hN2
  repeat (refine aI ?_)
  (refine aA rfl (hN2 _ _ aB aB) rfl rfl ?_; rintro _ _ _ ⟨rfl, r, rfl, hr, rfl⟩; refine ⟨okF, ?_⟩)
  have hrl : r.es.length = wT kd := by rw [show r.es.length = r.q.length from (List.length_map ..).symm, hr]; exact aFG
  repeat (refine aI ?_)
  (refine aA rfl (hSh r hrl _ _ aB) rfl rfl ?_; rintro _ _ _ ⟨rfl, m, rfl, hm, hmd, rfl⟩; refine ⟨okF, ?_⟩)
  (refine aA rfl (hVa m hmd _ _ aB) rfl rfl ?_; rintro _ _ _ ⟨rfl, rfl, rfl⟩; refine ⟨okF, ?_⟩)
  rw [bZ (show dt 3 (at2 m.q) ≠ 0 from fun h => hd3 (by rw [hm, hr] at h; exact h))]
  repeat (refine aI ?_)
  (refine aA rfl (hSh r hrl _ _ aB) rfl rfl ?_; rintro _ _ _ ⟨rfl, m2, rfl, hm2, hmd2, rfl⟩; refine ⟨okF, ?_⟩)
  repeat (refine aI ?_)
  have hSm := fun M0 I0 h1 h2 => aSQ (X := X) (w0 := w0) (M0 := M0) (I0 := I0) (a := m0) (b := m2) (k := kX) (m := K) (by show 103842564 + K + 1 ≤ _; omega) hmd0 hmd2 h1 h2
  rw [bZ (show m0.q = m2.q by rw [hm0, hm2, hr])] at hSm
  (refine aA rfl (hSm _ _ aB aB) rfl rfl ?_; rintro _ _ _ ⟨rfl, rfl, rfl⟩; refine ⟨okF, ?_⟩)
  repeat (refine aI ?_)
  refine iD (M' := M0) (I' := I0) aD aC ?_
  refine aG (by first | exact .inl rfl | exact .inr rfl) rfl rfl _ _ aD aC (⟨rfl, rfl, rfl⟩)
theorem LLsts {x : Int} {q qs_ : Option Addr} {l : List Q4} {smp : List Int} {n c ns cs_ : Nat} (hl : l.length = n) (hn : (n : Int) ≤ 9223372036854775807) (hsl : smp.length = ns) (hns : (ns : Int) ≤ 9223372036854775807) (hq : aM q (recs kP l) ∈ I0) (hqs : aM qs_ (recs eZ smp) ∈ I0) :
  CD Tryz.prog 9 [.int .i64 x, .slice q n c, .slice qs_ ns cs_] X w0 M0 I0 (fun v M I => M0 = M ∧ I0 = I ∧ v = .bool true) := by
 by_cases h : (n : Int) ≤ 10 ∧ ns ≤ 12 ∧ kdP x ∧ x ≠ 3 ∧ kW l = 0
 ·obtain ⟨h1, h2, h3, h4, h5⟩ := h
  obtain ⟨kd, rfl⟩ : ∃ kd : Nat, x = (kd : Int) := ⟨x.toNat, by have := h3.1; omega⟩
  have := h3.2
  exact aPJ (by omega) hl h1 hsl h2 h5 hq hqs
 have hKn := fun M0 I0 => aAM (X := X) (w0 := w0) (M0 := M0) (I0 := I0)
 have hCh := fun M0 I0 h => aDT (X := X) (w0 := w0) (M0 := M0) (I0 := I0) (q := q) (l := l) (n := n) (c := c) hl hn h
 have hIk := fun M0 I0 => aBG (X := X) (w0 := w0) (M0 := M0) (I0 := I0) (x := x)
 refine bT (φ := aM q (recs kP l)) (Hv.mem hq) ?_
 refine jE Tryz.func9 rfl Tryz.ntmps9 rfl ?_
 repeat (refine aI ?_)
 (refine aA rfl (hKn _ _) rfl rfl ?_; rintro _ _ _ ⟨rfl, rfl, rfl⟩; refine ⟨okF, ?_⟩)
 repeat (refine aI ?_)
 (refine aA rfl (aAE) rfl rfl ?_; rintro _ _ _ ⟨rfl, rfl, rfl⟩; refine ⟨okF, ?_⟩)
 by_cases h1 : (n : Int) ≤ 10
 case neg =>
  repeat (refine aI ?_)
  refine iD (M' := M0) (I' := I0) aD aC ?_
  refine aG (by first | exact .inl rfl | exact .inr rfl) rfl rfl _ _ aD aC (⟨rfl, rfl, rfl⟩)
 by_cases h2 : 12 < ns
 ·repeat (refine aI ?_)
  refine iD (M' := M0) (I' := I0) aD aC ?_
  refine aG (by first | exact .inl rfl | exact .inr rfl) rfl rfl _ _ aD aC (⟨rfl, rfl, rfl⟩)
 by_cases h3 : kdP x
 case neg =>
  rw [bE h3] at hIk
  repeat (refine aI ?_)
  (refine aA rfl (hIk _ _) rfl rfl ?_; rintro _ _ _ ⟨rfl, rfl, rfl⟩; refine ⟨okF, ?_⟩)
  repeat (refine aI ?_)
  refine iD (M' := M0) (I' := I0) aD aC ?_
  refine aG (by first | exact .inl rfl | exact .inr rfl) rfl rfl _ _ aD aC (⟨rfl, rfl, rfl⟩)
 rw [bZ h3] at hIk
 by_cases h4 : x = 3
 ·subst h4
  repeat (refine aI ?_)
  (refine aA rfl (hIk _ _) rfl rfl ?_; rintro _ _ _ ⟨rfl, rfl, rfl⟩; refine ⟨okF, ?_⟩)
  repeat (refine aI ?_)
  refine iD (M' := M0) (I' := I0) aD aC ?_
  refine aG (by first | exact .inl rfl | exact .inr rfl) rfl rfl _ _ aD aC (⟨rfl, rfl, rfl⟩)
 have h5 : kW l ≠ 0 := fun e => h ⟨h1, by omega, h3, h4, e⟩
 generalize kW l = C at *
 repeat (refine aI ?_)
 (refine aA rfl (hIk _ _) rfl rfl ?_; rintro _ _ _ ⟨rfl, rfl, rfl⟩; refine ⟨okF, ?_⟩)
 repeat (refine aI ?_)
 (refine aA rfl (hCh _ _ aB) rfl rfl ?_; rintro _ _ _ ⟨rfl, rfl, rfl⟩; refine ⟨okF, ?_⟩)
 repeat (refine aI ?_)
 refine iD (M' := M0) (I' := I0) aD aC ?_
 refine aG (by first | exact .inl rfl | exact .inr rfl) rfl rfl _ _ aD aC (⟨rfl, rfl, rfl⟩)
end
end Go.Proofs.YtjbhdfpjnjedhaaGreat
namespace Go.Proofs.YtjbhdfpjnjedhaaGreat
open Go Go.Fx
section
variable {X : List Nat} {w0 : World} {M0 M1 M2 : List Ent} {I0 : List aY}
end
end Go.Proofs.YtjbhdfpjnjedhaaGreat
namespace Go.Proofs.YtjbhdfpjnjedhaaGreat
open Go Go.Fx
open Go.ChangeShapes Go.WideShapes Go.RowKit Go.ChangeAt
section
variable {H : Type} {enc : TypeId × Value → H} {W : World}
theorem aPL {n : Nat} {cs : List Value} {y : DataW H × List MemPlace} (hl : cs.length = 2) (h : DataW.trod enc Tryz.prog W 0 (fun _ => true) true n 56 cs = some y) : ∃ a b : Int, cs = [.int .i64 a, .int .i64 b] := by
 obtain ⟨xs, rfl, hx, _⟩ := aOZ (k := .i64) (m := 2) Tryz.underlying56 (by kernel_rfl) (by intro f hf; simp at hf; rcases hf with rfl | rfl <;> exact Tryz.underlying3) hl h
 obtain ⟨a, b, rfl⟩ := aXH hx
 exact ⟨a, b, rfl⟩
theorem aXP {n : Nat} {cs : List Value} {y : DataW H × List MemPlace} (h : DataW.trod enc Tryz.prog W 0 (fun _ => true) true n 65 cs = some y) : ∃ s : Q4, cs = kP s ∧ True := by
 obtain ⟨hl, n', z0, z1, h0, h1⟩ := aQY (t0 := 56) (t1 := 56) (m := 2) (k := 2) Tryz.underlying65 (by rfl) (by kernel_rfl) (by kernel_rfl) (by kernel_rfl) h
 obtain ⟨a, b, e0⟩ := aPL (by rw [List.length_take]; omega) h0
 obtain ⟨c, d, e1⟩ := aPL (by rw [List.length_drop]; omega) h1
 refine ⟨⟨a, b, c, d⟩, ?_, trivial⟩
 rw [← List.take_append_drop 2 cs, e0, e1]
 rfl
theorem aQP {base : Nat} {v : Value} {d : DataW H} {p : List MemPlace} (hv : Value.okWide Tryz.prog W .any base 22 v) (h : DataW.Trod enc Tryz.prog W 0 (fun _ => true) true 22 v d p) : ∃ (a : Option Addr) (ps : List Q4) (c : Nat), v = .slice a ps.length c ∧ Sl [] W a (recs kP ps) ∧ (ps.length : Int) ≤ 9223372036854775807 := by
 obtain ⟨a, ms, c, e, s, m, l, k, _⟩ := aGZ (en := kP) (Pm := fun _ => True) Tryz.underlying22 (fun r n y _ hy => aXP hy) hv h
 exact ⟨a, ms, c, e, s, l⟩
end
end Go.Proofs.YtjbhdfpjnjedhaaGreat
