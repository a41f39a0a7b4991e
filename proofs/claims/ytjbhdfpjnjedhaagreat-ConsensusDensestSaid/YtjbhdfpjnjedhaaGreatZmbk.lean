/- Chapter 29's law: few, near, check, whole; Abs; within, densest. -/
import Derived.Test.YtjbhdfpjnjedhaaGreatZmbj
import Derived.Test.YtjbhdfpjnjedhaaGreatZmav
import Derived.Test.YtjbhdfpjnjedhaaGreatZmam
set_option linter.unusedSimpArgs false
set_option linter.unusedVariables false
set_option maxRecDepth 100000
set_option maxHeartbeats 4000000
namespace Go.Proofs.YtjbhdfpjnjedhaaGreat
open Go Go.Fx
theorem sgnN {q : Rat} : q.num.sign < 0 ↔ q < 0 := by
 have h1 : q.num.sign < 0 ↔ q.num < 0 := by
  rcases Int.lt_trichotomy q.num 0 with h | h | h
  ·rw [Int.sign_eq_neg_one_of_neg h]; omega
  ·rw [h]; simp
  ·rw [Int.sign_eq_one_of_pos h]; omega
 rw [h1, aNC]
 simp
theorem aKU {l : List (Int × Int)} {t : Int} {s r : Rat} {i : Nat} (h : i < l.length) : (l.take (i + 1)).countP (uA t s r) = (l.take i).countP (uA t s r) + (if uA t s r (l.getD i (0, 0)) = true then 1 else 0) := by
 have e : l.take (i + 1) = l.take i ++ [l[i]] := (List.take_append_getElem h).symm
 have e2 : l.getD i (0, 0) = l[i] := by simp [List.getD, h]
 rw [e, e2, List.countP_append, List.countP_singleton]
theorem aCT {l : List Q4} {i : Nat} (h : i < l.length) : (iP l).getD i (0, 0) = ((gt l (i : Int)).u - (gt l (i : Int)).x, (gt l (i : Int)).v - (gt l (i : Int)).y) := by
 rw [gtQ h]; simp [iP, List.getD, h]
section
variable {X : List Nat} {w0 : World} {M0 M1 M2 : List Ent} {I0 : List aX}
theorem aRY {q : Option Addr} {n c : Nat} {m : Int} : CD Tryz.prog 11 [.slice q n c, .int .i64 m] X w0 M0 I0 (fun v M I => M0 = M ∧ I0 = I ∧ v = .bool (B ((n : Int) ≤ m))) := by
 refine bB Tryz.func11 rfl Tryz.ntmps11 rfl ?_
 repeat (refine aL ?_)
 refine aJ (by first | exact .inl rfl | exact .inr rfl) rfl rfl _ _ aF aD (⟨rfl, rfl, rfl⟩)
theorem aNX {a b : Int} : CD Tryz.prog 31 [.agg #[.int .i64 a, .int .i64 b]] X w0 M0 I0 (fun v M I => M0 = M ∧ I0 = I ∧ v = .bool (B (¬ farC a b))) := by
 refine bA Tryz.func31 rfl Tryz.ntmps31 rfl ?_
 refine aG ?_
 refine aH ?_
 (refine aR rfl rfl rfl ?_; intro b1; refine ⟨okF, ?_⟩)
 by_cases h1 : -32768 ≤ a
 ·by_cases h2 : a ≤ 32768
  ·by_cases h3 : -32768 ≤ b
   ·by_cases h4 : b ≤ 32768
    ·repeat (refine aL ?_)
     refine iV (M' := M0) (I' := I0) aF aD ?_
     refine aJ (by first | exact .inl rfl | exact .inr rfl) rfl rfl _ _ aF aD (⟨rfl, rfl, congrArg Value.bool ((cB h4).trans (cB (show ¬ farC a b by unfold farC; omega)).symm)⟩)
    ·repeat (refine aL ?_)
     refine iV (M' := M0) (I' := I0) aF aD ?_
     refine aJ (by first | exact .inl rfl | exact .inr rfl) rfl rfl _ _ aF aD (⟨rfl, rfl, congrArg Value.bool ((bE h4).trans (bE (show ¬ ¬ farC a b by unfold farC; omega)).symm)⟩)
   ·repeat (refine aL ?_)
    refine iV (M' := M0) (I' := I0) aF aD ?_
    refine aJ (by first | exact .inl rfl | exact .inr rfl) rfl rfl _ _ aF aD (⟨rfl, rfl, congrArg Value.bool (bE (show ¬ ¬ farC a b by unfold farC; omega)).symm⟩)
  ·repeat (refine aL ?_)
   refine iV (M' := M0) (I' := I0) aF aD ?_
   refine aJ (by first | exact .inl rfl | exact .inr rfl) rfl rfl _ _ aF aD (⟨rfl, rfl, congrArg Value.bool (bE (show ¬ ¬ farC a b by unfold farC; omega)).symm⟩)
 ·repeat (refine aL ?_)
  refine iV (M' := M0) (I' := I0) aF aD ?_
  refine aJ (by first | exact .inl rfl | exact .inr rfl) rfl rfl _ _ aF aD (⟨rfl, rfl, congrArg Value.bool (bE (show ¬ ¬ farC a b by unfold farC; omega)).symm⟩)
theorem aLV {q : Option Addr} {l : List Q4} {n c : Nat} (hl : l.length = n) (hn : (n : Int) ≤ 9223372036854775807) (hq : aQ q (recs jZ l) ∈ I0) : CD Tryz.prog 12 [.slice q n c] X w0 M0 I0 (fun v M I => M0 = M ∧ I0 = I ∧ v = .int .i64 (jY l)) := by
 have hN := fun a b M0 I0 => aNX (X := X) (w0 := w0) (M0 := M0) (I0 := I0) (a := a) (b := b)
 refine dW (φ := aQ q (recs jZ l)) (Hv.mem hq) ?_
 refine bA Tryz.func12 rfl Tryz.ntmps12 rfl ?_
 by_cases h0 : n = 0
 ·rw [show jY l = 1 by unfold jY; rw [if_pos (by omega)]]
  repeat (refine aL ?_)
  refine aJ (by first | exact .inl rfl | exact .inr rfl) rfl rfl _ _ aF aD (⟨rfl, rfl, rfl⟩)
 by_cases h1 : 64 < n
 ·rw [show jY l = 3 by unfold jY; rw [if_neg (by omega), if_pos (by omega)]]
  repeat (refine aL ?_)
  refine aJ (by first | exact .inl rfl | exact .inr rfl) rfl rfl _ _ aF aD (⟨rfl, rfl, rfl⟩)
 have ec : jY l = if anyFar l then 2 else 0 := by unfold jY; rw [if_neg (by omega), if_neg (by omega)]
 repeat (refine aL ?_)
 refine aW [11, 12] rfl (fun k G M I => ∃ i : Nat, i ≤ n ∧ k = n - i ∧ (∀ j : Nat, j < i → ¬ (gt l (j : Int)).far) ∧ G = [(13, .int .i64 i)] ∧ M0 = M ∧ I = aQ q (recs jZ l) :: I0) (n) _ _ _ aS aF aD (⟨0, by omega, rfl, fun j hj => by omega, rfl, rfl, rfl⟩) ?_
 rintro kk G M I ⟨i, hi, rfl, hnf, rfl, rfl, rfl⟩
 by_cases hin : i < n
 ·have hmem := dX (ms := l) (i := (i : Int)) (by omega)
  have hnx : ∀ j : Nat, ¬ (gt l (i : Int)).far → j < i + 1 → ¬ (gt l (j : Int)).far := fun j h hj => by
   by_cases e : j = i
   ·subst e; exact h
   ·exact hnf j (by omega)
  obtain ⟨s, hss⟩ : ∃ s, gt l (i : Int) = s := ⟨_, rfl⟩
  rw [hss] at hmem hnx
  repeat (refine aL ?_)
  rw [hss]
  (refine aI rfl rfl ?_; intro b4; refine ⟨okF, ?_⟩)
  repeat (refine aL ?_)
  by_cases f1 : farC s.x s.y
  ·have e2 : jY l = 2 := by rw [ec, if_pos ⟨s, hmem, .inl f1⟩]
   rw [e2]
   have hN1 := hN s.x s.y
   rw [bE (show ¬ ¬ farC s.x s.y from fun h => h f1)] at hN1
   (refine aA rfl (hN1 _ _) rfl rfl ?_; rintro _ _ _ ⟨rfl, rfl, rfl⟩; refine ⟨okF, ?_⟩)
   repeat (refine aL ?_)
   refine iV (M' := M0) (I' := I0) aF aD ?_
   refine aJ (by first | exact .inl rfl | exact .inr rfl) rfl rfl _ _ aF aD (⟨rfl, rfl, rfl⟩)
  ·have hN1 := hN s.x s.y
   rw [cB (show ¬ farC s.x s.y from f1)] at hN1
   (refine aA rfl (hN1 _ _) rfl rfl ?_; rintro _ _ _ ⟨rfl, rfl, rfl⟩; refine ⟨okF, ?_⟩)
   repeat (refine aL ?_)
   by_cases f2 : farC s.u s.v
   ·have e2 : jY l = 2 := by rw [ec, if_pos ⟨s, hmem, .inr f2⟩]
    rw [e2]
    have hN2 := hN s.u s.v
    rw [bE (show ¬ ¬ farC s.u s.v from fun h => h f2)] at hN2
    (refine aA rfl (hN2 _ _) rfl rfl ?_; rintro _ _ _ ⟨rfl, rfl, rfl⟩; refine ⟨okF, ?_⟩)
    repeat (refine aL ?_)
    refine iV (M' := M0) (I' := I0) aF aD ?_
    refine aJ (by first | exact .inl rfl | exact .inr rfl) rfl rfl _ _ aF aD (⟨rfl, rfl, rfl⟩)
   ·have hN2 := hN s.u s.v
    rw [cB (show ¬ farC s.u s.v from f2)] at hN2
    (refine aA rfl (hN2 _ _) rfl rfl ?_; rintro _ _ _ ⟨rfl, rfl, rfl⟩; refine ⟨okF, ?_⟩)
    repeat (refine aL ?_)
    refine aK (n - (i + 1)) _ _ _ (by first | omega | (simp only [List.length_append, List.length_cons, List.length_nil]; omega)) aS aF aD (⟨i + 1, by omega, rfl, fun j hj => hnx j (fun h => h.elim f1 f2) hj, rfl, rfl, rfl⟩)
 ·obtain rfl : i = n := by omega
  have e2 : jY l = 0 := by
   rw [ec, if_neg]
   rintro ⟨s, hs, hf⟩
   obtain ⟨j, hj, rfl⟩ := List.mem_iff_getElem.1 hs
   exact hnf j (by omega) (by rw [gtQ hj]; exact hf)
  rw [e2]
  repeat (refine aL ?_)
  refine aJ (by first | exact .inl rfl | exact .inr rfl) rfl rfl _ _ aF aD (⟨rfl, rfl, rfl⟩)
theorem qU {x : Int} (hx : -9223372036854775808 ≤ x ∧ x ≤ 9223372036854775807) {k : Nat} (hk : x.natAbs ≤ 2 ^ k) : CD Tryz.prog 66 [.int .i64 x] X w0 M0 I0 (RQ (x : Rat) k M0 I0) := by
 refine bA Tryz.func66 rfl Tryz.ntmps66 rfl ?_
 refine aG ?_
 refine aH ?_
 (refine aI rfl rfl ?_; intro b2; refine ⟨okF, ?_⟩)
 repeat (refine aL ?_)
 (refine aA rfl (aHR hx hk) rfl rfl ?_; rintro _ _ _ ⟨rfl, e, rfl, he, rfl⟩; refine ⟨okF, ?_⟩)
 repeat (refine aL ?_)
 refine bC (cs := eR e) (.inl rfl) rfl rfl aB rfl M0 (dM e k :: I0) aF aD ⟨rfl, e, rfl, he, rfl⟩
theorem aRJ {e : RE} {k : Nat} (hk : k ≤ 100000000000) (he : Hv I0 (dM e k)) : CD Tryz.prog 68 [rv e] X w0 M0 I0 (RQ (abR e.q) k M0 I0) := by
 have hS := fun M0 I0 h => aBS (X := X) (w0 := w0) (M0 := M0) (I0 := I0) (e := e) (k := k) hk h
 have hN := fun M0 I0 h => aEN (X := X) (w0 := w0) (M0 := M0) (I0 := I0) (e := e) (k := k) hk h
 have hV := fun M0 I0 h => oM (X := X) (w0 := w0) (M0 := M0) (I0 := I0) (e := e) (k := k) hk h
 refine dW (φ := dM e k) he ?_
 refine bA Tryz.func68 rfl Tryz.ntmps68 rfl ?_
 refine aG ?_
 refine aH ?_
 (refine aR rfl rfl rfl ?_; intro b1; refine ⟨okF, ?_⟩)
 (refine aI rfl rfl ?_; intro b2; refine ⟨okF, ?_⟩)
 repeat (refine aL ?_)
 (refine aA rfl (hS _ _ (Hv.mem aB)) rfl rfl ?_; rintro _ _ _ ⟨rfl, rfl, rfl⟩; refine ⟨okF, ?_⟩)
 by_cases h0 : e.q < 0
 ·have h1 := sgnN.2 h0
  repeat (refine aL ?_)
  (refine aA rfl (hN _ _ (Hv.mem aB)) rfl rfl ?_; rintro _ _ _ ⟨rfl, f, rfl, hf, rfl⟩; refine ⟨okF, ?_⟩)
  repeat (refine aL ?_)
  refine bC (cs := eR f) (.inl rfl) rfl rfl aB rfl M0 (dM f k :: I0) aF aD ⟨rfl, f, rfl, by rw [hf]; unfold abR; rw [if_pos h0], rfl⟩
 ·have h1 : ¬ e.q.num.sign < 0 := fun h => h0 (sgnN.1 h)
  repeat (refine aL ?_)
  (refine aA rfl (hV _ _ (Hv.mem aB)) rfl rfl ?_; rintro _ _ _ ⟨rfl, rfl, rfl⟩; refine ⟨okF, ?_⟩)
  repeat (refine aL ?_)
  refine bC (cs := eR e) (.inl rfl) rfl rfl aB rfl M0 (dM e k :: I0) aF aD ⟨rfl, e, rfl, by unfold abR; rw [if_neg h0], rfl⟩
theorem zX {q : Option Addr} {l : List Q4} {n c k0 : Nat} {tol : Int} {a b : RE} (hk : k0 ≤ 1000) (hl : l.length = n) (hn : n ≤ 64) (hs : ∀ s ∈ l, s.near) (ht : 0 ≤ tol ∧ tol ≤ 32768) (hq : aQ q (recs jZ l) ∈ I0) (ha : Hv I0 (dM a k0)) (hb : Hv I0 (dM b k0)) :
  CD Tryz.prog 25 [.slice q n c, .int .i64 tol, rv a, rv b] X w0 M0 I0 (fun v M I => M0 = M ∧ I0 = I ∧ v = .int .i64 (((iP l).countP (uA tol a.q b.q) : Nat) : Int)) := by
 have e16 : 2 ^ 16 = 65536 := rfl
 have hT := fun M0 I0 => qU (X := X) (w0 := w0) (M0 := M0) (I0 := I0) (x := tol) (by omega) (k := 15) (by rw [e15]; omega)
 have hS := fun (x y : RE) M0 I0 h1 h2 => aDS (X := X) (w0 := w0) (M0 := M0) (I0 := I0) (a := x) (b := y) (k := 16) (m := k0) (by omega) h1 h2
 have hA := fun (x : RE) M0 I0 h1 => aRJ (X := X) (w0 := w0) (M0 := M0) (I0 := I0) (e := x) (k := 16 + k0 + 1) (by omega) h1
 have hC := fun (x y : RE) M0 I0 h1 h2 => aCY (X := X) (w0 := w0) (M0 := M0) (I0 := I0) (a := x) (b := y) (k := 16 + k0 + 1) (m := 15) (by omega) h1 h2
 have hdl : (iP l).length = n := by rw [aDR]; exact hl
 refine dW (φ := dM a k0) ha (dW (φ := dM b k0) hb.cons (dW (φ := aQ q (recs jZ l)) (Hv.mem (List.mem_cons_of_mem _ (List.mem_cons_of_mem _ hq))) ?_))
 refine tQ Tryz.func25 rfl Tryz.ntmps25 rfl ?_
 refine aG ?_
 refine aH ?_
 (refine aR rfl rfl rfl ?_; intro b6; refine ⟨okF, ?_⟩)
 refine aZ .here ?_
 (refine aR rfl rfl rfl ?_; intro b7; refine ⟨okF, ?_⟩)
 refine aZ .here ?_
 repeat (refine aL ?_)
 refine aW [1, 6, 7, 14, 15] rfl (fun k G M I => ∃ (t N : Nat), t ≤ n ∧ k = n - t ∧ N = ((iP l).take t).countP (uA tol a.q b.q) ∧ G = [(9, .int .i64 N), (16, .int .i64 t)] ∧ M0 = M ∧ I = aQ (some ⟨b7, 0, none⟩) (eR b) :: aQ (some ⟨b6, 0, none⟩) (eR a) :: aQ q (recs jZ l) :: dM b k0 :: dM a k0 :: I0) (n) _ _ _ aS aF aD (⟨0, 0, by omega, rfl, rfl, rfl, rfl, rfl⟩) ?_
 rintro kk G M I ⟨t, N, ht2, rfl, hN, rfl, rfl, rfl⟩
 have hNt : N ≤ t := by rw [hN]; exact Nat.le_trans List.countP_le_length (by rw [List.length_take]; omega)
 by_cases htn : t < n
 ·have hmem := dX (ms := l) (i := (t : Int)) (by omega)
  have hcs := aKU (t := tol) (s := a.q) (r := b.q) (l := iP l) (i := t) (by omega)
  rw [← hN, aCT (by omega)] at hcs
  obtain ⟨s, hss⟩ : ∃ s, gt l (t : Int) = s := ⟨_, rfl⟩
  rw [hss] at hmem hcs
  obtain ⟨n1, n2, n3, n4⟩ := hs s hmem
  obtain ⟨dx, hdx⟩ : ∃ z, s.u - s.x = z := ⟨_, rfl⟩
  obtain ⟨dy, hdy⟩ : ∃ z, s.v - s.y = z := ⟨_, rfl⟩
  have hWx := fun M0 I0 => qU (X := X) (w0 := w0) (M0 := M0) (I0 := I0) (x := s.u - s.x) (by omega) (k := 16) (by rw [e16]; omega)
  have hWy := fun M0 I0 => qU (X := X) (w0 := w0) (M0 := M0) (I0 := I0) (x := s.v - s.y) (by omega) (k := 16) (by rw [e16]; omega)
  have hiff : uA tol a.q b.q (s.u - s.x, s.v - s.y) = true ↔ abR (((s.u - s.x : Int) : Rat) - a.q) ≤ (tol : Rat) ∧ abR (((s.v - s.y : Int) : Rat) - b.q) ≤ (tol : Rat) := by simp only [uA, decide_eq_true_eq]
  repeat (refine aL ?_)
  rw [hss]
  (refine aI rfl rfl ?_; intro b11; refine ⟨okF, ?_⟩)
  repeat (refine aL ?_)
  refine tL (fun G M I => ∃ (b12 : Nat) (f : RE), f.q = abR (((s.u - s.x : Int) : Rat) - a.q) ∧ G = [(1, .int .i64 tol), (6, .pointer (some ⟨b6, 0, none⟩)), (7, .pointer (some ⟨b7, 0, none⟩)), (9, .int .i64 N), (11, .pointer (some ⟨b11, 0, none⟩)), (12, .pointer (some ⟨b12, 0, none⟩)), (14, .slice q n c), (15, .int .i64 n), (16, .int .i64 t)] ∧ M = .blk b12 (eR f) 50 :: .blk b11 (jZ s) 65 :: M0 ∧ I = dM f (16 + k0 + 1) :: aQ (some ⟨b7, 0, none⟩) (eR b) :: aQ (some ⟨b6, 0, none⟩) (eR a) :: aQ q (recs jZ l) :: dM b k0 :: dM a k0 :: I0) ?_ ?_
  ·((repeat refine aG ?_); refine sS (.blk b11 (jZ s) 65 :: M0) (aQ (some ⟨b7, 0, none⟩) (eR b) :: aQ (some ⟨b6, 0, none⟩) (eR a) :: aQ q (recs jZ l) :: dM b k0 :: dM a k0 :: I0) mixed ?_)
   refine nI (fuel := 5) (listed' := #[true, true, true, true, true, true, true, false, true, false, false, false, false]) [0, 1, 2, 3, 4, 5, 6, 8] [4, 4, 4, 4, 4, 4, 3, 3] aF aD (by kernel_rfl) (by kernel_rfl) rfl rfl ?_
   repeat (refine aL ?_)
   refine dV (fuel := 4) (i := 7) (j := 11) (by kernel_rfl) ?_ ?_
   ·(refine aA rfl (hWx _ _) rfl rfl ?_; rintro _ _ _ ⟨rfl, g0, rfl, hg0, rfl⟩; refine ⟨okF, ?_⟩)
    refine bX ?_
    repeat (refine aL ?_)
    refine dV (fuel := 3) (i := 9) (j := 11) (by kernel_rfl) ?_ ?_
    ·(refine aA rfl (hS g0 a _ _ (Hv.mem aB) (Hv.mem (φ := dM a k0) aB)) rfl rfl ?_; rintro _ _ _ ⟨rfl, g1, rfl, hg1, rfl⟩; refine ⟨okF, ?_⟩)
     refine bX ?_
     repeat (refine aL ?_)
     refine dV (fuel := 2) (i := 10) (j := 11) (by kernel_rfl) ?_ ?_
     ·(refine aA rfl (hA g1 _ _ (Hv.mem aB)) rfl rfl ?_; rintro _ _ _ ⟨rfl, g2, rfl, hg2, rfl⟩; refine ⟨okF, ?_⟩)
      refine bX ?_
      refine cZ [11, 12] [0, 0] aF aD (by kernel_rfl) (by kernel_rfl) rfl rfl ?_
      repeat (refine aL ?_)
      (refine aI rfl rfl ?_; intro b12; refine ⟨okF, ?_⟩)
      repeat (refine aL ?_)
      (refine iD _ _ _ aS aF aD ⟨b12, g2, by rw [hg2, hg1, hg0], rfl, rfl, rfl⟩)
     ·(refine aI rfl rfl ?_; intro b12; refine ⟨okF, ?_⟩)
      refine bX ?_
      refine cZ [10, 12] [0, 0] aF aD (by kernel_rfl) (by kernel_rfl) rfl rfl ?_
      repeat (refine aL ?_)
      (refine aA rfl (hA g1 _ _ (Hv.mem aB)) rfl rfl ?_; rintro _ _ _ ⟨rfl, g2, rfl, hg2, rfl⟩; refine ⟨okF, ?_⟩)
      repeat (refine aL ?_)
      (refine iD _ _ _ aS aF aD ⟨b12, g2, by rw [hg2, hg1, hg0], rfl, rfl, rfl⟩)
    ·(refine aI rfl rfl ?_; intro b12; refine ⟨okF, ?_⟩)
     refine bX ?_
     refine cZ [9, 10, 12] [0, 0, 0] aF aD (by kernel_rfl) (by kernel_rfl) rfl rfl ?_
     repeat (refine aL ?_)
     (refine aA rfl (hS g0 a _ _ (Hv.mem aB) (Hv.mem (φ := dM a k0) aB)) rfl rfl ?_; rintro _ _ _ ⟨rfl, g1, rfl, hg1, rfl⟩; refine ⟨okF, ?_⟩)
     repeat (refine aL ?_)
     (refine aA rfl (hA g1 _ _ (Hv.mem aB)) rfl rfl ?_; rintro _ _ _ ⟨rfl, g2, rfl, hg2, rfl⟩; refine ⟨okF, ?_⟩)
     repeat (refine aL ?_)
     (refine iD _ _ _ aS aF aD ⟨b12, g2, by rw [hg2, hg1, hg0], rfl, rfl, rfl⟩)
   ·(refine aI rfl rfl ?_; intro b12; refine ⟨okF, ?_⟩)
    refine bX ?_
    refine cZ [7, 9, 10, 12] [0, 0, 0, 0] aF aD (by kernel_rfl) (by kernel_rfl) rfl rfl ?_
    repeat (refine aL ?_)
    (refine aA rfl (hWx _ _) rfl rfl ?_; rintro _ _ _ ⟨rfl, g0, rfl, hg0, rfl⟩; refine ⟨okF, ?_⟩)
    repeat (refine aL ?_)
    (refine aA rfl (hS g0 a _ _ (Hv.mem aB) (Hv.mem (φ := dM a k0) aB)) rfl rfl ?_; rintro _ _ _ ⟨rfl, g1, rfl, hg1, rfl⟩; refine ⟨okF, ?_⟩)
    repeat (refine aL ?_)
    (refine aA rfl (hA g1 _ _ (Hv.mem aB)) rfl rfl ?_; rintro _ _ _ ⟨rfl, g2, rfl, hg2, rfl⟩; refine ⟨okF, ?_⟩)
    repeat (refine aL ?_)
    (refine iD _ _ _ aS aF aD ⟨b12, g2, by rw [hg2, hg1, hg0], rfl, rfl, rfl⟩)
  ·rintro G M I ⟨b12, f, hf, rfl, rfl, rfl⟩
   refine aG ?_
   refine tL (fun G M I => ∃ (b13 : Nat) (f2 : RE), f2.q = abR (((s.v - s.y : Int) : Rat) - b.q) ∧ G = [(1, .int .i64 tol), (6, .pointer (some ⟨b6, 0, none⟩)), (7, .pointer (some ⟨b7, 0, none⟩)), (9, .int .i64 N), (12, .pointer (some ⟨b12, 0, none⟩)), (13, .pointer (some ⟨b13, 0, none⟩)), (14, .slice q n c), (15, .int .i64 n), (16, .int .i64 t)] ∧ M = .blk b13 (eR f2) 50 :: .blk b12 (eR f) 50 :: M0 ∧ I = dM f2 (16 + k0 + 1) :: dM f (16 + k0 + 1) :: aQ (some ⟨b7, 0, none⟩) (eR b) :: aQ (some ⟨b6, 0, none⟩) (eR a) :: aQ q (recs jZ l) :: dM b k0 :: dM a k0 :: I0) ?_ ?_
   ·((repeat refine aG ?_); refine sS (.blk b11 (jZ s) 65 :: M0) (aQ (some ⟨b7, 0, none⟩) (eR b) :: aQ (some ⟨b6, 0, none⟩) (eR a) :: aQ q (recs jZ l) :: dM b k0 :: dM a k0 :: I0) mixed ?_)
    refine nI (fuel := 5) (listed' := #[true, true, true, true, true, true, true, false, true, false, false, false, false]) [0, 1, 2, 3, 4, 5, 6, 8] [4, 4, 4, 4, 4, 4, 3, 3] aF aD (by kernel_rfl) (by kernel_rfl) rfl rfl ?_
    repeat (refine aL ?_)
    refine dV (fuel := 4) (i := 7) (j := 11) (by kernel_rfl) ?_ ?_
    ·(refine aA rfl (hWy _ _) rfl rfl ?_; rintro _ _ _ ⟨rfl, g0, rfl, hg0, rfl⟩; refine ⟨okF, ?_⟩)
     refine bX ?_
     repeat (refine aL ?_)
     refine dV (fuel := 3) (i := 9) (j := 11) (by kernel_rfl) ?_ ?_
     ·(refine aA rfl (hS g0 b _ _ (Hv.mem aB) (Hv.mem (φ := dM b k0) aB)) rfl rfl ?_; rintro _ _ _ ⟨rfl, g1, rfl, hg1, rfl⟩; refine ⟨okF, ?_⟩)
      refine bX ?_
      repeat (refine aL ?_)
      refine dV (fuel := 2) (i := 10) (j := 11) (by kernel_rfl) ?_ ?_
      ·(refine aA rfl (hA g1 _ _ (Hv.mem aB)) rfl rfl ?_; rintro _ _ _ ⟨rfl, g2, rfl, hg2, rfl⟩; refine ⟨okF, ?_⟩)
       refine bX ?_
       refine cZ [11, 12] [0, 0] aF aD (by kernel_rfl) (by kernel_rfl) rfl rfl ?_
       repeat (refine aL ?_)
       (refine aI rfl rfl ?_; intro b13; refine ⟨okF, ?_⟩)
       repeat (refine aL ?_)
       (refine iD _ _ _ aS aF aD ⟨b13, g2, by rw [hg2, hg1, hg0], rfl, rfl, rfl⟩)
      ·(refine aI rfl rfl ?_; intro b13; refine ⟨okF, ?_⟩)
       refine bX ?_
       refine cZ [10, 12] [0, 0] aF aD (by kernel_rfl) (by kernel_rfl) rfl rfl ?_
       repeat (refine aL ?_)
       (refine aA rfl (hA g1 _ _ (Hv.mem aB)) rfl rfl ?_; rintro _ _ _ ⟨rfl, g2, rfl, hg2, rfl⟩; refine ⟨okF, ?_⟩)
       repeat (refine aL ?_)
       (refine iD _ _ _ aS aF aD ⟨b13, g2, by rw [hg2, hg1, hg0], rfl, rfl, rfl⟩)
     ·(refine aI rfl rfl ?_; intro b13; refine ⟨okF, ?_⟩)
      refine bX ?_
      refine cZ [9, 10, 12] [0, 0, 0] aF aD (by kernel_rfl) (by kernel_rfl) rfl rfl ?_
      repeat (refine aL ?_)
      (refine aA rfl (hS g0 b _ _ (Hv.mem aB) (Hv.mem (φ := dM b k0) aB)) rfl rfl ?_; rintro _ _ _ ⟨rfl, g1, rfl, hg1, rfl⟩; refine ⟨okF, ?_⟩)
      repeat (refine aL ?_)
      (refine aA rfl (hA g1 _ _ (Hv.mem aB)) rfl rfl ?_; rintro _ _ _ ⟨rfl, g2, rfl, hg2, rfl⟩; refine ⟨okF, ?_⟩)
      repeat (refine aL ?_)
      (refine iD _ _ _ aS aF aD ⟨b13, g2, by rw [hg2, hg1, hg0], rfl, rfl, rfl⟩)
    ·(refine aI rfl rfl ?_; intro b13; refine ⟨okF, ?_⟩)
     refine bX ?_
     refine cZ [7, 9, 10, 12] [0, 0, 0, 0] aF aD (by kernel_rfl) (by kernel_rfl) rfl rfl ?_
     repeat (refine aL ?_)
     (refine aA rfl (hWy _ _) rfl rfl ?_; rintro _ _ _ ⟨rfl, g0, rfl, hg0, rfl⟩; refine ⟨okF, ?_⟩)
     repeat (refine aL ?_)
     (refine aA rfl (hS g0 b _ _ (Hv.mem aB) (Hv.mem (φ := dM b k0) aB)) rfl rfl ?_; rintro _ _ _ ⟨rfl, g1, rfl, hg1, rfl⟩; refine ⟨okF, ?_⟩)
     repeat (refine aL ?_)
     (refine aA rfl (hA g1 _ _ (Hv.mem aB)) rfl rfl ?_; rintro _ _ _ ⟨rfl, g2, rfl, hg2, rfl⟩; refine ⟨okF, ?_⟩)
     repeat (refine aL ?_)
     (refine iD _ _ _ aS aF aD ⟨b13, g2, by rw [hg2, hg1, hg0], rfl, rfl, rfl⟩)
   ·rintro G M I ⟨b13, f2, hf2, rfl, rfl, rfl⟩
    (repeat refine aG ?_); refine dI (.blk b13 (eR f2) 50 :: .blk b12 (eR f) 50 :: M0) (dM f2 (16 + k0 + 1) :: dM f (16 + k0 + 1) :: aQ (some ⟨b7, 0, none⟩) (eR b) :: aQ (some ⟨b6, 0, none⟩) (eR a) :: aQ q (recs jZ l) :: dM b k0 :: dM a k0 :: I0) [0, 1, 2, 3, 4, 5, 6, 7, 8, 9, 10, 11] [3, 3, 0, 0, 2, 0, 1, 1, 0, 0, 0, 0] aF aD mixed (by kernel_rfl) ?_
    repeat (refine aL ?_)
    (refine aA rfl (hT _ _) rfl rfl ?_; rintro _ _ _ ⟨rfl, g0, rfl, hg0, rfl⟩; refine ⟨okF, ?_⟩)
    repeat (refine aL ?_)
    (refine aA rfl (hC f g0 _ _ (Hv.mem aB) (Hv.mem aB)) rfl rfl ?_; rintro _ _ _ ⟨rfl, rfl, rfl⟩; refine ⟨okF, ?_⟩)
    have hc1 : xR f.q g0.q ≤ 0 ↔ abR (((s.u - s.x : Int) : Rat) - a.q) ≤ (tol : Rat) := by rw [aCN, hf, hg0]
    by_cases h1 : abR (((s.u - s.x : Int) : Rat) - a.q) ≤ (tol : Rat)
    ·have d1 := hc1.2 h1
     repeat (refine aL ?_)
     (refine aA rfl (hT _ _) rfl rfl ?_; rintro _ _ _ ⟨rfl, g1, rfl, hg1, rfl⟩; refine ⟨okF, ?_⟩)
     repeat (refine aL ?_)
     (refine aA rfl (hC f2 g1 _ _ (Hv.mem aB) (Hv.mem aB)) rfl rfl ?_; rintro _ _ _ ⟨rfl, rfl, rfl⟩; refine ⟨okF, ?_⟩)
     have hc2 : xR f2.q g1.q ≤ 0 ↔ abR (((s.v - s.y : Int) : Rat) - b.q) ≤ (tol : Rat) := by rw [aCN, hf2, hg1]
     by_cases h2 : abR (((s.v - s.y : Int) : Rat) - b.q) ≤ (tol : Rat)
     ·have d2 := hc2.2 h2
      rw [if_pos (hiff.2 ⟨h1, h2⟩)] at hcs
      repeat (refine aL ?_)
      refine aK (n - (t + 1)) _ _ _ (by first | omega | (simp only [List.length_append, List.length_cons, List.length_nil]; omega)) aS aF aD (⟨t + 1, N + 1, by omega, by omega, hcs.symm, rfl, rfl, rfl⟩)
     ·have d2 : ¬ xR f2.q g1.q ≤ 0 := fun h => h2 (hc2.1 h)
      rw [if_neg (fun h => h2 (hiff.1 h).2)] at hcs
      repeat (refine aL ?_)
      refine aK (n - (t + 1)) _ _ _ (by first | omega | (simp only [List.length_append, List.length_cons, List.length_nil]; omega)) aS aF aD (⟨t + 1, N, by omega, by omega, hcs.symm, rfl, rfl, rfl⟩)
    ·have d1 : ¬ xR f.q g0.q ≤ 0 := fun h => h1 (hc1.1 h)
     rw [if_neg (fun h => h1 (hiff.1 h).1)] at hcs
     repeat (refine aL ?_)
     refine aK (n - (t + 1)) _ _ _ (by first | omega | (simp only [List.length_append, List.length_cons, List.length_nil]; omega)) aS aF aD (⟨t + 1, N, by omega, by omega, hcs.symm, rfl, rfl, rfl⟩)
 ·obtain rfl : t = n := by omega
  rw [← hdl, List.take_length] at hN
  subst hN
  repeat (refine aL ?_)
  refine aJ (by first | exact .inl rfl | exact .inr rfl) rfl rfl _ _ aF aD (⟨rfl, rfl, rfl⟩)
end
/- ---------- the law's search ---------- -/
theorem aIQ {a b t : Int} : abR (((a : Int) : Rat) - ((b : Int) : Rat)) ≤ (t : Rat) ↔ b - t ≤ a ∧ a ≤ b + t := by
 rw [← Rat.intCast_sub]
 unfold abR
 split
 ·rename_i h
  have h' : a - b < 0 := Rat.intCast_lt_intCast.1 h
  rw [← Rat.intCast_neg, Rat.intCast_le_intCast]
  omega
 ·rename_i h
  have h' : ¬ a - b < 0 := fun e => h (Rat.intCast_lt_intCast.2 e)
  rw [Rat.intCast_le_intCast]
  omega
theorem aRV {l : List (Int × Int)} {t X Y : Int} : l.countP (uA t (((X - t : Int)) : Rat) (((Y - t : Int)) : Rat)) = nA l t X Y := by
 unfold nA
 congr 1
 funext d
 unfold uA xP
 refine decide_eq_decide.2 ?_
 rw [aIQ, aIQ]
 omega
def uB (l : List Q4) (i j : Nat) (x y : Int) : Prop := (∃ a : Nat, a < i ∧ a < l.length ∧ x = gt (dxs l) (a : Int) ∧ ∃ b : Nat, b < l.length ∧ y = gt (dys l) (b : Int)) ∨ (i < l.length ∧ x = gt (dxs l) (i : Int) ∧ ∃ b : Nat, b < j ∧ b < l.length ∧ y = gt (dys l) (b : Int))
section
variable {l : List Q4} {t X Y : Int} {i j n : Nat}
theorem aKF {x y : Int} (hi : i < l.length) (hj : j < l.length) : uB l i (j + 1) x y ↔ uB l i j x y ∨ (x = gt (dxs l) (i : Int) ∧ y = gt (dys l) (j : Int)) := by
 unfold uB
 constructor
 ·rintro (h | ⟨h1, h2, b, h3, h4, h5⟩)
  ·exact .inl (.inl h)
  ·by_cases e : b = j
   ·subst e; exact .inr ⟨h2, h5⟩
   ·exact .inl (.inr ⟨h1, h2, b, by omega, h4, h5⟩)
 ·rintro ((h | ⟨h1, h2, b, h3, h4, h5⟩) | ⟨h1, h2⟩)
  ·exact .inl h
  ·exact .inr ⟨h1, h2, b, by omega, h4, h5⟩
  ·exact .inr ⟨hi, h1, j, by omega, hj, h2⟩
theorem aLJ (hi : i < l.length) (h : BInv (iP l) t (uB l i l.length) X Y n) : BInv (iP l) t (uB l (i + 1) 0) X Y n := by
 refine h.same (fun x y => ?_)
 unfold uB
 constructor
 ·rintro (⟨a, h1, h2, h3, b, h4, h5⟩ | ⟨_, _, b, h3, _⟩)
  ·by_cases e : a = i
   ·subst e; exact .inr ⟨hi, h3, b, by omega, h4, h5⟩
   ·exact .inl ⟨a, by omega, h2, h3, b, h4, h5⟩
  ·omega
 ·rintro (⟨a, h1, h2, h3, h4⟩ | ⟨h1, h2, b, h3, h4, h5⟩)
  ·exact .inl ⟨a, by omega, h2, h3, h4⟩
  ·exact .inl ⟨i, by omega, hi, h2, b, h4, h5⟩
theorem aGR : BInv (iP l) t (uB l 0 0) X Y 0 := .inl ⟨rfl, fun x y hv => by
 rcases hv with ⟨a, h, _⟩ | ⟨_, _, b, h, _⟩ <;> omega⟩
theorem aNA (h : BInv (iP l) t (uB l l.length 0) X Y n) (hl : l ≠ []) (ht : 0 ≤ t) : 0 < n ∧ BestD (iP l) t X Y n := by
 refine h.best (by intro e; apply hl; simpa [iP] using e) ht (fun a ha b hb => ?_) (fun x y hv => ?_)
 ·obtain ⟨k, hk, e⟩ := rP.1 (aDB.2 ⟨a, ha, rfl⟩)
  obtain ⟨m, hm, e2⟩ := rP.1 (yH.2 ⟨b, hb, rfl⟩)
  rw [aCI] at hk
  rw [aDH] at hm
  exact .inl ⟨k, hk, hk, e, m, hm, e2⟩
 ·rcases hv with ⟨a, h1, h2, h3, b, h4, h5⟩ | ⟨h1, _⟩
  ·exact ⟨aDB.1 (rP.2 ⟨a, by rw [aCI]; exact h2, h3⟩), yH.1 (rP.2 ⟨b, by rw [aDH]; exact h4, h5⟩)⟩
  ·omega
end
section
variable {X : List Nat} {w0 : World} {M0 M1 M2 : List Ent} {I0 : List aX}
theorem aOI {q : Option Addr} {l : List Q4} {n c : Nat} {tol : Int} (hl : l.length = n) (hn : 1 ≤ n ∧ n ≤ 64) (hs : ∀ s ∈ l, s.near) (ht : 0 ≤ tol ∧ tol ≤ 32768) (hq : aQ q (recs jZ l) ∈ I0) :
  CD Tryz.prog 23 [.slice q n c, .int .i64 tol] X w0 M0 I0 (fun v M I => M0 = M ∧ I0 = I ∧ ∃ (X Y : Int) (N : Nat), (0 < N ∧ BestD (iP l) tol X Y N) ∧ v = .tuple #[.agg #[.int .i64 (X - tol), .int .i64 (Y - tol)], .int .i64 (N : Int)]) := by
 have e17 : 2 ^ 17 = 131072 := rfl
 have hWi := fun (a b : RE) M0 I0 h h1 h2 => zX (X := X) (w0 := w0) (M0 := M0) (I0 := I0) (q := q) (l := l) (n := n) (c := c) (k0 := 17) (tol := tol) (a := a) (b := b) (by omega) hl hn.2 hs ht h h1 h2
 refine dW (φ := aQ q (recs jZ l)) (Hv.mem hq) ?_
 refine bB Tryz.func23 rfl Tryz.ntmps23 rfl ?_
 refine aG ?_
 refine aH ?_
 (refine aI rfl rfl ?_; intro b4; refine ⟨okF, ?_⟩)
 repeat (refine aL ?_)
 (refine aI rfl rfl ?_; intro b6; refine ⟨okF, ?_⟩)
 repeat (refine aL ?_)
 refine aW [0, 1, 4, 6, 14, 15] rfl (fun k G M I => ∃ (i : Nat) (bx by_ : Int) (most : Nat), i ≤ n ∧ k = n - i ∧ BInv (iP l) tol (uB l i 0) (bx + tol) (by_ + tol) most ∧ G = [(7, .int .i64 most), (16, .int .i64 i)] ∧ M = .blk b6 [.int .i64 bx, .int .i64 by_] 56 :: .blk b4 zP2 56 :: M0 ∧ I = aQ q (recs jZ l) :: I0) (n) _ _ _ aS aF aD (⟨0, 0, 0, 0, by omega, rfl, aGR, rfl, rfl, rfl⟩) ?_
 rintro kk G M I ⟨i, bx, by_, most, hi, rfl, hB, rfl, rfl, rfl⟩
 by_cases hin : i < n
 ·have hmem := dX (ms := l) (i := (i : Int)) (by omega)
  have gx : gt (dxs l) (i : Int) = (gt l (i : Int)).u - (gt l (i : Int)).x := by rw [(aFV (by omega)).1, aCT (by omega)]
  obtain ⟨p, hpp⟩ : ∃ s, gt l (i : Int) = s := ⟨_, rfl⟩
  rw [hpp] at hmem gx
  obtain ⟨n1, n2, n3, n4⟩ := hs p hmem
  repeat (refine aL ?_)
  rw [hpp]
  (refine aI rfl rfl ?_; intro b9; refine ⟨okF, ?_⟩)
  repeat (refine aL ?_)
  refine aW [0, 1, 4, 6, 9, 14, 15, 16, 20, 21] rfl (fun k G M I => ∃ (j : Nat) (bx by_ : Int) (most : Nat), j ≤ n ∧ k = n - j ∧ BInv (iP l) tol (uB l i j) (bx + tol) (by_ + tol) most ∧ G = [(7, .int .i64 most), (22, .int .i64 j)] ∧ M = .blk b9 (jZ p) 65 :: .blk b6 [.int .i64 bx, .int .i64 by_] 56 :: .blk b4 zP2 56 :: M0 ∧ I = aQ q (recs jZ l) :: I0) (n) _ _ _ aS aF aD (⟨0, bx, by_, most, by omega, rfl, hB, rfl, rfl, rfl⟩) ?_
  rintro kk G M I ⟨j, bx, by_, most, hj, rfl, hB, rfl, rfl, rfl⟩
  by_cases hjn : j < n
  ·have hmem2 := dX (ms := l) (i := (j : Int)) (by omega)
   have gy : gt (dys l) (j : Int) = (gt l (j : Int)).v - (gt l (j : Int)).y := by rw [(aFV (by omega)).2, aCT (by omega)]
   obtain ⟨r, hrr⟩ : ∃ s, gt l (j : Int) = s := ⟨_, rfl⟩
   rw [hrr] at hmem2 gy
   obtain ⟨m1, m2, m3, m4⟩ := hs r hmem2
   have hsu := fun x y => aKF (l := l) (i := i) (j := j) (x := x) (y := y) (by omega) (by omega)
   rw [gx, gy] at hsu
   obtain ⟨cx, hcx⟩ : ∃ z, p.u - p.x - tol = z := ⟨_, rfl⟩
   obtain ⟨cy, hcy⟩ : ∃ z, r.v - r.y - tol = z := ⟨_, rfl⟩
   have ex : p.u - p.x = cx + tol := by omega
   have ey : r.v - r.y = cy + tol := by omega
   rw [ex, ey] at hsu
   have hW1 := fun M0 I0 => qU (X := X) (w0 := w0) (M0 := M0) (I0 := I0) (x := cx) (by omega) (k := 17) (by rw [e17]; omega)
   have hW2 := fun M0 I0 => qU (X := X) (w0 := w0) (M0 := M0) (I0 := I0) (x := cy) (by omega) (k := 17) (by rw [e17]; omega)
   repeat (refine aL ?_)
   rw [hrr]
   (refine aI rfl rfl ?_; intro b11; refine ⟨okF, ?_⟩)
   repeat (refine aL ?_)
   rw [hcx, hcy]
   (refine aC rfl (fun _ => nN (vals := [.int .i64 cx, .int .i64 cy]) (cells := [.int .i64 cx, .int .i64 cy]) rfl ?hpl rfl ?hz) rfl rfl ?_; (case hpl => repeat (first | exact True.intro | refine ⟨rfl, ?_⟩)); (case hz => rfl))
   (refine aI rfl rfl ?_; intro b12; refine ⟨okF, ?_⟩)
   repeat (refine aL ?_)
   refine aAY (M' := .blk b12 [.int .i64 cx, .int .i64 cy] 56 :: .blk b9 (jZ p) 65 :: .blk b6 [.int .i64 bx, .int .i64 by_] 56 :: .blk b4 zP2 56 :: M0) (I' := aQ q (recs jZ l) :: I0) aF aD ?_
   (repeat refine aG ?_); refine dI (.blk b12 [.int .i64 cx, .int .i64 cy] 56 :: M0) (aQ q (recs jZ l) :: I0) [0, 1, 2, 3, 5, 6, 4, 7, 8, 9] [2, 2, 3, 2, 3, 2, 0, 0, 0, 0] aF aD mixed (by kernel_rfl) ?_
   repeat (refine aL ?_)
   (refine aA rfl (hW1 _ _) rfl rfl ?_; rintro _ _ _ ⟨rfl, g0, rfl, hg0, rfl⟩; refine ⟨okF, ?_⟩)
   repeat (refine aL ?_)
   (refine aA rfl (hW2 _ _) rfl rfl ?_; rintro _ _ _ ⟨rfl, g1, rfl, hg1, rfl⟩; refine ⟨okF, ?_⟩)
   repeat (refine aL ?_)
   (refine aA rfl (hWi g0 g1 _ _ aB (Hv.mem aB) (Hv.mem aB)) rfl rfl ?_; rintro _ _ _ ⟨rfl, rfl, rfl⟩; refine ⟨okF, ?_⟩)
   have hcnt : (iP l).countP (uA tol g0.q g1.q) = nA (iP l) tol (cx + tol) (cy + tol) := by
    rw [hg0, hg1, ← aRV, Int.add_sub_cancel, Int.add_sub_cancel]
   rw [hcnt]
   obtain ⟨N, hN⟩ : ∃ N, nA (iP l) tol (cx + tol) (cy + tol) = N := ⟨_, rfl⟩
   rw [hN]
   by_cases hgt : most < N
   ·have hB2 : BInv (iP l) tol (uB l i (j + 1)) (cx + tol) (cy + tol) N := by
     rw [← hN]
     exact hB.more (by rw [hN]; exact hgt) (fun a b hv => (hsu a b).1 hv) ((hsu _ _).2 (.inr ⟨rfl, rfl⟩))
    repeat (refine aL ?_)
    refine aK (n - (j + 1)) _ _ _ (by first | omega | (simp only [List.length_append, List.length_cons, List.length_nil]; omega)) aS aF aD (⟨j + 1, cx, cy, N, by omega, rfl, hB2, rfl, rfl, rfl⟩)
   ·by_cases heq : N = most
    ·by_cases hx1 : cx < bx
     ·have hB2 : BInv (iP l) tol (uB l i (j + 1)) (cx + tol) (cy + tol) N := by
       rw [heq]
       exact hB.less (by rw [hN]; exact heq) (.inl (by omega)) (fun a b hv => (hsu a b).1 hv) ((hsu _ _).2 (.inr ⟨rfl, rfl⟩))
      repeat (refine aL ?_)
      refine aK (n - (j + 1)) _ _ _ (by first | omega | (simp only [List.length_append, List.length_cons, List.length_nil]; omega)) aS aF aD (⟨j + 1, cx, cy, N, by omega, rfl, hB2, rfl, rfl, rfl⟩)
     ·by_cases hx2 : cx = bx
      ·by_cases hy1 : cy < by_
       ·have hB2 : BInv (iP l) tol (uB l i (j + 1)) (cx + tol) (cy + tol) N := by
         rw [heq]
         exact hB.less (by rw [hN]; exact heq) (.inr ⟨by omega, by omega⟩) (fun a b hv => (hsu a b).1 hv) ((hsu _ _).2 (.inr ⟨rfl, rfl⟩))
        repeat (refine aL ?_)
        refine aK (n - (j + 1)) _ _ _ (by first | omega | (simp only [List.length_append, List.length_cons, List.length_nil]; omega)) aS aF aD (⟨j + 1, cx, cy, N, by omega, rfl, hB2, rfl, rfl, rfl⟩)
       ·have hB2 : BInv (iP l) tol (uB l i (j + 1)) (bx + tol) (by_ + tol) most :=
         hB.keep (by rw [hN]; omega) (fun _ _ _ => .inr ⟨by omega, by omega⟩) (fun a b hv => (hsu a b).1 hv) (fun a b hv => (hsu a b).2 (.inl hv))
        repeat (refine aL ?_)
        refine aK (n - (j + 1)) _ _ _ (by first | omega | (simp only [List.length_append, List.length_cons, List.length_nil]; omega)) aS aF aD (⟨j + 1, bx, by_, most, by omega, rfl, hB2, rfl, rfl, rfl⟩)
      ·have hB2 : BInv (iP l) tol (uB l i (j + 1)) (bx + tol) (by_ + tol) most :=
        hB.keep (by rw [hN]; omega) (fun _ _ _ => .inl (by omega)) (fun a b hv => (hsu a b).1 hv) (fun a b hv => (hsu a b).2 (.inl hv))
       repeat (refine aL ?_)
       refine aK (n - (j + 1)) _ _ _ (by first | omega | (simp only [List.length_append, List.length_cons, List.length_nil]; omega)) aS aF aD (⟨j + 1, bx, by_, most, by omega, rfl, hB2, rfl, rfl, rfl⟩)
    ·have hB2 : BInv (iP l) tol (uB l i (j + 1)) (bx + tol) (by_ + tol) most :=
      hB.keep (by rw [hN]; omega) (fun _ h _ => by rw [hN] at h; omega) (fun a b hv => (hsu a b).1 hv) (fun a b hv => (hsu a b).2 (.inl hv))
     repeat (refine aL ?_)
     refine aK (n - (j + 1)) _ _ _ (by first | omega | (simp only [List.length_append, List.length_cons, List.length_nil]; omega)) aS aF aD (⟨j + 1, bx, by_, most, by omega, rfl, hB2, rfl, rfl, rfl⟩)
  ·obtain rfl : j = n := by omega
   rw [← hl] at hB
   have hB2 := aLJ (by omega) hB
   repeat (refine aL ?_)
   refine aK (j - (i + 1)) _ _ _ (by first | omega | (simp only [List.length_append, List.length_cons, List.length_nil]; omega)) aS aF aD (⟨i + 1, bx, by_, most, by omega, rfl, hB2, rfl, rfl, rfl⟩)
 ·obtain rfl : i = n := by omega
  rw [← hl] at hB
  have hend := aNA hB (fun e => by rw [e] at hl; simp at hl; omega) ht.1
  repeat (refine aL ?_)
  refine iV (M' := .blk b4 [.int .i64 bx, .int .i64 by_] 56 :: M0) (I' := I0) aF aD ?_
  refine fG (rs := [.cell 4 56, .tmp 5]) (vs := [.agg [.int .i64 bx, .int .i64 by_].toArray, .int .i64 most]) (.inl rfl) rfl (.cellN (cs := [.int .i64 bx, .int .i64 by_]) inferInstance rfl aB rfl (.tmp rfl .nil)) rfl M0 I0 aF aD ⟨rfl, rfl, bx + tol, by_ + tol, most, hend, by rw [Int.add_sub_cancel, Int.add_sub_cancel]⟩
end
end Go.Proofs.YtjbhdfpjnjedhaaGreat
