/- consensus: regular, formed, fitted. consensus.fitted: the least-squares matrix. consensus: model, for the kinds other than homographies. -/
import Derived.Test.YtjbhdfpjnjedhaaGreatZpbi
import Derived.Test.YtjbhdfpjnjedhaaGreatZpbe
import Derived.Test.YtjbhdfpjnjedhaaGreatZpbc
import Derived.Test.YtjbhdfpjnjedhaaGreatZpax
import Derived.Test.YtjbhdfpjnjedhaaGreatZpan
import Derived.Test.YtjbhdfpjnjedhaaGreatZpbd
set_option linter.unusedSimpArgs false
set_option linter.unusedVariables false
set_option maxRecDepth 100000
set_option maxHeartbeats 4000000
namespace Go.Proofs.YtjbhdfpjnjedhaaGreat
open Go Go.Fx
theorem aLU {q : Rat} : q.num.sign = 0 ↔ q = 0 := by rw [Int.sign_eq_zero_iff_zero, Rat.num_eq_zero]
abbrev hdL (r : RL) : HD := ⟨r.p, r.es.length, r.c⟩
theorem aOG (rows : List RL) : recs eH (rows.map hdL) = recs eL rows := by
 induction rows with
 | nil => rfl
 | cons x r ih =>
  have h1 : recs eH ((x :: r).map hdL) = eH (hdL x) ++ recs eH (r.map hdL) := rfl
  have h2 : recs eL (x :: r) = eL x ++ recs eL r := rfl
  rw [h1, h2, ih]
section
variable {P : Program} {n : Nat} {Q : Exit → Act → World → Prop} {G : Env} {X : List Nat} {w0 : World} {M : List Ent} {I : List aY}
theorem zK {cd : Code} {b k C : Nat} {rows : List RL} {ty : TypeId} (hl : rows.length = C) (hC : C ≤ 1000000) (ha : jW rows k ∈ I) (h : TD P n cd Q G X w0 M (jF ⟨some ⟨b, 0, none⟩, C, rows⟩ k :: I)) : TD P n cd Q G X w0 (.blk b (recs eL rows) ty :: M) I := by
 subst hl
 refine rM (mm := rows.length) 1 .here (by rw [iL]) (by omega) ?_
 exact yT (fun _ hw => Mem.toX hw ha) h
end
section
variable {X : List Nat} {w0 : World} {M0 M1 : List Ent} {I0 : List aY}
theorem aGF {a : MX} {k : Nat} (hb : kb k 3 ≤ 20000000000) (hk0 : k ≤ 20000000000) (da : a.fit 3 3) (ha : jF a k ∈ I0) : CD Tryz.prog 70 [mv a] X w0 M0 I0 (fun v M I => M0 = M ∧ I0 = I ∧ v = .bool (B (dt 3 (at2 a.q) ≠ 0))) := by
 have hD := fun M0 I0 h => yP (X := X) (w0 := w0) (M0 := M0) (I0 := I0) (a := a) (n := 3) (k0 := k) hb hk0 da h
 have hr := da.1.1
 refine aZ Tryz.func70 rfl Tryz.ntmps70 rfl ?_
 repeat (refine aK ?_)
 (refine aA rfl (hD _ _ aB) rfl rfl ?_; rintro _ _ _ ⟨rfl, e, rfl, he, rfl⟩; refine ⟨okF, ?_⟩)
 repeat (refine aK ?_)
 (refine aI rfl rfl ?_; intro b3; refine ⟨okF, ?_⟩)
 repeat (refine aK ?_)
 (refine aA rfl (mF (e := e) (k := kb k 3) (by omega) (Hv.mem aB)) rfl rfl ?_; rintro _ _ _ ⟨rfl, rfl, rfl⟩; refine ⟨okF, ?_⟩)
 repeat (refine aK ?_)
 refine gZ (M' := M0) (I' := I0) aD aC ?_
 refine aH (by first | exact .inl rfl | exact .inr rfl) rfl rfl _ _ aD aC (⟨rfl, rfl, congrArg Value.bool (gY (by rw [← he]; exact not_congr aLU))⟩)
theorem aLM {kd k : Nat} {x : RL} (hk : kd ≤ 2) (hkk : k ≤ 100000000000) (hl : x.es.length = zA kd) (hx : iZ x k ∈ I0) : CD Tryz.prog 134 [.int .i64 (kd : Int), lv x] X w0 M0 I0 (XQ (nP kd x.q) 3 3 k M0 I0) := by
 have hW0 := fun M0 I0 => jS (X := X) (w0 := w0) (M0 := M0) (I0 := I0) (x := 0) (by decide) (k := 0) (by decide)
 have hW1 := fun M0 I0 => jS (X := X) (w0 := w0) (M0 := M0) (I0 := I0) (x := 1) (by decide) (k := 0) (by decide)
 have hq : ∀ i : Nat, i < zA kd → x.q.getD i 0 = (gt x.es (i : Int)).q := fun i hi => jK (by omega)
 refine cZ (φ := aO x.p (recs eR x.es)) (Hv.lsl hx) (cZ (φ := iZ x k) (Hv.mem (List.mem_cons_of_mem _ hx)) ?_)
 refine aX Tryz.func134 rfl Tryz.ntmps134 rfl ?_
 rcases (show kd = 0 ∨ kd = 1 ∨ kd = 2 by omega) with h0 | h0 | h0
 ·obtain rfl : kd = 0 := h0
  have hl2 : x.es.length = 2 := hl
  have q0 := hq 0 (by decide)
  have q1 := hq 1 (by decide)
  repeat (refine aK ?_)
  (repeat refine aG ?_); refine bZ (M0) (iZ x k :: aO x.p (recs eR x.es) :: I0) [2, 3, 4, 8, 9, 10, 0, 1, 5, 6, 7, 11, 12, 13] [5, 5, 5, 5, 5, 5, 0, 0, 2, 0, 0, 0, 0, 0] aD aC mixed (by kernel_rfl) ?_
  repeat (refine aK ?_)
  (refine aA rfl (hW1 _ _) rfl rfl ?_; rintro _ _ _ ⟨rfl, e0, rfl, he0, rfl⟩; refine ⟨okF, ?_⟩)
  repeat (refine aK ?_)
  (refine aA rfl (hW0 _ _) rfl rfl ?_; rintro _ _ _ ⟨rfl, e1, rfl, he1, rfl⟩; refine ⟨okF, ?_⟩)
  repeat (refine aK ?_)
  (refine aF rfl (fun _ => nY (vals := [rv e0, rv e1, rv (gt x.es 0)]) (cells := recs eR [e0, e1, gt x.es 0]) rfl ?hpl rfl ?hz) rfl rfl ?_; (case hpl => exact (by intro v hv; repeat (first | exact absurd hv (List.not_mem_nil) | (rcases List.mem_cons.1 hv with rfl | hv; · rfl)))); (case hz => rfl))
  repeat (refine aK ?_)
  (refine aA rfl (hW0 _ _) rfl rfl ?_; rintro _ _ _ ⟨rfl, e2, rfl, he2, rfl⟩; refine ⟨okF, ?_⟩)
  repeat (refine aK ?_)
  (refine aA rfl (hW1 _ _) rfl rfl ?_; rintro _ _ _ ⟨rfl, e3, rfl, he3, rfl⟩; refine ⟨okF, ?_⟩)
  repeat (refine aK ?_)
  (refine aF rfl (fun _ => nY (vals := [rv e2, rv e3, rv (gt x.es 1)]) (cells := recs eR [e2, e3, gt x.es 1]) rfl ?hpl rfl ?hz) rfl rfl ?_; (case hpl => exact (by intro v hv; repeat (first | exact absurd hv (List.not_mem_nil) | (rcases List.mem_cons.1 hv with rfl | hv; · rfl)))); (case hz => rfl))
  repeat (refine aK ?_)
  (refine aA rfl (zZ (a := ⟨e0, e1, gt x.es 0⟩) (b := ⟨e2, e3, gt x.es 1⟩) (k := k) (Hv.mkT (Hv.q (k := 0) aB (Nat.zero_le _)) (Hv.q (k := 0) aB (Nat.zero_le _)) (Hv.lel (r := x) (k := k) aB ⟨by omega, by omega⟩)) (Hv.mkT (Hv.q (k := 0) aB (Nat.zero_le _)) (Hv.q (k := 0) aB (Nat.zero_le _)) (Hv.lel (r := x) (k := k) aB ⟨by omega, by omega⟩))) rfl rfl ?_; rintro _ _ _ ⟨rfl, m, rfl, hm, dm, rfl⟩; refine ⟨okF, ?_⟩)
  repeat (refine aK ?_)
  refine gZ (M' := M0) (I' := jF m k :: I0) aD aC ?_
  refine aH (by first | exact .inl rfl | exact .inr rfl) rfl rfl _ _ aD aC (⟨rfl, m, rfl, by rw [hm, he0, he1, he2, he3]; unfold nP; rw [if_pos rfl, q0, q1]; rfl, dm, rfl⟩)
 ·obtain rfl : kd = 1 := h0
  have hl2 : x.es.length = 4 := hl
  have q0 := hq 0 (by decide)
  have q1 := hq 1 (by decide)
  have q2 := hq 2 (by decide)
  have q3 := hq 3 (by decide)
  have hN := fun M0 I0 h => aEO (X := X) (w0 := w0) (M0 := M0) (I0 := I0) (e := gt x.es 1) (k := k) (by omega) h
  repeat (refine aK ?_)
  (repeat refine aG ?_); refine bZ (M0) (iZ x k :: aO x.p (recs eR x.es) :: I0) [0, 1, 2, 3, 4, 5, 7, 8, 9, 11, 12, 13, 14, 15, 16, 17, 18, 19, 20, 6, 10, 21, 22] [2, 2, 2, 2, 2, 1, 2, 2, 2, 2, 2, 2, 2, 2, 2, 2, 2, 2, 1, 0, 0, 0, 0] aD aC mixed (by kernel_rfl) ?_
  repeat (refine aK ?_)
  (refine aF rfl (fun _ => nY (vals := [rv (gt x.es 1), rv (gt x.es 0), rv (gt x.es 3)]) (cells := recs eR [gt x.es 1, gt x.es 0, gt x.es 3]) rfl ?hpl rfl ?hz) rfl rfl ?_; (case hpl => exact (by intro v hv; repeat (first | exact absurd hv (List.not_mem_nil) | (rcases List.mem_cons.1 hv with rfl | hv; · rfl)))); (case hz => rfl))
  repeat (refine aK ?_)
  (refine aA rfl (hN _ _ (Hv.lel (r := x) (k := k) aB ⟨by omega, by omega⟩)) rfl rfl ?_; rintro _ _ _ ⟨rfl, e1, rfl, he1, rfl⟩; refine ⟨okF, ?_⟩)
  repeat (refine aK ?_)
  (refine aF rfl (fun _ => nY (vals := [rv (gt x.es 0), rv e1, rv (gt x.es 2)]) (cells := recs eR [gt x.es 0, e1, gt x.es 2]) rfl ?hpl rfl ?hz) rfl rfl ?_; (case hpl => exact (by intro v hv; repeat (first | exact absurd hv (List.not_mem_nil) | (rcases List.mem_cons.1 hv with rfl | hv; · rfl)))); (case hz => rfl))
  repeat (refine aK ?_)
  (refine aA rfl (zZ (a := ⟨gt x.es 0, e1, gt x.es 2⟩) (b := ⟨gt x.es 1, gt x.es 0, gt x.es 3⟩) (k := k) (Hv.mkT (Hv.lel (r := x) (k := k) aB ⟨by omega, by omega⟩) (Hv.mem aB) (Hv.lel (r := x) (k := k) aB ⟨by omega, by omega⟩)) (Hv.mkT (Hv.lel (r := x) (k := k) aB ⟨by omega, by omega⟩) (Hv.lel (r := x) (k := k) aB ⟨by omega, by omega⟩) (Hv.lel (r := x) (k := k) aB ⟨by omega, by omega⟩))) rfl rfl ?_; rintro _ _ _ ⟨rfl, m, rfl, hm, dm, rfl⟩; refine ⟨okF, ?_⟩)
  repeat (refine aK ?_)
  refine gZ (M' := M0) (I' := jF m k :: I0) aD aC ?_
  refine aH (by first | exact .inl rfl | exact .inr rfl) rfl rfl _ _ aD aC (⟨rfl, m, rfl, by rw [hm, he1]; unfold nP; rw [if_neg (by decide), if_pos rfl, q0, q1, q2, q3]; rfl, dm, rfl⟩)
 ·obtain rfl : kd = 2 := h0
  have hl2 : x.es.length = 6 := hl
  have q0 := hq 0 (by decide)
  have q1 := hq 1 (by decide)
  have q2 := hq 2 (by decide)
  have q3 := hq 3 (by decide)
  have q4 := hq 4 (by decide)
  have q5 := hq 5 (by decide)
  repeat (refine aK ?_)
  (repeat refine aG ?_); refine bZ (M0) (iZ x k :: aO x.p (recs eR x.es) :: I0) [0, 1, 2, 3, 4, 5, 6, 7, 8, 9, 10, 11, 12, 13, 14, 15, 16, 17, 18, 19, 20, 21] [1, 1, 1, 1, 1, 1, 1, 1, 1, 0, 1, 1, 1, 1, 1, 1, 1, 1, 1, 0, 0, 0] aD aC mixed (by kernel_rfl) ?_
  repeat (refine aK ?_)
  (refine aF rfl (fun _ => nY (vals := [rv (gt x.es 0), rv (gt x.es 1), rv (gt x.es 2)]) (cells := recs eR [gt x.es 0, gt x.es 1, gt x.es 2]) rfl ?hpl rfl ?hz) rfl rfl ?_; (case hpl => exact (by intro v hv; repeat (first | exact absurd hv (List.not_mem_nil) | (rcases List.mem_cons.1 hv with rfl | hv; · rfl)))); (case hz => rfl))
  repeat (refine aK ?_)
  (refine aF rfl (fun _ => nY (vals := [rv (gt x.es 3), rv (gt x.es 4), rv (gt x.es 5)]) (cells := recs eR [gt x.es 3, gt x.es 4, gt x.es 5]) rfl ?hpl rfl ?hz) rfl rfl ?_; (case hpl => exact (by intro v hv; repeat (first | exact absurd hv (List.not_mem_nil) | (rcases List.mem_cons.1 hv with rfl | hv; · rfl)))); (case hz => rfl))
  repeat (refine aK ?_)
  (refine aA rfl (zZ (a := ⟨gt x.es 0, gt x.es 1, gt x.es 2⟩) (b := ⟨gt x.es 3, gt x.es 4, gt x.es 5⟩) (k := k) (Hv.mkT (Hv.lel (r := x) (k := k) aB ⟨by omega, by omega⟩) (Hv.lel (r := x) (k := k) aB ⟨by omega, by omega⟩) (Hv.lel (r := x) (k := k) aB ⟨by omega, by omega⟩)) (Hv.mkT (Hv.lel (r := x) (k := k) aB ⟨by omega, by omega⟩) (Hv.lel (r := x) (k := k) aB ⟨by omega, by omega⟩) (Hv.lel (r := x) (k := k) aB ⟨by omega, by omega⟩))) rfl rfl ?_; rintro _ _ _ ⟨rfl, m, rfl, hm, dm, rfl⟩; refine ⟨okF, ?_⟩)
  repeat (refine aK ?_)
  refine gZ (M' := M0) (I' := jF m k :: I0) aD aC ?_
  refine aH (by first | exact .inl rfl | exact .inr rfl) rfl rfl _ _ aD aC (⟨rfl, m, rfl, by rw [hm]; unfold nP; rw [if_neg (by decide), if_neg (by decide), q0, q1, q2, q3, q4, q5]; rfl, dm, rfl⟩)
end
end Go.Proofs.YtjbhdfpjnjedhaaGreat
namespace Go.Proofs.YtjbhdfpjnjedhaaGreat
open Go Go.Fx
abbrev kN : Nat := 4224
abbrev kX : Nat := 103842564
theorem kN_eq : kb kN 6 = 17302869 := by decide
def aMB (o : Option Mt) (k : Nat) (M0 : List Ent) (I0 : List aY) (v : Value) (M : List Ent) (I : List aY) : Prop := M0 = M ∧ match o with
 | none => I0 = I ∧ ∃ u, v = .tuple #[u, .bool false]
 | some A => ∃ m : MX, v = .tuple #[mv m, .bool true] ∧ m.q = A ∧ m.dim 3 3 ∧ I = jF m k :: I0
theorem aRS (kd : Nat) : 2 ≤ zA kd ∧ zA kd ≤ 6 := by unfold zA; split; omega; split <;> omega
section
variable {X : List Nat} {w0 : World} {M0 M1 : List Ent} {I0 : List aY}
theorem aDW {kd : Nat} {q : Option Addr} {l : List Q4} {n c : Nat} (hk : kd ≤ 2) (hl : l.length = n) (hn : n ≤ 64) (hs : ∀ s ∈ l, s.near) (hq : aO q (recs kU l) ∈ I0) :
  CD Tryz.prog 85 [.int .i64 (kd : Int), .slice q n c] X w0 M0 I0 (aMB (pY kd l) kX M0 I0) := by
 have hDs := fun M0 I0 h => aML (X := X) (w0 := w0) (M0 := M0) (I0 := I0) (q := q) (l := l) (n := n) (c := c) hk hl hn hs h
 have hW0 := fun M0 I0 => jS (X := X) (w0 := w0) (M0 := M0) (I0 := I0) (x := 0) (by decide) (k := 0) (by decide)
 refine aX Tryz.func85 rfl Tryz.ntmps85 rfl ?_
 by_cases h0 : n = 0
 ·have hl0 : l = [] := List.length_eq_zero_iff.1 (by omega)
  have e : pY kd l = none := by unfold pY; rw [if_pos hl0]
  rw [e]
  repeat (refine aK ?_)
  refine eP [4, 5] (by first | exact .inl rfl | exact .inr rfl) rfl rfl rfl _ _ aD aC (⟨rfl, rfl, _, rfl⟩)
 have hl0 : l ≠ [] := fun e => h0 (by rw [← hl, e]; rfl)
 obtain ⟨C, hC⟩ : ∃ C, zA kd = C := ⟨_, rfl⟩
 have hC6 := aRS kd
 rw [hC] at hC6
 have hDd := aSX (k := kd) (l := l)
 rw [hl, hC] at hDd
 repeat (refine aK ?_)
 (refine aA rfl (hDs _ _ aB) rfl rfl ?_; rintro _ _ _ ⟨rfl, A, b, rfl, hA, hb, rfl⟩; refine ⟨okF, ?_⟩)
 have hAR : A.rows.length = 2 * n := by have := hDd.1; rw [← hA] at this; simpa [MX.q] using this
 have hAC : ∀ t : Nat, t < 2 * n → (gt A.rows (t : Int)).es.length = C := fun t ht => by
  have := hDd.2 t ht
  rw [← hA] at this
  have e : rowAt A.q t = (gt A.rows (t : Int)).q := by
   have hlt : t < A.rows.length := by omega
   rw [gtQ hlt]; simp [rowAt, MX.q, List.getD, hlt]
  rw [e] at this
  simpa [RL.q, qs] using this
 have hbl : b.es.length = 2 * n := by have := congrArg List.length hb; rw [aKE, hl] at this; simpa [RL.q, qs] using this
 have hat : ∀ t j : Nat, t < 2 * n → j < C → at2 A.q t j = (gt (gt A.rows (t : Int)).es (j : Int)).q := fun t j ht hj => rF (m := A) (by omega) (by rw [hAC t ht]; exact hj)
 have hbt : ∀ t : Nat, t < 2 * n → b.q.getD t 0 = (gt b.es (t : Int)).q := fun t ht => jK (by omega)
 have hc0 : (gt A.rows 0).es.length = C := hAC 0 (by omega)
 refine dP (φ := aO A.p (recs eL A.rows)) (Hv.xsl aB) ?_
 refine dP (φ := aO b.p (recs eR b.es)) (Hv.lsl aB) ?_
 repeat (refine aK ?_)
 rw [hc0]
 repeat (refine aK ?_)
 (refine kD (C) rfl rfl (by omega) (by omega) (by omega) (by omega) (rX (enc := eH) (by decide) ⟨none, 0, 0⟩ C) rfl rfl ?_; intro bn; refine ⟨okF, ?_⟩)
 repeat (refine aK ?_)
 (refine kD (C) rfl rfl (by omega) (by omega) (by omega) (by omega) (rX (enc := e4) (by decide) z4 C) rfl rfl ?_; intro br; refine ⟨okF, ?_⟩)
 repeat (refine aK ?_)
 refine iB (φ := cO [] kN) Hv.nilR ?_
 refine iB (φ := jW [] kN) Hv.nilL ?_
 refine aEJ (M' := .blk br (recs e4 (List.replicate C z4)) 50 :: .blk bn (recs eH (List.replicate C ⟨none, 0, 0⟩)) 53 :: M0) (I' := jW [] kN :: cO [] kN :: aO b.p (recs eR b.es) :: aO A.p (recs eL A.rows) :: iZ b 16 :: jF A 16 :: I0) aD aC ?_
 refine aT [0, 6, 7, 8, 9, 10, 39] rfl (fun k G M I => ∃ (i : Nat) (rows : List RL) (rs : List RE), i ≤ C ∧ k = C - i ∧ rows.length = i ∧ rows.map RL.q = (List.range i).map (fun a => (List.range C).map (fun j => sm (2 * n) (fun t => at2 A.q t a * at2 A.q t j))) ∧ (∀ r ∈ rows, r.es.length = C) ∧ rs.length = i ∧ qs rs = (List.range i).map (fun a => sm (2 * n) (fun t => at2 A.q t a * b.q.getD t 0)) ∧ G = [(40, .int .i64 i)] ∧ M = .blk br (recs e4 (rs.map t4 ++ List.replicate (C - i) z4)) 50 :: .blk bn (recs eH (rows.map hdL ++ List.replicate (C - i) ⟨none, 0, 0⟩)) 53 :: M0 ∧ I = jW rows kN :: cO rs kN :: aO b.p (recs eR b.es) :: aO A.p (recs eL A.rows) :: iZ b 16 :: jF A 16 :: I0) (C) _ _ _ aP aD aC (⟨0, [], [], by omega, rfl, rfl, rfl, fun r hr => by simp at hr, rfl, rfl, rfl, rfl, rfl⟩) ?_
 rintro kk G M I ⟨i, rows, rs, hi, rfl, hrl, hrq, hrc, hsl, hsq, rfl, rfl, rfl⟩
 by_cases hiC : i < C
 ·have hz := rC (n := C - i) (z := (⟨none, 0, 0⟩ : HD)) (by omega)
  have hz3 := rC (n := C - i) (z := z4) (by omega)
  repeat (refine aK ?_)
  (refine kD (C) rfl rfl (by omega) (by omega) (by omega) (by omega) (rX (enc := e4) (by decide) z4 C) rfl rfl ?_; intro bi; refine ⟨okF, ?_⟩)
  rw [hz, hz3]
  have hlh0 : ((rows.map hdL ++ (⟨none, 0, 0⟩ : HD) :: List.replicate (C - i - 1) ⟨none, 0, 0⟩).length : Int) = C := by simp; omega
  repeat (refine yXh ?_)
  refine kI rfl rfl rfl lN (StAt.r1 (⟨some ⟨bi, 0, none⟩, C, C⟩ : HD) (by omega) rfl) rfl rfl ⟨okF, ?_⟩
  rw [vX (by simp; omega)]
  obtain ⟨hs2, hhs⟩ : ∃ hs2, hs2 = rows.map hdL ++ (⟨some ⟨bi, 0, none⟩, C, C⟩ : HD) :: List.replicate (C - i - 1) ⟨none, 0, 0⟩ := ⟨_, rfl⟩
  rw [← hhs]
  have hgh : gt hs2 (i : Int) = ⟨some ⟨bi, 0, none⟩, C, C⟩ := by rw [hhs]; exact aBZ (by simp; omega)
  have hlh : hs2.length = C := by rw [hhs]; simp; omega
  have hgp : (gt hs2 (i : Int)).p = some ⟨bi, 0, none⟩ := by rw [hgh]
  have hgn : (gt hs2 (i : Int)).n = C := by rw [hgh]
  have hgc : (gt hs2 (i : Int)).c = C := by rw [hgh]
  obtain ⟨rz, hrz⟩ : ∃ rz, rz = rs.map t4 ++ z4 :: List.replicate (C - i - 1) z4 := ⟨_, rfl⟩
  rw [← hrz]
  have hlrz : rz.length = C := by rw [hrz]; simp; omega
  repeat (refine aK ?_)
  refine iB (φ := cO [] kN) Hv.nilR ?_
  refine aEJ (M' := .blk bi (recs e4 (List.replicate C z4)) 50 :: .blk br (recs e4 rz) 50 :: .blk bn (recs eH hs2) 53 :: M0) (I' := cO [] kN :: jW rows kN :: cO rs kN :: aO b.p (recs eR b.es) :: aO A.p (recs eL A.rows) :: iZ b 16 :: jF A 16 :: I0) aD aC ?_
  refine aT [0, 6, 7, 8, 9, 10, 11, 39, 40, 48] rfl (fun k G M I => ∃ (j : Nat) (es : List RE), j ≤ C ∧ k = C - j ∧ es.length = j ∧ qs es = (List.range j).map (fun j => sm (2 * n) (fun t => at2 A.q t i * at2 A.q t j)) ∧ G = [(49, .int .i64 j)] ∧ M = .blk bi (recs e4 (es.map t4 ++ List.replicate (C - j) z4)) 50 :: .blk br (recs e4 rz) 50 :: .blk bn (recs eH hs2) 53 :: M0 ∧ I = cO es kN :: jW rows kN :: cO rs kN :: aO b.p (recs eR b.es) :: aO A.p (recs eL A.rows) :: iZ b 16 :: jF A 16 :: I0) (C) _ _ _ aP aD aC (⟨0, [], by omega, rfl, rfl, rfl, rfl, rfl, rfl⟩) ?_
  rintro kk G M I ⟨j, es, hj, rfl, hel, heq, rfl, rfl, rfl⟩
  by_cases hjC : j < C
  ·have hz2 := rC (n := C - j) (z := z4) (by omega)
   rw [hz2]
   have hl2 : ((es.map t4 ++ z4 :: List.replicate (C - j - 1) z4).length : Int) = C := by simp; omega
   repeat (refine aK ?_)
   (repeat refine aG ?_); refine bG 1 [0, 1, 2, 3, 4, 5, 6, 7] [1, 1, 1, 1, 1, 0, 0, 0] mixed (by kernel_rfl) ?_
   repeat (refine aK ?_)
   rw [hgp, hgn, hgc]
   repeat (refine aK ?_)
   (refine aA rfl (hW0 _ _) rfl rfl ?_; rintro _ _ _ ⟨rfl, e, rfl, he, rfl⟩; refine ⟨okF, ?_⟩)
   repeat (refine yXh ?_)
   refine iC (vs := eR e) rfl rfl rfl (Ones.one e) lN (StAts.r (t4 e) (by omega) rfl) rfl rfl ⟨okF, ?_⟩
   rw [vX (by simp; omega)]
   repeat (refine aK ?_)
   refine aEJ (M' := .blk bi (recs e4 (es.map t4 ++ t4 e :: List.replicate (C - j - 1) z4)) 50 :: .blk br (recs e4 rz) 50 :: .blk bn (recs eH hs2) 53 :: M0) (I' := bS e 0 :: cO es kN :: jW rows kN :: cO rs kN :: aO b.p (recs eR b.es) :: aO A.p (recs eL A.rows) :: iZ b 16 :: jF A 16 :: I0) aD aC ?_
   refine aT [0, 6, 7, 8, 9, 10, 11, 12, 39, 40, 48, 49, 59, 60] rfl (fun k G M I => ∃ (t : Nat) (e : RE), t ≤ 2 * n ∧ k = 2 * n - t ∧ e.q = sm t (fun r => at2 A.q r i * at2 A.q r j) ∧ G = [(61, .int .i64 t)] ∧ M = .blk bi (recs e4 (es.map t4 ++ t4 e :: List.replicate (C - j - 1) z4)) 50 :: .blk br (recs e4 rz) 50 :: .blk bn (recs eH hs2) 53 :: M0 ∧ I = bS e (t * 33) :: cO es kN :: jW rows kN :: cO rs kN :: aO b.p (recs eR b.es) :: aO A.p (recs eL A.rows) :: iZ b 16 :: jF A 16 :: I0) (2 * n) _ _ _ aP aD aC (⟨0, e, by omega, rfl, he, rfl, rfl, rfl⟩) ?_
   rintro kk G M I ⟨t, e, ht, rfl, he, rfl, rfl, rfl⟩
   have hl3 : ((es.map t4 ++ t4 e :: List.replicate (C - j - 1) z4).length : Int) = C := by simp; omega
   by_cases htn : t < 2 * n
   ·have hcl := hAC t htn
    have hM := fun M0 I0 h1 h2 => qC (X := X) (w0 := w0) (M0 := M0) (I0 := I0) (a := gt (gt A.rows (t : Int)).es (i : Int)) (b := gt (gt A.rows (t : Int)).es (j : Int)) (k := 16) (m := 16) (by omega) h1 h2
    have hP := fun f M0 I0 h1 h2 => sO (X := X) (w0 := w0) (M0 := M0) (I0 := I0) (a := e) (b := f) (k := t * 33) (m := 32) (by omega) h1 h2
    refine iB (φ := aO (gt A.rows (t : Int)).p (recs eR (gt A.rows (t : Int)).es)) (Hv.xrsl (m := A) (k := 16) aB (by omega)) ?_
    repeat (refine aK ?_)
    (repeat refine aG ?_); refine bG 2 [0, 1, 2, 3, 4, 5, 6, 7, 8, 9, 10, 11, 12, 13, 14, 15, 16, 17, 18, 19, 20, 21, 22, 23] [2, 2, 2, 2, 2, 2, 2, 2, 2, 2, 2, 1, 2, 2, 2, 1, 2, 2, 2, 1, 0, 0, 0, 0] mixed (by kernel_rfl) ?_
    repeat (refine aK ?_)
    rw [hgp, hgn, hgc]
    repeat (refine aK ?_)
    rw [aBZ (by simp; omega)]
    (refine aA rfl (hM _ _ (Hv.xel (m := A) (k := 16) aB (by omega) (by omega)) (Hv.xel (m := A) (k := 16) aB (by omega) (by omega))) rfl rfl ?_; rintro _ _ _ ⟨rfl, f, rfl, hf, rfl⟩; refine ⟨okF, ?_⟩)
    (refine aA rfl (hP f _ _ (Hv.mem aB) (Hv.mem aB)) rfl rfl ?_; rintro _ _ _ ⟨rfl, e2, rfl, he2, rfl⟩; refine ⟨okF, ?_⟩)
    repeat (refine yXh ?_)
    refine iC (vs := eR e2) rfl rfl rfl (Ones.one e2) lN (StAts.r (t4 e2) (by omega) rfl) rfl rfl ⟨okF, ?_⟩
    rw [vX (by simp; omega)]
    repeat (refine aK ?_)
    have e33 : t * 33 + 32 + 1 = (t + 1) * 33 := by omega
    rw [e33]
    refine aL (2 * n - (t + 1)) _ _ _ (by first | omega | (simp only [List.length_append, List.length_cons, List.length_nil]; omega)) aP aD aC (⟨t + 1, e2, by omega, rfl, by rw [he2, hf, he, ← hat t i htn hiC, ← hat t j htn hjC]; rfl, rfl, rfl, rfl⟩)
   ·obtain rfl : t = 2 * n := by omega
    repeat (refine aK ?_)
    refine gV (φ := bS e kN) (Hv.q (k := 2 * n * 33) aB (by show 2 * n * 33 ≤ 4224; omega)) ?_
    refine gV (φ := cO (es ++ [e]) kN) (Hv.snoc aB aB) ?_
    have e9 : es.map t4 ++ t4 e :: List.replicate (C - j - 1) z4 = (es ++ [e]).map t4 ++ List.replicate (C - (j + 1)) z4 := by simp [Nat.sub_sub]
    rw [e9]
    refine aL (C - (j + 1)) _ _ _ (by first | omega | (simp only [List.length_append, List.length_cons, List.length_nil]; omega)) aP aD aC (⟨j + 1, es ++ [e], by omega, rfl, by simp; omega, by rw [List.range_succ, List.map_append, ← heq]; show (es ++ [e]).map RE.q = _; rw [List.map_append]; show _ ++ [e.q] = _; rw [he]; rfl, rfl, rfl, rfl⟩)
  ·obtain rfl : j = C := by omega
   rw [Nat.sub_self, List.replicate_zero, List.append_nil, aEP]
   refine aJW (k := kN) aB ?_
   rw [hel]
   have hl4 : ((rs.map t4 ++ z4 :: List.replicate (j - i - 1) z4).length : Int) = j := by simp; omega
   rw [hrz]
   repeat (refine aK ?_)
   (refine aA rfl (hW0 _ _) rfl rfl ?_; rintro _ _ _ ⟨rfl, e, rfl, he, rfl⟩; refine ⟨okF, ?_⟩)
   repeat (refine yXh ?_)
   refine iC (vs := eR e) rfl rfl rfl (Ones.one e) lN (StAts.r (t4 e) (by omega) rfl) rfl rfl ⟨okF, ?_⟩
   rw [vX (by simp; omega)]
   repeat (refine aK ?_)
   refine aEJ (M' := .blk br (recs e4 (rs.map t4 ++ t4 e :: List.replicate (j - i - 1) z4)) 50 :: .blk bn (recs eH hs2) 53 :: M0) (I' := bS e 0 :: iZ ⟨some ⟨bi, 0, none⟩, j, es⟩ kN :: jW rows kN :: cO rs kN :: aO b.p (recs eR b.es) :: aO A.p (recs eL A.rows) :: iZ b 16 :: jF A 16 :: I0) aD aC ?_
   refine aT [0, 6, 7, 8, 9, 10, 11, 39, 40, 94, 95] rfl (fun k G M I => ∃ (t : Nat) (e : RE), t ≤ 2 * n ∧ k = 2 * n - t ∧ e.q = sm t (fun r => at2 A.q r i * b.q.getD r 0) ∧ G = [(96, .int .i64 t)] ∧ M = .blk br (recs e4 (rs.map t4 ++ t4 e :: List.replicate (j - i - 1) z4)) 50 :: .blk bn (recs eH hs2) 53 :: M0 ∧ I = bS e (t * 33) :: iZ ⟨some ⟨bi, 0, none⟩, j, es⟩ kN :: jW rows kN :: cO rs kN :: aO b.p (recs eR b.es) :: aO A.p (recs eL A.rows) :: iZ b 16 :: jF A 16 :: I0) (2 * n) _ _ _ aP aD aC (⟨0, e, by omega, rfl, he, rfl, rfl, rfl⟩) ?_
   rintro kk G M I ⟨t, e, ht, rfl, he, rfl, rfl, rfl⟩
   have hl3 : ((rs.map t4 ++ t4 e :: List.replicate (j - i - 1) z4).length : Int) = j := by simp; omega
   by_cases htn : t < 2 * n
   ·have hcl := hAC t htn
    have hM := fun M0 I0 h1 h2 => qC (X := X) (w0 := w0) (M0 := M0) (I0 := I0) (a := gt (gt A.rows (t : Int)).es (i : Int)) (b := gt b.es (t : Int)) (k := 16) (m := 16) (by omega) h1 h2
    have hP := fun f M0 I0 h1 h2 => sO (X := X) (w0 := w0) (M0 := M0) (I0 := I0) (a := e) (b := f) (k := t * 33) (m := 32) (by omega) h1 h2
    refine iB (φ := aO (gt A.rows (t : Int)).p (recs eR (gt A.rows (t : Int)).es)) (Hv.xrsl (m := A) (k := 16) aB (by omega)) ?_
    repeat (refine aK ?_)
    (repeat refine aG ?_); refine bG 2 [0, 1, 2, 3, 4, 5, 6, 7, 8, 9, 10, 11, 12, 13, 14, 15, 16, 17] [2, 2, 2, 2, 2, 1, 2, 2, 2, 1, 2, 2, 2, 1, 0, 0, 0, 0] mixed (by kernel_rfl) ?_
    repeat (refine aK ?_)
    rw [aBZ (by simp; omega)]
    (refine aA rfl (hM _ _ (Hv.xel (m := A) (k := 16) aB (by omega) (by omega)) (Hv.lel (r := b) (k := 16) aB (by omega))) rfl rfl ?_; rintro _ _ _ ⟨rfl, f, rfl, hf, rfl⟩; refine ⟨okF, ?_⟩)
    (refine aA rfl (hP f _ _ (Hv.mem aB) (Hv.mem aB)) rfl rfl ?_; rintro _ _ _ ⟨rfl, e2, rfl, he2, rfl⟩; refine ⟨okF, ?_⟩)
    repeat (refine yXh ?_)
    refine iC (vs := eR e2) rfl rfl rfl (Ones.one e2) lN (StAts.r (t4 e2) (by omega) rfl) rfl rfl ⟨okF, ?_⟩
    rw [vX (by simp; omega)]
    repeat (refine aK ?_)
    have e33 : t * 33 + 32 + 1 = (t + 1) * 33 := by omega
    rw [e33]
    refine aL (2 * n - (t + 1)) _ _ _ (by first | omega | (simp only [List.length_append, List.length_cons, List.length_nil]; omega)) aP aD aC (⟨t + 1, e2, by omega, rfl, by rw [he2, hf, he, ← hat t i htn hiC, ← hbt t htn]; rfl, rfl, rfl, rfl⟩)
   ·obtain rfl : t = 2 * n := by omega
    repeat (refine aK ?_)
    refine gV (φ := bS e kN) (Hv.q (k := 2 * n * 33) aB (by show 2 * n * 33 ≤ 4224; omega)) ?_
    refine gV (φ := cO (rs ++ [e]) kN) (Hv.snoc aB aB) ?_
    refine gV (φ := jW (rows ++ [(⟨some ⟨bi, 0, none⟩, j, es⟩ : RL)]) kN) (Hv.snocL aB aB) ?_
    have e9 : rs.map t4 ++ t4 e :: List.replicate (j - i - 1) z4 = (rs ++ [e]).map t4 ++ List.replicate (j - (i + 1)) z4 := by simp [Nat.sub_sub]
    have e8 : hs2 = (rows ++ [(⟨some ⟨bi, 0, none⟩, j, es⟩ : RL)]).map hdL ++ List.replicate (j - (i + 1)) ⟨none, 0, 0⟩ := by rw [hhs]; simp [hel, Nat.sub_sub]
    rw [e9, e8]
    refine aL (j - (i + 1)) _ _ _ (by first | omega | (simp only [List.length_append, List.length_cons, List.length_nil]; omega)) aP aD aC (⟨i + 1, rows ++ [(⟨some ⟨bi, 0, none⟩, j, es⟩ : RL)], rs ++ [e], by omega, rfl, by simp; omega, by rw [List.range_succ, List.map_append, List.map_append, ← hrq]; show _ ++ [qs es] = _; rw [heq]; rfl, fun r hr => by rcases List.mem_append.1 hr with h | h; exact hrc r h; rw [List.mem_singleton.1 h]; exact hel, by simp; omega, by rw [List.range_succ, List.map_append, ← hsq]; show (rs ++ [e]).map RE.q = _; rw [List.map_append]; show _ ++ [e.q] = _; rw [he]; rfl, rfl, rfl, rfl⟩)
 ·obtain rfl : i = C := by omega
  rw [Nat.sub_self, List.replicate_zero, List.append_nil, aEP, List.replicate_zero, List.append_nil, aOG]
  refine aJW (k := kN) aB ?_
  rw [hsl]
  refine zK (C := i) (k := kN) hrl (by omega) aB ?_
  obtain ⟨Nm, hNm⟩ : ∃ z : MX, z = ⟨some ⟨bn, 0, none⟩, i, rows⟩ := ⟨_, rfl⟩
  obtain ⟨Rv, hRv⟩ : ∃ z : RL, z = ⟨some ⟨br, 0, none⟩, i, rs⟩ := ⟨_, rfl⟩
  have dN : Nm.fit i i := by rw [hNm]; exact ⟨⟨hrl, hrc⟩, ⟨by omega, by omega⟩, by omega, by omega⟩
  have qN : Nm.q = nrN (2 * n) i (dsA kd l) := by rw [hNm, ← hA]; exact hrq
  have lR : Rv.es.length = i := by rw [hRv]; exact hsl
  have qR : Rv.q = nrB (2 * n) i (dsA kd l) (dsB kd l) := by rw [hRv, ← hA, ← hb]; exact hsq
  have kb6 : kb kN i ≤ 17302869 := by rw [← kN_eq]; exact zU kN hC6.2
  have hIv := fun M0 I0 h => aEX (X := X) (w0 := w0) (M0 := M0) (I0 := I0) (a := Nm) (n := i) (k0 := kN) (by omega) (by decide) dN h
  have eD : aJA kd l = dt i (at2 Nm.q) := by unfold aJA; rw [hC, hl, qN]
  have hmv : (Value.slice (some ⟨bn, 0, none⟩) i i) = mv Nm := by rw [hNm]; show _ = Value.slice (some ⟨bn, 0, none⟩) rows.length i; rw [hrl]
  have hlv : (Value.slice (some ⟨br, 0, none⟩) i i) = lv Rv := by rw [hRv]; show _ = Value.slice (some ⟨br, 0, none⟩) rs.length i; rw [hsl]
  rw [← hNm, ← hRv]
  by_cases hd : aJA kd l = 0
  ·have e : pY kd l = none := by unfold pY; rw [if_neg hl0, if_pos hd]
   rw [e]
   rw [eD] at hd
   simp only [if_pos hd] at hIv
   repeat (refine aK ?_)
   rw [hmv]
   (refine aA rfl (hIv _ _ aB) rfl rfl ?_; rintro _ _ _ ⟨rfl, rfl, rfl⟩; refine ⟨okF, ?_⟩)
   repeat (refine aK ?_)
   refine gZ (M' := M0) (I' := I0) aD aC ?_
   refine eP [4, 5] (by first | exact .inl rfl | exact .inr rfl) rfl rfl rfl _ _ aD aC (⟨rfl, rfl, _, rfl⟩)
  ·have hd' := hd
   rw [eD] at hd'
   simp only [if_neg hd'] at hIv
   repeat (refine aK ?_)
   rw [hmv]
   (refine aA rfl (hIv _ _ aB) rfl rfl ?_; rintro _ _ _ ⟨rfl, Iv, rfl, hIq, hId, rfl⟩; refine ⟨okF, ?_⟩)
   have fI : Iv.fit i i := ⟨hId, ⟨by omega, by omega⟩, by omega, by omega⟩
   refine dP (φ := jF Iv 17302869) (Hv.xm (k := kb kN i) aB kb6) ?_
   have hAp := fun M0 I0 h1 h2 => aNJ (X := X) (w0 := w0) (M0 := M0) (I0 := I0) (a := Iv) (x := Rv) (R := i) (C := i) (k := 17302869) (m := kN) (by decide) (by decide) fI lR h1 h2
   repeat (refine aK ?_)
   rw [hlv]
   (refine aA rfl (hAp _ _ aB aB) rfl rfl ?_; rintro _ _ _ ⟨rfl, xx, rfl, hxq, rfl⟩; refine ⟨okF, ?_⟩)
   have hxe : xx.q = wU kd l := by
    rw [hxq]
    unfold wU lsX
    rw [hC, hl, hIq, qN, qR]
   have lx : xx.es.length = zA kd := by have := congrArg List.length hxq; rw [hC]; simpa [RL.q, qs] using this
   refine dP (φ := iZ xx kX) (Hv.lm (k := i * (17302869 + kN + 1)) aB (by
    have : i * (17302869 + kN + 1) ≤ 6 * (17302869 + kN + 1) := Nat.mul_le_mul_right _ hC6.2
    exact Nat.le_trans this (by decide))) ?_
   repeat (refine aK ?_)
   (refine aA rfl (aLM (kd := kd) (k := kX) (x := xx) hk (by decide) lx aB) rfl rfl ?_; rintro _ _ _ ⟨rfl, mm, rfl, hmq, hmd, rfl⟩; refine ⟨okF, ?_⟩)
   have fm : mm.fit 3 3 := ⟨hmd, ⟨by omega, by omega⟩, by omega, by omega⟩
   rw [hxe] at hmq
   have hRg := fun M0 I0 h => aGF (X := X) (w0 := w0) (M0 := M0) (I0 := I0) (a := mm) (k := kX) (by decide) (by decide) fm h
   rw [hmq] at hRg
   by_cases hr : dt 3 (at2 (nP kd (wU kd l))) = 0
   ·have e : pY kd l = none := by unfold pY; rw [if_neg hl0, if_neg hd, if_pos hr]
    rw [e]
    rw [bB (show ¬ dt 3 (at2 (nP kd (wU kd l))) ≠ 0 from fun h => h hr)] at hRg
    repeat (refine aK ?_)
    (refine aA rfl (hRg _ _ aB) rfl rfl ?_; rintro _ _ _ ⟨rfl, rfl, rfl⟩; refine ⟨okF, ?_⟩)
    repeat (refine aK ?_)
    refine gZ (M' := M0) (I' := I0) aD aC ?_
    refine eP [4, 5] (by first | exact .inl rfl | exact .inr rfl) rfl rfl rfl _ _ aD aC (⟨rfl, rfl, _, rfl⟩)
   ·have e : pY kd l = some (nP kd (wU kd l)) := by unfold pY; rw [if_neg hl0, if_neg hd, if_neg hr]
    rw [e]
    rw [bJ (show dt 3 (at2 (nP kd (wU kd l))) ≠ 0 from hr)] at hRg
    repeat (refine aK ?_)
    (refine aA rfl (hRg _ _ aB) rfl rfl ?_; rintro _ _ _ ⟨rfl, rfl, rfl⟩; refine ⟨okF, ?_⟩)
    repeat (refine aK ?_)
    refine gZ (M' := M0) (I' := jF mm kX :: I0) aD aC ?_
    refine eP [4, 5] (by first | exact .inl rfl | exact .inr rfl) rfl rfl rfl _ _ aD aC (⟨rfl, mm, rfl, hmq, hmd, rfl⟩)
end
end Go.Proofs.YtjbhdfpjnjedhaaGreat
namespace Go.Proofs.YtjbhdfpjnjedhaaGreat
open Go Go.Fx
instance Q4.ones : Ones kU := ⟨fun m u hu => by simp [kU] at hu; rcases hu with rfl | rfl | rfl | rfl <;> rfl⟩
theorem zW {l : List Q4} {smp : List Int} {z : Int} : kH l (smp ++ [z]) = kH l smp ++ [gt l z] := by simp [kH]
theorem xM {l : List Q4} {smp : List Int} : (kH l smp).length = smp.length := by simp [kH]
theorem aCF {l : List Q4} {smp : List Int} (hs : ∀ s ∈ l, s.near) (hin : ∀ x ∈ smp, 0 ≤ x ∧ x < l.length) : ∀ s ∈ kH l smp, s.near := fun s h => by
 obtain ⟨z, hz, rfl⟩ := List.mem_map.1 h
 exact hs _ (dF (hin z hz))
section
variable {X : List Nat} {w0 : World} {M0 M1 : List Ent} {I0 : List aY}
theorem aMR {kd : Nat} {q qs : Option Addr} {l : List Q4} {smp : List Int} {n c ns cs : Nat} (hk : kd ≤ 2) (hl : l.length = n) (hn : n ≤ 64) (hs : ∀ s ∈ l, s.near) (hsl : smp.length = ns) (hns : ns ≤ 64) (hin : ∀ x ∈ smp, 0 ≤ x ∧ x < n) (hq : aO q (recs kU l) ∈ I0) (hqs : aO qs (recs eZ smp) ∈ I0) :
  CD Tryz.prog 51 [.int .i64 (kd : Int), .slice q n c, .slice qs ns cs] X w0 (M0) I0 (aMB (pY kd (kH l smp)) kX (M0) I0) := by
 refine cZ (φ := aO q (recs kU l)) (Hv.mem hq) (cZ (φ := aO qs (recs eZ smp)) (Hv.mem (List.mem_cons_of_mem _ hqs)) ?_)
 refine jU Tryz.func51 rfl Tryz.ntmps51 rfl ?_
 repeat (refine aK ?_)
 refine mM 65 4 ?_
 refine aT [0, 1, 19, 20] rfl (fun k G M I => ∃ (i : Nat) (ps : List Q4) (qe : Option Addr) (ce : Nat), i ≤ ns ∧ k = ns - i ∧ ps = kH l (smp.take i) ∧ G = [(8, .slice qe ps.length ce), (21, .int .i64 i)] ∧ M = .row qe ps.length ce (recs kU ps) 65 4 :: M0 ∧ I = aO qs (recs eZ smp) :: aO q (recs kU l) :: I0) (ns) _ _ _ aP aD aC (⟨0, [], none, 0, by omega, rfl, rfl, rfl, rfl, rfl⟩) ?_
 rintro kk G M I ⟨i, ps, qe, ce, hi, rfl, hps, rfl, rfl, rfl⟩
 have hpl : ps.length = i := by rw [hps, xM, List.length_take]; omega
 by_cases hin2 : i < ns
 ·have hz := hin _ (dF (ms := smp) (i := (i : Int)) (by omega))
  have ht : smp.take (i + 1) = smp.take i ++ [gt smp (i : Int)] := by rw [gtQ (by omega)]; exact (List.take_append_getElem (by omega)).symm
  repeat (refine aK ?_)
  (refine aQ (cs := recs kU [gt l (gt smp (i : Int))]) ([vQ4 (gt l (gt smp (i : Int)))]) rfl rfl (by intro v hv; repeat (first | exact absurd hv (List.not_mem_nil) | (rcases List.mem_cons.1 hv with rfl | hv; · rfl))) (by omega) rfl rfl rfl ?_; intro b; refine ⟨okF, ?_⟩)
  (refine dI (ys := [gt l (gt smp (i : Int))]) 1 rfl rfl rfl ?_ (by decide) rfl (by omega) (by omega) rfl rfl ?_; (· first | exact Src.blk aB | exact Src.row aB | exact Src.imm aB (by first | assumption | exact .inl (Ok.mk _ _))); intro q2 c2; refine ⟨okF, ?_⟩)
  repeat (refine aK ?_)
  refine aL (ns - (i + 1)) _ _ _ (by first | omega | (simp only [List.length_append, List.length_cons, List.length_nil]; omega)) aP aD aC (⟨i + 1, ps ++ [gt l (gt smp (i : Int))], q2, c2, by omega, rfl, by rw [ht, zW, ← hps], rfl, rfl, rfl⟩)
 ·obtain rfl : i = ns := by omega
  rw [← hsl, List.take_length] at hps
  have hnr := aCF hs (by rw [hl]; exact hin)
  rw [← hps] at hnr ⊢
  have hF := fun M0 I0 h => aDW (X := X) (w0 := w0) (M0 := M0) (I0 := I0) (kd := kd) (q := qe) (l := ps) (n := ps.length) (c := ce) hk rfl (by omega) hnr h
  repeat (refine aK ?_)
  refine eU .here ?_
  cases hf : pY kd ps with
  | none =>
   rw [hf] at hF
   (refine aA rfl (hF _ _ aB) rfl rfl ?_; rintro _ _ _ ⟨rfl, rfl, u, rfl⟩; refine ⟨okF, ?_⟩)
   repeat (refine aK ?_)
   refine gZ (M' := M0) (I' := I0) aD aC ?_
   refine eP [6, 7] (by first | exact .inl rfl | exact .inr rfl) rfl rfl rfl _ _ aD aC (⟨rfl, rfl, u, rfl⟩)
  | some A =>
   rw [hf] at hF
   (refine aA rfl (hF _ _ aB) rfl rfl ?_; rintro _ _ _ ⟨rfl, m, rfl, hmq, hmd, rfl⟩; refine ⟨okF, ?_⟩)
   repeat (refine aK ?_)
   refine gZ (M' := M0) (I' := jF m kX :: I0) aD aC ?_
   refine eP [6, 7] (by first | exact .inl rfl | exact .inr rfl) rfl rfl rfl _ _ aD aC (⟨rfl, m, rfl, hmq, hmd, rfl⟩)
theorem aIG {kd : Nat} {q qs : Option Addr} {l : List Q4} {smp : List Int} {n c ns cs : Nat} (hk : kd ≤ 2) (hl : l.length = n) (hn : n ≤ 64) (hs : ∀ s ∈ l, s.near) (hsl : smp.length = ns) (hns : ns ≤ 64) (hin : ∀ x ∈ smp, 0 ≤ x ∧ x < n) (hq : aO q (recs kU l) ∈ I0) :
  CD Tryz.prog 51 [.int .i64 (kd : Int), .slice q n c, .slice qs ns cs] X w0 (.row qs ns cs (recs eZ smp) 3 1 :: M0) I0 (aMB (pY kd (kH l smp)) kX (.row qs ns cs (recs eZ smp) 3 1 :: M0) I0) := by
 refine cZ (φ := aO q (recs kU l)) (Hv.mem hq) ?_
 refine jU Tryz.func51 rfl Tryz.ntmps51 rfl ?_
 repeat (refine aK ?_)
 refine mM 65 4 ?_
 refine aT [0, 1, 19, 20] rfl (fun k G M I => ∃ (i : Nat) (ps : List Q4) (qe : Option Addr) (ce : Nat), i ≤ ns ∧ k = ns - i ∧ ps = kH l (smp.take i) ∧ G = [(8, .slice qe ps.length ce), (21, .int .i64 i)] ∧ M = .row qe ps.length ce (recs kU ps) 65 4 :: .row qs ns cs (recs eZ smp) 3 1 :: M0 ∧ I = aO q (recs kU l) :: I0) (ns) _ _ _ aP aD aC (⟨0, [], none, 0, by omega, rfl, rfl, rfl, rfl, rfl⟩) ?_
 rintro kk G M I ⟨i, ps, qe, ce, hi, rfl, hps, rfl, rfl, rfl⟩
 have hpl : ps.length = i := by rw [hps, xM, List.length_take]; omega
 by_cases hin2 : i < ns
 ·have hz := hin _ (dF (ms := smp) (i := (i : Int)) (by omega))
  have ht : smp.take (i + 1) = smp.take i ++ [gt smp (i : Int)] := by rw [gtQ (by omega)]; exact (List.take_append_getElem (by omega)).symm
  repeat (refine aK ?_)
  (refine aQ (cs := recs kU [gt l (gt smp (i : Int))]) ([vQ4 (gt l (gt smp (i : Int)))]) rfl rfl (by intro v hv; repeat (first | exact absurd hv (List.not_mem_nil) | (rcases List.mem_cons.1 hv with rfl | hv; · rfl))) (by omega) rfl rfl rfl ?_; intro b; refine ⟨okF, ?_⟩)
  (refine dI (ys := [gt l (gt smp (i : Int))]) 1 rfl rfl rfl ?_ (by decide) rfl (by omega) (by omega) rfl rfl ?_; (· first | exact Src.blk aB | exact Src.row aB | exact Src.imm aB (by first | assumption | exact .inl (Ok.mk _ _))); intro q2 c2; refine ⟨okF, ?_⟩)
  repeat (refine aK ?_)
  refine aL (ns - (i + 1)) _ _ _ (by first | omega | (simp only [List.length_append, List.length_cons, List.length_nil]; omega)) aP aD aC (⟨i + 1, ps ++ [gt l (gt smp (i : Int))], q2, c2, by omega, rfl, by rw [ht, zW, ← hps], rfl, rfl, rfl⟩)
 ·obtain rfl : i = ns := by omega
  rw [← hsl, List.take_length] at hps
  have hnr := aCF hs (by rw [hl]; exact hin)
  rw [← hps] at hnr ⊢
  have hF := fun M0 I0 h => aDW (X := X) (w0 := w0) (M0 := M0) (I0 := I0) (kd := kd) (q := qe) (l := ps) (n := ps.length) (c := ce) hk rfl (by omega) hnr h
  repeat (refine aK ?_)
  refine eU .here ?_
  cases hf : pY kd ps with
  | none =>
   rw [hf] at hF
   (refine aA rfl (hF _ _ aB) rfl rfl ?_; rintro _ _ _ ⟨rfl, rfl, u, rfl⟩; refine ⟨okF, ?_⟩)
   repeat (refine aK ?_)
   refine gZ (M' := .row qs i cs (recs eZ smp) 3 1 :: M0) (I' := I0) aD aC ?_
   refine eP [6, 7] (by first | exact .inl rfl | exact .inr rfl) rfl rfl rfl _ _ aD aC (⟨rfl, rfl, u, rfl⟩)
  | some A =>
   rw [hf] at hF
   (refine aA rfl (hF _ _ aB) rfl rfl ?_; rintro _ _ _ ⟨rfl, m, rfl, hmq, hmd, rfl⟩; refine ⟨okF, ?_⟩)
   repeat (refine aK ?_)
   refine gZ (M' := .row qs i cs (recs eZ smp) 3 1 :: M0) (I' := jF m kX :: I0) aD aC ?_
   refine eP [6, 7] (by first | exact .inl rfl | exact .inr rfl) rfl rfl rfl _ _ aD aC (⟨rfl, m, rfl, hmq, hmd, rfl⟩)
end
end Go.Proofs.YtjbhdfpjnjedhaaGreat
