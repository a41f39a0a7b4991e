/- fraction: copied, Value, Whole, Sign, Neg fraction: Add, Sub, Mul, Divide, Compare fiducialref01: magnitudes: group, made, plus, minus, scaled, shifted, size -/
import Derived.Test.YtmmmfphealhapaaGreatZrap
import Derived.Test.YtmmmfphealhapaaGreatZrao
import Derived.Test.YtmmmfphealhapaaGreatZrai
import Derived.Test.YtmmmfphealhapaaGreatZraf
import Derived.Test.YtmmmfphealhapaaGreatZrag
set_option linter.unusedSimpArgs false
set_option linter.unusedVariables false
set_option maxRecDepth 100000
set_option maxHeartbeats 4000000
namespace Go.Proofs.YtmmmfphealhapaaGreat
open Go Go.Fx
section
variable {X : List Nat} {w0 : World} {M0 : List Ent} {I0 : List bA}
theorem aIK {f : FuncId} {vs : List Value} {e : RE} {k m : Nat} {q : Rat} {P : Program} (h : Hv I0 (jA e k)) (c : CD P f vs X w0 M0 (iC (vI e.p1 e.c1 e.q.num) e.q.num k :: iC (vI e.p2 e.c2 e.q.den) e.q.den k :: I0) (RQ q m M0 (iC (vI e.p1 e.c1 e.q.num) e.q.num k :: iC (vI e.p2 e.c2 e.q.den) e.q.den k :: I0))) : CD P f vs X w0 M0 I0 (RQ q m M0 I0) :=
 CD.post (yE h c) (fun v M I w ⟨e1, e2, h2, h3, h4⟩ hw => by
  subst e1; subst h4
  exact ⟨_, _, ⟨rfl, e2, h2, h3, rfl⟩, hw.inc (Inc.cons (List.Mem.head _) (Inc.wk (Inc.wk (Inc.wk Inc.refl))))⟩)
theorem aIN {e : RE} {k : Nat} (hk : k ≤ 500000000000) (he : Hv I0 (jA e k)) :
  CD Tryz.prog 227 [rv e] X w0 M0 I0 (RQ e.q k M0 I0) := by
 refine aIK he ?_
 have hN := fun z u M0 I0 => aBZ (X := X) (w0 := w0) (M0 := M0) (I0 := I0) (u := u) (z := z) (k := k) (by omega)
 have h1 := hN (-e.q.num)
 have h2 := hN (-(e.q.den : Int))
 rw [Int.neg_neg] at h1 h2
 refine bV Tryz.func227 rfl Tryz.ntmps227 rfl ?_
 refine aH ?_
 refine aI ?_
 (refine aK rfl rfl rfl ?_; intro b; refine ⟨okF, ?_⟩)
 (refine aC rfl rfl ?_; intro b2; refine ⟨okF, ?_⟩)
 repeat (refine bE ?_)
 (repeat refine aH ?_); refine dG 3 [0, 1, 4, 5, 2, 3, 6, 7, 8, 9] [4, 3, 4, 3, 0, 0, 0, 0, 0, 0] mixed (by kernel_rfl) ?_
 repeat (refine bE ?_)
 (refine aA rfl (hN e.q.num _ _ _ aB) rfl rfl ?_; rintro _ _ _ ⟨rfl, rfl⟩; refine ⟨okF, ?_⟩)
 (refine aA rfl (h1 _ _ _ aB) rfl rfl ?_; rintro _ _ _ ⟨rfl, rfl⟩; refine ⟨okF, ?_⟩)
 refine aU (z := e.q.num) (List.Mem.head _) (fun q3 c3 e3 hc3 hz3 => ?_)
 subst e3
 unfold iv
 repeat (refine bE ?_)
 (refine aA rfl (hN e.q.den _ _ _ aB) rfl rfl ?_; rintro _ _ _ ⟨rfl, rfl⟩; refine ⟨okF, ?_⟩)
 (refine aA rfl (h2 _ _ _ aB) rfl rfl ?_; rintro _ _ _ ⟨rfl, rfl⟩; refine ⟨okF, ?_⟩)
 refine aU (z := (e.q.den : Int)) (List.Mem.head _) (fun q4 c4 e4 hc4 hz4 => ?_)
 subst e4
 unfold iv
 (refine aD rfl (fun _ => aZ (pvs := ([vI q3 c3 e.q.num, vI q4 c4 e.q.den]).zipIdx.map (fun p => (p.2, p.1))) (cells := eR ⟨e.q, q3, c3, q4, c4⟩) rfl rfl) rfl rfl ?_)
 repeat (refine bE ?_)
 refine lD (q := e.q) (k := k) (p1 := q3) (c1 := c3) (p2 := q4) (c2 := c4) aB aB (Nat.le_refl _) (Nat.le_refl _) ?_
 refine bC (cs := eR ⟨e.q, q3, c3, q4, c4⟩) (.inl rfl) rfl rfl aB rfl M0 (jA ⟨e.q, q3, c3, q4, c4⟩ k :: _) aG aF ⟨rfl, ⟨e.q, q3, c3, q4, c4⟩, rfl, rfl, rfl⟩
theorem lM {e : RE} {k : Nat} (hk : k ≤ 500000000000) (he : Hv I0 (jA e k)) :
  CD Tryz.prog 165 [rv e] X w0 M0 I0 (RQ e.q k M0 I0) := by
 refine bV Tryz.func165 rfl Tryz.ntmps165 rfl ?_
 refine aH ?_
 refine aI ?_
 (refine aK rfl rfl rfl ?_; intro b; refine ⟨okF, ?_⟩)
 (refine aC rfl rfl ?_; intro b2; refine ⟨okF, ?_⟩)
 repeat (refine bE ?_)
 (refine aA rfl (aAR hk he) rfl rfl ?_; rintro _ _ _ ⟨rfl, rfl, rfl⟩; refine ⟨okF, ?_⟩)
 repeat (refine bE ?_)
 (refine aA rfl (aIN hk he) rfl rfl ?_; rintro _ _ _ ⟨rfl, e2, rfl, he2, rfl⟩; refine ⟨okF, ?_⟩)
 repeat (refine bE ?_)
 refine bC (cs := eR e2) (.inl rfl) rfl rfl aB rfl M0 (jA e2 k :: I0) aG aF ⟨rfl, e2, rfl, he2, rfl⟩
theorem aEG {x : Int} (hx : -9223372036854775808 ≤ x ∧ x ≤ 9223372036854775807) {k : Nat} (hk : x.natAbs ≤ 2 ^ k) :
  CD Tryz.prog 101 [.int .i64 x] X w0 M0 I0 (RQ (x : Rat) k M0 I0) := by
 have hn : ((x : Rat)).num = x := Rat.num_intCast x
 have hd : (((x : Rat)).den : Int) = 1 := by rw [Rat.den_intCast]; rfl
 have h1 : (1 : Int).natAbs ≤ 2 ^ k := Nat.one_le_two_pow
 obtain ⟨q, hq⟩ : ∃ q : Rat, q = (x : Rat) := ⟨_, rfl⟩
 rw [← hq] at hn hd ⊢
 refine bV Tryz.func101 rfl Tryz.ntmps101 rfl ?_
 refine aH ?_
 refine aI ?_
 (refine aC rfl rfl ?_; intro b2; refine ⟨okF, ?_⟩)
 repeat (refine bE ?_)
 (refine aA rfl (aCK hx) rfl rfl ?_; rintro _ _ _ ⟨rfl, rfl⟩; refine ⟨okF, ?_⟩; refine aU (List.Mem.head _) (fun q3 c3 e__ hc3 hz3 => ?_); subst e__)
 unfold iv
 refine lX (k2 := k) (z := x) (List.Mem.tail _ (List.Mem.head _)) hk ?_
 (refine aA rfl (aCK (x := 1) (by decide)) rfl rfl ?_; rintro _ _ _ ⟨rfl, rfl⟩; refine ⟨okF, ?_⟩; refine aU (List.Mem.head _) (fun q4 c4 e__ hc4 hz4 => ?_); subst e__)
 unfold iv
 refine lX (k2 := k) (z := 1) (List.Mem.tail _ (List.Mem.head _)) h1 ?_
 rw [← hn, ← hd]
 (refine aD rfl (fun _ => aZ (pvs := ([vI q3 c3 q.num, vI q4 c4 q.den]).zipIdx.map (fun p => (p.2, p.1))) (cells := eR ⟨q, q3, c3, q4, c4⟩) rfl rfl) rfl rfl ?_)
 repeat (refine bE ?_)
 refine lD (q := q) (k := k) (p1 := q3) (c1 := c3) (p2 := q4) (c2 := c4) aB aB (Nat.le_refl _) (Nat.le_refl _) ?_
 refine bC (cs := eR ⟨q, q3, c3, q4, c4⟩) (.inl rfl) rfl rfl aB rfl M0 (jA ⟨q, q3, c3, q4, c4⟩ k :: I0) aG aF ⟨rfl, ⟨q, q3, c3, q4, c4⟩, rfl, rfl, rfl⟩
theorem aLY {e : RE} {k : Nat} (hk : k ≤ 500000000000) (he : Hv I0 (jA e k)) :
  CD Tryz.prog 86 [rv e] X w0 M0 I0 (fun v M I => M0 = M ∧ I0 = I ∧ v = .int .i64 e.q.num.sign) := by
 refine bV Tryz.func86 rfl Tryz.ntmps86 rfl ?_
 refine aH ?_
 refine aI ?_
 (refine aK rfl rfl rfl ?_; intro b; refine ⟨okF, ?_⟩)
 repeat (refine bE ?_)
 (refine aA rfl (lM hk he) rfl rfl ?_; rintro _ _ _ ⟨rfl, e2, rfl, he2, rfl⟩; refine ⟨okF, ?_⟩)
 refine aD rfl (fun _ => bJ rfl) rfl rfl ?_
 refine jN (e := e2) (k := k) (Hv.mem (List.Mem.head _)) ?_
 (refine aA rfl (lL (z := e2.q.num) (k := k) (by omega) aB) rfl rfl ?_; rintro _ _ _ ⟨rfl, rfl, rfl⟩; refine ⟨okF, ?_⟩)
 rw [he2]
 repeat (refine bE ?_)
 refine aN (by first | exact .inl rfl | exact .inr rfl) rfl rfl _ _ aG aF (⟨rfl, rfl, rfl⟩)
theorem aOF {e : RE} {k : Nat} (hk : k ≤ 500000000000) (he : Hv I0 (jA e k)) :
  CD Tryz.prog 194 [rv e] X w0 M0 I0 (RQ (-e.q) k M0 I0) := by
 refine bV Tryz.func194 rfl Tryz.ntmps194 rfl ?_
 refine aH ?_
 refine aI ?_
 (refine aK rfl rfl rfl ?_; intro b; refine ⟨okF, ?_⟩)
 (refine aC rfl rfl ?_; intro b2; refine ⟨okF, ?_⟩)
 repeat (refine bE ?_)
 (refine aA rfl (lM hk he) rfl rfl ?_; rintro _ _ _ ⟨rfl, e2, rfl, he2, rfl⟩; refine ⟨okF, ?_⟩)
 refine jN (e := e2) (k := k) (Hv.mem (List.Mem.head _)) ?_
 rw [← he2]
 have hN := fun M0 I0 => aBZ (X := X) (w0 := w0) (M0 := M0) (I0 := I0) (u := vI e2.p1 e2.c1 e2.q.num) (z := e2.q.num) (k := k) (by omega)
 rw [← Rat.neg_num] at hN
 have hd : ((e2.q.den : Int)) = ((-e2.q).den : Int) := by rw [Rat.neg_den]
 repeat (refine bE ?_)
 (repeat refine aH ?_); refine dG 1 [0, 1, 3, 4, 2, 5, 6] [1, 0, 1, 1, 0, 0, 0] mixed (by kernel_rfl) ?_
 repeat (refine bE ?_)
 (refine aA rfl (hN _ _ aB) rfl rfl ?_; rintro _ _ _ ⟨rfl, rfl⟩; refine ⟨okF, ?_⟩; refine aU (List.Mem.head _) (fun q3 c3 e__ hc3 hz3 => ?_); subst e__)
 unfold iv
 rw [hd]
 (refine aD rfl (fun _ => aZ (pvs := ([vI q3 c3 (-e2.q).num, vI e2.p2 e2.c2 (-e2.q).den]).zipIdx.map (fun p => (p.2, p.1))) (cells := eR ⟨-e2.q, q3, c3, e2.p2, e2.c2⟩) rfl rfl) rfl rfl ?_)
 repeat (refine bE ?_)
 refine lD (q := -e2.q) (k := k) (p1 := q3) (c1 := c3) (p2 := e2.p2) (c2 := e2.c2) aB aB (Nat.le_refl _) (Nat.le_refl _) ?_
 refine bC (cs := eR ⟨-e2.q, q3, c3, e2.p2, e2.c2⟩) (.inl rfl) rfl rfl aB rfl M0 (jA ⟨-e2.q, q3, c3, e2.p2, e2.c2⟩ k :: I0) aG aF ⟨rfl, ⟨-e2.q, q3, c3, e2.p2, e2.c2⟩, rfl, rfl, rfl⟩
end
end Go.Proofs.YtmmmfphealhapaaGreat
namespace Go.Proofs.YtmmmfphealhapaaGreat
open Go Go.Fx
theorem aGE (k m : Nat) : 2 ^ (k + m) + 2 ^ (m + k) ≤ 2 ^ (k + m + 1) := by
 rw [Nat.add_comm m k, Nat.pow_succ]; omega
theorem den_pos (q : Rat) : (0 : Int) < q.den := by have := q.den_nz; omega
theorem uP (p q : Rat) : ((p.den : Int) * q.den) ≠ 0 := by
 have := Int.mul_pos (den_pos p) (den_pos q); omega
theorem aFD {p q : Rat} (h : q ≠ 0) : ((p.den : Int) * q.num) ≠ 0 := fun h0 => by
 rcases Int.mul_eq_zero.1 h0 with h1 | h1
 ·exact absurd h1 (by have := den_pos p; omega)
 ·exact h (Rat.num_eq_zero.1 h1)
section
variable {X : List Nat} {w0 : World} {M0 : List Ent} {I0 : List bA}
theorem uV {a b : RE} {k m : Nat} (hk : k + m + 1 ≤ 500000000000) (ha : Hv I0 (jA a k)) (hb : Hv I0 (jA b m)) :
  CD Tryz.prog 93 [rv a, rv b] X w0 M0 I0 (RQ (a.q + b.q) (k + m + 1) M0 I0) := by
 refine bI Tryz.func93 rfl Tryz.ntmps93 rfl ?_
 refine aH ?_
 refine aI ?_
 (refine aK rfl rfl rfl ?_; intro b1; refine ⟨okF, ?_⟩)
 (refine aK rfl rfl rfl ?_; intro b2; refine ⟨okF, ?_⟩)
 (refine aC rfl rfl ?_; intro b3; refine ⟨okF, ?_⟩)
 repeat (refine bE ?_)
 (repeat refine aH ?_); refine dG 2 [0, 2, 1, 3, 4, 5] [1, 2, 0, 0, 0, 0] mixed (by kernel_rfl) ?_
 repeat (refine bE ?_)
 (refine aA rfl (lM (k := k) (by omega) ha) rfl rfl ?_; rintro _ _ _ ⟨rfl, x, rfl, hx, rfl⟩; refine ⟨okF, ?_⟩)
 repeat (refine bE ?_)
 (refine aA rfl (lM (k := m) (by omega) hb.cons) rfl rfl ?_; rintro _ _ _ ⟨rfl, y, rfl, hy, rfl⟩; refine ⟨okF, ?_⟩)
 refine jN (e := x) (k := k) (Hv.mem (List.Mem.tail _ (List.Mem.head _))) ?_
 refine jN (e := y) (k := m) (Hv.mem (List.Mem.tail _ (List.Mem.tail _ (List.Mem.head _)))) ?_
 rw [← hx, ← hy]
 have hM1 := fun u v M0 I0 => pJ (X := X) (w0 := w0) (M0 := M0) (I0 := I0) (u := u) (v := v) (y := x.q.num) (z := y.q.den) (k := k) (m := m) (by omega)
 have hM2 := fun u v M0 I0 => pJ (X := X) (w0 := w0) (M0 := M0) (I0 := I0) (u := u) (v := v) (y := y.q.num) (z := x.q.den) (k := m) (m := k) (by omega)
 have hM3 := fun u v M0 I0 => pJ (X := X) (w0 := w0) (M0 := M0) (I0 := I0) (u := u) (v := v) (y := x.q.den) (z := y.q.den) (k := k) (m := m) (by omega)
 have hA := fun u v M0 I0 => aLQ (X := X) (w0 := w0) (M0 := M0) (I0 := I0) (u := u) (v := v) (y := x.q.num * y.q.den) (z := y.q.num * x.q.den) (k := k + m) (m := m + k) (c := k + m + 1) (by omega) (by omega) (by omega) (aGE k m)
 have hR := fun u v M0 I0 => rH (X := X) (w0 := w0) (M0 := M0) (I0 := I0) (u := u) (v := v) (n := x.q.num * y.q.den + y.q.num * x.q.den) (d := x.q.den * y.q.den) (k := k + m + 1) (by omega) (uP _ _)
 rw [← uH] at hR
 repeat (refine bE ?_)
 (repeat refine aH ?_); refine bB (.blk b2 (eR y) 77 :: .blk b1 (eR x) 77 :: M0) (I0) [0, 1, 2, 3, 5, 6, 7, 8, 11, 12, 13, 14, 4, 9, 10, 15, 16, 17] [5, 4, 5, 4, 5, 4, 5, 4, 5, 4, 5, 4, 0, 0, 0, 0, 0, 0] aG aF mixed (by kernel_rfl) ?_
 repeat (refine bE ?_)
 (refine aA rfl (hM1 _ _ _ _ aB aB) rfl rfl ?_; rintro _ _ _ ⟨rfl, rfl⟩; refine ⟨okF, ?_⟩)
 (refine aA rfl (hM2 _ _ _ _ aB aB) rfl rfl ?_; rintro _ _ _ ⟨rfl, rfl⟩; refine ⟨okF, ?_⟩)
 (refine aA rfl (hA _ _ _ _ aB aB) rfl rfl ?_; rintro _ _ _ ⟨rfl, rfl⟩; refine ⟨okF, ?_⟩)
 (refine aA rfl (hM3 _ _ _ _ aB aB) rfl rfl ?_; rintro _ _ _ ⟨rfl, rfl⟩; refine ⟨okF, ?_⟩)
 refine aDA (k2 := k + m + 1) (List.Mem.head _) (by omega) ?_
 (refine aA rfl (hR _ _ _ _ aB aB) rfl rfl ?_; rintro _ _ _ ⟨rfl, e, rfl, he, rfl⟩; refine ⟨okF, ?_⟩)
 repeat (refine bE ?_)
 refine bC (cs := eR e) (.inl rfl) rfl rfl aB rfl M0 (jA e (k + m + 1) :: I0) aG aF ⟨rfl, e, rfl, he, rfl⟩
theorem aHC {a b : RE} {k m : Nat} (hk : k + m + 1 ≤ 500000000000) (ha : Hv I0 (jA a k)) (hb : Hv I0 (jA b m)) :
  CD Tryz.prog 118 [rv a, rv b] X w0 M0 I0 (RQ (a.q - b.q) (k + m + 1) M0 I0) := by
 refine bI Tryz.func118 rfl Tryz.ntmps118 rfl ?_
 refine aH ?_
 refine aI ?_
 (refine aK rfl rfl rfl ?_; intro b1; refine ⟨okF, ?_⟩)
 (refine aK rfl rfl rfl ?_; intro b2; refine ⟨okF, ?_⟩)
 (refine aC rfl rfl ?_; intro b3; refine ⟨okF, ?_⟩)
 repeat (refine bE ?_)
 (repeat refine aH ?_); refine dG 1 [0, 1, 2, 3, 4] [1, 1, 0, 0, 0] mixed (by kernel_rfl) ?_
 repeat (refine bE ?_)
 (refine aA rfl (aOF (k := m) (by omega) hb) rfl rfl ?_; rintro _ _ _ ⟨rfl, y, rfl, hy, rfl⟩; refine ⟨okF, ?_⟩)
 rw [Rat.sub_eq_add_neg, ← hy]
 (refine aA rfl (uV hk ha.cons (Hv.mem (List.Mem.head _))) rfl rfl ?_; rintro _ _ _ ⟨rfl, e, rfl, he, rfl⟩; refine ⟨okF, ?_⟩)
 repeat (refine bE ?_)
 refine bC (cs := eR e) (.inl rfl) rfl rfl aB rfl M0 (jA e (k + m + 1) :: I0) aG aF ⟨rfl, e, rfl, he, rfl⟩
theorem aBK {a b : RE} {k m : Nat} (hk : k + m ≤ 500000000000) (ha : Hv I0 (jA a k)) (hb : Hv I0 (jA b m)) :
  CD Tryz.prog 94 [rv a, rv b] X w0 M0 I0 (RQ (a.q * b.q) (k + m) M0 I0) := by
 refine bI Tryz.func94 rfl Tryz.ntmps94 rfl ?_
 refine aH ?_
 refine aI ?_
 (refine aK rfl rfl rfl ?_; intro b1; refine ⟨okF, ?_⟩)
 (refine aK rfl rfl rfl ?_; intro b2; refine ⟨okF, ?_⟩)
 (refine aC rfl rfl ?_; intro b3; refine ⟨okF, ?_⟩)
 repeat (refine bE ?_)
 (repeat refine aH ?_); refine dG 2 [0, 2, 1, 3, 4, 5] [1, 2, 0, 0, 0, 0] mixed (by kernel_rfl) ?_
 repeat (refine bE ?_)
 (refine aA rfl (lM (k := k) (by omega) ha) rfl rfl ?_; rintro _ _ _ ⟨rfl, x, rfl, hx, rfl⟩; refine ⟨okF, ?_⟩)
 repeat (refine bE ?_)
 (refine aA rfl (lM (k := m) (by omega) hb.cons) rfl rfl ?_; rintro _ _ _ ⟨rfl, y, rfl, hy, rfl⟩; refine ⟨okF, ?_⟩)
 refine jN (e := x) (k := k) (Hv.mem (List.Mem.tail _ (List.Mem.head _))) ?_
 refine jN (e := y) (k := m) (Hv.mem (List.Mem.tail _ (List.Mem.tail _ (List.Mem.head _)))) ?_
 rw [← hx, ← hy]
 have hM1 := fun u v M0 I0 => pJ (X := X) (w0 := w0) (M0 := M0) (I0 := I0) (u := u) (v := v) (y := x.q.num) (z := y.q.num) (k := k) (m := m) (by omega)
 have hM3 := fun u v M0 I0 => pJ (X := X) (w0 := w0) (M0 := M0) (I0 := I0) (u := u) (v := v) (y := x.q.den) (z := y.q.den) (k := k) (m := m) (by omega)
 have hR := fun u v M0 I0 => rH (X := X) (w0 := w0) (M0 := M0) (I0 := I0) (u := u) (v := v) (n := x.q.num * y.q.num) (d := x.q.den * y.q.den) (k := k + m) (by omega) (uP _ _)
 rw [← aFG] at hR
 repeat (refine bE ?_)
 (repeat refine aH ?_); refine bB (.blk b2 (eR y) 77 :: .blk b1 (eR x) 77 :: M0) (I0) [0, 1, 2, 3, 5, 6, 7, 8, 4, 9, 10, 11] [3, 2, 3, 2, 3, 2, 3, 2, 0, 0, 0, 0] aG aF mixed (by kernel_rfl) ?_
 repeat (refine bE ?_)
 (refine aA rfl (hM1 _ _ _ _ aB aB) rfl rfl ?_; rintro _ _ _ ⟨rfl, rfl⟩; refine ⟨okF, ?_⟩)
 (refine aA rfl (hM3 _ _ _ _ aB aB) rfl rfl ?_; rintro _ _ _ ⟨rfl, rfl⟩; refine ⟨okF, ?_⟩)
 (refine aA rfl (hR _ _ _ _ aB aB) rfl rfl ?_; rintro _ _ _ ⟨rfl, e, rfl, he, rfl⟩; refine ⟨okF, ?_⟩)
 repeat (refine bE ?_)
 refine bC (cs := eR e) (.inl rfl) rfl rfl aB rfl M0 (jA e (k + m) :: I0) aG aF ⟨rfl, e, rfl, he, rfl⟩
abbrev zR : Value := .agg #[.bool false, .slice none 0 0, .bool false, .slice none 0 0]
theorem aFH {a b : RE} {k m : Nat} (hk : k + m ≤ 500000000000) (hb0 : b.q ≠ 0) (ha : Hv I0 (jA a k)) (hb : Hv I0 (jA b m)) :
  CD Tryz.prog 96 [rv a, rv b] X w0 M0 I0 (RQc (a.q / b.q) (k + m) M0 I0) := by
 refine bI Tryz.func96 rfl Tryz.ntmps96 rfl ?_
 refine aH ?_
 refine aI ?_
 (refine aK rfl rfl rfl ?_; intro b1; refine ⟨okF, ?_⟩)
 (refine aK rfl rfl rfl ?_; intro b2; refine ⟨okF, ?_⟩)
 (refine aC rfl rfl ?_; intro b3; refine ⟨okF, ?_⟩)
 repeat (refine bE ?_)
 (repeat refine aH ?_); refine dG 2 [0, 2, 1, 3, 4, 5] [1, 2, 0, 0, 0, 0] mixed (by kernel_rfl) ?_
 repeat (refine bE ?_)
 (refine aA rfl (lM (k := k) (by omega) ha) rfl rfl ?_; rintro _ _ _ ⟨rfl, x, rfl, hx, rfl⟩; refine ⟨okF, ?_⟩)
 repeat (refine bE ?_)
 (refine aA rfl (lM (k := m) (by omega) hb.cons) rfl rfl ?_; rintro _ _ _ ⟨rfl, y, rfl, hy, rfl⟩; refine ⟨okF, ?_⟩)
 refine jN (e := x) (k := k) (Hv.mem (List.Mem.tail _ (List.Mem.head _))) ?_
 refine jN (e := y) (k := m) (Hv.mem (List.Mem.tail _ (List.Mem.tail _ (List.Mem.head _)))) ?_
 rw [← hx, ← hy]
 rw [← hy] at hb0
 have hs0 : ¬ y.q.num.sign = 0 := fun h => hb0 (Rat.num_eq_zero.1 (Int.sign_eq_zero_iff_zero.1 h))
 have hS := fun M0 I0 => lL (X := X) (w0 := w0) (M0 := M0) (I0 := I0) (u := vI y.p1 y.c1 y.q.num) (z := y.q.num) (k := m) (by omega)
 have hM1 := fun u v M0 I0 => pJ (X := X) (w0 := w0) (M0 := M0) (I0 := I0) (u := u) (v := v) (y := x.q.num) (z := y.q.den) (k := k) (m := m) (by omega)
 have hM3 := fun u v M0 I0 => pJ (X := X) (w0 := w0) (M0 := M0) (I0 := I0) (u := u) (v := v) (y := x.q.den) (z := y.q.num) (k := k) (m := m) (by omega)
 have hR := fun u v M0 I0 => rH (X := X) (w0 := w0) (M0 := M0) (I0 := I0) (u := u) (v := v) (n := x.q.num * y.q.den) (d := x.q.den * y.q.num) (k := k + m) (by omega) (aFD hb0)
 rw [← aFV] at hR
 generalize y.q.num.sign = sy at *
 repeat (refine bE ?_)
 (refine aA rfl (hS _ _ aB) rfl rfl ?_; rintro _ _ _ ⟨rfl, rfl, rfl⟩; refine ⟨okF, ?_⟩)
 repeat (refine bE ?_)
 (repeat refine aH ?_); refine bB (.blk b2 (eR y) 77 :: .blk b1 (eR x) 77 :: M0) (I0) [0, 1, 2, 3, 5, 6, 7, 8, 4, 9, 10, 11, 12] [3, 2, 3, 2, 3, 2, 3, 2, 0, 0, 0, 0, 0] aG aF mixed (by kernel_rfl) ?_
 repeat (refine bE ?_)
 (refine aA rfl (hM1 _ _ _ _ aB aB) rfl rfl ?_; rintro _ _ _ ⟨rfl, rfl⟩; refine ⟨okF, ?_⟩)
 (refine aA rfl (hM3 _ _ _ _ aB aB) rfl rfl ?_; rintro _ _ _ ⟨rfl, rfl⟩; refine ⟨okF, ?_⟩)
 (refine aA rfl (hR _ _ _ _ aB aB) rfl rfl ?_; rintro _ _ _ ⟨rfl, e, rfl, he, rfl⟩; refine ⟨okF, ?_⟩)
 repeat (refine bE ?_)
 refine dP (rs := [.cell 4 77, .tmp 5]) (vs := [rv e, .int .i64 0]) (.inl rfl) rfl (.cellN (cs := eR e) inferInstance rfl aB rfl (.tmp rfl .nil)) rfl M0 (jA e (k + m) :: I0) aG aF ⟨rfl, e, rfl, he, rfl⟩
def zQ (p q : Rat) : Int := fQ (p.num * q.den) (q.num * p.den)
theorem aOX {p q : Rat} : 0 < zQ p q ↔ q < p := by
 unfold zQ fQ; rw [aPM]; split <;> (try split) <;> omega
theorem aHR {p q : Rat} : zQ p q ≤ 0 ↔ p ≤ q := by rw [← Rat.not_lt, ← aOX]; omega
theorem aDE {a b : RE} {k m : Nat} (hk : k + m ≤ 400000000000) (ha : Hv I0 (jA a k)) (hb : Hv I0 (jA b m)) :
  CD Tryz.prog 92 [rv a, rv b] X w0 M0 I0 (fun v M I => M0 = M ∧ I0 = I ∧ v = .int .i64 (zQ a.q b.q)) := by
 refine bI Tryz.func92 rfl Tryz.ntmps92 rfl ?_
 refine aH ?_
 refine aI ?_
 (refine aK rfl rfl rfl ?_; intro b1; refine ⟨okF, ?_⟩)
 (refine aK rfl rfl rfl ?_; intro b2; refine ⟨okF, ?_⟩)
 repeat (refine bE ?_)
 (repeat refine aH ?_); refine dG 2 [0, 2, 1, 3, 4, 5] [1, 2, 0, 0, 0, 0] mixed (by kernel_rfl) ?_
 repeat (refine bE ?_)
 (refine aA rfl (lM (k := k) (by omega) ha) rfl rfl ?_; rintro _ _ _ ⟨rfl, x, rfl, hx, rfl⟩; refine ⟨okF, ?_⟩)
 repeat (refine bE ?_)
 (refine aA rfl (lM (k := m) (by omega) hb.cons) rfl rfl ?_; rintro _ _ _ ⟨rfl, y, rfl, hy, rfl⟩; refine ⟨okF, ?_⟩)
 refine jN (e := x) (k := k) (Hv.mem (List.Mem.tail _ (List.Mem.head _))) ?_
 refine jN (e := y) (k := m) (Hv.mem (List.Mem.tail _ (List.Mem.tail _ (List.Mem.head _)))) ?_
 rw [← hx, ← hy]
 have hM1 := fun u v M0 I0 => pJ (X := X) (w0 := w0) (M0 := M0) (I0 := I0) (u := u) (v := v) (y := x.q.num) (z := y.q.den) (k := k) (m := m) (by omega)
 have hM2 := fun u v M0 I0 => pJ (X := X) (w0 := w0) (M0 := M0) (I0 := I0) (u := u) (v := v) (y := y.q.num) (z := x.q.den) (k := m) (m := k) (by omega)
 have hC := fun u v M0 I0 => uN (X := X) (w0 := w0) (M0 := M0) (I0 := I0) (u := u) (v := v) (y := x.q.num * y.q.den) (z := y.q.num * x.q.den) (k := k + m) (m := m + k) (by omega) (by omega)
 repeat (refine bE ?_)
 (repeat refine aH ?_); refine bB (.blk b2 (eR y) 77 :: .blk b1 (eR x) 77 :: M0) (I0) [0, 1, 2, 3, 5, 6, 7, 8, 4, 9, 10, 11] [3, 2, 3, 2, 3, 2, 3, 2, 0, 0, 0, 0] aG aF mixed (by kernel_rfl) ?_
 repeat (refine bE ?_)
 (refine aA rfl (hM1 _ _ _ _ aB aB) rfl rfl ?_; rintro _ _ _ ⟨rfl, rfl⟩; refine ⟨okF, ?_⟩)
 (refine aA rfl (hM2 _ _ _ _ aB aB) rfl rfl ?_; rintro _ _ _ ⟨rfl, rfl⟩; refine ⟨okF, ?_⟩)
 (refine aA rfl (hC _ _ _ _ aB aB) rfl rfl ?_; rintro _ _ _ ⟨rfl, rfl, rfl⟩; refine ⟨okF, ?_⟩)
 repeat (refine bE ?_)
 refine aN (by first | exact .inl rfl | exact .inr rfl) rfl rfl _ _ aG aF (⟨rfl, rfl, rfl⟩)
end
end Go.Proofs.YtmmmfphealhapaaGreat
namespace Go.Proofs.YtmmmfphealhapaaGreat
open Go Go.Fx
section
variable {P : Program} {n : Nat} {G : Env}
theorem zJ {C : World → Prop} {ty t e : TypeId} {sz : Nat} {x y : Operand} {k : IntKind} {i : Int} {q : Option Addr} [ht : SliceTy P t e sz] (hx : ev G x = some (.slice q 0 0)) (hy : ev G y = some (.int k i)) (hi : i = 0) :
  Const P n G (.slice t x none (some y) none) ty C (.slice q 0 0) := by
 subst hi
 refine ⟨?_⟩
 intro st ha dst pos after guard w _
 cases q with
 | none => simp [execOp, Instr.sliceAt, Instr.slice, ha.ev hx, fD ht.und, Fx.run_sizeOf ht.size, Instr.sliceBounds, Instr.sliceBound, asIntOf, ha.ev hy]
 | some ad => simp [execOp, Instr.sliceAt, Instr.slice, ha.ev hx, fD ht.und, Fx.run_sizeOf ht.size, Instr.sliceBounds, Instr.sliceBound, asIntOf, ha.ev hy, Addr.add]
end
section
variable {X : List Nat} {w0 : World} {M0 : List Ent} {I0 : List bA}
theorem nI {q : Option Addr} {l : List Int} {n c : Nat} {i : Int} (hn : n = l.length) (hi : 0 ≤ i) (hl : aX q (recs eG l) ∈ I0) (hd : Dig l) :
  CD Tryz.prog 278 [.slice q n c, .int .i64 i] X w0 M0 I0 (fun v M I => M0 = M ∧ I0 = I ∧ v = .int .u64 (gt l i)) := by
 subst hn
 have d := hd.gt i
 refine eY Tryz.func278 rfl Tryz.ntmps278 rfl ?_
 repeat' (first | refine kS ?_ | refine aV rfl (fun h => ?_) (fun h => ?_) | refine aW rfl rfl (fun h => ?_) (fun h => ?_) | fail)
 ·refine aN (by first | exact .inl rfl | exact .inr rfl) rfl rfl _ _ cZ cK (⟨rfl, rfl, rfl⟩)
 ·refine aN (by first | exact .inl rfl | exact .inr rfl) rfl rfl _ _ cZ cK (⟨rfl, rfl, by rw [aHU (by omega)]⟩)
theorem aAP {p : Prop} [Decidable p] {q : Option Addr} {l : List Int} {n c : Nat} (h63 : l.length ≤ 1000000000000) (hc : l.length ≤ c) (hok : Ok q ∨ (l.length = 0 ∧ c = 0)) (hd : Dig l) (hv : val l = n) (hl : aX q (recs eG l) ∈ I0) :
  CD Tryz.prog 228 [.bool (B p), .slice q l.length c] X w0 M0 I0 (fun v M I => M0 = M ∧ ∃ q' c', v = .agg #[.bool (B (p ∧ n ≠ 0)), .slice q' (gr n).length c'] ∧ oO q' n c' ∧ I = aX q' (recs eG (gr n)) :: I0) := by
 have hg : fM l = gr n := mP hd hv
 refine eY Tryz.func228 rfl Tryz.ntmps228 rfl ?_
 refine aH ?_
 refine aI ?_
 (refine aC rfl rfl ?_; intro b; refine ⟨mQ, ?_⟩)
 repeat (refine kS ?_)
 refine bG [0, 1, 4] rfl (fun k G M I => ∃ m : Nat, m ≤ l.length ∧ k = m ∧ fM (l.take m) = fM l ∧ ∃ x : Int, x = m ∧ G = [(5, .int .i64 x)] ∧ M = .blk b [.bool false, .slice none 0 0] 42 :: M0 ∧ I0 = I) (l.length) _ _ _ aS cZ cK (⟨l.length, by omega, rfl, by rw [List.take_length], _, rfl, rfl, rfl, rfl⟩) ?_
 rintro k G M I ⟨m, hm, rfl, ht, x, hx, rfl, rfl, rfl⟩
 have hend : fM l = l.take k → (n ≠ 0 ↔ 0 < k) ∧ (gr n).length = k := fun e => by
  have hl1 : (gr n).length = k := by rw [← hg, e, List.length_take]; omega
  refine ⟨⟨fun h => ?_, fun h h0 => ?_⟩, hl1⟩
  ·rw [← hl1]; exact List.length_pos_iff.2 (fun e => h (mI.1 e))
  ·rw [h0, fH] at hl1; simp at hl1; omega
 have hstep : ∀ j : Nat, j < l.length → l.take (j + 1) = l.take j ++ [gt l (j : Int)] := fun j hj => by rw [List.take_succ_eq_append_getElem hj, mZ hj]
 repeat' (first | refine kS ?_ | refine aV rfl (fun h => ?_) (fun h => ?_) | refine aW rfl rfl (fun h => ?_) (fun h => ?_) | fail)
 ·have h1 := h
  refine aQ (k - 1) _ _ _ (by first | omega | (simp only [List.length_append, List.length_cons, List.length_nil]; omega)) aS cZ cK (⟨k - 1, by omega, rfl, ?_, _, by omega, rfl, rfl, rfl⟩)
  rw [← ht]
  obtain ⟨j, rfl⟩ : ∃ j, k = j + 1 := ⟨k - 1, by omega⟩
  have e : ((j + 1 : Nat) : Int) - 1 = j := by omega
  rw [hx, e] at h1
  rw [hstep j (by omega), h1, uC]
  rfl
 all_goals
  have htk : fM l = l.take k := by
   rw [← ht]
   refine yQ ?_
   rcases Nat.eq_zero_or_pos k with h0 | h0
   ·subst h0; simp [Top]
   ·obtain ⟨j, rfl⟩ : ∃ j, k = j + 1 := ⟨k - 1, by omega⟩
    have e : ((j + 1 : Nat) : Int) - 1 = j := by omega
    rw [hstep j (by omega), Top.snoc]
    first
     | (rw [← e, ← hx]; assumption)
     | (exfalso; omega)
  obtain ⟨hnz, hlk⟩ := hend htk
  have hgk : gr n = l.take k := by rw [← hg, htk]
 all_goals
  have hsl : aX q (recs eG (gr n)) ∈ aX q (recs eG (gr n)) :: I0 := List.Mem.head _
  refine xZ (M' := .blk b [.bool false, .slice none 0 0] 42 :: M0) (I' := aX q (recs eG (gr n)) :: I0) (fun w hw => hw.takeI (cs := recs eG (gr n)) (tl := recs eG (l.drop k)) (by rw [hgk, ← oQ, List.take_append_drop]; exact hl)) ?_
  subst hx
  (refine dM (cs := recs eG []) ([]) rfl rfl (by intro v hv; repeat (first | exact absurd hv (List.not_mem_nil) | (rcases List.mem_cons.1 hv with rfl | hv; · rfl))) (by omega) rfl rfl rfl ?_; intro b1; refine ⟨mQ, ?_⟩)
  repeat (refine kS ?_)
  have hbool : ∀ y : Bool, (y = true ↔ (p ∧ n ≠ 0)) → Value.bool y = .bool (B (p ∧ n ≠ 0)) := fun y hy => by
   refine congrArg Value.bool ?_
   by_cases hp : p ∧ n ≠ 0
   ·rw [fA hp]; exact hy.2 hp
   ·rw [dF hp]; cases y with
    | false => rfl
    | true => exact absurd (hy.1 rfl) hp
  rcases hok with hok | ⟨hl0, hc0⟩
  ·obtain ⟨b9, o9, rfl⟩ := hok.cases
   refine aD rfl (fun _ => rJ k rfl rfl rfl (by omega)) rfl rfl ?_
   refine qC (b := b1) (mm := 0) 1 lW rfl (by omega) ?_
   refine iK (xs := []) (ys := gr n) 0 rfl rfl rfl (Src.imm (List.Mem.head _) (.inl (Ok.mk _ _))) (by decide) hlk (by simp <;> omega) (by simp <;> omega) rfl rfl ?_
   intro a2 c2
   refine ⟨mQ, ?_⟩
   rw [List.nil_append]
   refine lU (fun w hw => And.intro (hw.rowLe (List.Mem.head _)) ((hw.rowS (List.Mem.head _)).2.imp id And.right)) (fun ho3 => ?_)
   refine fO uK ?_
   refine aD rfl (fun _ => aZ (pvs := [(0, _), (1, _)]) (cells := [_, .slice a2 (gr n).length c2]) rfl rfl) rfl rfl ?_
   repeat (refine kS ?_)
   refine bC (cs := [_, .slice a2 (gr n).length c2]) (.inl rfl) rfl rfl aP rfl M0 (aX a2 (recs eG (gr n)) :: I0) cZ cK ⟨rfl, a2, c2, ?_, ho3, rfl⟩
   first
    | exact congrArg (fun x => Value.agg #[x, .slice a2 (gr n).length c2]) (hbool (B ((0 : Int) < ((k : Nat) : Int))) (by rw [qW, decide_eq_true_iff]; exact ⟨fun h => ⟨by assumption, hnz.2 (by omega)⟩, fun h => by have := hnz.1 h.2; omega⟩))
    | exact congrArg (fun x => Value.agg #[x, .slice a2 (gr n).length c2]) (hbool false ⟨fun h => (by cases h), fun h => absurd h.1 (by assumption)⟩)
  ·subst hc0
   obtain rfl : k = 0 := by omega
   have hn0 : gr n = [] := by rw [hgk]; rfl
   obtain rfl : l = [] := List.eq_nil_of_length_eq_zero hl0
   refine aD rfl (fun _ => zJ rfl rfl rfl) rfl rfl ?_
   refine qC (b := b1) (mm := 0) 1 lW rfl (by omega) ?_
   refine iK (xs := []) (ys := gr n) 0 rfl rfl rfl (Src.imm (List.Mem.head _) (.inr ⟨rfl, rfl⟩)) (by decide) hlk (by simp <;> omega) (by simp <;> omega) rfl rfl ?_
   intro a2 c2
   refine ⟨mQ, ?_⟩
   rw [List.nil_append]
   refine lU (fun w hw => And.intro (hw.rowLe (List.Mem.head _)) ((hw.rowS (List.Mem.head _)).2.imp id And.right)) (fun ho3 => ?_)
   refine fO uK ?_
   refine aD rfl (fun _ => aZ (pvs := [(0, _), (1, _)]) (cells := [_, .slice a2 (gr n).length c2]) rfl rfl) rfl rfl ?_
   repeat (refine kS ?_)
   refine bC (cs := [_, .slice a2 (gr n).length c2]) (.inl rfl) rfl rfl aP rfl M0 (aX a2 (recs eG (gr n)) :: I0) cZ cK ⟨rfl, a2, c2, ?_, ho3, rfl⟩
   first
    | exact congrArg (fun x => Value.agg #[x, .slice a2 (gr n).length c2]) (hbool (B ((0 : Int) < ((0 : Nat) : Int))) (by rw [qW, decide_eq_true_iff]; exact ⟨fun h => ⟨by assumption, hnz.2 (by omega)⟩, fun h => by have := hnz.1 h.2; omega⟩))
    | exact congrArg (fun x => Value.agg #[x, .slice a2 (gr n).length c2]) (hbool false ⟨fun h => (by cases h), fun h => absurd h.1 (by assumption)⟩)
end
end Go.Proofs.YtmmmfphealhapaaGreat
