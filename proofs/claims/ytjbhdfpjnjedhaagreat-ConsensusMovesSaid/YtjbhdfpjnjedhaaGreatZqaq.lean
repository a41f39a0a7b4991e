/- fraction: copied, Value, Whole, Sign, Neg fraction: Add, Sub, Mul, Divide, Compare fiducialref01: magnitudes: group, made, plus, minus, scaled, shifted, size fiducialref01: plus, minus, scaled, shifted, size fiducialref01: short, parts fiducialref01: parts fiducialref01: the numbers: Valid, Value, Neg, Sign, Add, Sub, Mul, Compare fiducialref01: Add, Sub, Mul, Of, Compare fiducialref01: Sub, Compare, Mul, Of fiducialref01: Of, pair, Gcd, Divide fiducialref01: pair, Gcd fiducialref01: Divide fiducialref02: reduced, Valid, Value, Whole, Sign, Neg fiducialref02: Add, Sub, Mul, Divide, Compare, Same Matrices in memory; made -/
import Derived.Test.YtjbhdfpjnjedhaaGreatZqap
import Derived.Test.YtjbhdfpjnjedhaaGreatZqao
import Derived.Test.YtjbhdfpjnjedhaaGreatZqai
import Derived.Test.YtjbhdfpjnjedhaaGreatZqaf
import Derived.Test.YtjbhdfpjnjedhaaGreatZqag
import Derived.Test.YtjbhdfpjnjedhaaGreatZqak
import Derived.Test.YtjbhdfpjnjedhaaGreatZqam
import Derived.Test.YtjbhdfpjnjedhaaGreatZqal
import Derived.Test.YtjbhdfpjnjedhaaGreatZqan
set_option linter.unusedSimpArgs false
set_option linter.unusedVariables false
set_option maxRecDepth 100000
set_option maxHeartbeats 4000000
namespace Go.Proofs.YtjbhdfpjnjedhaaGreat
open Go Go.Fx
section
variable {X : List Nat} {w0 : World} {M0 : List Ent} {I0 : List aT}
theorem aMR {f : FuncId} {vs : List Value} {e : RE} {k m : Nat} {q : Rat} {P : Program} (h : Hv I0 (gQ e k)) (c : CD P f vs X w0 M0 (kR (vI e.p1 e.c1 e.q.num) e.q.num k :: kR (vI e.p2 e.c2 e.q.den) e.q.den k :: I0) (RQ q m M0 (kR (vI e.p1 e.c1 e.q.num) e.q.num k :: kR (vI e.p2 e.c2 e.q.den) e.q.den k :: I0))) : CD P f vs X w0 M0 I0 (RQ q m M0 I0) :=
 CD.post (aHJ h c) (fun v M I w ⟨e1, e2, h2, h3, h4⟩ hw => by
  subst e1; subst h4
  exact ⟨_, _, ⟨rfl, e2, h2, h3, rfl⟩, hw.inc (Inc.cons (List.Mem.head _) (Inc.wk (Inc.wk (Inc.wk Inc.refl))))⟩)
theorem aNZ {e : RE} {k : Nat} (hk : k ≤ 500000000000) (he : Hv I0 (gQ e k)) :
  CD Tryz.prog 197 [rv e] X w0 M0 I0 (RQ e.q k M0 I0) := by
 refine aMR he ?_
 have hN := fun z u M0 I0 => aFP (X := X) (w0 := w0) (M0 := M0) (I0 := I0) (u := u) (z := z) (k := k) (by omega)
 have h1 := hN (-e.q.num)
 have h2 := hN (-(e.q.den : Int))
 rw [Int.neg_neg] at h1 h2
 refine bN Tryz.func197 rfl Tryz.ntmps197 rfl ?_
 refine aH ?_
 refine aI ?_
 (refine aV rfl rfl rfl ?_; intro b; refine ⟨okF, ?_⟩)
 (refine aF rfl rfl ?_; intro b2; refine ⟨okF, ?_⟩)
 repeat (refine eU ?_)
 (repeat refine aH ?_); refine cZ 3 [0, 1, 4, 5, 2, 3, 6, 7, 8, 9] [4, 3, 4, 3, 0, 0, 0, 0, 0, 0] mixed (by kernel_rfl) ?_
 repeat (refine eU ?_)
 (refine aA rfl (hN e.q.num _ _ _ aB) rfl rfl ?_; rintro _ _ _ ⟨rfl, rfl⟩; refine ⟨okF, ?_⟩)
 (refine aA rfl (h1 _ _ _ aB) rfl rfl ?_; rintro _ _ _ ⟨rfl, rfl⟩; refine ⟨okF, ?_⟩)
 refine dR (z := e.q.num) (List.Mem.head _) (fun q3 c3 e3 hc3 hz3 => ?_)
 subst e3
 unfold iv
 repeat (refine eU ?_)
 (refine aA rfl (hN e.q.den _ _ _ aB) rfl rfl ?_; rintro _ _ _ ⟨rfl, rfl⟩; refine ⟨okF, ?_⟩)
 (refine aA rfl (h2 _ _ _ aB) rfl rfl ?_; rintro _ _ _ ⟨rfl, rfl⟩; refine ⟨okF, ?_⟩)
 refine dR (z := (e.q.den : Int)) (List.Mem.head _) (fun q4 c4 e4 hc4 hz4 => ?_)
 subst e4
 unfold iv
 (refine aC rfl (fun _ => aU (pvs := ([vI q3 c3 e.q.num, vI q4 c4 e.q.den]).zipIdx.map (fun p => (p.2, p.1))) (cells := eR ⟨e.q, q3, c3, q4, c4⟩) rfl rfl) rfl rfl ?_)
 repeat (refine eU ?_)
 refine rV (q := e.q) (k := k) (p1 := q3) (c1 := c3) (p2 := q4) (c2 := c4) aB aB (Nat.le_refl _) (Nat.le_refl _) ?_
 refine bJ (cs := eR ⟨e.q, q3, c3, q4, c4⟩) (.inl rfl) rfl rfl aB rfl M0 (gQ ⟨e.q, q3, c3, q4, c4⟩ k :: _) aG aD ⟨rfl, ⟨e.q, q3, c3, q4, c4⟩, rfl, rfl, rfl⟩
theorem mR {e : RE} {k : Nat} (hk : k ≤ 500000000000) (he : Hv I0 (gQ e k)) :
  CD Tryz.prog 146 [rv e] X w0 M0 I0 (RQ e.q k M0 I0) := by
 refine bN Tryz.func146 rfl Tryz.ntmps146 rfl ?_
 refine aH ?_
 refine aI ?_
 (refine aV rfl rfl rfl ?_; intro b; refine ⟨okF, ?_⟩)
 (refine aF rfl rfl ?_; intro b2; refine ⟨okF, ?_⟩)
 repeat (refine eU ?_)
 (refine aA rfl (aOC hk he) rfl rfl ?_; rintro _ _ _ ⟨rfl, rfl, rfl⟩; refine ⟨okF, ?_⟩)
 repeat (refine eU ?_)
 (refine aA rfl (aNZ hk he) rfl rfl ?_; rintro _ _ _ ⟨rfl, e2, rfl, he2, rfl⟩; refine ⟨okF, ?_⟩)
 repeat (refine eU ?_)
 refine bJ (cs := eR e2) (.inl rfl) rfl rfl aB rfl M0 (gQ e2 k :: I0) aG aD ⟨rfl, e2, rfl, he2, rfl⟩
theorem sQ {x : Int} (hx : -9223372036854775808 ≤ x ∧ x ≤ 9223372036854775807) {k : Nat} (hk : x.natAbs ≤ 2 ^ k) :
  CD Tryz.prog 149 [.int .i64 x] X w0 M0 I0 (RQ (x : Rat) k M0 I0) := by
 have hn : ((x : Rat)).num = x := Rat.num_intCast x
 have hd : (((x : Rat)).den : Int) = 1 := by rw [Rat.den_intCast]; rfl
 have h1 : (1 : Int).natAbs ≤ 2 ^ k := Nat.one_le_two_pow
 obtain ⟨q, hq⟩ : ∃ q : Rat, q = (x : Rat) := ⟨_, rfl⟩
 rw [← hq] at hn hd ⊢
 refine bN Tryz.func149 rfl Tryz.ntmps149 rfl ?_
 refine aH ?_
 refine aI ?_
 (refine aF rfl rfl ?_; intro b2; refine ⟨okF, ?_⟩)
 repeat (refine eU ?_)
 (refine aA rfl (aBX hx) rfl rfl ?_; rintro _ _ _ ⟨rfl, rfl⟩; refine ⟨okF, ?_⟩; refine dR (List.Mem.head _) (fun q3 c3 e__ hc3 hz3 => ?_); subst e__)
 unfold iv
 refine aEF (k2 := k) (z := x) (List.Mem.tail _ (List.Mem.head _)) hk ?_
 (refine aA rfl (aBX (x := 1) (by decide)) rfl rfl ?_; rintro _ _ _ ⟨rfl, rfl⟩; refine ⟨okF, ?_⟩; refine dR (List.Mem.head _) (fun q4 c4 e__ hc4 hz4 => ?_); subst e__)
 unfold iv
 refine aEF (k2 := k) (z := 1) (List.Mem.tail _ (List.Mem.head _)) h1 ?_
 rw [← hn, ← hd]
 (refine aC rfl (fun _ => aU (pvs := ([vI q3 c3 q.num, vI q4 c4 q.den]).zipIdx.map (fun p => (p.2, p.1))) (cells := eR ⟨q, q3, c3, q4, c4⟩) rfl rfl) rfl rfl ?_)
 repeat (refine eU ?_)
 refine rV (q := q) (k := k) (p1 := q3) (c1 := c3) (p2 := q4) (c2 := c4) aB aB (Nat.le_refl _) (Nat.le_refl _) ?_
 refine bJ (cs := eR ⟨q, q3, c3, q4, c4⟩) (.inl rfl) rfl rfl aB rfl M0 (gQ ⟨q, q3, c3, q4, c4⟩ k :: I0) aG aD ⟨rfl, ⟨q, q3, c3, q4, c4⟩, rfl, rfl, rfl⟩
theorem mV {e : RE} {k : Nat} (hk : k ≤ 500000000000) (he : Hv I0 (gQ e k)) :
  CD Tryz.prog 115 [rv e] X w0 M0 I0 (fun v M I => M0 = M ∧ I0 = I ∧ v = .int .i64 e.q.num.sign) := by
 refine bN Tryz.func115 rfl Tryz.ntmps115 rfl ?_
 refine aH ?_
 refine aI ?_
 (refine aV rfl rfl rfl ?_; intro b; refine ⟨okF, ?_⟩)
 repeat (refine eU ?_)
 (refine aA rfl (mR hk he) rfl rfl ?_; rintro _ _ _ ⟨rfl, e2, rfl, he2, rfl⟩; refine ⟨okF, ?_⟩)
 refine aC rfl (fun _ => bA rfl) rfl rfl ?_
 refine mQ (e := e2) (k := k) (Hv.mem (List.Mem.head _)) ?_
 (refine aA rfl (oO (z := e2.q.num) (k := k) (by omega) aB) rfl rfl ?_; rintro _ _ _ ⟨rfl, rfl, rfl⟩; refine ⟨okF, ?_⟩)
 rw [he2]
 repeat (refine eU ?_)
 refine aM (by first | exact .inl rfl | exact .inr rfl) rfl rfl _ _ aG aD (⟨rfl, rfl, rfl⟩)
theorem aFN {e : RE} {k : Nat} (hk : k ≤ 500000000000) (he : Hv I0 (gQ e k)) :
  CD Tryz.prog 163 [rv e] X w0 M0 I0 (RQ (-e.q) k M0 I0) := by
 refine bN Tryz.func163 rfl Tryz.ntmps163 rfl ?_
 refine aH ?_
 refine aI ?_
 (refine aV rfl rfl rfl ?_; intro b; refine ⟨okF, ?_⟩)
 (refine aF rfl rfl ?_; intro b2; refine ⟨okF, ?_⟩)
 repeat (refine eU ?_)
 (refine aA rfl (mR hk he) rfl rfl ?_; rintro _ _ _ ⟨rfl, e2, rfl, he2, rfl⟩; refine ⟨okF, ?_⟩)
 refine mQ (e := e2) (k := k) (Hv.mem (List.Mem.head _)) ?_
 rw [← he2]
 have hN := fun M0 I0 => aFP (X := X) (w0 := w0) (M0 := M0) (I0 := I0) (u := vI e2.p1 e2.c1 e2.q.num) (z := e2.q.num) (k := k) (by omega)
 rw [← Rat.neg_num] at hN
 have hd : ((e2.q.den : Int)) = ((-e2.q).den : Int) := by rw [Rat.neg_den]
 repeat (refine eU ?_)
 (repeat refine aH ?_); refine cZ 1 [0, 1, 3, 4, 2, 5, 6] [1, 0, 1, 1, 0, 0, 0] mixed (by kernel_rfl) ?_
 repeat (refine eU ?_)
 (refine aA rfl (hN _ _ aB) rfl rfl ?_; rintro _ _ _ ⟨rfl, rfl⟩; refine ⟨okF, ?_⟩; refine dR (List.Mem.head _) (fun q3 c3 e__ hc3 hz3 => ?_); subst e__)
 unfold iv
 rw [hd]
 (refine aC rfl (fun _ => aU (pvs := ([vI q3 c3 (-e2.q).num, vI e2.p2 e2.c2 (-e2.q).den]).zipIdx.map (fun p => (p.2, p.1))) (cells := eR ⟨-e2.q, q3, c3, e2.p2, e2.c2⟩) rfl rfl) rfl rfl ?_)
 repeat (refine eU ?_)
 refine rV (q := -e2.q) (k := k) (p1 := q3) (c1 := c3) (p2 := e2.p2) (c2 := e2.c2) aB aB (Nat.le_refl _) (Nat.le_refl _) ?_
 refine bJ (cs := eR ⟨-e2.q, q3, c3, e2.p2, e2.c2⟩) (.inl rfl) rfl rfl aB rfl M0 (gQ ⟨-e2.q, q3, c3, e2.p2, e2.c2⟩ k :: I0) aG aD ⟨rfl, ⟨-e2.q, q3, c3, e2.p2, e2.c2⟩, rfl, rfl, rfl⟩
end
end Go.Proofs.YtjbhdfpjnjedhaaGreat
namespace Go.Proofs.YtjbhdfpjnjedhaaGreat
open Go Go.Fx
theorem aTP (k m : Nat) : 2 ^ (k + m) + 2 ^ (m + k) ≤ 2 ^ (k + m + 1) := by
 rw [Nat.add_comm m k, Nat.pow_succ]; omega
theorem aFM (q : Rat) : (0 : Int) < q.den := by have := q.den_nz; omega
theorem aAG (p q : Rat) : ((p.den : Int) * q.den) ≠ 0 := by
 have := Int.mul_pos (aFM p) (aFM q); omega
theorem aKA {p q : Rat} (h : q ≠ 0) : ((p.den : Int) * q.num) ≠ 0 := fun h0 => by
 rcases Int.mul_eq_zero.1 h0 with h1 | h1
 ·exact absurd h1 (by have := aFM p; omega)
 ·exact h (Rat.num_eq_zero.1 h1)
section
variable {X : List Nat} {w0 : World} {M0 : List Ent} {I0 : List aT}
theorem tC {a b : RE} {k m : Nat} (hk : k + m + 1 ≤ 500000000000) (ha : Hv I0 (gQ a k)) (hb : Hv I0 (gQ b m)) :
  CD Tryz.prog 117 [rv a, rv b] X w0 M0 I0 (RQ (a.q + b.q) (k + m + 1) M0 I0) := by
 refine bL Tryz.func117 rfl Tryz.ntmps117 rfl ?_
 refine aH ?_
 refine aI ?_
 (refine aV rfl rfl rfl ?_; intro b1; refine ⟨okF, ?_⟩)
 (refine aV rfl rfl rfl ?_; intro b2; refine ⟨okF, ?_⟩)
 (refine aF rfl rfl ?_; intro b3; refine ⟨okF, ?_⟩)
 repeat (refine eU ?_)
 (repeat refine aH ?_); refine cZ 2 [0, 2, 1, 3, 4, 5] [1, 2, 0, 0, 0, 0] mixed (by kernel_rfl) ?_
 repeat (refine eU ?_)
 (refine aA rfl (mR (k := k) (by omega) ha) rfl rfl ?_; rintro _ _ _ ⟨rfl, x, rfl, hx, rfl⟩; refine ⟨okF, ?_⟩)
 repeat (refine eU ?_)
 (refine aA rfl (mR (k := m) (by omega) hb.cons) rfl rfl ?_; rintro _ _ _ ⟨rfl, y, rfl, hy, rfl⟩; refine ⟨okF, ?_⟩)
 refine mQ (e := x) (k := k) (Hv.mem (List.Mem.tail _ (List.Mem.head _))) ?_
 refine mQ (e := y) (k := m) (Hv.mem (List.Mem.tail _ (List.Mem.tail _ (List.Mem.head _)))) ?_
 rw [← hx, ← hy]
 have hM1 := fun u v M0 I0 => rG (X := X) (w0 := w0) (M0 := M0) (I0 := I0) (u := u) (v := v) (y := x.q.num) (z := y.q.den) (k := k) (m := m) (by omega)
 have hM2 := fun u v M0 I0 => rG (X := X) (w0 := w0) (M0 := M0) (I0 := I0) (u := u) (v := v) (y := y.q.num) (z := x.q.den) (k := m) (m := k) (by omega)
 have hM3 := fun u v M0 I0 => rG (X := X) (w0 := w0) (M0 := M0) (I0 := I0) (u := u) (v := v) (y := x.q.den) (z := y.q.den) (k := k) (m := m) (by omega)
 have hA := fun u v M0 I0 => aPH (X := X) (w0 := w0) (M0 := M0) (I0 := I0) (u := u) (v := v) (y := x.q.num * y.q.den) (z := y.q.num * x.q.den) (k := k + m) (m := m + k) (c := k + m + 1) (by omega) (by omega) (by omega) (aTP k m)
 have hR := fun u v M0 I0 => tJ (X := X) (w0 := w0) (M0 := M0) (I0 := I0) (u := u) (v := v) (n := x.q.num * y.q.den + y.q.num * x.q.den) (d := x.q.den * y.q.den) (k := k + m + 1) (by omega) (aAG _ _)
 rw [← aJJ] at hR
 repeat (refine eU ?_)
 (repeat refine aH ?_); refine bS (.blk b2 (eR y) 50 :: .blk b1 (eR x) 50 :: M0) (I0) [0, 1, 2, 3, 5, 6, 7, 8, 11, 12, 13, 14, 4, 9, 10, 15, 16, 17] [5, 4, 5, 4, 5, 4, 5, 4, 5, 4, 5, 4, 0, 0, 0, 0, 0, 0] aG aD mixed (by kernel_rfl) ?_
 repeat (refine eU ?_)
 (refine aA rfl (hM1 _ _ _ _ aB aB) rfl rfl ?_; rintro _ _ _ ⟨rfl, rfl⟩; refine ⟨okF, ?_⟩)
 (refine aA rfl (hM2 _ _ _ _ aB aB) rfl rfl ?_; rintro _ _ _ ⟨rfl, rfl⟩; refine ⟨okF, ?_⟩)
 (refine aA rfl (hA _ _ _ _ aB aB) rfl rfl ?_; rintro _ _ _ ⟨rfl, rfl⟩; refine ⟨okF, ?_⟩)
 (refine aA rfl (hM3 _ _ _ _ aB aB) rfl rfl ?_; rintro _ _ _ ⟨rfl, rfl⟩; refine ⟨okF, ?_⟩)
 refine aOS (k2 := k + m + 1) (List.Mem.head _) (by omega) ?_
 (refine aA rfl (hR _ _ _ _ aB aB) rfl rfl ?_; rintro _ _ _ ⟨rfl, e, rfl, he, rfl⟩; refine ⟨okF, ?_⟩)
 repeat (refine eU ?_)
 refine bJ (cs := eR e) (.inl rfl) rfl rfl aB rfl M0 (gQ e (k + m + 1) :: I0) aG aD ⟨rfl, e, rfl, he, rfl⟩
theorem aLM {a b : RE} {k m : Nat} (hk : k + m + 1 ≤ 500000000000) (ha : Hv I0 (gQ a k)) (hb : Hv I0 (gQ b m)) :
  CD Tryz.prog 119 [rv a, rv b] X w0 M0 I0 (RQ (a.q - b.q) (k + m + 1) M0 I0) := by
 refine bL Tryz.func119 rfl Tryz.ntmps119 rfl ?_
 refine aH ?_
 refine aI ?_
 (refine aV rfl rfl rfl ?_; intro b1; refine ⟨okF, ?_⟩)
 (refine aV rfl rfl rfl ?_; intro b2; refine ⟨okF, ?_⟩)
 (refine aF rfl rfl ?_; intro b3; refine ⟨okF, ?_⟩)
 repeat (refine eU ?_)
 (repeat refine aH ?_); refine cZ 1 [0, 1, 2, 3, 4] [1, 1, 0, 0, 0] mixed (by kernel_rfl) ?_
 repeat (refine eU ?_)
 (refine aA rfl (aFN (k := m) (by omega) hb) rfl rfl ?_; rintro _ _ _ ⟨rfl, y, rfl, hy, rfl⟩; refine ⟨okF, ?_⟩)
 rw [Rat.sub_eq_add_neg, ← hy]
 (refine aA rfl (tC hk ha.cons (Hv.mem (List.Mem.head _))) rfl rfl ?_; rintro _ _ _ ⟨rfl, e, rfl, he, rfl⟩; refine ⟨okF, ?_⟩)
 repeat (refine eU ?_)
 refine bJ (cs := eR e) (.inl rfl) rfl rfl aB rfl M0 (gQ e (k + m + 1) :: I0) aG aD ⟨rfl, e, rfl, he, rfl⟩
theorem qX {a b : RE} {k m : Nat} (hk : k + m ≤ 500000000000) (ha : Hv I0 (gQ a k)) (hb : Hv I0 (gQ b m)) :
  CD Tryz.prog 118 [rv a, rv b] X w0 M0 I0 (RQ (a.q * b.q) (k + m) M0 I0) := by
 refine bL Tryz.func118 rfl Tryz.ntmps118 rfl ?_
 refine aH ?_
 refine aI ?_
 (refine aV rfl rfl rfl ?_; intro b1; refine ⟨okF, ?_⟩)
 (refine aV rfl rfl rfl ?_; intro b2; refine ⟨okF, ?_⟩)
 (refine aF rfl rfl ?_; intro b3; refine ⟨okF, ?_⟩)
 repeat (refine eU ?_)
 (repeat refine aH ?_); refine cZ 2 [0, 2, 1, 3, 4, 5] [1, 2, 0, 0, 0, 0] mixed (by kernel_rfl) ?_
 repeat (refine eU ?_)
 (refine aA rfl (mR (k := k) (by omega) ha) rfl rfl ?_; rintro _ _ _ ⟨rfl, x, rfl, hx, rfl⟩; refine ⟨okF, ?_⟩)
 repeat (refine eU ?_)
 (refine aA rfl (mR (k := m) (by omega) hb.cons) rfl rfl ?_; rintro _ _ _ ⟨rfl, y, rfl, hy, rfl⟩; refine ⟨okF, ?_⟩)
 refine mQ (e := x) (k := k) (Hv.mem (List.Mem.tail _ (List.Mem.head _))) ?_
 refine mQ (e := y) (k := m) (Hv.mem (List.Mem.tail _ (List.Mem.tail _ (List.Mem.head _)))) ?_
 rw [← hx, ← hy]
 have hM1 := fun u v M0 I0 => rG (X := X) (w0 := w0) (M0 := M0) (I0 := I0) (u := u) (v := v) (y := x.q.num) (z := y.q.num) (k := k) (m := m) (by omega)
 have hM3 := fun u v M0 I0 => rG (X := X) (w0 := w0) (M0 := M0) (I0 := I0) (u := u) (v := v) (y := x.q.den) (z := y.q.den) (k := k) (m := m) (by omega)
 have hR := fun u v M0 I0 => tJ (X := X) (w0 := w0) (M0 := M0) (I0 := I0) (u := u) (v := v) (n := x.q.num * y.q.num) (d := x.q.den * y.q.den) (k := k + m) (by omega) (aAG _ _)
 rw [← aJM] at hR
 repeat (refine eU ?_)
 (repeat refine aH ?_); refine bS (.blk b2 (eR y) 50 :: .blk b1 (eR x) 50 :: M0) (I0) [0, 1, 2, 3, 5, 6, 7, 8, 4, 9, 10, 11] [3, 2, 3, 2, 3, 2, 3, 2, 0, 0, 0, 0] aG aD mixed (by kernel_rfl) ?_
 repeat (refine eU ?_)
 (refine aA rfl (hM1 _ _ _ _ aB aB) rfl rfl ?_; rintro _ _ _ ⟨rfl, rfl⟩; refine ⟨okF, ?_⟩)
 (refine aA rfl (hM3 _ _ _ _ aB aB) rfl rfl ?_; rintro _ _ _ ⟨rfl, rfl⟩; refine ⟨okF, ?_⟩)
 (refine aA rfl (hR _ _ _ _ aB aB) rfl rfl ?_; rintro _ _ _ ⟨rfl, e, rfl, he, rfl⟩; refine ⟨okF, ?_⟩)
 repeat (refine eU ?_)
 refine bJ (cs := eR e) (.inl rfl) rfl rfl aB rfl M0 (gQ e (k + m) :: I0) aG aD ⟨rfl, e, rfl, he, rfl⟩
abbrev zR : Value := .agg #[.bool false, .slice none 0 0, .bool false, .slice none 0 0]
theorem aAV {a b : RE} {k m : Nat} (hk : k + m ≤ 500000000000) (hb0 : b.q ≠ 0) (ha : Hv I0 (gQ a k)) (hb : Hv I0 (gQ b m)) :
  CD Tryz.prog 167 [rv a, rv b] X w0 M0 I0 (RQc (a.q / b.q) (k + m) M0 I0) := by
 refine bL Tryz.func167 rfl Tryz.ntmps167 rfl ?_
 refine aH ?_
 refine aI ?_
 (refine aV rfl rfl rfl ?_; intro b1; refine ⟨okF, ?_⟩)
 (refine aV rfl rfl rfl ?_; intro b2; refine ⟨okF, ?_⟩)
 (refine aF rfl rfl ?_; intro b3; refine ⟨okF, ?_⟩)
 repeat (refine eU ?_)
 (repeat refine aH ?_); refine cZ 2 [0, 2, 1, 3, 4, 5] [1, 2, 0, 0, 0, 0] mixed (by kernel_rfl) ?_
 repeat (refine eU ?_)
 (refine aA rfl (mR (k := k) (by omega) ha) rfl rfl ?_; rintro _ _ _ ⟨rfl, x, rfl, hx, rfl⟩; refine ⟨okF, ?_⟩)
 repeat (refine eU ?_)
 (refine aA rfl (mR (k := m) (by omega) hb.cons) rfl rfl ?_; rintro _ _ _ ⟨rfl, y, rfl, hy, rfl⟩; refine ⟨okF, ?_⟩)
 refine mQ (e := x) (k := k) (Hv.mem (List.Mem.tail _ (List.Mem.head _))) ?_
 refine mQ (e := y) (k := m) (Hv.mem (List.Mem.tail _ (List.Mem.tail _ (List.Mem.head _)))) ?_
 rw [← hx, ← hy]
 rw [← hy] at hb0
 have hs0 : ¬ y.q.num.sign = 0 := fun h => hb0 (Rat.num_eq_zero.1 (Int.sign_eq_zero_iff_zero.1 h))
 have hS := fun M0 I0 => oO (X := X) (w0 := w0) (M0 := M0) (I0 := I0) (u := vI y.p1 y.c1 y.q.num) (z := y.q.num) (k := m) (by omega)
 have hM1 := fun u v M0 I0 => rG (X := X) (w0 := w0) (M0 := M0) (I0 := I0) (u := u) (v := v) (y := x.q.num) (z := y.q.den) (k := k) (m := m) (by omega)
 have hM3 := fun u v M0 I0 => rG (X := X) (w0 := w0) (M0 := M0) (I0 := I0) (u := u) (v := v) (y := x.q.den) (z := y.q.num) (k := k) (m := m) (by omega)
 have hR := fun u v M0 I0 => tJ (X := X) (w0 := w0) (M0 := M0) (I0 := I0) (u := u) (v := v) (n := x.q.num * y.q.den) (d := x.q.den * y.q.num) (k := k + m) (by omega) (aKA hb0)
 rw [← aIF] at hR
 generalize y.q.num.sign = sy at *
 repeat (refine eU ?_)
 (refine aA rfl (hS _ _ aB) rfl rfl ?_; rintro _ _ _ ⟨rfl, rfl, rfl⟩; refine ⟨okF, ?_⟩)
 repeat (refine eU ?_)
 (repeat refine aH ?_); refine bS (.blk b2 (eR y) 50 :: .blk b1 (eR x) 50 :: M0) (I0) [0, 1, 2, 3, 5, 6, 7, 8, 4, 9, 10, 11, 12] [3, 2, 3, 2, 3, 2, 3, 2, 0, 0, 0, 0, 0] aG aD mixed (by kernel_rfl) ?_
 repeat (refine eU ?_)
 (refine aA rfl (hM1 _ _ _ _ aB aB) rfl rfl ?_; rintro _ _ _ ⟨rfl, rfl⟩; refine ⟨okF, ?_⟩)
 (refine aA rfl (hM3 _ _ _ _ aB aB) rfl rfl ?_; rintro _ _ _ ⟨rfl, rfl⟩; refine ⟨okF, ?_⟩)
 (refine aA rfl (hR _ _ _ _ aB aB) rfl rfl ?_; rintro _ _ _ ⟨rfl, e, rfl, he, rfl⟩; refine ⟨okF, ?_⟩)
 repeat (refine eU ?_)
 refine dZ (rs := [.cell 4 50, .tmp 5]) (vs := [rv e, .int .i64 0]) (.inl rfl) rfl (.cellN (cs := eR e) inferInstance rfl aB rfl (.tmp rfl .nil)) rfl M0 (gQ e (k + m) :: I0) aG aD ⟨rfl, e, rfl, he, rfl⟩
def aMW (p q : Rat) : Int := jO (p.num * q.den) (q.num * p.den)
theorem aTQ {p q : Rat} : 0 < aMW p q ↔ q < p := by
 unfold aMW jO; rw [aXM]; split <;> (try split) <;> omega
theorem aUX {p q : Rat} : aMW p q ≤ 0 ↔ p ≤ q := by rw [← Rat.not_lt, ← aTQ]; omega
theorem aIC {a b : RE} {k m : Nat} (hk : k + m ≤ 400000000000) (ha : Hv I0 (gQ a k)) (hb : Hv I0 (gQ b m)) :
  CD Tryz.prog 90 [rv a, rv b] X w0 M0 I0 (fun v M I => M0 = M ∧ I0 = I ∧ v = .int .i64 (aMW a.q b.q)) := by
 refine bL Tryz.func90 rfl Tryz.ntmps90 rfl ?_
 refine aH ?_
 refine aI ?_
 (refine aV rfl rfl rfl ?_; intro b1; refine ⟨okF, ?_⟩)
 (refine aV rfl rfl rfl ?_; intro b2; refine ⟨okF, ?_⟩)
 repeat (refine eU ?_)
 (repeat refine aH ?_); refine cZ 2 [0, 2, 1, 3, 4, 5] [1, 2, 0, 0, 0, 0] mixed (by kernel_rfl) ?_
 repeat (refine eU ?_)
 (refine aA rfl (mR (k := k) (by omega) ha) rfl rfl ?_; rintro _ _ _ ⟨rfl, x, rfl, hx, rfl⟩; refine ⟨okF, ?_⟩)
 repeat (refine eU ?_)
 (refine aA rfl (mR (k := m) (by omega) hb.cons) rfl rfl ?_; rintro _ _ _ ⟨rfl, y, rfl, hy, rfl⟩; refine ⟨okF, ?_⟩)
 refine mQ (e := x) (k := k) (Hv.mem (List.Mem.tail _ (List.Mem.head _))) ?_
 refine mQ (e := y) (k := m) (Hv.mem (List.Mem.tail _ (List.Mem.tail _ (List.Mem.head _)))) ?_
 rw [← hx, ← hy]
 have hM1 := fun u v M0 I0 => rG (X := X) (w0 := w0) (M0 := M0) (I0 := I0) (u := u) (v := v) (y := x.q.num) (z := y.q.den) (k := k) (m := m) (by omega)
 have hM2 := fun u v M0 I0 => rG (X := X) (w0 := w0) (M0 := M0) (I0 := I0) (u := u) (v := v) (y := y.q.num) (z := x.q.den) (k := m) (m := k) (by omega)
 have hC := fun u v M0 I0 => vV (X := X) (w0 := w0) (M0 := M0) (I0 := I0) (u := u) (v := v) (y := x.q.num * y.q.den) (z := y.q.num * x.q.den) (k := k + m) (m := m + k) (by omega) (by omega)
 repeat (refine eU ?_)
 (repeat refine aH ?_); refine bS (.blk b2 (eR y) 50 :: .blk b1 (eR x) 50 :: M0) (I0) [0, 1, 2, 3, 5, 6, 7, 8, 4, 9, 10, 11] [3, 2, 3, 2, 3, 2, 3, 2, 0, 0, 0, 0] aG aD mixed (by kernel_rfl) ?_
 repeat (refine eU ?_)
 (refine aA rfl (hM1 _ _ _ _ aB aB) rfl rfl ?_; rintro _ _ _ ⟨rfl, rfl⟩; refine ⟨okF, ?_⟩)
 (refine aA rfl (hM2 _ _ _ _ aB aB) rfl rfl ?_; rintro _ _ _ ⟨rfl, rfl⟩; refine ⟨okF, ?_⟩)
 (refine aA rfl (hC _ _ _ _ aB aB) rfl rfl ?_; rintro _ _ _ ⟨rfl, rfl, rfl⟩; refine ⟨okF, ?_⟩)
 repeat (refine eU ?_)
 refine aM (by first | exact .inl rfl | exact .inr rfl) rfl rfl _ _ aG aD (⟨rfl, rfl, rfl⟩)
end
end Go.Proofs.YtjbhdfpjnjedhaaGreat
namespace Go.Proofs.YtjbhdfpjnjedhaaGreat
open Go Go.Fx
section
variable {P : Program} {n : Nat} {G : Env}
end
section
variable {X : List Nat} {w0 : World} {M0 : List Ent} {I0 : List aT}
end
end Go.Proofs.YtjbhdfpjnjedhaaGreat
namespace Go.Proofs.YtjbhdfpjnjedhaaGreat
open Go Go.Fx
section
variable {X : List Nat} {w0 : World} {M0 : List Ent} {I0 : List aT}
end
end Go.Proofs.YtjbhdfpjnjedhaaGreat
namespace Go.Proofs.YtjbhdfpjnjedhaaGreat
open Go Go.Fx
section
variable {X : List Nat} {w0 : World} {M0 : List Ent} {I0 : List aT}
end
end Go.Proofs.YtjbhdfpjnjedhaaGreat
namespace Go.Proofs.YtjbhdfpjnjedhaaGreat
open Go Go.Fx
section
variable {X : List Nat} {w0 : World} {M0 : List Ent} {I0 : List aT}
end
end Go.Proofs.YtjbhdfpjnjedhaaGreat
namespace Go.Proofs.YtjbhdfpjnjedhaaGreat
open Go Go.Fx
section
variable {X : List Nat} {w0 : World} {M0 : List Ent} {I0 : List aT}
def VoP (z : Int) (M0 : List Ent) (I0 : List aT) (v : Value) (M : List Ent) (I : List aT) : Prop := M0 = M ∧ ∃ q c, v = .agg #[.bool (B (z < 0)), .slice q (gr z.natAbs).length c] ∧ xW q z.natAbs c ∧ I = aR q (recs eG (gr z.natAbs)) :: I0
end
end Go.Proofs.YtjbhdfpjnjedhaaGreat
namespace Go.Proofs.YtjbhdfpjnjedhaaGreat
open Go Go.Fx
section
variable {X : List Nat} {w0 : World} {M0 : List Ent} {I0 : List aT}
end
end Go.Proofs.YtjbhdfpjnjedhaaGreat
namespace Go.Proofs.YtjbhdfpjnjedhaaGreat
open Go Go.Fx
section
variable {X : List Nat} {w0 : World} {M0 : List Ent} {I0 : List aT}
end
end Go.Proofs.YtjbhdfpjnjedhaaGreat
namespace Go.Proofs.YtjbhdfpjnjedhaaGreat
open Go Go.Fx
section
variable {X : List Nat} {w0 : World} {M0 : List Ent} {I0 : List aT}
end
end Go.Proofs.YtjbhdfpjnjedhaaGreat
namespace Go.Proofs.YtjbhdfpjnjedhaaGreat
open Go Go.Fx
section
variable {X : List Nat} {w0 : World} {M0 : List Ent} {I0 : List aT}
end
end Go.Proofs.YtjbhdfpjnjedhaaGreat
namespace Go.Proofs.YtjbhdfpjnjedhaaGreat
open Go Go.Fx
section
variable {X : List Nat} {w0 : World} {M0 : List Ent} {I0 : List aT}
end
end Go.Proofs.YtjbhdfpjnjedhaaGreat
namespace Go.Proofs.YtjbhdfpjnjedhaaGreat
open Go Go.Fx
section
variable {X : List Nat} {w0 : World} {M0 : List Ent} {I0 : List aT}
end
end Go.Proofs.YtjbhdfpjnjedhaaGreat
namespace Go.Proofs.YtjbhdfpjnjedhaaGreat
open Go Go.Fx
section
variable {X : List Nat} {w0 : World} {M0 : List Ent} {I0 : List aT}
end
end Go.Proofs.YtjbhdfpjnjedhaaGreat
namespace Go.Proofs.YtjbhdfpjnjedhaaGreat
open Go Go.Fx
structure C4 where
 a : Value
 b : Value
 c : Value
 d : Value
abbrev e4 (x : C4) : List Value := [x.a, x.b, x.c, x.d]
instance : Inhabited C4 := ⟨⟨.bool false, .slice none 0 0, .bool false, .slice none 0 0⟩⟩
instance : Sized e4 4 := ⟨fun _ => rfl⟩
abbrev z4 : C4 := ⟨.bool false, .slice none 0 0, .bool false, .slice none 0 0⟩
abbrev t4 (e : RE) : C4 := ⟨.bool (B (e.q.num < 0)), .slice e.p1 (gr e.q.num.natAbs).length e.c1, .bool (B ((e.q.den : Int) < 0)), .slice e.p2 (gr (e.q.den : Int).natAbs).length e.c2⟩
theorem aFK (es : List RE) : recs e4 (es.map t4) = recs eR es := by
 induction es with
 | nil => rfl
 | cons x r ih =>
  have h1 : recs e4 ((x :: r).map t4) = e4 (t4 x) ++ recs e4 (r.map t4) := rfl
  have h2 : recs eR (x :: r) = eR x ++ recs eR r := rfl
  rw [h1, h2, ih]
structure HD where
 p : Option Addr
 n : Nat
 c : Nat
instance : Inhabited HD := ⟨⟨none, 0, 0⟩⟩
abbrev eH (h : HD) : List Value := [.slice h.p h.n h.c]
instance : Sized eH 1 := ⟨fun _ => rfl⟩
structure MR where
 b : Nat
 es : List RE
instance : Inhabited MR := ⟨⟨0, []⟩⟩
abbrev hdM (r : MR) : HD := ⟨some ⟨r.b, 0, none⟩, r.es.length, r.es.length⟩
abbrev eM (r : MR) : List Value := [.slice (some ⟨r.b, 0, none⟩) r.es.length r.es.length]
instance : Sized eM 1 := ⟨fun _ => rfl⟩
abbrev gJ (r : MR) : Ent := .blk r.b (recs eR r.es) 50
theorem aQL (rows : List MR) : recs eH (rows.map hdM) = recs eM rows := by
 induction rows with
 | nil => rfl
 | cons x r ih =>
  have h1 : recs eH ((x :: r).map hdM) = eH (hdM x) ++ recs eH (r.map hdM) := rfl
  have h2 : recs eM (x :: r) = eM x ++ recs eM r := rfl
  rw [h1, h2, ih]
structure AllM (rows : List MR) (k : Nat) (X : List Nat) (w : World) : Prop where
 go : ∀ r ∈ rows, ∀ e ∈ r.es, IsR e k X w
abbrev allM (rows : List MR) (k : Nat) : aT := AllM rows k
instance (rows : List MR) (k : Nat) : Fx.Good (AllM rows k) := ⟨fun X Y w w' h he hY => ⟨fun r hr e hm => Fx.Good.go (φ := IsR _ _) X Y w w' (h.go r hr e hm) he hY⟩⟩
theorem Hv.snoc {I : List aT} {es : List RE} {e : RE} {k : Nat} (h1 : dL es k ∈ I) (h2 : gQ e k ∈ I) : Hv I (dL (es ++ [e]) k) := ⟨fun X w hw => ⟨fun x hx => by
 rcases List.mem_append.1 hx with hx | hx
 ·exact (hw _ h1 : AllR es k X w).go x hx
 ·rw [List.mem_singleton.1 hx]; exact hw _ h2⟩⟩
theorem Hv.nilR {I : List aT} {k : Nat} : Hv I (dL [] k) := ⟨fun X w _ => ⟨fun x hx => by simp at hx⟩⟩
theorem Hv.nilM {I : List aT} {k : Nat} : Hv I (allM [] k) := ⟨fun X w _ => ⟨fun x hx => by simp at hx⟩⟩
theorem Hv.snocM {I : List aT} {rows : List MR} {r : MR} {k : Nat} (h1 : allM rows k ∈ I) (h2 : dL r.es k ∈ I) : Hv I (allM (rows ++ [r]) k) := ⟨fun X w hw => ⟨fun x hx => by
 rcases List.mem_append.1 hx with hx | hx
 ·exact (hw _ h1 : AllM rows k X w).go x hx
 ·rw [List.mem_singleton.1 hx]; exact (hw _ h2 : AllR r.es k X w).go⟩⟩
theorem aBL {α : Type} [Inhabited α] {A B : List α} {x : α} {i : Int} (h : i = A.length) : gt (A ++ x :: B) i = x := by
 subst h
 rw [jD (by simp)]
 simp
theorem uM {α : Type} {A B : List α} {x y : α} {i : Int} (h : i = A.length) : st (A ++ x :: B) i y = A ++ y :: B := by
 subst h
 simp [st]
theorem sM {α : Type} {n : Nat} {z : α} (h : 0 < n) : List.replicate n z = z :: List.replicate (n - 1) z := by
 obtain ⟨m, rfl⟩ : ∃ m, n = m + 1 := ⟨n - 1, by omega⟩
 rfl
theorem pY {α : Type} {enc : α → List Value} {sz : Nat} [h : Sized enc sz] (hsz : 0 < sz) (zz : α) (mm : Nat) : (madeCells (enc zz).toArray (mm * sz)).toList = recs enc (List.replicate mm zz) := by
 have hl : (enc zz).length = sz := h.len zz
 apply List.ext_getElem
 ·rw [Array.length_toList, size_madeCells, iE, List.length_replicate]
 ·intro i h1 h2
  rw [Array.length_toList, size_madeCells] at h1
  have hq : i / sz < mm := by rw [Nat.div_lt_iff_lt_mul hsz]; exact h1
  have hr : i % sz < sz := Nat.mod_lt _ hsz
  have hv : (enc zz)[i % sz]? = some ((enc zz)[i % sz]'(by omega)) := List.getElem?_eq_getElem (by omega)
  have := wG (enc := enc) (List.replicate mm zz) (i / sz) (i % sz) zz _ (by rw [List.getElem?_replicate, if_pos hq]) hv
  rw [Nat.div_add_mod'] at this
  have h3 := (List.getElem?_eq_some_iff.1 this).2
  rw [h3]
  simp [madeCells, hl, hr]
def MkP (R C : Nat) (F : Nat → Nat → Rat) (k : Nat) (M0 : List Ent) (I0 : List aT) (v : Value) (M : List Ent) (I : List aT) : Prop :=
 ∃ (bo : Nat) (rows : List MR), v = .slice (some ⟨bo, 0, none⟩) R R ∧ rows.length = R ∧ (∀ r ∈ rows, r.es.length = C) ∧ (rows.map (fun r => r.es.map (·.q)) = (List.range R).map (fun i => (List.range C).map (F i))) ∧
  M = .blk bo (recs eM rows) 53 :: (rows.map gJ ++ M0) ∧ I = allM rows k :: I0
section
variable {P : Program} {n : Nat} {Q : Exit → Act → World → Prop} {G : Env} {X : List Nat} {w0 : World} {M M' : List Ent} {I : List aT}
theorem wV {ex : Exit} (h : M.Perm M') (k : ND n Q ex G X w0 M' I) : ND n Q ex G X w0 M I := xP (fun _ hw => hw.perm h) k
theorem nC {c : Code} (h : M.Perm M') (k : TD P n c Q G X w0 M' I) : TD P n c Q G X w0 M I := aEN (fun _ hw => hw.perm h) k
theorem zY {ops l : List Oper} {m : Fx.Mode} (h : M.Perm M') (k : RD P n ops Q m l G X w0 M' I) : RD P n ops Q m l G X w0 M I := xJ (fun _ hw => hw.perm h) k
theorem aOF {x o : Ent} {A B : List Ent} : (x :: o :: (A ++ B)).Perm (o :: ((A ++ [x]) ++ B)) := by
 refine (List.Perm.swap _ _ _).trans (List.Perm.cons _ ?_)
 rw [List.append_assoc]
 exact List.perm_middle.symm
end
section
variable {X : List Nat} {w0 : World} {M0 : List Ent} {I0 : List aT}
theorem aAF {g : FuncId} [FnOk Tryz.prog g] {fs cs : Array Value} {R C k0 : Nat} (hR : R ≤ 100) (hC : C ≤ 200) (F : Nat → Nat → Rat)
  (hg : ∀ M I, (∀ φ ∈ I0, φ ∈ I) → ∀ i j : Nat, i < R → j < C → CD Tryz.prog g (fs.toList ++ [.int .i64 (i : Int), .int .i64 (j : Int)] ++ cs.toList) X w0 M I (RQ (F i j) k0 M I)) :
  CD Tryz.prog 175 [.int .i64 (R : Int), .int .i64 (C : Int), .func (.func g) fs cs] X w0 M0 I0 (MkP R C F k0 M0 I0) := by
 refine kZ Tryz.func175 rfl Tryz.ntmps175 rfl ?_
 repeat (refine eU ?_)
 (refine lL (R) rfl rfl (by omega) (by omega) (by omega) (by omega) (pY (enc := eH) (by decide) ⟨none, 0, 0⟩ R) rfl rfl ?_; intro bo; refine ⟨okF, ?_⟩)
 refine iX (φ := allM [] k0) Hv.nilM ?_
 repeat (refine eU ?_)
 refine aZ [1, 2, 7, 13] rfl (fun k G M I => ∃ (i : Nat) (rows : List MR), i ≤ R ∧ k = R - i ∧ rows.length = i ∧ (∀ r ∈ rows, r.es.length = C) ∧ (rows.map (fun r => r.es.map (·.q)) = (List.range i).map (fun i => (List.range C).map (F i))) ∧ G = [(14, .int .i64 i)] ∧ M = .blk bo (recs eH (rows.map hdM ++ List.replicate (R - i) ⟨none, 0, 0⟩)) 53 :: (rows.map gJ ++ M0) ∧ I = allM rows k0 :: I0) (R) _ _ _ aL aG aD (⟨0, [], by omega, by omega, rfl, by simp, by simp, rfl, rfl, rfl⟩) ?_
 rintro k G M I ⟨i, rows, hi, rfl, hrl, hrc, hrF, rfl, rfl, rfl⟩
 by_cases hiR : i < R
 ·have hz := sM (n := R - i) (z := (⟨none, 0, 0⟩ : HD)) (by omega)
  repeat (refine eU ?_)
  (refine lL (C) rfl rfl (by omega) (by omega) (by omega) (by omega) (pY (enc := e4) (by decide) z4 C) rfl rfl ?_; intro bi; refine ⟨okF, ?_⟩)
  rw [hz]
  have hlh0 : ((rows.map hdM ++ (⟨none, 0, 0⟩ : HD) :: List.replicate (R - i - 1) ⟨none, 0, 0⟩).length : Int) = R := by simp; omega
  repeat (refine yXf ?_)
  refine jR rfl rfl rfl kH (StAt.r1 (⟨some ⟨bi, 0, none⟩, C, C⟩ : HD) (by omega) rfl) rfl rfl ⟨okF, ?_⟩
  rw [uM (by simp; omega)]
  obtain ⟨hs, hhs⟩ : ∃ hs, hs = rows.map hdM ++ (⟨some ⟨bi, 0, none⟩, C, C⟩ : HD) :: List.replicate (R - i - 1) ⟨none, 0, 0⟩ := ⟨_, rfl⟩
  rw [← hhs]
  have hgh : gt hs (i : Int) = ⟨some ⟨bi, 0, none⟩, C, C⟩ := by rw [hhs]; exact aBL (by simp; omega)
  have hlh : hs.length = R := by rw [hhs]; simp; omega
  have hgp : (gt hs (i : Int)).p = some ⟨bi, 0, none⟩ := by rw [hgh]
  have hgn : (gt hs (i : Int)).n = C := by rw [hgh]
  have hgc : (gt hs (i : Int)).c = C := by rw [hgh]
  repeat (refine eU ?_)
  rw [hgp, hgn, hgc]
  refine dV (φ := dL [] k0) Hv.nilR ?_
  refine aZ [1, 2, 7, 8, 13, 14, 26] rfl (fun k G M I => ∃ (j : Nat) (es : List RE), j ≤ C ∧ k = C - j ∧ es.length = j ∧ es.map (·.q) = (List.range j).map (F i) ∧ G = [(27, .int .i64 j)] ∧ M = .blk bi (recs e4 (es.map t4 ++ List.replicate (C - j) z4)) 50 :: .blk bo (recs eH hs) 53 :: (rows.map gJ ++ M0) ∧ I = dL es k0 :: allM rows k0 :: I0) (C) _ _ _ aL aG aD (⟨0, [], by omega, by omega, rfl, rfl, rfl, rfl, rfl⟩) ?_
  rintro k G M I ⟨j, es, hj, rfl, hel, heF, rfl, rfl, rfl⟩
  by_cases hjC : j < C
  ·have hz2 := sM (n := C - j) (z := z4) (by omega)
   rw [hz2]
   have hl2 : ((es.map t4 ++ z4 :: List.replicate (C - j - 1) z4).length : Int) = C := by simp; omega
   repeat (refine eU ?_)
   (repeat refine aH ?_); refine cZ 1 [0, 1, 2, 3, 4, 5, 6, 7, 8, 9, 10] [1, 1, 1, 1, 1, 0, 0, 0, 0, 0, 0] mixed (by kernel_rfl) ?_
   repeat (refine eU ?_)
   rw [hgp, hgn, hgc]
   (refine eO rfl rfl (hg _ _ (fun φ h => List.Mem.tail _ (List.Mem.tail _ h)) i j hiR hjC) rfl rfl rfl ?_; rintro _ _ _ ⟨rfl, e, rfl, he, rfl⟩; refine ⟨okF, ?_⟩)
   repeat (refine yXf ?_)
   refine fD (vs := eR e) rfl rfl rfl (Ones.one e) kH (StAts.r (t4 e) (by omega) rfl) rfl rfl ⟨okF, ?_⟩
   rw [uM (by simp; omega)]
   repeat (refine eU ?_)
   refine iI (φ := dL (es ++ [e]) k0) (Hv.snoc aB aB) ?_
   have e9 : es.map t4 ++ t4 e :: List.replicate (C - j - 1) z4 = (es ++ [e]).map t4 ++ List.replicate (C - (j + 1)) z4 := by simp [Nat.sub_sub]
   rw [e9]
   refine aK (C - (j + 1)) _ _ _ (by first | omega | (simp only [List.length_append, List.length_cons, List.length_nil]; omega)) aL aG aD (⟨j + 1, es ++ [e], by omega, rfl, by simp; omega, by simp [heF, List.range_succ, he], rfl, rfl, rfl⟩)
  ·obtain rfl : j = C := by omega
   rw [Nat.sub_self, List.replicate_zero, List.append_nil, aFK]
   have e8 : hs = (rows ++ [(⟨bi, es⟩ : MR)]).map hdM ++ List.replicate (R - (i + 1)) ⟨none, 0, 0⟩ := by rw [hhs]; simp [hel, Nat.sub_sub]
   repeat (refine eU ?_)
   rw [e8]
   refine iI (φ := allM (rows ++ [(⟨bi, es⟩ : MR)]) k0) (Hv.snocM aB aB) ?_
   refine wV (M' := .blk bo (recs eH ((rows ++ [(⟨bi, es⟩ : MR)]).map hdM ++ List.replicate (R - (i + 1)) ⟨none, 0, 0⟩)) 53 :: ((rows ++ [(⟨bi, es⟩ : MR)]).map gJ ++ M0)) (by rw [List.map_append (f := gJ)]; exact aOF) ?_
   refine aK (R - (i + 1)) _ _ _ (by first | omega | (simp only [List.length_append, List.length_cons, List.length_nil]; omega)) aL aG aD (⟨i + 1, rows ++ [(⟨bi, es⟩ : MR)], by omega, rfl, by simp; omega, fun r hr => by rcases List.mem_append.1 hr with h | h; exact hrc r h; rw [List.mem_singleton.1 h]; exact hel, by rw [List.map_append, hrF, List.range_succ, List.map_append]; simp [heF], rfl, rfl, rfl⟩)
 ·obtain rfl : i = R := by omega
  have hz : List.replicate (i - i) (⟨none, 0, 0⟩ : HD) = [] := by rw [Nat.sub_self]; rfl
  rw [hz, List.append_nil, aQL]
  repeat (refine eU ?_)
  refine aM (by first | exact .inl rfl | exact .inr rfl) rfl rfl _ _ aG aD (⟨bo, rows, rfl, hrl, hrc, hrF, rfl, rfl⟩)
end
end Go.Proofs.YtjbhdfpjnjedhaaGreat
