/- controlled: exists, Check; the law's unit, inside, annuls, proves. Chapter 42's law: unit, inside, annuls, proves; the walk of ControlledChecks. -/
import Derived.Test.YtgeagiikkeiioaaGreatZebk
import Derived.Test.YtgeagiikkeiioaaGreatZeaw
import Derived.Test.YtgeagiikkeiioaaGreatZebg
set_option linter.unusedSimpArgs false
set_option linter.unusedVariables false
set_option maxRecDepth 100000
set_option maxHeartbeats 4000000
namespace Go.Proofs.YtgeagiikkeiioaaGreat
open Go Go.Fx
def prvP (R C : Nat) (A : Mt) (i : Nat) (ct : Bool) (y : List Rat) : Prop := if ct = true then y.length = R ∧ annP R C A y ∧ y.getD i 0 = ((1 : Int) : Rat) else y.length = C ∧ apL R C A y = unL R i
instance prvP.dec (R C : Nat) (A : Mt) (i : Nat) (ct : Bool) (y : List Rat) : Decidable (prvP R C A i ct y) := by unfold prvP; exact inferInstance
theorem uT {R C i : Nat} {A : Mt} {y : List Rat} : prvP R C A i true y ↔ (y.length = R ∧ annP R C A y ∧ y.getD i 0 = ((1 : Int) : Rat)) := by unfold prvP; simp
theorem zB {R C i : Nat} {A : Mt} {y : List Rat} : prvP R C A i false y ↔ (y.length = C ∧ apL R C A y = unL R i) := by unfold prvP; simp
theorem aBG {P : Program} {n : Nat} {Q : Exit → Act → World → Prop} {G : Env} {X : List Nat} {w0 : World} {M M' : List Ent} {I : List bD} {c : Code} {b : Nat} {cs : List Value} {e : TypeId} (hr : Rem (.blk b cs e) M M') (h : TD P n c Q G X w0 M' (aV (some ⟨b, 0, none⟩) cs :: I)) : TD P n c Q G X w0 M I := aNN (fun _ hw => hw.freezeB hr) h
section
variable {X : List Nat} {w0 : World} {M0 : List Ent} {I0 : List bD}
theorem vQ {m : LE} {R C k : Nat} {i : Int} (hi : -9223372036854775808 ≤ i ∧ i ≤ 9223372036854775807) (hk : k ≤ 20000000000) (f : m.fit R C) (h : iX m k ∈ I0) :
  CD Tryz.prog 97 [uN m, .int .i64 i] X w0 M0 I0 (fun v M I => M0 = M ∧ I0 = I ∧ v = .int .i64 (if 0 ≤ i ∧ i < R then 0 else 2)) := by
 have lR := f.d.1.1
 obtain ⟨r1, r2⟩ := f.d.2.1
 have hC := fun M0 I0 h => jY (X := X) (w0 := w0) (M0 := M0) (I0 := I0) (m := m) (k := k) hk f h
 refine aW Tryz.func97 rfl Tryz.ntmps97 rfl ?_
 refine aJ ?_
 refine aH ?_
 (refine aM rfl rfl rfl ?_; intro b1; refine ⟨okF, ?_⟩)
 refine aF .here ?_
 repeat (refine aI ?_)
 (refine aA rfl (hC _ _ aB) rfl rfl ?_; rintro _ _ _ ⟨rfl, rfl, rfl⟩; refine ⟨okF, ?_⟩)
 by_cases h1 : 0 ≤ i
 ·by_cases h2 : i < R
  ·rw [if_pos ⟨h1, h2⟩]
   repeat (refine aI ?_)
   refine aC (by first | exact .inl rfl | exact .inr rfl) rfl rfl _ _ aG aD (⟨rfl, rfl, rfl⟩)
  ·rw [if_neg (fun h => h2 h.2)]
   repeat (refine aI ?_)
   refine aC (by first | exact .inl rfl | exact .inr rfl) rfl rfl _ _ aG aD (⟨rfl, rfl, rfl⟩)
 ·rw [if_neg (fun h => h1 h.1)]
  repeat (refine aI ?_)
  refine aC (by first | exact .inl rfl | exact .inr rfl) rfl rfl _ _ aG aD (⟨rfl, rfl, rfl⟩)
theorem aGM {m : LW} {ct : Bool} {y : WL} {i : Int} (sm : m.sml) (hc : m.code ≠ 0) (hm : iZ m ∈ I0) : CD Tryz.prog 42 [vLW m, .int .i64 i, .agg #[.bool ct, rZ y]] X w0 M0 I0 (fun v M I => M0 = M ∧ I0 = I ∧ v = .int .i64 m.code) := by
 have hC := fun M0 I0 h1 => sU (X := X) (w0 := w0) (M0 := M0) (I0 := I0) (m := m) sm h1
 refine eQ Tryz.func42 rfl Tryz.ntmps42 rfl ?_
 refine aJ ?_
 refine aH ?_
 (refine aM rfl rfl rfl ?_; intro b1; refine ⟨okF, ?_⟩)
 refine aF .here ?_
 (refine aM rfl rfl rfl ?_; intro b2; refine ⟨okF, ?_⟩)
 refine aF .here ?_
 repeat (refine aI ?_)
 (refine aA rfl (hC _ _ aB) rfl rfl ?_; rintro _ _ _ ⟨rfl, rfl, rfl⟩; refine ⟨okF, ?_⟩)
 generalize m.code = co at *
 repeat (refine aI ?_)
 refine aC (by first | exact .inl rfl | exact .inr rfl) rfl rfl _ _ aG aD (⟨rfl, rfl, rfl⟩)
theorem aGL {m : LE} {R C k : Nat} {ct : Bool} {y : WL} {i : Int} (hk : k ≤ 20000000000) (f : m.fit R C) (h : iX m k ∈ I0) (sy : y.sml) (hy : fT y ∈ I0) (hn : ¬ y.good) : CD Tryz.prog 42 [uN m, .int .i64 i, .agg #[.bool ct, rZ y]] X w0 M0 I0 (fun v M I => M0 = M ∧ I0 = I ∧ v = .int .i64 1) := by
 have hC := fun M0 I0 h => jY (X := X) (w0 := w0) (M0 := M0) (I0 := I0) (m := m) (k := k) hk f h
 have hV := fun M0 I0 h => qP (X := X) (w0 := w0) (M0 := M0) (I0 := I0) (r := y) sy h
 rw [aP hn] at hV
 refine eQ Tryz.func42 rfl Tryz.ntmps42 rfl ?_
 refine aJ ?_
 refine aH ?_
 (refine aM rfl rfl rfl ?_; intro b1; refine ⟨okF, ?_⟩)
 refine aF .here ?_
 (refine aM rfl rfl rfl ?_; intro b2; refine ⟨okF, ?_⟩)
 refine aF .here ?_
 repeat (refine aI ?_)
 (refine aA rfl (hC _ _ aB) rfl rfl ?_; rintro _ _ _ ⟨rfl, rfl, rfl⟩; refine ⟨okF, ?_⟩)
 repeat (refine aI ?_)
 (refine aA rfl (hV _ _ aB) rfl rfl ?_; rintro _ _ _ ⟨rfl, rfl, rfl⟩; refine ⟨okF, ?_⟩)
 repeat (refine aI ?_)
 refine aC (by first | exact .inl rfl | exact .inr rfl) rfl rfl _ _ aG aD (⟨rfl, rfl, rfl⟩)
theorem rH {y : RL} {k : Nat} (hk : k ≤ 20000000000) (hl : y.es.length ≤ 1000000000) (hy : jR y k ∈ I0) : CD Tryz.prog 96 [lv y] X w0 M0 I0 (fun v M I => M0 = M ∧ I0 = I ∧ v = .bool true) := by
 refine iW (φ := y.raw.sml) (fun w hw => Mem.lsml hy hl hk hw) (fun hs => ?_)
 refine nC (φ := fT y.raw) (Hv.lraw hy hk) ?_
 have := qP (X := X) (w0 := w0) (M0 := M0) (I0 := fT y.raw :: I0) (r := y.raw) hs (List.Mem.head _)
 rwa [aU y.raw_good, tY] at this
theorem aGP {m : LE} {R C k n : Nat} {ct : Bool} {y : RL} {i : Int} (hi : -9223372036854775808 ≤ i ∧ i ≤ 9223372036854775807) (hk : k ≤ 20000000000) (hn : n ≤ 20000000000) (f : m.fit R C) (h : iX m k ∈ I0) (hl : y.es.length ≤ 1000000000) (hy : jR y n ∈ I0) (hno : ¬ (0 ≤ i ∧ i < R)) : CD Tryz.prog 42 [uN m, .int .i64 i, .agg #[.bool ct, lv y]] X w0 M0 I0 (fun v M I => M0 = M ∧ I0 = I ∧ v = .int .i64 2) := by
 have hC := fun M0 I0 h => jY (X := X) (w0 := w0) (M0 := M0) (I0 := I0) (m := m) (k := k) hk f h
 have hV := fun M0 I0 h => rH (X := X) (w0 := w0) (M0 := M0) (I0 := I0) (y := y) hn hl h
 have hE := fun M0 I0 h => vQ (X := X) (w0 := w0) (M0 := M0) (I0 := I0) (m := m) (i := i) hi hk f h
 rw [if_neg hno] at hE
 refine eQ Tryz.func42 rfl Tryz.ntmps42 rfl ?_
 refine aJ ?_
 refine aH ?_
 (refine aM rfl rfl rfl ?_; intro b1; refine ⟨okF, ?_⟩)
 refine aF .here ?_
 (refine aM rfl rfl rfl ?_; intro b2; refine ⟨okF, ?_⟩)
 refine aF .here ?_
 repeat (refine aI ?_)
 (refine aA rfl (hC _ _ aB) rfl rfl ?_; rintro _ _ _ ⟨rfl, rfl, rfl⟩; refine ⟨okF, ?_⟩)
 repeat (refine aI ?_)
 (refine aA rfl (hV _ _ aB) rfl rfl ?_; rintro _ _ _ ⟨rfl, rfl, rfl⟩; refine ⟨okF, ?_⟩)
 repeat (refine aI ?_)
 (refine aA rfl (hE _ _ aB) rfl rfl ?_; rintro _ _ _ ⟨rfl, rfl, rfl⟩; refine ⟨okF, ?_⟩)
 repeat (refine aI ?_)
 refine aC (by first | exact .inl rfl | exact .inr rfl) rfl rfl _ _ aG aD (⟨rfl, rfl, rfl⟩)
theorem zZ {m : LE} {R C k n i : Nat} {y : RL} (hk : k ≤ 1000000000) (hn : n ≤ 500000000) (hi : i < R) (f : m.fit R C) (h : iX m k ∈ I0) (hl : y.es.length ≤ 1000000000) (hy : jR y n ∈ I0) : CD Tryz.prog 42 [uN m, .int .i64 (i : Int), .agg #[.bool true, lv y]] X w0 M0 I0 (fun v M I => M0 = M ∧ I0 = I ∧ v = .int .i64 (if prvP R C m.a.q i true y.q then 0 else 12)) := by
 have lR := f.d.1.1
 subst lR
 obtain ⟨r1, r2⟩ := f.d.2.1
 obtain ⟨c1, c2⟩ := f.d.2.2
 have hC := fun M0 I0 h => jY (X := X) (w0 := w0) (M0 := M0) (I0 := I0) (m := m) (k := k) (by omega) f h
 have hV := fun M0 I0 h => rH (X := X) (w0 := w0) (M0 := M0) (I0 := I0) (y := y) (k := n) (by omega) hl h
 have hE := fun M0 I0 h => vQ (X := X) (w0 := w0) (M0 := M0) (I0 := I0) (m := m) (k := k) (i := (i : Int)) (by omega) (by omega) f h
 rw [if_pos ⟨by omega, by omega⟩] at hE
 have hW := fun M0 I0 => kV (X := X) (w0 := w0) (M0 := M0) (I0 := I0) (x := 1) (by decide) (k := 0) (by decide)
 have yl : y.q.length = y.es.length := by show (y.es.map _).length = _; rw [List.length_map]
 refine bI (φ := fF m.a k) (Hv.lea h) ?_
 refine bI (φ := aV y.p (recs eR y.es)) (Hv.lsl (List.Mem.tail _ hy)) ?_
 refine eQ Tryz.func42 rfl Tryz.ntmps42 rfl ?_
 refine aJ ?_
 refine aH ?_
 (refine aM rfl rfl rfl ?_; intro b1; refine ⟨okF, ?_⟩)
 refine aF .here ?_
 (refine aM rfl rfl rfl ?_; intro b2; refine ⟨okF, ?_⟩)
 refine aF .here ?_
 repeat (refine aI ?_)
 (refine aA rfl (hC _ _ aB) rfl rfl ?_; rintro _ _ _ ⟨rfl, rfl, rfl⟩; refine ⟨okF, ?_⟩)
 repeat (refine aI ?_)
 (refine aA rfl (hV _ _ aB) rfl rfl ?_; rintro _ _ _ ⟨rfl, rfl, rfl⟩; refine ⟨okF, ?_⟩)
 repeat (refine aI ?_)
 (refine aA rfl (hE _ _ aB) rfl rfl ?_; rintro _ _ _ ⟨rfl, rfl, rfl⟩; refine ⟨okF, ?_⟩)
 repeat (refine aI ?_)
 by_cases e1 : y.es.length = m.a.rows.length
 ·have hB := fun M0 I0 h1 h2 => aAO (X := X) (w0 := w0) (M0 := M0) (I0 := I0) (y := y) (a := m.a) (k := k) (m := n) hk hn f.d e1 h1 h2
  have hkm : m.a.rows.length * (k + n + 1) ≤ 100000000000 := Nat.le_trans (Nat.mul_le_mul r2 (show k + n + 1 ≤ 1500000001 by omega)) (by decide)
  have hZ := fun (r : RL) (hr : r.q = apL C m.a.rows.length (vB m.a.rows.length C m.a.q) y.q) M0 I0 h => by
   have := wB (X := X) (w0 := w0) (M0 := M0) (I0 := I0) (r := r) (k := m.a.rows.length * (k + n + 1)) hkm (by
    have := congrArg List.length hr
    rw [yB, List.length_map] at this; omega) h
   rw [hr] at this
   exact this
  by_cases e2 : annP m.a.rows.length C m.a.q y.q
  ·have hCm := fun (e : RE) M0 I0 h1 h2 => uO (X := X) (w0 := w0) (M0 := M0) (I0 := I0) (a := gt y.es (i : Int)) (b := e) (k := n) (m := 0) (by omega) h1 h2
   have hq : y.q.getD i 0 = (gt y.es (i : Int)).q := fA (by omega)
   refine bQ (φ := eY (gt y.es (i : Int)) n) (Hv.lel aB (by omega)) ?_
   (repeat refine aJ ?_); refine bK [0, 1, 2, 3, 4, 5, 6, 7, 8, 9, 10, 11, 12, 13, 14, 15, 16, 17, 18, 19, 20, 21, 22, 23, 24, 25] [4, 4, 4, 4, 4, 4, 4, 2, 4, 3, 4, 3, 0, 0, 2, 2, 0, 2, 2, 2, 2, 1, 0, 0, 0, 0] mixed (by kernel_rfl) ?_
   repeat (refine aI ?_)
   (refine aA rfl (hB _ _ aB aB) rfl rfl ?_; rintro _ _ _ ⟨rfl, r, rfl, hr, rfl⟩; refine ⟨okF, ?_⟩)
   have hZr := hZ r hr
   rw [aU (show nP _ from e2)] at hZr
   repeat (refine aI ?_)
   (refine aA rfl (hZr _ _ aB) rfl rfl ?_; rintro _ _ _ ⟨rfl, rfl, rfl⟩; refine ⟨okF, ?_⟩)
   repeat (refine aI ?_)
   (refine aA rfl (hW _ _) rfl rfl ?_; rintro _ _ _ ⟨rfl, e, rfl, he, rfl⟩; refine ⟨okF, ?_⟩)
   repeat (refine aI ?_)
   have hCe := hCm e
   have hcq := aBE (p := (gt y.es (i : Int)).q) (q := e.q)
   generalize aGN (gt y.es (i : Int)).q e.q = cv at *
   (refine aA rfl (hCe _ _ (Hv.mem aB) (Hv.mem aB)) rfl rfl ?_; rintro _ _ _ ⟨rfl, rfl, rfl⟩; refine ⟨okF, ?_⟩)
   by_cases e3 : y.q.getD i 0 = ((1 : Int) : Rat)
   ·have h0 : cv = 0 := hcq.2 (by rw [he, ← hq]; exact e3)
    simp only [if_pos (uT.2 ⟨by omega, e2, e3⟩ : prvP m.a.rows.length C m.a.q i true y.q)]
    repeat (refine aI ?_)
    refine aC (by first | exact .inl rfl | exact .inr rfl) rfl rfl _ _ aG aD (⟨rfl, rfl, rfl⟩)
   ·have h0 : ¬ cv = 0 := fun h => e3 (by rw [hq, hcq.1 h, he])
    simp only [if_neg (fun h => e3 (uT.1 h).2.2 : ¬ prvP m.a.rows.length C m.a.q i true y.q)]
    repeat (refine aI ?_)
    refine aC (by first | exact .inl rfl | exact .inr rfl) rfl rfl _ _ aG aD (⟨rfl, rfl, rfl⟩)
  ·simp only [if_neg (fun h => e2 (uT.1 h).2.1 : ¬ prvP m.a.rows.length C m.a.q i true y.q)]
   (repeat refine aJ ?_); refine bK [0, 1, 2, 3, 4, 5, 6, 7, 8, 9, 10, 11, 12, 13, 14, 15, 16, 17, 18, 19, 20, 21, 22, 23, 24, 25] [4, 4, 4, 4, 4, 4, 4, 2, 4, 3, 4, 3, 0, 0, 2, 2, 0, 2, 2, 2, 2, 1, 0, 0, 0, 0] mixed (by kernel_rfl) ?_
   repeat (refine aI ?_)
   (refine aA rfl (hB _ _ aB aB) rfl rfl ?_; rintro _ _ _ ⟨rfl, r, rfl, hr, rfl⟩; refine ⟨okF, ?_⟩)
   have hZr := hZ r hr
   rw [aP (show ¬ nP _ from e2)] at hZr
   repeat (refine aI ?_)
   (refine aA rfl (hZr _ _ aB) rfl rfl ?_; rintro _ _ _ ⟨rfl, rfl, rfl⟩; refine ⟨okF, ?_⟩)
   repeat (refine aI ?_)
   refine aC (by first | exact .inl rfl | exact .inr rfl) rfl rfl _ _ aG aD (⟨rfl, rfl, rfl⟩)
 ·simp only [if_neg (fun h => e1 (by have := (uT.1 h).1; omega) : ¬ prvP m.a.rows.length C m.a.q i true y.q)]
  (repeat refine aJ ?_); refine bK [0, 1, 2, 3, 4, 5, 6, 7, 8, 9, 10, 11, 12, 13, 14, 15, 16, 17, 18, 19, 20, 21, 22, 23, 24, 25] [4, 4, 4, 4, 4, 4, 4, 2, 4, 3, 4, 3, 0, 0, 2, 2, 0, 2, 2, 2, 2, 1, 0, 0, 0, 0] mixed (by kernel_rfl) ?_
  repeat (refine aI ?_)
  refine aC (by first | exact .inl rfl | exact .inr rfl) rfl rfl _ _ aG aD (⟨rfl, rfl, rfl⟩)
theorem aNV {m : LE} {R C k n i : Nat} {y : RL} (hk : k ≤ 1000000000) (hn : n ≤ 500000000) (hi : i < R) (f : m.fit R C) (h : iX m k ∈ I0) (hl : y.es.length ≤ 1000000000) (hy : jR y n ∈ I0) : CD Tryz.prog 42 [uN m, .int .i64 (i : Int), .agg #[.bool false, lv y]] X w0 M0 I0 (fun v M I => M0 = M ∧ I0 = I ∧ v = .int .i64 (if prvP R C m.a.q i false y.q then 0 else 12)) := by
 have lR := f.d.1.1
 subst lR
 obtain ⟨r1, r2⟩ := f.d.2.1
 obtain ⟨c1, c2⟩ := f.d.2.2
 have lC := f.d.r0
 have hC := fun M0 I0 h => jY (X := X) (w0 := w0) (M0 := M0) (I0 := I0) (m := m) (k := k) (by omega) f h
 have hV := fun M0 I0 h => rH (X := X) (w0 := w0) (M0 := M0) (I0 := I0) (y := y) (k := n) (by omega) hl h
 have hE := fun M0 I0 h => vQ (X := X) (w0 := w0) (M0 := M0) (I0 := I0) (m := m) (k := k) (i := (i : Int)) (by omega) (by omega) f h
 rw [if_pos ⟨by omega, by omega⟩] at hE
 have hO := fun M0 I0 => aCY (X := X) (w0 := w0) (M0 := M0) (I0 := I0) (n := m.a.rows.length) (i := i) (by omega) hi
 have yl : y.q.length = y.es.length := by show (y.es.map _).length = _; rw [List.length_map]
 refine bI (φ := fF m.a k) (Hv.lea h) ?_
 refine bI (φ := aV (m.a).p (recs eL (m.a).rows)) (Hv.xsl aB) ?_
 refine eQ Tryz.func42 rfl Tryz.ntmps42 rfl ?_
 refine aJ ?_
 refine aH ?_
 (refine aM rfl rfl rfl ?_; intro b1; refine ⟨okF, ?_⟩)
 refine aF .here ?_
 (refine aM rfl rfl rfl ?_; intro b2; refine ⟨okF, ?_⟩)
 refine aF .here ?_
 repeat (refine aI ?_)
 (refine aA rfl (hC _ _ aB) rfl rfl ?_; rintro _ _ _ ⟨rfl, rfl, rfl⟩; refine ⟨okF, ?_⟩)
 repeat (refine aI ?_)
 (refine aA rfl (hV _ _ aB) rfl rfl ?_; rintro _ _ _ ⟨rfl, rfl, rfl⟩; refine ⟨okF, ?_⟩)
 repeat (refine aI ?_)
 (refine aA rfl (hE _ _ aB) rfl rfl ?_; rintro _ _ _ ⟨rfl, rfl, rfl⟩; refine ⟨okF, ?_⟩)
 repeat (refine aI ?_)
 by_cases e1 : y.es.length = C
 ·have hA := fun M0 I0 h1 h2 => aAA (X := X) (w0 := w0) (M0 := M0) (I0 := I0) (a := m.a) (x := y) (k := k) (m := n) hk hn f.d e1 h1 h2
  have hkm : C * (k + n + 1) ≤ 100000000000 := Nat.le_trans (Nat.mul_le_mul c2 (show k + n + 1 ≤ 1500000001 by omega)) (by decide)
  generalize hK : C * (k + n + 1) = K at *
  (repeat refine aJ ?_); refine bK [0, 1, 2, 3, 4, 5, 6, 7, 8] [0, 0, 0, 0, 0, 0, 0, 0, 0] mixed (by kernel_rfl) ?_
  repeat (refine aI ?_)
  (refine aA rfl (hA _ _ aB aB) rfl rfl ?_; rintro _ _ _ ⟨rfl, d, rfl, hd, rfl⟩; refine ⟨okF, ?_⟩)
  repeat (refine aI ?_)
  (refine aA rfl (hO _ _) rfl rfl ?_; rintro _ _ _ ⟨rfl, e, rfl, he, hel, rfl⟩; refine ⟨okF, ?_⟩)
  have hdl : d.es.length = m.a.rows.length := by
   have := congrArg List.length hd
   simpa using this
  refine fD (φ := aV e.p (recs eR e.es)) (Hv.lsl aB) ?_
  refine fD (φ := aV d.p (recs eR d.es)) (Hv.lsl aB) ?_
  repeat (refine aI ?_)
  refine aQ [9, 77, 78] rfl (fun k G M I => ∃ t : Nat, t ≤ e.es.length ∧ k = e.es.length - t ∧ (∀ j : Nat, j < t → (gt e.es (j : Int)).q = (gt d.es (j : Int)).q) ∧ G = [(79, .int .i64 t)] ∧ M0 = M ∧ I = aV d.p (recs eR d.es) :: aV e.p (recs eR e.es) :: jR e 0 :: jR d K :: I0) (e.es.length) _ _ _ aR aG aD (⟨0, by omega, rfl, fun j hj => by omega, rfl, rfl, rfl⟩) ?_
  rintro kk G M I ⟨t, ht, rfl, hg, rfl, rfl, rfl⟩
  by_cases htn : t < e.es.length
  ·have hCm := fun M0 I0 h1 h2 => uO (X := X) (w0 := w0) (M0 := M0) (I0 := I0) (a := gt e.es (t : Int)) (b := gt d.es (t : Int)) (k := 0) (m := K) (by omega) h1 h2
   have hcq := aBE (p := (gt e.es (t : Int)).q) (q := (gt d.es (t : Int)).q)
   refine bQ (φ := eY (gt e.es (t : Int)) 0) (Hv.lel aB (by omega)) ?_
   refine bQ (φ := eY (gt d.es (t : Int)) K) (Hv.lel aB (by omega)) ?_
   generalize aGN (gt e.es (t : Int)).q (gt d.es (t : Int)).q = cv at *
   repeat (refine aI ?_)
   (refine aN rfl rfl ?_; intro b3; refine ⟨okF, ?_⟩)
   repeat (refine aI ?_)
   refine aBG (b := b3) vO ?_
   (repeat refine aJ ?_); refine bK [0, 1, 2, 3, 4, 5, 6] [0, 1, 1, 1, 0, 0, 0] mixed (by kernel_rfl) ?_
   repeat (refine aI ?_)
   (refine aA rfl (hCm _ _ (Hv.mem aB) (Hv.mem aB)) rfl rfl ?_; rintro _ _ _ ⟨rfl, rfl, rfl⟩; refine ⟨okF, ?_⟩)
   by_cases e3 : (gt e.es (t : Int)).q = (gt d.es (t : Int)).q
   ·have h0 : cv = 0 := hcq.2 e3
    repeat (refine aI ?_)
    refine aL (e.es.length - (t + 1)) _ _ _ (by first | omega | (simp only [List.length_append, List.length_cons, List.length_nil]; omega)) aR aG aD (⟨t + 1, by omega, rfl, kR hg e3, rfl, rfl, rfl⟩)
   ·have h0 : ¬ cv = 0 := fun h => e3 (hcq.1 h)
    simp only [if_neg (fun h => e3 (q_at (x := e) (y := d) (by rw [he, hd]; exact (zB.1 h).2.symm) htn) : ¬ prvP m.a.rows.length C m.a.q i false y.q)]
    repeat (refine aI ?_)
    refine aC (by first | exact .inl rfl | exact .inr rfl) rfl rfl _ _ aG aD (⟨rfl, rfl, rfl⟩)
  ·have hp : prvP m.a.rows.length C m.a.q i false y.q := zB.2 ⟨by omega, by
    have h1 := aVL (x := e) (y := d) (by omega) (fun j hj => hg j (by omega))
    rw [he, hd] at h1
    exact h1.symm⟩
   simp only [if_pos hp]
   repeat (refine aI ?_)
   refine aC (by first | exact .inl rfl | exact .inr rfl) rfl rfl _ _ aG aD (⟨rfl, rfl, rfl⟩)
 ·simp only [if_neg (fun h => e1 (by have := (zB.1 h).1; omega) : ¬ prvP m.a.rows.length C m.a.q i false y.q)]
  (repeat refine aJ ?_); refine bK [0, 1, 2, 3, 4, 5, 6, 7, 8] [0, 0, 0, 0, 0, 0, 0, 0, 0] mixed (by kernel_rfl) ?_
  repeat (refine aI ?_)
  refine aC (by first | exact .inl rfl | exact .inr rfl) rfl rfl _ _ aG aD (⟨rfl, rfl, rfl⟩)
end
end Go.Proofs.YtgeagiikkeiioaaGreat
namespace Go.Proofs.YtgeagiikkeiioaaGreat
open Go Go.Fx
theorem Hv.shL {I : List bD} {y : WL} {Y : RL} {n g : Nat} (e : y = Y.raw) (hs : y.shN n g) (h : fT y ∈ I) : Hv I (jR Y (30 * g)) := ⟨fun X w hw => by
 subst e
 have hi := (hw _ h : IsWL Y.raw X w)
 exact ⟨by have := hi.sl; rw [show Y.raw.es = Y.es.map RE.raw from rfl, aDE] at this; exact this, fun e he => by
  have h1 := (hs.2 e.raw (List.mem_map.2 ⟨e, he, rfl⟩)).1
  unfold RW.dig at h1
  exact RE.isR_raw (hi.el e.raw (List.mem_map.2 ⟨e, he, rfl⟩)) (by omega) (by omega), by have := hi.cap; rw [show Y.raw.es.length = Y.es.length from by show (Y.es.map RE.raw).length = _; rw [List.length_map]] at this; exact this⟩⟩
theorem WL.shN.sml {y : WL} {n g : Nat} (hn : n ≤ 1000000 ∧ g ≤ 1000000) (hs : y.shN n g) : y.sml := ⟨by have := hs.1; omega, fun e he => by have := (hs.2 e he).1; unfold RW.dig at this; exact ⟨by omega, by omega⟩⟩
section
variable {X : List Nat} {w0 : World} {M0 : List Ent} {I0 : List bD}
theorem aOT {n : Nat} {i : Int} (hn : n ≤ 100) : CD Tryz.prog 94 [.int .i64 (n : Int), .int .i64 i] X w0 M0 I0 (fun v M I => M0 = M ∧ ∃ r : RL, v = lv r ∧ r.q = (List.range n).map (fun t : Nat => if (t : Int) = i then (1 : Rat) else 0) ∧ r.es.length = n ∧ I = jR r 0 :: I0) := by
 have hW := fun M0 I0 => nA (X := X) (w0 := w0) (M0 := M0) (I0 := I0) (x := 0) (by decide) (k := 0) (by decide)
 have hW1 := fun M0 I0 => nA (X := X) (w0 := w0) (M0 := M0) (I0 := I0) (x := 1) (by decide) (k := 0) (by decide)
 refine aW Tryz.func94 rfl Tryz.ntmps94 rfl ?_
 repeat (refine aI ?_)
 refine mI 42 4 ?_
 refine bQ (φ := dD [] 0) Hv.nilR ?_
 refine aQ [1, 8] rfl (fun k G M I => ∃ (t : Nat) (es : List RE) (q : Option Addr) (c : Nat), t ≤ n ∧ k = n - t ∧ es.length = t ∧ qs es = (List.range t).map (fun t : Nat => if (t : Int) = i then (1 : Rat) else 0) ∧ G = [(5, .slice q es.length c), (9, .int .i64 t)] ∧ M = .row q es.length c (recs eR es) 42 4 :: M0 ∧ I = dD es 0 :: I0) (n) _ _ _ aR aG aD (⟨0, [], none, 0, by omega, rfl, rfl, rfl, rfl, rfl, rfl⟩) ?_
 rintro kk G M I ⟨t, es, q, c, ht, rfl, hel, heq, rfl, rfl, rfl⟩
 by_cases htn : t < n
 ·by_cases e1 : (t : Int) = i
  ·repeat (refine aI ?_)
   (refine aA rfl (hW1 _ _) rfl rfl ?_; rintro _ _ _ ⟨rfl, e, rfl, he, rfl⟩; refine ⟨okF, ?_⟩)
   (refine aO (cs := recs eR [e]) ([rv e]) rfl rfl (by intro v hv; repeat (first | exact absurd hv (List.not_mem_nil) | (rcases List.mem_cons.1 hv with rfl | hv; · rfl))) (by omega) rfl rfl rfl ?_; intro b; refine ⟨okF, ?_⟩)
   (refine dV (ys := [e]) 1 rfl rfl rfl ?_ (by decide) rfl (by omega) (by omega) rfl rfl ?_; (· first | exact Src.blk aB | exact Src.row aB | exact Src.imm aB (by first | assumption | exact .inl (Ok.mk _ _))); intro q2 c2; refine ⟨okF, ?_⟩)
   repeat (refine aI ?_)
   refine eT (φ := dD (es ++ [e]) 0) (Hv.snoc aB aB) ?_
   refine aL (n - (t + 1)) _ _ _ (by first | omega | (simp only [List.length_append, List.length_cons, List.length_nil]; omega)) aR aG aD (⟨t + 1, es ++ [e], q2, c2, by omega, rfl, by simp; omega, by rw [List.range_succ, List.map_append, ← heq]; simp [qs, he, e1], rfl, rfl, rfl⟩)
  ·repeat (refine aI ?_)
   (refine aA rfl (hW _ _) rfl rfl ?_; rintro _ _ _ ⟨rfl, e, rfl, he, rfl⟩; refine ⟨okF, ?_⟩)
   (refine aO (cs := recs eR [e]) ([rv e]) rfl rfl (by intro v hv; repeat (first | exact absurd hv (List.not_mem_nil) | (rcases List.mem_cons.1 hv with rfl | hv; · rfl))) (by omega) rfl rfl rfl ?_; intro b; refine ⟨okF, ?_⟩)
   (refine dV (ys := [e]) 1 rfl rfl rfl ?_ (by decide) rfl (by omega) (by omega) rfl rfl ?_; (· first | exact Src.blk aB | exact Src.row aB | exact Src.imm aB (by first | assumption | exact .inl (Ok.mk _ _))); intro q2 c2; refine ⟨okF, ?_⟩)
   repeat (refine aI ?_)
   refine eT (φ := dD (es ++ [e]) 0) (Hv.snoc aB aB) ?_
   refine aL (n - (t + 1)) _ _ _ (by first | omega | (simp only [List.length_append, List.length_cons, List.length_nil]; omega)) aR aG aD (⟨t + 1, es ++ [e], q2, c2, by omega, rfl, by simp; omega, by rw [List.range_succ, List.map_append, ← heq]; simp [qs, he, e1], rfl, rfl, rfl⟩)
 ·obtain rfl : t = n := by omega
  repeat (refine aI ?_)
  refine aCP (k := 0) aB ?_
  refine aC (by first | exact .inl rfl | exact .inr rfl) rfl rfl _ _ aG aD (⟨rfl, ⟨q, c, es⟩, rfl, heq, hel, rfl⟩)
theorem unitL {n i : Nat} : (List.range n).map (fun t : Nat => if (t : Int) = (i : Int) then (1 : Rat) else 0) = unL n i := by
 unfold unL
 refine List.map_congr_left (fun t _ => ?_)
 simp only [mM]
 by_cases e : t = i
 ·rw [if_pos (by omega), if_pos e.symm]
 ·rw [if_neg (by omega), if_neg (fun h => e h.symm)]
theorem aAN {a l p : Value} {q : Option Addr} {n c : Nat} {i : Int} (ha : a = .slice q n c) : CD Tryz.prog 40 [.agg #[a, l, p], .int .i64 i] X w0 M0 I0 (fun v M I => M0 = M ∧ I0 = I ∧ v = .bool (B (0 ≤ i ∧ i < n))) := by
 subst ha
 refine aW Tryz.func40 rfl Tryz.ntmps40 rfl ?_
 refine aJ ?_
 refine aH ?_
 (refine aM rfl rfl rfl ?_; intro b1; refine ⟨okF, ?_⟩)
 refine aF .here ?_
 by_cases h1 : 0 ≤ i
 ·by_cases h2 : i < n
  ·repeat (refine aI ?_)
   refine aC (by first | exact .inl rfl | exact .inr rfl) rfl rfl _ _ aG aD (⟨rfl, rfl, congrArg Value.bool (fK ⟨fun h => ⟨h1, h⟩, fun h => h.2⟩)⟩)
  ·repeat (refine aI ?_)
   refine aC (by first | exact .inl rfl | exact .inr rfl) rfl rfl _ _ aG aD (⟨rfl, rfl, congrArg Value.bool (fK ⟨fun h => ⟨h1, h⟩, fun h => h.2⟩)⟩)
 ·repeat (refine aI ?_)
  refine aC (by first | exact .inl rfl | exact .inr rfl) rfl rfl _ _ aG aD (⟨rfl, rfl, congrArg Value.bool (aP (fun h => h1 h.1)).symm⟩)
theorem vG {m : LE} {y : RL} {R C k n : Nat} (hk : k + n ≤ 700000000) (f : m.fit R C) (hl : y.es.length = R) (h : iX m k ∈ I0) (hy : jR y n ∈ I0) :
  CD Tryz.prog 59 [uN m, lv y] X w0 M0 I0 (fun v M I => M0 = M ∧ I0 = I ∧ v = .bool (B (annP R C m.a.q y.q))) := by
 have hT := fun M0 I0 h => aQC (aAQ (X := X) (w0 := w0) (M0 := M0) (I0 := I0) (a := m.a) (R := R) (C := C) (k0 := k) f.d.2.1 f.d.2.2 f.d.1 h)
 have hkm := aRU (C := R) (k0 := k) (m := n) f.d.2.1.2 hk
 refine bI (φ := fF m.a k) (Hv.lea h) ?_
 refine aW Tryz.func59 rfl Tryz.ntmps59 rfl ?_
 refine aJ ?_
 refine aH ?_
 (refine aM rfl rfl rfl ?_; intro b1; refine ⟨okF, ?_⟩)
 refine aF .here ?_
 repeat (refine aI ?_)
 (refine aA rfl (hT _ _ aB) rfl rfl ?_; rintro _ _ _ ⟨rfl, t, rfl, ht, td, rfl⟩; refine ⟨okF, ?_⟩)
 have hA := fun M0 I0 h1 h2 => xL (X := X) (w0 := w0) (M0 := M0) (I0 := I0) (a := t) (x := y) (R := C) (C := R) (k0 := k) (m := n) (by omega) hkm f.d.2.2 f.d.2.1 td hl h1 h2
 repeat (refine aI ?_)
 (refine aA rfl (hA _ _ aB aB) rfl rfl ?_; rintro _ _ _ ⟨rfl, r, rfl, hr, rfl⟩; refine ⟨okF, ?_⟩)
 have hr' : r.q = apL C R (vB R C m.a.q) y.q := by rw [hr, ht]; rfl
 have hN := fun M0 I0 h => aHZ (X := X) (w0 := w0) (M0 := M0) (I0 := I0) (x := r) (k := R * (k + n + 1)) (by omega) (by
  have := congrArg List.length hr'
  rw [yB, List.length_map] at this
  have := f.d.2.2; omega) h
 rw [hr'] at hN
 by_cases e : annP R C m.a.q y.q
 ·rw [aP (show ¬ ¬ nP (apL C R (vB R C m.a.q) y.q) from fun hn => hn e)] at hN
  repeat (refine aI ?_)
  (refine aA rfl (hN _ _ aB) rfl rfl ?_; rintro _ _ _ ⟨rfl, rfl, rfl⟩; refine ⟨okF, ?_⟩)
  repeat (refine aI ?_)
  refine aC (by first | exact .inl rfl | exact .inr rfl) rfl rfl _ _ aG aD (⟨rfl, rfl, congrArg Value.bool (aU e).symm⟩)
 ·rw [aU (show ¬ nP (apL C R (vB R C m.a.q) y.q) from e)] at hN
  repeat (refine aI ?_)
  (refine aA rfl (hN _ _ aB) rfl rfl ?_; rintro _ _ _ ⟨rfl, rfl, rfl⟩; refine ⟨okF, ?_⟩)
  repeat (refine aI ?_)
  refine aC (by first | exact .inl rfl | exact .inr rfl) rfl rfl _ _ aG aD (⟨rfl, rfl, congrArg Value.bool (aP e).symm⟩)
theorem qV {y : RL} {k : Nat} (hk : k ≤ 20000000000) (hl : y.es.length ≤ 1000000000) (hy : jR y k ∈ I0) : CD Tryz.prog 27 [lv y] X w0 M0 I0 (fun v M I => M0 = M ∧ I0 = I ∧ v = .bool true) := by
 refine iW (φ := y.raw.sml) (fun w hw => Mem.lsml hy hl hk hw) (fun hs => ?_)
 refine nC (φ := fT y.raw) (Hv.lraw hy hk) ?_
 have := oU (X := X) (w0 := w0) (M0 := M0) (I0 := fT y.raw :: I0) (r := y.raw) hs (List.Mem.head _)
 rwa [aU y.raw_good, tY] at this
theorem aJC {m : LE} {R C k n i : Nat} {y : RL} (hk : k + n ≤ 500000000) (hi : i < R) (f : m.fit R C) (h : iX m k ∈ I0) (hl : y.es.length ≤ 1000000000) (hy : jR y n ∈ I0) : CD Tryz.prog 41 [uN m, .int .i64 (i : Int), .agg #[.bool true, lv y]] X w0 M0 I0 (fun v M I => M0 = M ∧ I0 = I ∧ v = .bool (B (prvP R C m.a.q i true y.q))) := by
 have lR := f.d.1.1
 subst lR
 have hV := fun M0 I0 h => qV (X := X) (w0 := w0) (M0 := M0) (I0 := I0) (y := y) (k := n) (by omega) hl h
 have hW := fun M0 I0 => nA (X := X) (w0 := w0) (M0 := M0) (I0 := I0) (x := 1) (by decide) (k := 0) (by decide)
 have yl : y.q.length = y.es.length := by show (y.es.map _).length = _; rw [List.length_map]
 refine bI (φ := aV y.p (recs eR y.es)) (Hv.lsl hy) ?_
 refine eQ Tryz.func41 rfl Tryz.ntmps41 rfl ?_
 refine aJ ?_
 refine aH ?_
 (refine aM rfl rfl rfl ?_; intro b1; refine ⟨okF, ?_⟩)
 refine aF .here ?_
 (refine aM rfl rfl rfl ?_; intro b2; refine ⟨okF, ?_⟩)
 refine aF .here ?_
 repeat (refine aI ?_)
 (refine aA rfl (hV _ _ aB) rfl rfl ?_; rintro _ _ _ ⟨rfl, rfl, rfl⟩; refine ⟨okF, ?_⟩)
 repeat (refine aI ?_)
 by_cases e1 : y.es.length = m.a.rows.length
 ·have hA := fun M0 I0 h1 h2 => vG (X := X) (w0 := w0) (M0 := M0) (I0 := I0) (m := m) (y := y) (k := k) (n := n) (by omega) f e1 h1 h2
  by_cases e2 : annP m.a.rows.length C m.a.q y.q
  ·rw [aU e2] at hA
   have hS := fun (e : RE) M0 I0 h1 h2 => aBY (X := X) (w0 := w0) (M0 := M0) (I0 := I0) (a := gt y.es (i : Int)) (b := e) (k := n) (m := 0) (by omega) h1 h2
   have hq : y.q.getD i 0 = (gt y.es (i : Int)).q := fA (by omega)
   refine bQ (φ := eY (gt y.es (i : Int)) n) (Hv.lel aB (by omega)) ?_
   (repeat refine aJ ?_); refine bK [0, 1, 2, 3, 4, 5, 6, 7, 8, 9, 10, 11, 12, 13, 14, 15, 16, 17, 18, 19, 20, 21, 22] [3, 3, 3, 3, 3, 3, 3, 2, 2, 3, 2, 0, 2, 0, 2, 2, 2, 2, 1, 0, 0, 0, 0] mixed (by kernel_rfl) ?_
   repeat (refine aI ?_)
   (refine aA rfl (hA _ _ aB aB) rfl rfl ?_; rintro _ _ _ ⟨rfl, rfl, rfl⟩; refine ⟨okF, ?_⟩)
   repeat (refine aI ?_)
   (refine aA rfl (hW _ _) rfl rfl ?_; rintro _ _ _ ⟨rfl, e, rfl, he, rfl⟩; refine ⟨okF, ?_⟩)
   repeat (refine aI ?_)
   have hSe := hS e
   (refine aA rfl (hSe _ _ (Hv.mem aB) (Hv.mem aB)) rfl rfl ?_; rintro _ _ _ ⟨rfl, rfl, rfl⟩; refine ⟨okF, ?_⟩)
   repeat (refine aI ?_)
   refine aC (by first | exact .inl rfl | exact .inr rfl) rfl rfl _ _ aG aD (⟨rfl, rfl, congrArg Value.bool (fK ⟨fun h => uT.2 ⟨by omega, e2, by rw [hq, h, he]⟩, fun h => by rw [← hq, (uT.1 h).2.2, he]⟩)⟩)
  ·rw [aP e2] at hA
   (repeat refine aJ ?_); refine bK [0, 1, 2, 3, 4, 5, 6, 7, 8, 9, 10, 11, 12, 13, 14, 15, 16, 17, 18, 19, 20, 21, 22] [3, 3, 3, 3, 3, 3, 3, 2, 2, 3, 2, 0, 2, 0, 2, 2, 2, 2, 1, 0, 0, 0, 0] mixed (by kernel_rfl) ?_
   repeat (refine aI ?_)
   (refine aA rfl (hA _ _ aB aB) rfl rfl ?_; rintro _ _ _ ⟨rfl, rfl, rfl⟩; refine ⟨okF, ?_⟩)
   repeat (refine aI ?_)
   refine aC (by first | exact .inl rfl | exact .inr rfl) rfl rfl _ _ aG aD (⟨rfl, rfl, congrArg Value.bool (aP (fun h => e2 (uT.1 h).2.1)).symm⟩)
 ·(repeat refine aJ ?_); refine bK [0, 1, 2, 3, 4, 5, 6, 7, 8, 9, 10, 11, 12, 13, 14, 15, 16, 17, 18, 19, 20, 21, 22] [3, 3, 3, 3, 3, 3, 3, 2, 2, 3, 2, 0, 2, 0, 2, 2, 2, 2, 1, 0, 0, 0, 0] mixed (by kernel_rfl) ?_
  repeat (refine aI ?_)
  refine aC (by first | exact .inl rfl | exact .inr rfl) rfl rfl _ _ aG aD (⟨rfl, rfl, congrArg Value.bool (aP (fun h => e1 (by have := (uT.1 h).1; omega))).symm⟩)
theorem aJA {m : LE} {R C k n i : Nat} {y : RL} (hk : k + n ≤ 500000000) (hi : i < R) (f : m.fit R C) (h : iX m k ∈ I0) (hl : y.es.length ≤ 1000000000) (hy : jR y n ∈ I0) : CD Tryz.prog 41 [uN m, .int .i64 (i : Int), .agg #[.bool false, lv y]] X w0 M0 I0 (fun v M I => M0 = M ∧ I0 = I ∧ v = .bool (B (prvP R C m.a.q i false y.q))) := by
 have lR := f.d.1.1
 subst lR
 have lC := f.d.r0
 obtain ⟨r1, r2⟩ := f.d.2.1
 obtain ⟨c1, c2⟩ := f.d.2.2
 have hV := fun M0 I0 h => qV (X := X) (w0 := w0) (M0 := M0) (I0 := I0) (y := y) (k := n) (by omega) hl h
 have hU := fun M0 I0 => aOT (X := X) (w0 := w0) (M0 := M0) (I0 := I0) (n := m.a.rows.length) (i := (i : Int)) (by omega)
 rw [unitL] at hU
 have yl : y.q.length = y.es.length := by show (y.es.map _).length = _; rw [List.length_map]
 refine bI (φ := fF m.a k) (Hv.lea h) ?_
 refine bI (φ := aV (m.a).p (recs eL (m.a).rows)) (Hv.xsl aB) ?_
 refine eQ Tryz.func41 rfl Tryz.ntmps41 rfl ?_
 refine aJ ?_
 refine aH ?_
 (refine aM rfl rfl rfl ?_; intro b1; refine ⟨okF, ?_⟩)
 refine aF .here ?_
 (refine aM rfl rfl rfl ?_; intro b2; refine ⟨okF, ?_⟩)
 refine aF .here ?_
 repeat (refine aI ?_)
 (refine aA rfl (hV _ _ aB) rfl rfl ?_; rintro _ _ _ ⟨rfl, rfl, rfl⟩; refine ⟨okF, ?_⟩)
 repeat (refine aI ?_)
 by_cases e1 : y.es.length = C
 ·have hkm := aRU (C := C) (k0 := k) (m := n) c2 (by omega)
  have hA := fun M0 I0 h1 h2 => xL (X := X) (w0 := w0) (M0 := M0) (I0 := I0) (a := m.a) (x := y) (R := m.a.rows.length) (C := C) (k0 := k) (m := n) (by omega) hkm f.d.2.1 f.d.2.2 f.d.1 e1 h1 h2
  generalize C * (k + n + 1) = K at *
  (repeat refine aJ ?_); refine bK [0, 1, 2, 3, 4, 5, 6, 7, 8, 9, 10, 11, 12, 13, 15, 16, 17, 18, 14, 19, 20, 21, 22] [3, 3, 3, 3, 3, 3, 3, 3, 3, 0, 3, 2, 3, 2, 3, 3, 2, 2, 0, 0, 0, 0, 0] mixed (by kernel_rfl) ?_
  repeat (refine aI ?_)
  (refine aA rfl (hA _ _ aB aB) rfl rfl ?_; rintro _ _ _ ⟨rfl, d, rfl, hd, rfl⟩; refine ⟨okF, ?_⟩)
  repeat (refine aI ?_)
  (refine aA rfl (hU _ _) rfl rfl ?_; rintro _ _ _ ⟨rfl, e, rfl, he, hel, rfl⟩; refine ⟨okF, ?_⟩)
  have hdl : d.es.length = m.a.rows.length := by
   have := congrArg List.length hd
   simpa using this
  have hS := fun M0 I0 h1 h2 => yK (X := X) (w0 := w0) (M0 := M0) (I0 := I0) (x := d) (y := e) (u := K) (m := 0) (by omega) (by omega) (by omega) h1 h2
  repeat (refine aI ?_)
  (refine aA rfl (hS _ _ (Hv.mem aB) (Hv.mem aB)) rfl rfl ?_; rintro _ _ _ ⟨rfl, rfl, rfl⟩; refine ⟨okF, ?_⟩)
  repeat (refine aI ?_)
  refine aC (by first | exact .inl rfl | exact .inr rfl) rfl rfl _ _ aG aD (⟨rfl, rfl, congrArg Value.bool (fK ⟨fun h => zB.2 ⟨by omega, by rw [he, hd] at h; exact h⟩, fun h => by rw [he, hd]; exact (zB.1 h).2⟩)⟩)
 ·(repeat refine aJ ?_); refine bK [0, 1, 2, 3, 4, 5, 6, 7, 8, 9, 10, 11, 12, 13, 15, 16, 17, 18, 14, 19, 20, 21, 22] [3, 3, 3, 3, 3, 3, 3, 3, 3, 0, 3, 2, 3, 2, 3, 3, 2, 2, 0, 0, 0, 0, 0] mixed (by kernel_rfl) ?_
  repeat (refine aI ?_)
  refine aC (by first | exact .inl rfl | exact .inr rfl) rfl rfl _ _ aG aD (⟨rfl, rfl, congrArg Value.bool (aP (fun h => e1 (by have := (zB.1 h).1; omega))).symm⟩)
end
end Go.Proofs.YtgeagiikkeiioaaGreat
