/- The laws ControlledSingle and ControlledConditions. -/
import Derived.Test.YtgeagiikkeiioaaGreatZebq
import Derived.Test.YtgeagiikkeiioaaGreatZebf
import Derived.Test.YtgeagiikkeiioaaGreatZeaw
set_option linter.unusedSimpArgs false
set_option linter.unusedVariables false
set_option maxRecDepth 100000
set_option maxHeartbeats 4000000
namespace Go.Proofs.YtgeagiikkeiioaaGreat
open Go Go.Fx
theorem aTR {R C i : Nat} {A : Mt} (hi : i < R) : gt (aDK R C A) (i : Int) = B (ctl R C A i) := by
 rw [dH (by simp [aDK]; exact hi)]; simp [aDK]
theorem aPG {R i : Nat} (hi : i < R) : kQ R [(i : Int)] = 0 := by
 have h1 : inP R [(i : Int)] := fun x hx => by rw [List.mem_singleton.1 hx]; omega
 have h2 : ascP [(i : Int)] := fun k hk h0 => by
  have h1 : k < 1 := List.mem_range.1 hk
  omega
 unfold kQ
 rw [if_pos h1, if_pos h2]
theorem aPU {A : Mt} {R C : Nat} (hA : pJ A R C) {v : List Rat} (hv : v ∈ mK A C) {i : Nat} (hi : i < R) : sm C (fun t => at2 A i t * v.getD t 0) = 0 := by
 obtain ⟨_, s, hr⟩ := iG hA C (Nat.le_refl _)
 obtain ⟨j, hj, rfl⟩ := List.mem_map.1 (show v ∈ (rC (iU A C).2 C).map (pO (iU A C).1 (iU A C).2 C) from hv)
 exact (bA (fun t ht => by rw [yY ht])).trans (hr.null (yN.1 hj).1 (yN.1 hj).2 i hi)
theorem aMN {A : Mt} {R C : Nat} {y : List Rat} (hy : y ∈ mK (vB R C A) R) : annP R C A y := fun x hx => by
 obtain ⟨j, hj, rfl⟩ := List.mem_map.1 hx
 exact aPU (R := C) aDJ hy (List.mem_range.1 hj)
section
variable {X : List Nat} {w0 : World} {M0 : List Ent} {I0 : List bD}
theorem aTL {m : LW} (hR : m.rch) (hm : iZ m ∈ I0) (hn : ¬ (m.few 7 5 ∧ m.code = 0)) :
  CD Tryz.prog 8 [vLW m] X w0 M0 I0 (fun v M I => M0 = M ∧ I0 = I ∧ v = .bool true) := by
 have hKn := fun M0 I0 => eU (X := X) (w0 := w0) (M0 := M0) (I0 := I0)
 have hF := fun M0 I0 h => nU (X := X) (w0 := w0) (M0 := M0) (I0 := I0) hR h
 refine bC Tryz.func8 rfl Tryz.ntmps8 rfl ?_
 refine aJ ?_
 refine aH ?_
 (refine aM rfl rfl rfl ?_; intro b1; refine ⟨okF, ?_⟩)
 refine aF .here ?_
 repeat (refine aI ?_)
 (refine aA rfl (hKn _ _) rfl rfl ?_; rintro _ _ _ ⟨rfl, rfl, rfl⟩; refine ⟨okF, ?_⟩)
 by_cases fw : m.few 7 5
 ·rw [aU fw] at hF
  have hC := fun M0 I0 h => mF (X := X) (w0 := w0) (M0 := M0) (I0 := I0) (fw.sml (by omega)) h
  have hc : m.code ≠ 0 := fun h => hn ⟨fw, h⟩
  generalize m.code = co at *
  repeat (refine aI ?_)
  (refine aA rfl (hF _ _ aB) rfl rfl ?_; rintro _ _ _ ⟨rfl, rfl, rfl⟩; refine ⟨okF, ?_⟩)
  repeat (refine aI ?_)
  (refine aA rfl (hC _ _ aB) rfl rfl ?_; rintro _ _ _ ⟨rfl, rfl, rfl⟩; refine ⟨okF, ?_⟩)
  repeat (refine aI ?_)
  refine aC (by first | exact .inl rfl | exact .inr rfl) rfl rfl _ _ aG aD (⟨rfl, rfl, rfl⟩)
 ·rw [aP fw] at hF
  repeat (refine aI ?_)
  (refine aA rfl (hF _ _ aB) rfl rfl ?_; rintro _ _ _ ⟨rfl, rfl, rfl⟩; refine ⟨okF, ?_⟩)
  repeat (refine aI ?_)
  refine aC (by first | exact .inl rfl | exact .inr rfl) rfl rfl _ _ aG aD (⟨rfl, rfl, rfl⟩)
theorem aQM {m : LE} {R C : Nat} (hR : m.raw.rch) (f : m.fit R C) (hm : iZ m.raw ∈ I0) (h : iX m 30 ∈ I0) (fw : m.raw.few 7 5) (hC5 : C ≤ 5) :
  CD Tryz.prog 8 [uN m] X w0 M0 I0 (fun v M I => M0 = M ∧ I0 = I ∧ v = .bool true) := by
 have lR := f.d.1.1
 subst lR
 obtain ⟨r1, r2⟩ := f.d.2.1
 have hkb : kb 30 C ≤ 40000 := Nat.le_trans (iC 30 hC5) (by decide)
 have hKn := fun M0 I0 => eU (X := X) (w0 := w0) (M0 := M0) (I0 := I0)
 have hF := fun M0 I0 h => kX (X := X) (w0 := w0) (M0 := M0) (I0 := I0) hR fw h
 have hCk := fun M0 I0 h => gH (X := X) (w0 := w0) (M0 := M0) (I0 := I0) fw f h
 have hCt := fun M0 I0 h => rV (X := X) (w0 := w0) (M0 := M0) (I0 := I0) (m := m) (k := 30) (by omega) f h
 have hA := pG f.d.1
 refine bC Tryz.func8 rfl Tryz.ntmps8 rfl ?_
 refine aJ ?_
 refine aH ?_
 (refine aM rfl rfl rfl ?_; intro b1; refine ⟨okF, ?_⟩)
 refine aF .here ?_
 repeat (refine aI ?_)
 (refine aA rfl (hKn _ _) rfl rfl ?_; rintro _ _ _ ⟨rfl, rfl, rfl⟩; refine ⟨okF, ?_⟩)
 repeat (refine aI ?_)
 (refine aA rfl (hF _ _ aB) rfl rfl ?_; rintro _ _ _ ⟨rfl, rfl, rfl⟩; refine ⟨okF, ?_⟩)
 repeat (refine aI ?_)
 (refine aA rfl (hCk _ _ aB) rfl rfl ?_; rintro _ _ _ ⟨rfl, rfl, rfl⟩; refine ⟨okF, ?_⟩)
 repeat (refine aI ?_)
 (refine aA rfl (hCt _ _ aB) rfl rfl ?_; rintro _ _ _ ⟨rfl, q, c, rfl, rfl⟩; refine ⟨okF, ?_⟩)
 have hcl : (aDK m.a.rows.length C m.a.q).length = m.a.rows.length := by simp [aDK]
 repeat (refine aI ?_)
 refine aQ [1, 35, 36] rfl (fun k G M I => ∃ i : Nat, i ≤ m.a.rows.length ∧ k = m.a.rows.length - i ∧ G = [(37, .int .i64 i)] ∧ M0 = M ∧ I = aV q (recs eB (aDK m.a.rows.length C m.a.q)) :: aV (some ⟨b1, 0, none⟩) [mv m.a, lv m.l, lv m.p] :: I0) (m.a.rows.length) _ _ _ aR aG aD (⟨0, by omega, rfl, rfl, rfl, rfl⟩) ?_
 rintro kk G M I ⟨i, hi, rfl, rfl, rfl, rfl⟩
 by_cases hin : i < m.a.rows.length
 ·have hU := fun (b : Nat) M0 I0 h1 h2 => vD (X := X) (w0 := w0) (M0 := M0) (I0 := I0) (m := m) (u := 30) (K := kb 30 C) (set := [(i : Int)]) (q := some ⟨b, 0, none⟩) (c := 1) rfl (by omega) f h1 (by show 1 ≤ 1000; omega) h2 (aPG hin)
  have hgi := aTR (C := C) (A := m.a.q) hin
  have hu1 := aUV hA hin
  repeat (refine aI ?_)
  rw [hgi]
  by_cases hc : ctl m.a.rows.length C m.a.q i
  ·have hu : ¬ und m.a.rows.length C m.a.q [(i : Int)] := fun h => hu1.1 h hc
   rw [aU hc]
   repeat (refine aI ?_)
   (refine aO (cs := recs eZ [(i : Int)]) ([.int .i64 (i : Int)]) rfl rfl (by intro v hv; repeat (first | exact absurd hv (List.not_mem_nil) | (rcases List.mem_cons.1 hv with rfl | hv; · rfl))) (by omega) rfl rfl rfl ?_; intro b2; refine ⟨okF, ?_⟩)
   refine aF .here ?_
   (refine aA rfl (hU b2 _ _ aB aB) rfl rfl ?_; rintro _ _ _ ⟨rfl, x, is, rfl, rfl, his, _, _⟩; refine ⟨okF, ?_⟩)
   rw [aP hu] at his
   subst his
   repeat (refine aI ?_)
   refine aL (m.a.rows.length - (i + 1)) _ _ _ (by first | omega | (simp only [List.length_append, List.length_cons, List.length_nil]; omega)) aR aG aD (⟨i + 1, by omega, rfl, rfl, rfl, rfl⟩)
  ·have hu : und m.a.rows.length C m.a.q [(i : Int)] := hu1.2 hc
   rw [aP hc]
   repeat (refine aI ?_)
   (refine aO (cs := recs eZ [(i : Int)]) ([.int .i64 (i : Int)]) rfl rfl (by intro v hv; repeat (first | exact absurd hv (List.not_mem_nil) | (rcases List.mem_cons.1 hv with rfl | hv; · rfl))) (by omega) rfl rfl rfl ?_; intro b2; refine ⟨okF, ?_⟩)
   refine aF .here ?_
   (refine aA rfl (hU b2 _ _ aB aB) rfl rfl ?_; rintro _ _ _ ⟨rfl, x, is, rfl, rfl, his, _, _⟩; refine ⟨okF, ?_⟩)
   rw [aU hu] at his
   subst his
   repeat (refine aI ?_)
   refine aL (m.a.rows.length - (i + 1)) _ _ _ (by first | omega | (simp only [List.length_append, List.length_cons, List.length_nil]; omega)) aR aG aD (⟨i + 1, by omega, rfl, rfl, rfl, rfl⟩)
 ·repeat (refine aI ?_)
  refine aC (by first | exact .inl rfl | exact .inr rfl) rfl rfl _ _ aG aD (⟨rfl, rfl, rfl⟩)
theorem aBQ {m : LE} {R C : Nat} (f : m.fit R C) (fw : m.raw.few 7 5) : R ≤ 7 ∧ C ≤ 5 := by
 have h1 := fw.1.1
 rw [show m.raw.a.rows.length = m.a.rows.length from MX.raw_rows _, f.d.1.1] at h1
 refine ⟨h1, ?_⟩
 have h2 := (fw.2 (gt m.raw.a.rows 0) (bM (by rw [show m.raw.a.rows.length = m.a.rows.length from MX.raw_rows _, f.d.1.1]; have := f.d.2.1; omega))).1
 rw [show (gt m.raw.a.rows 0).es.length = C from MX.raw_c0 f.d] at h2
 exact h2
theorem aUS {m : LW} (hR : m.rch) (hm : iZ m ∈ I0) :
  CD Tryz.prog 8 [vLW m] X w0 M0 I0 (fun v M I => M0 = M ∧ I0 = I ∧ v = .bool true) := by
 by_cases hn : m.few 7 5 ∧ m.code = 0
 ·obtain ⟨fw, hc⟩ := hn
  refine iW (φ := (∀ r ∈ m.a.rows, ∀ e ∈ r.es, e.Fit) ∧ (∀ e ∈ m.l.es, e.Fit) ∧ ∀ e ∈ m.p.es, e.Fit) (fun w hw => Mem.fitLW hm hw) (fun hf => ?_)
  obtain ⟨n, R, C, rfl, f, _, _⟩ := LW.num hf hc
  rw [rG]
  exact nC (φ := iX n 30) (Hv.few fw hm) (aQM hR f (List.Mem.tail _ hm) (List.Mem.head _) fw (aBQ f fw).2)
 ·exact aTL hR hm hn
/- Conditions -/
theorem aPB {m : LW} (sm : m.sml) (hc : m.code ≠ 0) (hm : iZ m ∈ I0) : CD Tryz.prog 56 [vLW m] X w0 M0 I0 (fun v M I => M0 = M ∧ I0 = I ∧ v = .tuple #[.slice none 0 0, .int .i64 m.code]) := by
 have hC := fun M0 I0 h1 => sU (X := X) (w0 := w0) (M0 := M0) (I0 := I0) (m := m) sm h1
 refine bC Tryz.func56 rfl Tryz.ntmps56 rfl ?_
 refine aJ ?_
 refine aH ?_
 (refine aM rfl rfl rfl ?_; intro b1; refine ⟨okF, ?_⟩)
 refine aF .here ?_
 repeat (refine aI ?_)
 (refine aA rfl (hC _ _ aB) rfl rfl ?_; rintro _ _ _ ⟨rfl, rfl, rfl⟩; refine ⟨okF, ?_⟩)
 generalize m.code = co at *
 repeat (refine aI ?_)
 refine bZ [2, 3] (by first | exact .inl rfl | exact .inr rfl) rfl rfl rfl _ _ aG aD (⟨rfl, rfl, rfl⟩)
theorem aUL {m : LE} {R C u K : Nat} (hK : K = kb u R) (hb : K ≤ 500000000) (f : m.fit R C) (h : iX m u ∈ I0) :
  CD Tryz.prog 56 [uN m] X w0 M0 I0 (fun v M I => M0 = M ∧ if (mK (vB R C m.a.q) R).length = 0 then I0 = I ∧ v = .tuple #[.slice none 0 0, .int .i64 6] else ∃ x : MX, v = .tuple #[mv x, .int .i64 0] ∧ x.q = mK (vB R C m.a.q) R ∧ (∀ r ∈ x.rows, r.es.length = R) ∧ I = fF x K :: I0) := by
 have hk0 : u ≤ K := by rw [hK]; exact iC u (Nat.zero_le R)
 obtain ⟨r1, r2⟩ := f.d.2.1
 have hC := fun M0 I0 h => jY (X := X) (w0 := w0) (M0 := M0) (I0 := I0) (m := m) (k := u) (by omega) f h
 have hT := fun M0 I0 h => rY (X := X) (w0 := w0) (M0 := M0) (I0 := I0) (a := m.a) (R := R) (C := C) (k := u) (by omega) f.d h
 refine bI (φ := fF m.a u) (Hv.lea h) ?_
 refine bC Tryz.func56 rfl Tryz.ntmps56 rfl ?_
 refine aJ ?_
 refine aH ?_
 (refine aM rfl rfl rfl ?_; intro b1; refine ⟨okF, ?_⟩)
 refine aF .here ?_
 repeat (refine aI ?_)
 (refine aA rfl (hC _ _ aB) rfl rfl ?_; rintro _ _ _ ⟨rfl, rfl, rfl⟩; refine ⟨okF, ?_⟩)
 repeat (refine aI ?_)
 (refine aA rfl (hT _ _ aB) rfl rfl ?_; rintro _ _ _ ⟨rfl, t, rfl, ht, td, rfl⟩; refine ⟨okF, ?_⟩)
 have hN := fun M0 I0 h => aMD (X := X) (w0 := w0) (M0 := M0) (I0 := I0) (a := t) (R := C) (C := R) (k0 := u) (by omega) ⟨td, f.d.2.2, f.d.2.1⟩ h
 rw [← hK, ht] at hN
 repeat (refine aI ?_)
 (refine aA rfl (hN _ _ aB) rfl rfl ?_; rintro _ _ _ ⟨rfl, x, rfl, hx, hxl, rfl⟩; refine ⟨okF, ?_⟩)
 have hx' : x.q = mK (vB R C m.a.q) R := hx
 have hl : (mK (vB R C m.a.q) R).length = x.rows.length := by rw [← hx']; simp
 have hle := aBP (A := vB R C m.a.q) (R := C) (C := R) aDJ
 by_cases e : (mK (vB R C m.a.q) R).length = 0
 ·simp only [if_pos e]
  repeat (refine aI ?_)
  refine bZ [2, 3] (by first | exact .inl rfl | exact .inr rfl) rfl rfl rfl _ _ aG aD (⟨rfl, rfl, rfl⟩)
 ·simp only [if_neg e]
  repeat (refine aI ?_)
  refine bZ [2, 3] (by first | exact .inl rfl | exact .inr rfl) rfl rfl rfl _ _ aG aD (⟨rfl, x, rfl, hx', hxl, rfl⟩)
theorem aSV {m : LW} (hR : m.rch) (hm : iZ m ∈ I0) (hn : ¬ (m.few 7 5 ∧ m.code = 0)) :
  CD Tryz.prog 11 [vLW m] X w0 M0 I0 (fun v M I => M0 = M ∧ I0 = I ∧ v = .bool true) := by
 have hKn := fun M0 I0 => eU (X := X) (w0 := w0) (M0 := M0) (I0 := I0)
 have hF := fun M0 I0 h => nU (X := X) (w0 := w0) (M0 := M0) (I0 := I0) hR h
 refine bC Tryz.func11 rfl Tryz.ntmps11 rfl ?_
 refine aJ ?_
 refine aH ?_
 (refine aM rfl rfl rfl ?_; intro b1; refine ⟨okF, ?_⟩)
 refine aF .here ?_
 repeat (refine aI ?_)
 (refine aA rfl (hKn _ _) rfl rfl ?_; rintro _ _ _ ⟨rfl, rfl, rfl⟩; refine ⟨okF, ?_⟩)
 by_cases fw : m.few 7 5
 ·rw [aU fw] at hF
  have hc : m.code ≠ 0 := fun h => hn ⟨fw, h⟩
  have hC := fun M0 I0 h => mF (X := X) (w0 := w0) (M0 := M0) (I0 := I0) (fw.sml (by omega)) h
  have hCo := fun M0 I0 h => aPB (X := X) (w0 := w0) (M0 := M0) (I0 := I0) (fw.sml (by omega)) hc h
  generalize m.code = co at *
  repeat (refine aI ?_)
  (refine aA rfl (hF _ _ aB) rfl rfl ?_; rintro _ _ _ ⟨rfl, rfl, rfl⟩; refine ⟨okF, ?_⟩)
  repeat (refine aI ?_)
  (refine aA rfl (hCo _ _ aB) rfl rfl ?_; rintro _ _ _ ⟨rfl, rfl, rfl⟩; refine ⟨okF, ?_⟩)
  repeat (refine aI ?_)
  (refine aA rfl (hC _ _ aB) rfl rfl ?_; rintro _ _ _ ⟨rfl, rfl, rfl⟩; refine ⟨okF, ?_⟩)
  have hcc : B (co = co) = true := aU rfl
  repeat (refine aI ?_)
  rw [hcc]
  repeat (refine aI ?_)
  refine aC (by first | exact .inl rfl | exact .inr rfl) rfl rfl _ _ aG aD (⟨rfl, rfl, congrArg Value.bool (aU rfl)⟩)
 ·rw [aP fw] at hF
  repeat (refine aI ?_)
  (refine aA rfl (hF _ _ aB) rfl rfl ?_; rintro _ _ _ ⟨rfl, rfl, rfl⟩; refine ⟨okF, ?_⟩)
  repeat (refine aI ?_)
  refine aC (by first | exact .inl rfl | exact .inr rfl) rfl rfl _ _ aG aD (⟨rfl, rfl, rfl⟩)
theorem aQT {m : LE} {R C : Nat} (hR : m.raw.rch) (f : m.fit R C) (hm : iZ m.raw ∈ I0) (h : iX m 30 ∈ I0) (fw : m.raw.few 7 5) (hd : R ≤ 7 ∧ C ≤ 5) :
  CD Tryz.prog 11 [uN m] X w0 M0 I0 (fun v M I => M0 = M ∧ I0 = I ∧ v = .bool true) := by
 have lR := f.d.1.1
 subst lR
 have hkb : kb 30 m.a.rows.length ≤ 600000 := Nat.le_trans (iC 30 hd.1) (by decide)
 obtain ⟨r1, r2⟩ := f.d.2.1
 obtain ⟨c1, c2⟩ := f.d.2.2
 have hkb2 : kb 30 C ≤ 600000 := Nat.le_trans (iC 30 hd.2) (by decide)
 have hKn := fun M0 I0 => eU (X := X) (w0 := w0) (M0 := M0) (I0 := I0)
 have hF := fun M0 I0 h => kX (X := X) (w0 := w0) (M0 := M0) (I0 := I0) hR fw h
 have hCk := fun M0 I0 h => gH (X := X) (w0 := w0) (M0 := M0) (I0 := I0) fw f h
 have hCo := fun M0 I0 h => aUL (X := X) (w0 := w0) (M0 := M0) (I0 := I0) (m := m) (u := 30) rfl (by omega) f h
 have hT := fun M0 I0 h => aQC (aAQ (X := X) (w0 := w0) (M0 := M0) (I0 := I0) (a := m.a) (R := m.a.rows.length) (C := C) (k0 := 30) f.d.2.1 f.d.2.2 f.d.1 h)
 have hRk := fun M0 I0 h => aBN (X := X) (w0 := w0) (M0 := M0) (I0 := I0) (a := m.a) (R := m.a.rows.length) (C := C) (k0 := 30) (by omega) (by omega) (by have := f.d.2.2; omega) f.d.1 h
 have hA := pG f.d.1
 have hle := aBP (A := vB m.a.rows.length C m.a.q) (R := C) (C := m.a.rows.length) aDJ
 rw [rk_tr hA] at hle
 refine bI (φ := fF m.a 30) (Hv.lea h) ?_
 refine bC Tryz.func11 rfl Tryz.ntmps11 rfl ?_
 refine aJ ?_
 refine aH ?_
 (refine aM rfl rfl rfl ?_; intro b1; refine ⟨okF, ?_⟩)
 refine aF .here ?_
 repeat (refine aI ?_)
 (refine aA rfl (hKn _ _) rfl rfl ?_; rintro _ _ _ ⟨rfl, rfl, rfl⟩; refine ⟨okF, ?_⟩)
 repeat (refine aI ?_)
 (refine aA rfl (hF _ _ aB) rfl rfl ?_; rintro _ _ _ ⟨rfl, rfl, rfl⟩; refine ⟨okF, ?_⟩)
 generalize hKK : kb 30 m.a.rows.length = K at *
 by_cases e : (mK (vB m.a.rows.length C m.a.q) m.a.rows.length).length = 0
 ·simp only [if_pos e] at hCo
  repeat (refine aI ?_)
  (refine aA rfl (hCo _ _ aB) rfl rfl ?_; rintro _ _ _ ⟨rfl, rfl, rfl⟩; refine ⟨okF, ?_⟩)
  repeat (refine aI ?_)
  (refine aA rfl (hCk _ _ aB) rfl rfl ?_; rintro _ _ _ ⟨rfl, rfl, rfl⟩; refine ⟨okF, ?_⟩)
  repeat (refine aI ?_)
  (refine aA rfl (hT _ _ aB) rfl rfl ?_; rintro _ _ _ ⟨rfl, t, rfl, ht, td, rfl⟩; refine ⟨okF, ?_⟩)
  have hN := fun M0 I0 h => aIR (X := X) (w0 := w0) (M0 := M0) (I0 := I0) (a := t) (R := C) (C := m.a.rows.length) (k0 := 30) (by omega) (by have := f.d.2.2; omega) (by omega) td h
  rw [hKK, ht] at hN
  repeat (refine aI ?_)
  (refine aA rfl (hN _ _ aB) rfl rfl ?_; rintro _ _ _ ⟨rfl, y, rfl, hy, hyl, rfl⟩; refine ⟨okF, ?_⟩)
  have hl : (mK (vB m.a.rows.length C m.a.q) m.a.rows.length).length = y.rows.length := by rw [← show y.q = mK (vB m.a.rows.length C m.a.q) m.a.rows.length from hy]; simp
  repeat (refine aI ?_)
  refine aC (by first | exact .inl rfl | exact .inr rfl) rfl rfl _ _ aG aD (⟨rfl, rfl, congrArg Value.bool (aU rfl)⟩)
 ·simp only [if_neg e] at hCo
  repeat (refine aI ?_)
  (refine aA rfl (hCo _ _ aB) rfl rfl ?_; rintro _ _ _ ⟨rfl, x, rfl, hx, hxl, rfl⟩; refine ⟨okF, ?_⟩)
  repeat (refine aI ?_)
  (refine aA rfl (hCk _ _ aB) rfl rfl ?_; rintro _ _ _ ⟨rfl, rfl, rfl⟩; refine ⟨okF, ?_⟩)
  repeat (refine aI ?_)
  (refine aA rfl (hT _ _ aB) rfl rfl ?_; rintro _ _ _ ⟨rfl, t, rfl, ht, td, rfl⟩; refine ⟨okF, ?_⟩)
  have hN := fun M0 I0 h => aIR (X := X) (w0 := w0) (M0 := M0) (I0 := I0) (a := t) (R := C) (C := m.a.rows.length) (k0 := 30) (by omega) (by have := f.d.2.2; omega) (by omega) td h
  rw [hKK, ht] at hN
  repeat (refine aI ?_)
  (refine aA rfl (hN _ _ aB) rfl rfl ?_; rintro _ _ _ ⟨rfl, y, rfl, hy, hyl, rfl⟩; refine ⟨okF, ?_⟩)
  have hl : (mK (vB m.a.rows.length C m.a.q) m.a.rows.length).length = y.rows.length := by rw [← show y.q = mK (vB m.a.rows.length C m.a.q) m.a.rows.length from hy]; simp
  have hl2 : (mK (vB m.a.rows.length C m.a.q) m.a.rows.length).length = x.rows.length := by rw [← hx]; simp
  have hxy : x.q = y.q := by rw [hx]; exact hy.symm
  refine fD (φ := aV (x).p (recs eL (x).rows)) (Hv.xsl aB) ?_
  refine fD (φ := aV (y).p (recs eL (y).rows)) (Hv.xsl aB) ?_
  repeat (refine aI ?_)
  (repeat refine aJ ?_); refine bK [0, 1, 2, 3, 4, 5, 6, 7, 8, 9, 10, 11, 12, 13, 14, 15, 16, 17, 18, 19, 20] [1, 1, 1, 1, 1, 1, 1, 1, 1, 0, 1, 1, 1, 1, 1, 1, 0, 0, 0, 0, 0] mixed (by kernel_rfl) ?_
  repeat (refine aI ?_)
  (refine aA rfl (hRk _ _ aB) rfl rfl ?_; rintro _ _ _ ⟨rfl, rfl, rfl⟩; refine ⟨okF, ?_⟩)
  repeat (refine aI ?_)
  refine aQ [1, 3, 6, 66] rfl (fun k G M I => ∃ i : Nat, i ≤ x.rows.length ∧ k = x.rows.length - i ∧ G = [(67, .int .i64 i)] ∧ M0 = M ∧ I = aV y.p (recs eL y.rows) :: aV x.p (recs eL x.rows) :: fF y K :: fF x K :: aV (some ⟨b1, 0, none⟩) [mv m.a, lv m.l, lv m.p] :: I0) (x.rows.length) _ _ _ aR aG aD (⟨0, by omega, rfl, rfl, rfl, rfl⟩) ?_
  rintro kk G M I ⟨i, hi, rfl, rfl, rfl, rfl⟩
  by_cases hin : i < x.rows.length
  ·have hxi := hxl _ (bM (ms := x.rows) (i := (i : Int)) (by omega))
   have hyi := hyl _ (bM (ms := y.rows) (i := (i : Int)) (by omega))
   have heq : (gt x.rows (i : Int)).q = (gt y.rows (i : Int)).q := aWM hxy hin
   have hS := fun M0 I0 h1 h2 => yK (X := X) (w0 := w0) (M0 := M0) (I0 := I0) (x := gt x.rows (i : Int)) (y := gt y.rows (i : Int)) (u := K) (m := K) (by omega) (by omega) (by omega) h1 h2
   rw [aU heq] at hS
   have hAn := fun M0 I0 h1 h2 => vG (X := X) (w0 := w0) (M0 := M0) (I0 := I0) (m := m) (y := gt x.rows (i : Int)) (k := 30) (n := K) (by omega) f hxi h1 h2
   rw [aU (aMN (by rw [← hx]; exact List.mem_map.2 ⟨_, bM (by omega), rfl⟩))] at hAn
   refine bQ (φ := jR (gt x.rows (i : Int)) K) (Hv.xrow aB (by omega)) ?_
   refine bQ (φ := jR (gt y.rows (i : Int)) K) (Hv.xrow aB (by omega)) ?_
   repeat (refine aI ?_)
   (repeat refine aJ ?_); refine bK [0, 1, 2, 3, 4, 5, 6, 7, 8, 9, 10, 11, 12, 13, 14, 15, 16, 17, 18] [2, 2, 2, 1, 2, 2, 2, 1, 0, 1, 0, 0, 1, 1, 1, 0, 0, 0, 0] mixed (by kernel_rfl) ?_
   repeat (refine aI ?_)
   (refine aA rfl (hS _ _ (Hv.mem aB) (Hv.mem aB)) rfl rfl ?_; rintro _ _ _ ⟨rfl, rfl, rfl⟩; refine ⟨okF, ?_⟩)
   repeat (refine aI ?_)
   (refine aA rfl (hAn _ _ aB aB) rfl rfl ?_; rintro _ _ _ ⟨rfl, rfl, rfl⟩; refine ⟨okF, ?_⟩)
   repeat (refine aI ?_)
   refine aL (x.rows.length - (i + 1)) _ _ _ (by first | omega | (simp only [List.length_append, List.length_cons, List.length_nil]; omega)) aR aG aD (⟨i + 1, by omega, rfl, rfl, rfl, rfl⟩)
  ·repeat (refine aI ?_)
   refine aC (by first | exact .inl rfl | exact .inr rfl) rfl rfl _ _ aG aD (⟨rfl, rfl, rfl⟩)
theorem aTT {m : LW} (hR : m.rch) (hm : iZ m ∈ I0) :
  CD Tryz.prog 11 [vLW m] X w0 M0 I0 (fun v M I => M0 = M ∧ I0 = I ∧ v = .bool true) := by
 by_cases hn : m.few 7 5 ∧ m.code = 0
 ·obtain ⟨fw, hc⟩ := hn
  refine iW (φ := (∀ r ∈ m.a.rows, ∀ e ∈ r.es, e.Fit) ∧ (∀ e ∈ m.l.es, e.Fit) ∧ ∀ e ∈ m.p.es, e.Fit) (fun w hw => Mem.fitLW hm hw) (fun hf => ?_)
  obtain ⟨n, R, C, rfl, f, _, _⟩ := LW.num hf hc
  rw [rG]
  exact nC (φ := iX n 30) (Hv.few fw hm) (aQT hR f (List.Mem.tail _ hm) (List.Mem.head _) fw (aBQ f fw))
 ·exact aSV hR hm hn
end
end Go.Proofs.YtgeagiikkeiioaaGreat
