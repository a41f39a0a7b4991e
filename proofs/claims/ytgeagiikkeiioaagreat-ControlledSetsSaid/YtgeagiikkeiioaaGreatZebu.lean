/- The law ControlledSets. -/
import Derived.Test.YtgeagiikkeiioaaGreatZebs
import Derived.Test.YtgeagiikkeiioaaGreatZebt
import Derived.Test.YtgeagiikkeiioaaGreatZeaw
set_option linter.unusedSimpArgs false
set_option linter.unusedVariables false
set_option maxRecDepth 100000
set_option maxHeartbeats 4000000
namespace Go.Proofs.YtgeagiikkeiioaaGreat
open Go Go.Fx
section
variable {X : List Nat} {w0 : World} {M0 : List Ent} {I0 : List bD}
theorem aUY {m : LW} {set : List Int} {q : Option Addr} {c : Nat} (hR : m.rch) (hl : (set.length : Int) ≤ 9223372036854775807) (hm : iZ m ∈ I0) (hn : ¬ (m.few 7 5 ∧ set.length ≤ 12)) :
  CD Tryz.prog 12 [vLW m, .slice q set.length c] X w0 M0 I0 (fun v M I => M0 = M ∧ I0 = I ∧ v = .bool true) := by
 have hKn := fun M0 I0 => eU (X := X) (w0 := w0) (M0 := M0) (I0 := I0)
 have hF := fun M0 I0 h => nU (X := X) (w0 := w0) (M0 := M0) (I0 := I0) hR h
 by_cases fw : m.few 7 5
 ·rw [aU fw] at hF
  have h12 : ¬ set.length ≤ 12 := fun h => hn ⟨fw, h⟩
  refine aW Tryz.func12 rfl Tryz.ntmps12 rfl ?_
  refine aJ ?_
  refine aH ?_
  (refine aM rfl rfl rfl ?_; intro b1; refine ⟨okF, ?_⟩)
  refine aF .here ?_
  repeat (refine aI ?_)
  (refine aA rfl (hKn _ _) rfl rfl ?_; rintro _ _ _ ⟨rfl, rfl, rfl⟩; refine ⟨okF, ?_⟩)
  repeat (refine aI ?_)
  (refine aA rfl (hF _ _ aB) rfl rfl ?_; rintro _ _ _ ⟨rfl, rfl, rfl⟩; refine ⟨okF, ?_⟩)
  repeat (refine aI ?_)
  refine aC (by first | exact .inl rfl | exact .inr rfl) rfl rfl _ _ aG aD (⟨rfl, rfl, rfl⟩)
 ·rw [aP fw] at hF
  refine aW Tryz.func12 rfl Tryz.ntmps12 rfl ?_
  refine aJ ?_
  refine aH ?_
  (refine aM rfl rfl rfl ?_; intro b1; refine ⟨okF, ?_⟩)
  refine aF .here ?_
  repeat (refine aI ?_)
  (refine aA rfl (hKn _ _) rfl rfl ?_; rintro _ _ _ ⟨rfl, rfl, rfl⟩; refine ⟨okF, ?_⟩)
  repeat (refine aI ?_)
  (refine aA rfl (hF _ _ aB) rfl rfl ?_; rintro _ _ _ ⟨rfl, rfl, rfl⟩; refine ⟨okF, ?_⟩)
  repeat (refine aI ?_)
  refine aC (by first | exact .inl rfl | exact .inr rfl) rfl rfl _ _ aG aD (⟨rfl, rfl, rfl⟩)
theorem aMW {m : LW} {set : List Int} {q : Option Addr} {c : Nat} (hR : m.rch) (h12 : set.length ≤ 12) (hm : iZ m ∈ I0) (fw : m.few 7 5) (hc : m.code ≠ 0) :
  CD Tryz.prog 12 [vLW m, .slice q set.length c] X w0 M0 I0 (fun v M I => M0 = M ∧ I0 = I ∧ v = .bool true) := by
 have hKn := fun M0 I0 => eU (X := X) (w0 := w0) (M0 := M0) (I0 := I0)
 have hF := fun M0 I0 h => nU (X := X) (w0 := w0) (M0 := M0) (I0 := I0) hR h
 rw [aU fw] at hF
 have hCk := fun M0 I0 h => mF (X := X) (w0 := w0) (M0 := M0) (I0 := I0) (fw.sml (by omega)) h
 have hUd := fun M0 I0 h => aKQ (X := X) (w0 := w0) (M0 := M0) (I0 := I0) (s := .slice q set.length c) (fw.sml (by omega)) hc h
 have hLf := fun M0 I0 h => aOU (X := X) (w0 := w0) (M0 := M0) (I0 := I0) (s := .slice q set.length c) (fw.sml (by omega)) hc h
 generalize m.code = co at *
 have hcc : B (co = co) = true := aU rfl
 refine aW Tryz.func12 rfl Tryz.ntmps12 rfl ?_
 refine aJ ?_
 refine aH ?_
 (refine aM rfl rfl rfl ?_; intro b1; refine ⟨okF, ?_⟩)
 refine aF .here ?_
 repeat (refine aI ?_)
 (refine aA rfl (hKn _ _) rfl rfl ?_; rintro _ _ _ ⟨rfl, rfl, rfl⟩; refine ⟨okF, ?_⟩)
 repeat (refine aI ?_)
 (refine aA rfl (hF _ _ aB) rfl rfl ?_; rintro _ _ _ ⟨rfl, rfl, rfl⟩; refine ⟨okF, ?_⟩)
 repeat (refine aI ?_)
 (refine aA rfl (hUd _ _ aB) rfl rfl ?_; rintro _ _ _ ⟨rfl, rfl, rfl⟩; refine ⟨okF, ?_⟩)
 repeat (refine aI ?_)
 (refine aA rfl (hLf _ _ aB) rfl rfl ?_; rintro _ _ _ ⟨rfl, rfl, rfl⟩; refine ⟨okF, ?_⟩)
 repeat (refine aI ?_)
 (refine aA rfl (hCk _ _ aB) rfl rfl ?_; rintro _ _ _ ⟨rfl, rfl, rfl⟩; refine ⟨okF, ?_⟩)
 repeat (refine aI ?_)
 rw [hcc]
 repeat (refine aI ?_)
 refine aC (by first | exact .inl rfl | exact .inr rfl) rfl rfl _ _ aG aD (⟨rfl, rfl, congrArg Value.bool (aU rfl)⟩)
theorem aQZ {m : LE} {R C : Nat} {set : List Int} {q : Option Addr} {c : Nat} (hR : m.raw.rch) (h12 : set.length ≤ 12) (f : m.fit R C) (hd : R ≤ 7 ∧ C ≤ 5) (hm : iZ m.raw ∈ I0) (h : iX m 30 ∈ I0) (hq : aV q (recs (eI .i64) set) ∈ I0) (fw : m.raw.few 7 5) (hs : kQ R set ≠ 0) :
  CD Tryz.prog 12 [uN m, .slice q set.length c] X w0 M0 I0 (fun v M I => M0 = M ∧ I0 = I ∧ v = .bool true) := by
 have hkb : kb 30 C ≤ 40000 := Nat.le_trans (iC 30 hd.2) (by decide)
 have hkb7 : kb 30 7 ≤ 600000 := by decide
 have hKn := fun M0 I0 => eU (X := X) (w0 := w0) (M0 := M0) (I0 := I0)
 have hF := fun M0 I0 h => kX (X := X) (w0 := w0) (M0 := M0) (I0 := I0) hR fw h
 have hCk := fun M0 I0 h => gH (X := X) (w0 := w0) (M0 := M0) (I0 := I0) fw f h
 have hSc := fun M0 I0 h => rA (X := X) (w0 := w0) (M0 := M0) (I0 := I0) (m := m) (R := R) (set := set) (q := q) (c := c) f.d.1.1 (by omega) h
 have hUd := fun M0 I0 h1 h2 => aOJ (X := X) (w0 := w0) (M0 := M0) (I0 := I0) (m := m) (k := 30) (set := set) (q := q) (c := c) (by omega) f h1 (by omega) h2 hs
 have hLf := fun M0 I0 h1 h2 => aGT (X := X) (w0 := w0) (M0 := M0) (I0 := I0) (m := m) (u := 30) (set := set) (q := q) (c := c) (by omega) f h1 (by omega) h2 (fun h => hs h.1)
 simp only [if_neg hs] at hLf
 generalize kQ R set = co at *
 have hcc : B (co = co) = true := aU rfl
 refine aW Tryz.func12 rfl Tryz.ntmps12 rfl ?_
 refine aJ ?_
 refine aH ?_
 (refine aM rfl rfl rfl ?_; intro b1; refine ⟨okF, ?_⟩)
 refine aF .here ?_
 repeat (refine aI ?_)
 (refine aA rfl (hKn _ _) rfl rfl ?_; rintro _ _ _ ⟨rfl, rfl, rfl⟩; refine ⟨okF, ?_⟩)
 repeat (refine aI ?_)
 (refine aA rfl (hF _ _ aB) rfl rfl ?_; rintro _ _ _ ⟨rfl, rfl, rfl⟩; refine ⟨okF, ?_⟩)
 repeat (refine aI ?_)
 (refine aA rfl (hUd _ _ aB aB) rfl rfl ?_; rintro _ _ _ ⟨rfl, rfl, rfl⟩; refine ⟨okF, ?_⟩)
 repeat (refine aI ?_)
 (refine aA rfl (hLf _ _ aB aB) rfl rfl ?_; rintro _ _ _ ⟨rfl, rfl, rfl⟩; refine ⟨okF, ?_⟩)
 repeat (refine aI ?_)
 (refine aA rfl (hCk _ _ aB) rfl rfl ?_; rintro _ _ _ ⟨rfl, rfl, rfl⟩; refine ⟨okF, ?_⟩)
 repeat (refine aI ?_)
 (refine aA rfl (hSc _ _ aB) rfl rfl ?_; rintro _ _ _ ⟨rfl, rfl, rfl⟩; refine ⟨okF, ?_⟩)
 repeat (refine aI ?_)
 rw [hcc]
 repeat (refine aI ?_)
 refine aC (by first | exact .inl rfl | exact .inr rfl) rfl rfl _ _ aG aD (⟨rfl, rfl, congrArg Value.bool (aU rfl)⟩)
theorem aRG {m : LE} {R C : Nat} {set : List Int} {q : Option Addr} {c : Nat} (hR : m.raw.rch) (h12 : set.length ≤ 12) (f : m.fit R C) (hd : R ≤ 7 ∧ C ≤ 5) (hm : iZ m.raw ∈ I0) (h : iX m 30 ∈ I0) (hq : aV q (recs (eI .i64) set) ∈ I0) (fw : m.raw.few 7 5) (hs : kQ R set = 0) (h0 : set.length = 0) :
  CD Tryz.prog 12 [uN m, .slice q set.length c] X w0 M0 I0 (fun v M I => M0 = M ∧ I0 = I ∧ v = .bool true) := by
 have hkb : kb 30 C ≤ 40000 := Nat.le_trans (iC 30 hd.2) (by decide)
 have hkb7 : kb 30 7 ≤ 600000 := by decide
 have hKn := fun M0 I0 => eU (X := X) (w0 := w0) (M0 := M0) (I0 := I0)
 have hF := fun M0 I0 h => kX (X := X) (w0 := w0) (M0 := M0) (I0 := I0) hR fw h
 have hCk := fun M0 I0 h => gH (X := X) (w0 := w0) (M0 := M0) (I0 := I0) fw f h
 have hSc := fun M0 I0 h => rA (X := X) (w0 := w0) (M0 := M0) (I0 := I0) (m := m) (R := R) (set := set) (q := q) (c := c) f.d.1.1 (by omega) h
 have hUn := fun M0 I0 h1 h2 => tX (X := X) (w0 := w0) (M0 := M0) (I0 := I0) (m := m) (u := 30) (set := set) (q := q) (c := c) (by omega) f h1 (by omega) h2
 have hUd := fun M0 I0 h1 h2 => vD (X := X) (w0 := w0) (M0 := M0) (I0 := I0) (m := m) (u := 30) (K := kb 30 C) (set := set) (q := q) (c := c) rfl (by omega) f h1 (by omega) h2 hs
 have hLf := fun M0 I0 h1 h2 => aGT (X := X) (w0 := w0) (M0 := M0) (I0 := I0) (m := m) (u := 30) (set := set) (q := q) (c := c) (by omega) f h1 (by omega) h2 (fun h => h.2 h0)
 simp only [if_pos hs] at hLf
 rw [hs] at hSc
 have hu : ¬ und R C m.a.q set := by
  rw [uH (pG f.d.1)]
  have he : set = [] := List.eq_nil_of_length_eq_zero h0
  intro z hz i hi
  exact hz i hi (by rw [he]; exact List.not_mem_nil)
 rw [aP hu] at hUn
 refine aW Tryz.func12 rfl Tryz.ntmps12 rfl ?_
 refine aJ ?_
 refine aH ?_
 (refine aM rfl rfl rfl ?_; intro b1; refine ⟨okF, ?_⟩)
 refine aF .here ?_
 repeat (refine aI ?_)
 (refine aA rfl (hKn _ _) rfl rfl ?_; rintro _ _ _ ⟨rfl, rfl, rfl⟩; refine ⟨okF, ?_⟩)
 repeat (refine aI ?_)
 (refine aA rfl (hF _ _ aB) rfl rfl ?_; rintro _ _ _ ⟨rfl, rfl, rfl⟩; refine ⟨okF, ?_⟩)
 repeat (refine aI ?_)
 (refine aA rfl (hUd _ _ aB aB) rfl rfl ?_; rintro _ _ _ ⟨rfl, x, is, rfl, rfl, his, hx0, _⟩; refine ⟨okF, ?_⟩)
 rw [aP hu] at his
 subst his
 have hxl0 : x.es.length = 0 := by rw [hx0 rfl]; rfl
 repeat (refine aI ?_)
 (refine aA rfl (hLf _ _ aB aB) rfl rfl ?_; rintro _ _ _ ⟨rfl, rfl, rfl⟩; refine ⟨okF, ?_⟩)
 repeat (refine aI ?_)
 (refine aA rfl (hCk _ _ aB) rfl rfl ?_; rintro _ _ _ ⟨rfl, rfl, rfl⟩; refine ⟨okF, ?_⟩)
 repeat (refine aI ?_)
 (refine aA rfl (hSc _ _ aB) rfl rfl ?_; rintro _ _ _ ⟨rfl, rfl, rfl⟩; refine ⟨okF, ?_⟩)
 repeat (refine aI ?_)
 (refine aA rfl (hUn _ _ aB aB) rfl rfl ?_; rintro _ _ _ ⟨rfl, rfl, rfl⟩; refine ⟨okF, ?_⟩)
 repeat (refine aI ?_)
 refine aC (by first | exact .inl rfl | exact .inr rfl) rfl rfl _ _ aG aD (⟨rfl, rfl, congrArg Value.bool (aU rfl)⟩)
theorem aRX {m : LE} {R C : Nat} {set : List Int} {q : Option Addr} {c : Nat} (hR : m.raw.rch) (h12 : set.length ≤ 12) (f : m.fit R C) (hd : R ≤ 7 ∧ C ≤ 5) (hm : iZ m.raw ∈ I0) (h : iX m 30 ∈ I0) (hq : aV q (recs (eI .i64) set) ∈ I0) (fw : m.raw.few 7 5) (hs : kQ R set = 0) (h0 : set.length ≠ 0) (hu : ¬ und R C m.a.q set) :
  CD Tryz.prog 12 [uN m, .slice q set.length c] X w0 M0 I0 (fun v M I => M0 = M ∧ I0 = I ∧ v = .bool true) := by
 have hkb : kb 30 C ≤ 40000 := Nat.le_trans (iC 30 hd.2) (by decide)
 have hkb7 : kb 30 7 ≤ 600000 := by decide
 have hKn := fun M0 I0 => eU (X := X) (w0 := w0) (M0 := M0) (I0 := I0)
 have hF := fun M0 I0 h => kX (X := X) (w0 := w0) (M0 := M0) (I0 := I0) hR fw h
 have hCk := fun M0 I0 h => gH (X := X) (w0 := w0) (M0 := M0) (I0 := I0) fw f h
 have hSc := fun M0 I0 h => rA (X := X) (w0 := w0) (M0 := M0) (I0 := I0) (m := m) (R := R) (set := set) (q := q) (c := c) f.d.1.1 (by omega) h
 have hUn := fun M0 I0 h1 h2 => tX (X := X) (w0 := w0) (M0 := M0) (I0 := I0) (m := m) (u := 30) (set := set) (q := q) (c := c) (by omega) f h1 (by omega) h2
 have hUd := fun M0 I0 h1 h2 => vD (X := X) (w0 := w0) (M0 := M0) (I0 := I0) (m := m) (u := 30) (K := kb 30 C) (set := set) (q := q) (c := c) rfl (by omega) f h1 (by omega) h2 hs
 have hLf := fun M0 I0 h1 h2 => aLR (X := X) (w0 := w0) (M0 := M0) (I0 := I0) (m := m) (u := 30) (K := kb 30 7) (set := set) (q := q) (c := c) rfl (by omega) f hd.1 h1 (by omega) h2 hs h0
 simp only [if_neg hu] at hLf
 rw [hs] at hSc
 rw [aP hu] at hUn
 refine aW Tryz.func12 rfl Tryz.ntmps12 rfl ?_
 refine aJ ?_
 refine aH ?_
 (refine aM rfl rfl rfl ?_; intro b1; refine ⟨okF, ?_⟩)
 refine aF .here ?_
 repeat (refine aI ?_)
 (refine aA rfl (hKn _ _) rfl rfl ?_; rintro _ _ _ ⟨rfl, rfl, rfl⟩; refine ⟨okF, ?_⟩)
 repeat (refine aI ?_)
 (refine aA rfl (hF _ _ aB) rfl rfl ?_; rintro _ _ _ ⟨rfl, rfl, rfl⟩; refine ⟨okF, ?_⟩)
 repeat (refine aI ?_)
 (refine aA rfl (hUd _ _ aB aB) rfl rfl ?_; rintro _ _ _ ⟨rfl, x, is, rfl, rfl, his, hx0, _⟩; refine ⟨okF, ?_⟩)
 rw [aP hu] at his
 subst his
 have hxl0 : x.es.length = 0 := by rw [hx0 rfl]; rfl
 repeat (refine aI ?_)
 (refine aA rfl (hLf _ _ aB aB) rfl rfl ?_; rintro _ _ _ ⟨rfl, Y, rfl, hfi, hYl, hYr, rfl⟩; refine ⟨okF, ?_⟩)
 have hYb : Y.rows.length ≤ 1000 ∧ ∀ r ∈ Y.rows, r.es.length ≤ 1000 := ⟨by omega, fun r hr => by rw [hYr r hr]; omega⟩
 have hfm := fun M0 I0 h1 h2 h3 => aDV (X := X) (w0 := w0) (M0 := M0) (I0 := I0) (m := m) (u := 30) (n := kb 30 7) (set := set) (q := q) (c := c) (Y := Y) (by omega) f h1 (by omega) (aAY hs).1 h2 h3 hYb
 rw [aU hfi] at hfm
 have hFm := fun M0 I0 h1 h2 h3 => aGG (X := X) (w0 := w0) (M0 := M0) (I0 := I0) (m := m) (u := 30) (n := kb 30 7) (set := set) (q := q) (c := c) (Y := Y) (by omega) (by omega) f h1 (by omega) h2 h3 hYb
 simp only [if_pos hs, if_neg h0, if_pos hfi] at hFm
 repeat (refine aI ?_)
 (refine aA rfl (hCk _ _ aB) rfl rfl ?_; rintro _ _ _ ⟨rfl, rfl, rfl⟩; refine ⟨okF, ?_⟩)
 repeat (refine aI ?_)
 (refine aA rfl (hSc _ _ aB) rfl rfl ?_; rintro _ _ _ ⟨rfl, rfl, rfl⟩; refine ⟨okF, ?_⟩)
 repeat (refine aI ?_)
 (refine aA rfl (hUn _ _ aB aB) rfl rfl ?_; rintro _ _ _ ⟨rfl, rfl, rfl⟩; refine ⟨okF, ?_⟩)
 repeat (refine aI ?_)
 (refine aA rfl (hfm _ _ aB aB aB) rfl rfl ?_; rintro _ _ _ ⟨rfl, rfl, rfl⟩; refine ⟨okF, ?_⟩)
 repeat (refine aI ?_)
 (refine aA rfl (hFm _ _ aB aB aB) rfl rfl ?_; rintro _ _ _ ⟨rfl, rfl, rfl⟩; refine ⟨okF, ?_⟩)
 repeat (refine aI ?_)
 refine aC (by first | exact .inl rfl | exact .inr rfl) rfl rfl _ _ aG aD (⟨rfl, rfl, congrArg Value.bool (aU rfl)⟩)
theorem aPZ {m : LE} {R C : Nat} {set : List Int} {q : Option Addr} {c : Nat} (hR : m.raw.rch) (h12 : set.length ≤ 12) (f : m.fit R C) (hd : R ≤ 7 ∧ C ≤ 5) (hm : iZ m.raw ∈ I0) (h : iX m 30 ∈ I0) (hq : aV q (recs (eI .i64) set) ∈ I0) (fw : m.raw.few 7 5) (hs : kQ R set = 0) (h0 : set.length ≠ 0) (hu : und R C m.a.q set) :
  CD Tryz.prog 12 [uN m, .slice q set.length c] X w0 M0 I0 (fun v M I => M0 = M ∧ I0 = I ∧ v = .bool true) := by
 have hkb : kb 30 C ≤ 40000 := Nat.le_trans (iC 30 hd.2) (by decide)
 have hkb7 : kb 30 7 ≤ 600000 := by decide
 have hKn := fun M0 I0 => eU (X := X) (w0 := w0) (M0 := M0) (I0 := I0)
 have hF := fun M0 I0 h => kX (X := X) (w0 := w0) (M0 := M0) (I0 := I0) hR fw h
 have hCk := fun M0 I0 h => gH (X := X) (w0 := w0) (M0 := M0) (I0 := I0) fw f h
 have hSc := fun M0 I0 h => rA (X := X) (w0 := w0) (M0 := M0) (I0 := I0) (m := m) (R := R) (set := set) (q := q) (c := c) f.d.1.1 (by omega) h
 have hUn := fun M0 I0 h1 h2 => tX (X := X) (w0 := w0) (M0 := M0) (I0 := I0) (m := m) (u := 30) (set := set) (q := q) (c := c) (by omega) f h1 (by omega) h2
 have hUd := fun M0 I0 h1 h2 => vD (X := X) (w0 := w0) (M0 := M0) (I0 := I0) (m := m) (u := 30) (K := kb 30 C) (set := set) (q := q) (c := c) rfl (by omega) f h1 (by omega) h2 hs
 have hLf := fun M0 I0 h1 h2 => aLR (X := X) (w0 := w0) (M0 := M0) (I0 := I0) (m := m) (u := 30) (K := kb 30 7) (set := set) (q := q) (c := c) rfl (by omega) f hd.1 h1 (by omega) h2 hs h0
 simp only [if_pos hu] at hLf
 rw [hs] at hSc
 rw [aU hu] at hUn
 have lR := f.d.1.1
 subst lR
 have lC := f.d.r0
 obtain ⟨r1, r2⟩ := f.d.2.1
 obtain ⟨c1, c2⟩ := f.d.2.2
 refine bI (φ := fF m.a 30) (Hv.lea h) ?_
 refine bI (φ := aV (m.a).p (recs eL (m.a).rows)) (Hv.xsl aB) ?_
 refine aW Tryz.func12 rfl Tryz.ntmps12 rfl ?_
 refine aJ ?_
 refine aH ?_
 (refine aM rfl rfl rfl ?_; intro b1; refine ⟨okF, ?_⟩)
 refine aF .here ?_
 repeat (refine aI ?_)
 (refine aA rfl (hKn _ _) rfl rfl ?_; rintro _ _ _ ⟨rfl, rfl, rfl⟩; refine ⟨okF, ?_⟩)
 repeat (refine aI ?_)
 (refine aA rfl (hF _ _ aB) rfl rfl ?_; rintro _ _ _ ⟨rfl, rfl, rfl⟩; refine ⟨okF, ?_⟩)
 repeat (refine aI ?_)
 (refine aA rfl (hUd _ _ aB aB) rfl rfl ?_; rintro _ _ _ ⟨rfl, x, is, rfl, rfl, his, _, hx1⟩; refine ⟨okF, ?_⟩)
 rw [aU hu] at his
 subst his
 obtain ⟨hxl, hxo, t0, ht0, hxn⟩ := hx1 rfl
 have hV := fun M0 I0 h => qV (X := X) (w0 := w0) (M0 := M0) (I0 := I0) (y := x) (k := kb 30 C) (by omega) (by omega) h
 have hkm := aRU (C := C) (k0 := 30) (m := kb 30 C) c2 (by omega)
 have hAp := fun M0 I0 h1 h2 => xL (X := X) (w0 := w0) (M0 := M0) (I0 := I0) (a := m.a) (x := x) (R := m.a.rows.length) (C := C) (k0 := 30) (m := kb 30 C) (by omega) hkm f.d.2.1 f.d.2.2 f.d.1 hxl h1 h2
 generalize C * (30 + kb 30 C + 1) = K2 at *
 repeat (refine aI ?_)
 (refine aA rfl (hLf _ _ aB aB) rfl rfl ?_; rintro _ _ _ ⟨rfl, rfl, rfl⟩; refine ⟨okF, ?_⟩)
 repeat (refine aI ?_)
 (refine aA rfl (hCk _ _ aB) rfl rfl ?_; rintro _ _ _ ⟨rfl, rfl, rfl⟩; refine ⟨okF, ?_⟩)
 repeat (refine aI ?_)
 (refine aA rfl (hSc _ _ aB) rfl rfl ?_; rintro _ _ _ ⟨rfl, rfl, rfl⟩; refine ⟨okF, ?_⟩)
 repeat (refine aI ?_)
 (refine aA rfl (hUn _ _ aB aB) rfl rfl ?_; rintro _ _ _ ⟨rfl, rfl, rfl⟩; refine ⟨okF, ?_⟩)
 repeat (refine aI ?_)
 (refine aA rfl (hV _ _ aB) rfl rfl ?_; rintro _ _ _ ⟨rfl, rfl, rfl⟩; refine ⟨okF, ?_⟩)
 repeat (refine aI ?_)
 (refine aA rfl (hAp _ _ aB aB) rfl rfl ?_; rintro _ _ _ ⟨rfl, d, rfl, hdq, rfl⟩; refine ⟨okF, ?_⟩)
 have hdq' : d.q = apL m.a.rows.length C m.a.q x.q := hdq
 have hdl : d.es.length = m.a.rows.length := by have := congrArg List.length hdq'; rw [yB, List.length_map] at this; exact this
 have hdt : ∀ t : Nat, t < m.a.rows.length → (gt d.es (t : Int)).q = oO m.a.q C t (fun j => x.q.getD j 0) := fun t ht => by
  have := congrArg (fun l => l.getD t 0) hdq'
  simp only [aWO ht] at this
  rw [← this]; exact (fA (by omega)).symm
 refine fD (φ := aV d.p (recs eR d.es)) (Hv.lsl aB) ?_
 repeat (refine aI ?_)
 refine aQ [1, 143, 144] rfl (fun k G M I => ∃ (i : Nat) (some_ : Bool), i ≤ m.a.rows.length ∧ k = m.a.rows.length - i ∧ (some_ = false → ∀ t : Nat, t < i → (gt d.es (t : Int)).q = 0) ∧ G = [(11, .bool some_), (145, .int .i64 i)] ∧ M0 = M ∧ I = aV d.p (recs eR d.es) :: jR d K2 :: aV (some ⟨b1, 0, none⟩) [mv m.a, lv m.l, lv m.p] :: I0) (m.a.rows.length) _ _ _ aR aG aD (⟨0, false, by omega, by omega, fun _ t ht => by omega, rfl, rfl, rfl⟩) ?_
 rintro kk G M I ⟨i, sm_, hi, rfl, hz, rfl, rfl, rfl⟩
 by_cases hin : i < m.a.rows.length
 ·have hSg := fun M0 I0 h => qK (X := X) (w0 := w0) (M0 := M0) (I0 := I0) (e := gt d.es (i : Int)) (k := K2) (by omega) h
  refine bQ (φ := eY (gt d.es (i : Int)) K2) (Hv.lel aB (by omega)) ?_
  by_cases e0 : (gt d.es (i : Int)).q = 0
  ·rw [(lH _).2 e0] at hSg
   repeat (refine aI ?_)
   (refine aN rfl rfl ?_; intro b3; refine ⟨okF, ?_⟩)
   repeat (refine aI ?_)
   (refine aA rfl (hSg _ _ (Hv.mem aB)) rfl rfl ?_; rintro _ _ _ ⟨rfl, rfl, rfl⟩; refine ⟨okF, ?_⟩)
   repeat (refine aI ?_)
   refine aL (m.a.rows.length - (i + 1)) _ _ _ (by first | omega | (simp only [List.length_append, List.length_cons, List.length_nil]; omega)) aR aG aD (⟨i + 1, sm_, by omega, rfl, fun h => kR (hz h) e0, rfl, rfl, rfl⟩)
  ·have hs1 : ¬ (gt d.es (i : Int)).q.num.sign = 0 := fun h => e0 ((lH _).1 h)
   generalize (gt d.es (i : Int)).q.num.sign = sg at *
   have hmem : (i : Int) ∈ set := Classical.byContradiction (fun hn => e0 (by rw [hdt i hin]; exact hxo i hin hn))
   have hCn := fun M0 I0 h => uE (X := X) (w0 := w0) (M0 := M0) (I0 := I0) (p := q) (l := set) (t := set.length) (c := c) (x := (i : Int)) rfl (by omega) h
   rw [aU hmem] at hCn
   repeat (refine aI ?_)
   (refine aN rfl rfl ?_; intro b3; refine ⟨okF, ?_⟩)
   repeat (refine aI ?_)
   (refine aA rfl (hSg _ _ (Hv.mem aB)) rfl rfl ?_; rintro _ _ _ ⟨rfl, rfl, rfl⟩; refine ⟨okF, ?_⟩)
   repeat (refine aI ?_)
   (refine aA rfl (hCn _ _ aB) rfl rfl ?_; rintro _ _ _ ⟨rfl, rfl, rfl⟩; refine ⟨okF, ?_⟩)
   repeat (refine aI ?_)
   refine aL (m.a.rows.length - (i + 1)) _ _ _ (by first | omega | (simp only [List.length_append, List.length_cons, List.length_nil]; omega)) aR aG aD (⟨i + 1, true, by omega, rfl, fun h => (by cases h), rfl, rfl, rfl⟩)
 ·have hst : sm_ = true := by
   cases sm_ with
   | true => rfl
   | false => exact absurd (by rw [← hdt t0 ht0]; exact hz rfl t0 (by omega)) hxn
  subst hst
  repeat (refine aI ?_)
  refine aC (by first | exact .inl rfl | exact .inr rfl) rfl rfl _ _ aG aD (⟨rfl, rfl, rfl⟩)
theorem aVA {m : LW} {set : List Int} {q : Option Addr} {c : Nat} (hR : m.rch) (hl : (set.length : Int) ≤ 9223372036854775807) (hm : iZ m ∈ I0) (hq : aV q (recs (eI .i64) set) ∈ I0) :
  CD Tryz.prog 12 [vLW m, .slice q set.length c] X w0 M0 I0 (fun v M I => M0 = M ∧ I0 = I ∧ v = .bool true) := by
 by_cases hn : m.few 7 5 ∧ set.length ≤ 12
 ·obtain ⟨fw, h12⟩ := hn
  by_cases hc : m.code = 0
  ·refine iW (φ := (∀ r ∈ m.a.rows, ∀ e ∈ r.es, e.Fit) ∧ (∀ e ∈ m.l.es, e.Fit) ∧ ∀ e ∈ m.p.es, e.Fit) (fun w hw => Mem.fitLW hm hw) (fun hf => ?_)
   obtain ⟨n, R, C, rfl, f, _, _⟩ := LW.num hf hc
   rw [rG]
   refine nC (φ := iX n 30) (Hv.few fw hm) ?_
   have hm' := List.Mem.tail (iX n 30) hm
   have hq' := List.Mem.tail (iX n 30) hq
   by_cases hs : kQ R set = 0
   ·by_cases h0 : set.length = 0
    ·exact aRG hR h12 f (aBQ f fw) hm' (List.Mem.head _) hq' fw hs h0
    ·by_cases hu : und R C n.a.q set
     ·exact aPZ hR h12 f (aBQ f fw) hm' (List.Mem.head _) hq' fw hs h0 hu
     ·exact aRX hR h12 f (aBQ f fw) hm' (List.Mem.head _) hq' fw hs h0 hu
   ·exact aQZ hR h12 f (aBQ f fw) hm' (List.Mem.head _) hq' fw hs
  ·exact aMW hR h12 hm fw hc
 ·exact aUY hR hl hm hn
end
end Go.Proofs.YtgeagiikkeiioaaGreat
