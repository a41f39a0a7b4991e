/- The law ControlledChecks. Models and controls opened, with sizes. -/
import Derived.Test.YtgeagiikkeiioaaGreatZebl
import Derived.Test.YtgeagiikkeiioaaGreatZebp
import Derived.Test.YtgeagiikkeiioaaGreatZeaw
import Derived.Test.YtgeagiikkeiioaaGreatZebi
set_option linter.unusedSimpArgs false
set_option linter.unusedVariables false
set_option maxRecDepth 100000
set_option maxHeartbeats 4000000
namespace Go.Proofs.YtgeagiikkeiioaaGreat
open Go Go.Fx
section
variable {X : List Nat} {w0 : World} {M0 : List Ent} {I0 : List bD}
theorem kX {m : LE} (hR : m.raw.rch) (fw : m.raw.few 7 5) (hm : iZ m.raw ∈ I0) : CD Tryz.prog 38 [uN m] X w0 M0 I0 (fun v M I => M0 = M ∧ I0 = I ∧ v = .bool true) := by
 have := nU (X := X) (w0 := w0) (M0 := M0) (I0 := I0) hR hm
 rwa [aU fw, rG] at this
theorem gH {m : LE} {R C : Nat} (fw : m.raw.few 7 5) (f : m.fit R C) (hm : iZ m.raw ∈ I0) : CD Tryz.prog 39 [uN m] X w0 M0 I0 (fun v M I => M0 = M ∧ I0 = I ∧ v = .int .i64 0) := by
 have := mF (X := X) (w0 := w0) (M0 := M0) (I0 := I0) (fw.sml (by omega)) hm
 rwa [f.code, rG] at this
theorem aQG {m : LW} {y : WL} {ct : Bool} {i : Int} (hR : m.rch) (hyr : y.rch) (hm : iZ m ∈ I0) (hy : fT y ∈ I0) (hn : ¬ (m.few 7 5 ∧ y.shN 10 8)) :
  CD Tryz.prog 6 [vLW m, .int .i64 i, .agg #[.bool ct, rZ y]] X w0 M0 I0 (fun v M I => M0 = M ∧ I0 = I ∧ v = .bool true) := by
 have hKn := fun M0 I0 => eU (X := X) (w0 := w0) (M0 := M0) (I0 := I0)
 have hF := fun M0 I0 h => nU (X := X) (w0 := w0) (M0 := M0) (I0 := I0) hR h
 have hS := fun M0 I0 h => pR (X := X) (w0 := w0) (M0 := M0) (I0 := I0) (r := y) (n := 10) (g := 8) (by omega) hyr h
 refine eQ Tryz.func6 rfl Tryz.ntmps6 rfl ?_
 refine aJ ?_
 refine aH ?_
 (refine aM rfl rfl rfl ?_; intro b1; refine ⟨okF, ?_⟩)
 refine aF .here ?_
 (refine aM rfl rfl rfl ?_; intro b2; refine ⟨okF, ?_⟩)
 refine aF .here ?_
 repeat (refine aI ?_)
 (refine aA rfl (hKn _ _) rfl rfl ?_; rintro _ _ _ ⟨rfl, rfl, rfl⟩; refine ⟨okF, ?_⟩)
 by_cases fw : m.few 7 5
 ·rw [aU fw] at hF
  rw [aP (show ¬ y.shN 10 8 from fun h => hn ⟨fw, h⟩)] at hS
  repeat (refine aI ?_)
  (refine aA rfl (hF _ _ aB) rfl rfl ?_; rintro _ _ _ ⟨rfl, rfl, rfl⟩; refine ⟨okF, ?_⟩)
  repeat (refine aI ?_)
  (refine aA rfl (hS _ _ aB) rfl rfl ?_; rintro _ _ _ ⟨rfl, rfl, rfl⟩; refine ⟨okF, ?_⟩)
  repeat (refine aI ?_)
  refine aC (by first | exact .inl rfl | exact .inr rfl) rfl rfl _ _ aG aD (⟨rfl, rfl, rfl⟩)
 ·rw [aP fw] at hF
  repeat (refine aI ?_)
  (refine aA rfl (hF _ _ aB) rfl rfl ?_; rintro _ _ _ ⟨rfl, rfl, rfl⟩; refine ⟨okF, ?_⟩)
  repeat (refine aI ?_)
  refine aC (by first | exact .inl rfl | exact .inr rfl) rfl rfl _ _ aG aD (⟨rfl, rfl, rfl⟩)
theorem aQS {m : LW} {y : WL} {ct : Bool} {i : Int} (hR : m.rch) (hyr : y.rch) (hm : iZ m ∈ I0) (hy : fT y ∈ I0) (fw : m.few 7 5) (ys : y.shN 10 8) (hc : m.code ≠ 0) :
  CD Tryz.prog 6 [vLW m, .int .i64 i, .agg #[.bool ct, rZ y]] X w0 M0 I0 (fun v M I => M0 = M ∧ I0 = I ∧ v = .bool true) := by
 have hKn := fun M0 I0 => eU (X := X) (w0 := w0) (M0 := M0) (I0 := I0)
 have hF := fun M0 I0 h => nU (X := X) (w0 := w0) (M0 := M0) (I0 := I0) hR h
 have hS := fun M0 I0 h => pR (X := X) (w0 := w0) (M0 := M0) (I0 := I0) (r := y) (n := 10) (g := 8) (by omega) hyr h
 rw [aU fw] at hF
 rw [aU ys] at hS
 have hCk := fun M0 I0 h => mF (X := X) (w0 := w0) (M0 := M0) (I0 := I0) (fw.sml (by omega)) h
 have hCc := fun M0 I0 h => aGM (X := X) (w0 := w0) (M0 := M0) (I0 := I0) (ct := ct) (y := y) (i := i) (fw.sml (by omega)) hc h
 generalize m.code = co at *
 refine eQ Tryz.func6 rfl Tryz.ntmps6 rfl ?_
 refine aJ ?_
 refine aH ?_
 (refine aM rfl rfl rfl ?_; intro b1; refine ⟨okF, ?_⟩)
 refine aF .here ?_
 (refine aM rfl rfl rfl ?_; intro b2; refine ⟨okF, ?_⟩)
 refine aF .here ?_
 repeat (refine aI ?_)
 (refine aA rfl (hKn _ _) rfl rfl ?_; rintro _ _ _ ⟨rfl, rfl, rfl⟩; refine ⟨okF, ?_⟩)
 repeat (refine aI ?_)
 (refine aA rfl (hF _ _ aB) rfl rfl ?_; rintro _ _ _ ⟨rfl, rfl, rfl⟩; refine ⟨okF, ?_⟩)
 repeat (refine aI ?_)
 (refine aA rfl (hS _ _ aB) rfl rfl ?_; rintro _ _ _ ⟨rfl, rfl, rfl⟩; refine ⟨okF, ?_⟩)
 repeat (refine aI ?_)
 (refine aA rfl (hCk _ _ aB) rfl rfl ?_; rintro _ _ _ ⟨rfl, rfl, rfl⟩; refine ⟨okF, ?_⟩)
 repeat (refine aI ?_)
 (refine aA rfl (hCc _ _ aB) rfl rfl ?_; rintro _ _ _ ⟨rfl, rfl, rfl⟩; refine ⟨okF, ?_⟩)
 repeat (refine aI ?_)
 refine aC (by first | exact .inl rfl | exact .inr rfl) rfl rfl _ _ aG aD (⟨rfl, rfl, congrArg Value.bool (aU rfl)⟩)
theorem aPX {m : LE} {R C : Nat} {y : WL} {ct : Bool} {i : Int} (hR : m.raw.rch) (hyr : y.rch) (f : m.fit R C) (hm : iZ m.raw ∈ I0) (h : iX m 30 ∈ I0) (hy : fT y ∈ I0) (fw : m.raw.few 7 5) (ys : y.shN 10 8) (hg : ¬ y.good) :
  CD Tryz.prog 6 [uN m, .int .i64 i, .agg #[.bool ct, rZ y]] X w0 M0 I0 (fun v M I => M0 = M ∧ I0 = I ∧ v = .bool true) := by
 have hKn := fun M0 I0 => eU (X := X) (w0 := w0) (M0 := M0) (I0 := I0)
 have hF := fun M0 I0 h => kX (X := X) (w0 := w0) (M0 := M0) (I0 := I0) hR fw h
 have hS := fun M0 I0 h => pR (X := X) (w0 := w0) (M0 := M0) (I0 := I0) (r := y) (n := 10) (g := 8) (by omega) hyr h
 rw [aU ys] at hS
 have hCk := fun M0 I0 h => gH (X := X) (w0 := w0) (M0 := M0) (I0 := I0) fw f h
 have hV := fun M0 I0 h => oU (X := X) (w0 := w0) (M0 := M0) (I0 := I0) (r := y) (ys.sml (by omega)) h
 rw [aP hg] at hV
 have hCc := fun M0 I0 h h2 => aGL (X := X) (w0 := w0) (M0 := M0) (I0 := I0) (ct := ct) (y := y) (i := i) (k := 30) (by omega) f h (ys.sml (by omega)) h2 hg
 refine eQ Tryz.func6 rfl Tryz.ntmps6 rfl ?_
 refine aJ ?_
 refine aH ?_
 (refine aM rfl rfl rfl ?_; intro b1; refine ⟨okF, ?_⟩)
 refine aF .here ?_
 (refine aM rfl rfl rfl ?_; intro b2; refine ⟨okF, ?_⟩)
 refine aF .here ?_
 repeat (refine aI ?_)
 (refine aA rfl (hKn _ _) rfl rfl ?_; rintro _ _ _ ⟨rfl, rfl, rfl⟩; refine ⟨okF, ?_⟩)
 repeat (refine aI ?_)
 (refine aA rfl (hF _ _ aB) rfl rfl ?_; rintro _ _ _ ⟨rfl, rfl, rfl⟩; refine ⟨okF, ?_⟩)
 repeat (refine aI ?_)
 (refine aA rfl (hS _ _ aB) rfl rfl ?_; rintro _ _ _ ⟨rfl, rfl, rfl⟩; refine ⟨okF, ?_⟩)
 repeat (refine aI ?_)
 (refine aA rfl (hCk _ _ aB) rfl rfl ?_; rintro _ _ _ ⟨rfl, rfl, rfl⟩; refine ⟨okF, ?_⟩)
 repeat (refine aI ?_)
 (refine aA rfl (hV _ _ aB) rfl rfl ?_; rintro _ _ _ ⟨rfl, rfl, rfl⟩; refine ⟨okF, ?_⟩)
 repeat (refine aI ?_)
 (refine aA rfl (hCc _ _ aB aB) rfl rfl ?_; rintro _ _ _ ⟨rfl, rfl, rfl⟩; refine ⟨okF, ?_⟩)
 repeat (refine aI ?_)
 refine aC (by first | exact .inl rfl | exact .inr rfl) rfl rfl _ _ aG aD (⟨rfl, rfl, congrArg Value.bool (aU rfl)⟩)
theorem aRR {m : LE} {R C : Nat} {y : RL} {ct : Bool} {i : Int} (hi : -9223372036854775808 ≤ i ∧ i ≤ 9223372036854775807) (hR : m.raw.rch) (hyr : y.raw.rch) (f : m.fit R C) (hm : iZ m.raw ∈ I0) (h : iX m 30 ∈ I0) (hy : fT y.raw ∈ I0) (hyn : jR y 240 ∈ I0) (fw : m.raw.few 7 5) (ys : y.raw.shN 10 8) :
  CD Tryz.prog 6 [uN m, .int .i64 i, .agg #[.bool ct, lv y]] X w0 M0 I0 (fun v M I => M0 = M ∧ I0 = I ∧ v = .bool true) := by
 have hyl : y.es.length ≤ 10 := by have := ys.1; rw [show y.raw.es.length = y.es.length from by show (y.es.map RE.raw).length = _; rw [List.length_map]] at this; exact this
 have hKn := fun M0 I0 => eU (X := X) (w0 := w0) (M0 := M0) (I0 := I0)
 have hF := fun M0 I0 h => kX (X := X) (w0 := w0) (M0 := M0) (I0 := I0) hR fw h
 have hS := fun M0 I0 h => pR (X := X) (w0 := w0) (M0 := M0) (I0 := I0) (r := y.raw) (n := 10) (g := 8) (by omega) hyr h
 rw [aU ys, tY] at hS
 have hCk := fun M0 I0 h => gH (X := X) (w0 := w0) (M0 := M0) (I0 := I0) fw f h
 have hV := fun M0 I0 h => qV (X := X) (w0 := w0) (M0 := M0) (I0 := I0) (y := y) (k := 240) (by omega) (by omega) h
 have hIn := fun M0 I0 => aAN (X := X) (w0 := w0) (M0 := M0) (I0 := I0) (a := mv m.a) (l := lv m.l) (p := lv m.p) (q := m.a.p) (n := m.a.rows.length) (c := m.a.c) (i := i) rfl
 rw [f.d.1.1] at hIn
 refine eQ Tryz.func6 rfl Tryz.ntmps6 rfl ?_
 refine aJ ?_
 refine aH ?_
 (refine aM rfl rfl rfl ?_; intro b1; refine ⟨okF, ?_⟩)
 refine aF .here ?_
 (refine aM rfl rfl rfl ?_; intro b2; refine ⟨okF, ?_⟩)
 refine aF .here ?_
 repeat (refine aI ?_)
 (refine aA rfl (hKn _ _) rfl rfl ?_; rintro _ _ _ ⟨rfl, rfl, rfl⟩; refine ⟨okF, ?_⟩)
 repeat (refine aI ?_)
 (refine aA rfl (hF _ _ aB) rfl rfl ?_; rintro _ _ _ ⟨rfl, rfl, rfl⟩; refine ⟨okF, ?_⟩)
 repeat (refine aI ?_)
 (refine aA rfl (hS _ _ aB) rfl rfl ?_; rintro _ _ _ ⟨rfl, rfl, rfl⟩; refine ⟨okF, ?_⟩)
 repeat (refine aI ?_)
 (refine aA rfl (hCk _ _ aB) rfl rfl ?_; rintro _ _ _ ⟨rfl, rfl, rfl⟩; refine ⟨okF, ?_⟩)
 repeat (refine aI ?_)
 (refine aA rfl (hV _ _ aB) rfl rfl ?_; rintro _ _ _ ⟨rfl, rfl, rfl⟩; refine ⟨okF, ?_⟩)
 by_cases hin : 0 ≤ i ∧ i < R
 ·rw [aU hin] at hIn
  obtain ⟨t, rfl⟩ : ∃ t : Nat, i = t := ⟨i.toNat, by omega⟩
  have ht : t < R := by omega
  cases ct with
  | true =>
   have hP := fun M0 I0 h1 h2 => aJC (X := X) (w0 := w0) (M0 := M0) (I0 := I0) (m := m) (y := y) (k := 30) (n := 240) (by omega) ht f h1 (by omega) h2
   have hC := fun M0 I0 h1 h2 => zZ (X := X) (w0 := w0) (M0 := M0) (I0 := I0) (m := m) (y := y) (k := 30) (n := 240) (by omega) (by omega) ht f h1 (by omega) h2
   by_cases e : prvP R C m.a.q t true y.q
   ·rw [aU e] at hP
    simp only [if_pos e] at hC
    repeat (refine aI ?_)
    (refine aA rfl (hIn _ _) rfl rfl ?_; rintro _ _ _ ⟨rfl, rfl, rfl⟩; refine ⟨okF, ?_⟩)
    repeat (refine aI ?_)
    (refine aA rfl (hP _ _ aB aB) rfl rfl ?_; rintro _ _ _ ⟨rfl, rfl, rfl⟩; refine ⟨okF, ?_⟩)
    repeat (refine aI ?_)
    (refine aA rfl (hC _ _ aB aB) rfl rfl ?_; rintro _ _ _ ⟨rfl, rfl, rfl⟩; refine ⟨okF, ?_⟩)
    repeat (refine aI ?_)
    refine aC (by first | exact .inl rfl | exact .inr rfl) rfl rfl _ _ aG aD (⟨rfl, rfl, congrArg Value.bool (aU rfl)⟩)
   ·rw [aP e] at hP
    simp only [if_neg e] at hC
    repeat (refine aI ?_)
    (refine aA rfl (hIn _ _) rfl rfl ?_; rintro _ _ _ ⟨rfl, rfl, rfl⟩; refine ⟨okF, ?_⟩)
    repeat (refine aI ?_)
    (refine aA rfl (hP _ _ aB aB) rfl rfl ?_; rintro _ _ _ ⟨rfl, rfl, rfl⟩; refine ⟨okF, ?_⟩)
    repeat (refine aI ?_)
    (refine aA rfl (hC _ _ aB aB) rfl rfl ?_; rintro _ _ _ ⟨rfl, rfl, rfl⟩; refine ⟨okF, ?_⟩)
    repeat (refine aI ?_)
    refine aC (by first | exact .inl rfl | exact .inr rfl) rfl rfl _ _ aG aD (⟨rfl, rfl, congrArg Value.bool (aU rfl)⟩)
  | false =>
   have hP := fun M0 I0 h1 h2 => aJA (X := X) (w0 := w0) (M0 := M0) (I0 := I0) (m := m) (y := y) (k := 30) (n := 240) (by omega) ht f h1 (by omega) h2
   have hC := fun M0 I0 h1 h2 => aNV (X := X) (w0 := w0) (M0 := M0) (I0 := I0) (m := m) (y := y) (k := 30) (n := 240) (by omega) (by omega) ht f h1 (by omega) h2
   by_cases e : prvP R C m.a.q t false y.q
   ·rw [aU e] at hP
    simp only [if_pos e] at hC
    repeat (refine aI ?_)
    (refine aA rfl (hIn _ _) rfl rfl ?_; rintro _ _ _ ⟨rfl, rfl, rfl⟩; refine ⟨okF, ?_⟩)
    repeat (refine aI ?_)
    (refine aA rfl (hP _ _ aB aB) rfl rfl ?_; rintro _ _ _ ⟨rfl, rfl, rfl⟩; refine ⟨okF, ?_⟩)
    repeat (refine aI ?_)
    (refine aA rfl (hC _ _ aB aB) rfl rfl ?_; rintro _ _ _ ⟨rfl, rfl, rfl⟩; refine ⟨okF, ?_⟩)
    repeat (refine aI ?_)
    refine aC (by first | exact .inl rfl | exact .inr rfl) rfl rfl _ _ aG aD (⟨rfl, rfl, congrArg Value.bool (aU rfl)⟩)
   ·rw [aP e] at hP
    simp only [if_neg e] at hC
    repeat (refine aI ?_)
    (refine aA rfl (hIn _ _) rfl rfl ?_; rintro _ _ _ ⟨rfl, rfl, rfl⟩; refine ⟨okF, ?_⟩)
    repeat (refine aI ?_)
    (refine aA rfl (hP _ _ aB aB) rfl rfl ?_; rintro _ _ _ ⟨rfl, rfl, rfl⟩; refine ⟨okF, ?_⟩)
    repeat (refine aI ?_)
    (refine aA rfl (hC _ _ aB aB) rfl rfl ?_; rintro _ _ _ ⟨rfl, rfl, rfl⟩; refine ⟨okF, ?_⟩)
    repeat (refine aI ?_)
    refine aC (by first | exact .inl rfl | exact .inr rfl) rfl rfl _ _ aG aD (⟨rfl, rfl, congrArg Value.bool (aU rfl)⟩)
 ·rw [aP hin] at hIn
  have hC := fun M0 I0 h1 h2 => aGP (X := X) (w0 := w0) (M0 := M0) (I0 := I0) (ct := ct) (m := m) (y := y) (i := i) (k := 30) (n := 240) hi (by omega) (by omega) f h1 (by omega) h2 hin
  repeat (refine aI ?_)
  (refine aA rfl (hIn _ _) rfl rfl ?_; rintro _ _ _ ⟨rfl, rfl, rfl⟩; refine ⟨okF, ?_⟩)
  repeat (refine aI ?_)
  (refine aA rfl (hC _ _ aB aB) rfl rfl ?_; rintro _ _ _ ⟨rfl, rfl, rfl⟩; refine ⟨okF, ?_⟩)
  repeat (refine aI ?_)
  refine aC (by first | exact .inl rfl | exact .inr rfl) rfl rfl _ _ aG aD (⟨rfl, rfl, congrArg Value.bool (aU rfl)⟩)
theorem aUU {m : LW} {y : WL} {ct : Bool} {i : Int} (hi : -9223372036854775808 ≤ i ∧ i ≤ 9223372036854775807) (hR : m.rch) (hyr : y.rch) (hm : iZ m ∈ I0) (hy : fT y ∈ I0) :
  CD Tryz.prog 6 [vLW m, .int .i64 i, .agg #[.bool ct, rZ y]] X w0 M0 I0 (fun v M I => M0 = M ∧ I0 = I ∧ v = .bool true) := by
 by_cases hn : m.few 7 5 ∧ y.shN 10 8
 ·obtain ⟨fw, ys⟩ := hn
  by_cases hc : m.code = 0
  ·refine iW (φ := ((∀ r ∈ m.a.rows, ∀ e ∈ r.es, e.Fit) ∧ (∀ e ∈ m.l.es, e.Fit) ∧ ∀ e ∈ m.p.es, e.Fit) ∧ ∀ e ∈ y.es, e.Fit) (fun w hw => ⟨Mem.fitLW hm hw, Mem.fitL hy hw⟩) (fun hf => ?_)
   obtain ⟨n, R, C, rfl, f, _, _⟩ := LW.num hf.1 hc
   rw [rG]
   refine nC (φ := iX n 30) (Hv.few fw hm) ?_
   by_cases yg : y.good
   ·obtain ⟨Y, rfl, _⟩ := zF hf.2 yg
    rw [tY]
    refine nC (φ := jR Y 240) (Hv.shL rfl ys (List.Mem.tail _ hy)) ?_
    exact aRR hi hR hyr f (List.Mem.tail _ (List.Mem.tail _ hm)) (List.Mem.tail _ (List.Mem.head _)) (List.Mem.tail _ (List.Mem.tail _ hy)) (List.Mem.head _) fw ys
   ·exact aPX hR hyr f (List.Mem.tail _ hm) (List.Mem.head _) (List.Mem.tail _ hy) fw ys yg
  ·exact aQS hR hyr hm hy fw ys hc
 ·exact aQG hR hyr hm hy hn
end
end Go.Proofs.YtgeagiikkeiioaaGreat
namespace Go.Proofs.YtgeagiikkeiioaaGreat
open Go Go.Fx
open Go.ChangeShapes Go.WideShapes Go.RowKit Go.ChangeAt
section
variable {H : Type} {enc : TypeId × Value → H} {P : Program} {W : World}
theorem aQD {tr t0 t1 t2 : TypeId} {fr : Array Field} {m k l n : Nat} {cs : List Value} {y : DataW H × List MemPlace} (hr : P.underlying tr = some (.struct fr)) (hfr : fr.toList.map (fun f => (f.offset, f.type)) = [(0, t0), (m, t1), (m + k, t2)]) (cm : P.cellsOf t0 = m) (ck : P.cellsOf t1 = k) (cl : P.cellsOf t2 = l) (c5 : P.cellsOf tr = m + k + l) (h : DataW.trod enc P W 0 (fun _ => true) true n tr cs = some y) (hw : ∀ z ∈ y.1.weights P tr, z ≤ reachBytes) :
  cs.length = m + k + l ∧ ∃ n' z0 z1 z2, DataW.trod enc P W 0 (fun _ => true) true n' t0 (cs.take m) = some z0 ∧ DataW.trod enc P W 0 (fun _ => true) true n' t1 ((cs.drop m).take k) = some z1 ∧ DataW.trod enc P W 0 (fun _ => true) true n' t2 (cs.drop (m + k)) = some z2 ∧ (∀ z ∈ z0.1.weights P t0, z ≤ reachBytes) ∧ (∀ z ∈ z1.1.weights P t1, z ≤ reachBytes) ∧ (∀ z ∈ z2.1.weights P t2, z ≤ reachBytes) := by
 obtain ⟨zs, n', rfl, rfl, hl, hzl, hz⟩ := DataW.trod_struct hr h
 have hsz : fr.toList.length = 3 := by have := congrArg List.length hfr; simpa using this
 obtain ⟨f0, f1, f2, hfs⟩ : ∃ f0 f1 f2, fr.toList = [f0, f1, f2] := by
  match hh : fr.toList, hsz with
  | [a, b, c], _ => exact ⟨a, b, c, rfl⟩
 rw [hfs] at hfr
 simp only [List.map_cons, List.map_nil, List.cons.injEq, Prod.mk.injEq, and_true] at hfr
 obtain ⟨⟨o0, e0⟩, ⟨o1, e1⟩, o2, e2⟩ := hfr
 rw [c5] at hl
 have hg0 : fr[0]? = some f0 := by rw [← Array.getElem?_toList, hfs]; rfl
 have hg1 : fr[1]? = some f1 := by rw [← Array.getElem?_toList, hfs]; rfl
 have hg2 : fr[2]? = some f2 := by rw [← Array.getElem?_toList, hfs]; rfl
 have h0 := hz 0 f0 hg0
 have h1 := hz 1 f1 hg1
 have h2 := hz 2 f2 hg2
 rw [o0, e0, cm] at h0
 rw [o1, e1, ck] at h1
 rw [o2, e2, cl] at h2
 have hz2 : zs.length = 3 := by rw [hzl]; simpa using hsz
 obtain ⟨z0, z1, z2, rfl⟩ : ∃ z0 z1 z2, zs = [z0, z1, z2] := by
  match zs, hz2 with
  | [a, b, c], _ => exact ⟨a, b, c, rfl⟩
 simp only [List.drop_zero, List.getElem?_cons_zero, List.getElem?_cons_succ] at h0 h1 h2
 rw [List.take_of_length_le (l := cs.drop (m + k)) (by simp; omega)] at h2
 have hww : ∀ x ∈ DataW.weights P t0 z0.1 ++ (DataW.weights P t1 z1.1 ++ DataW.weights P t2 z2.1), x ≤ reachBytes := fun x hx => hw x (by simp [DataW.weights, hr, hfs, DataW.weightsEach, e0, e1, e2]; simpa using hx)
 exact ⟨hl, n', z0, z1, z2, h0, h1, h2, fun x hx => hww x (List.mem_append.2 (.inl hx)), fun x hx => hww x (List.mem_append.2 (.inr (List.mem_append.2 (.inl hx)))), fun x hx => hww x (List.mem_append.2 (.inr (List.mem_append.2 (.inr hx))))⟩
end
section
variable {H : Type} {enc : TypeId × Value → H} {W : World}
theorem uQ {base : Nat} {v : Value} {d : DataW H} {p : List MemPlace} (hv : Value.okWide Tryz.prog W .any base 68 v) (h : DataW.Trod enc Tryz.prog W 0 (fun _ => true) true 68 v d p) (hw : ∀ x ∈ d.weights Tryz.prog 68, x ≤ reachBytes) :
  ∃ m : LW, v = vLW m ∧ IsLW m [] W ∧ m.rch := by
 simp only [Value.okWide, Tryz.underlying68] at hv
 obtain ⟨cs, rfl, hsz, hrow⟩ := hv
 obtain ⟨fuel, hf⟩ := h
 obtain ⟨hl, n', z0, z1, z2, h0, h1, h2, hw0, hw1, hw2⟩ := aQD (t0 := 29) (t1 := 34) (t2 := 34) (m := 1) (k := 1) (l := 1) Tryz.underlying68 (by rfl) (by kernel_rfl) (by kernel_rfl) (by kernel_rfl) (by kernel_rfl) (show DataW.trod enc Tryz.prog W 0 (fun _ => true) true fuel 68 cs.toList = some (d, p) from hf) hw
 obtain ⟨a, e0, i0, r0⟩ := aHS h0 hw0
 obtain ⟨l, e1, i1, r1⟩ := vV h1 hw1
 obtain ⟨q, e2, i2, r2⟩ := vV h2 hw2
 refine ⟨⟨a, l, q⟩, ?_, ⟨i0, i1, i2⟩, r0, r1, r2⟩
 have e : cs.toList = [mvW a, rZ l, rZ q] := by
  rw [← List.take_append_drop 1 cs.toList, e0]
  have : cs.toList.drop 1 = [rZ l, rZ q] := by
   rw [← List.take_append_drop 1 (cs.toList.drop 1), e1, List.drop_drop, e2]; rfl
  rw [this]; rfl
 rw [show cs = cs.toList.toArray by simp, e]
theorem aNP {base : Nat} {v : Value} {d : DataW H} {p : List MemPlace} (hv : Value.okWide Tryz.prog W .any base 70 v) (h : DataW.Trod enc Tryz.prog W 0 (fun _ => true) true 70 v d p) (hw : ∀ x ∈ d.weights Tryz.prog 70, x ≤ reachBytes) :
  ∃ (ct : Bool) (y : WL), v = .agg #[.bool ct, rZ y] ∧ IsWL y [] W ∧ y.rch := by
 simp only [Value.okWide, Tryz.underlying70] at hv
 obtain ⟨cs, rfl, hsz, hrow⟩ := hv
 obtain ⟨fuel, hf⟩ := h
 obtain ⟨hl, n', z0, z1, h0, h1, hw0, hw1⟩ := aCT (t0 := 4) (t1 := 34) (m := 1) (k := 1) Tryz.underlying70 (by rfl) (by kernel_rfl) (by kernel_rfl) (by kernel_rfl) (show DataW.trod enc Tryz.prog W 0 (fun _ => true) true fuel 70 cs.toList = some (d, p) from hf) hw
 obtain ⟨ct, e0, _⟩ := DataW.trod_bool Tryz.underlying4 h0
 obtain ⟨y, e1, i1, r1⟩ := vV h1 hw1
 refine ⟨ct, y, ?_, i1, r1⟩
 have e : cs.toList = [.bool ct, rZ y] := by
  rw [← List.take_append_drop 1 cs.toList, e0, e1]; rfl
 rw [show cs = cs.toList.toArray by simp, e]
end
end Go.Proofs.YtgeagiikkeiioaaGreat
