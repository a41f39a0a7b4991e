/- Models of numbers: few; the program's one, zero, canonical, combined, prove, Controlled. controlled: combined, prove, Controlled. controlled: exists, Check; the law's unit, inside, annuls, proves. Chapter 42's law: unit, inside, annuls, proves; the walk of ControlledChecks. -/
import Derived.Test.YtgeagiikkeiioaaGreatZgbi
import Derived.Test.YtgeagiikkeiioaaGreatZgbj
import Derived.Test.YtgeagiikkeiioaaGreatZgbg
import Derived.Test.YtgeagiikkeiioaaGreatZgaw
import Derived.Test.YtgeagiikkeiioaaGreatZgbh
set_option linter.unusedSimpArgs false
set_option linter.unusedVariables false
set_option maxRecDepth 100000
set_option maxHeartbeats 4000000
namespace Go.Proofs.YtgeagiikkeiioaaGreat
open Go Go.Fx
theorem aFV {q : Rat} : 0 < q.num ↔ 0 < q := by
 have h1 : 0 ≤ q.num ↔ 0 ≤ q := Rat.num_nonneg
 have h2 : q.num = 0 ↔ q = 0 := Rat.num_eq_zero
 constructor
 ·intro h
  have a := h1.1 (by omega)
  have b : q ≠ 0 := fun e => by have := h2.2 e; omega
  grind
 ·intro h
  have a := h1.2 (by grind)
  have b : q.num ≠ 0 := fun e => by have := h2.1 e; grind
  omega
def LW.few (m : LW) (R C : Nat) : Prop := (m.a.rows.length ≤ R ∧ m.l.shN R 6 ∧ m.p.shN R 6) ∧ ∀ r ∈ m.a.rows, r.shN C 6
instance LW.decFew (m : LW) (R C : Nat) : Decidable (m.few R C) := by unfold LW.few; exact inferInstance
structure LE where
 a : MX
 l : RL
 p : RL
abbrev vLE (m : LE) : Value := .agg #[mv m.a, lv m.l, lv m.p]
def LE.raw (m : LE) : LW := ⟨m.a.raw, m.l.raw, m.p.raw⟩
theorem zX (m : LE) : vLW m.raw = vLE m := by
 show Value.agg #[mvW m.a.raw, vD m.l.raw, vD m.p.raw] = _
 rw [aBX, xX, xX]
structure IsLE (m : LE) (k : Nat) (X : List Nat) (w : World) : Prop where
 a : IsX m.a k X w
 l : IsL m.l k X w
 p : IsL m.p k X w
abbrev mW (m : LE) (k : Nat) : bA := IsLE m k
instance LE.gd (m : LE) (k : Nat) : Fx.Good (IsLE m k) := ⟨fun X Y w w' h he hY => ⟨Fx.Good.go (φ := IsX _ _) X Y w w' h.a he hY, Fx.Good.go (φ := IsL _ _) X Y w w' h.l he hY, Fx.Good.go (φ := IsL _ _) X Y w w' h.p he hY⟩⟩
theorem Hv.lea {I : List bA} {m : LE} {k : Nat} (h : mW m k ∈ I) : Hv I (gD m.a k) := ⟨fun X w hw => (hw _ h : IsLE m k X w).a⟩
theorem Hv.lel' {I : List bA} {m : LE} {k : Nat} (h : mW m k ∈ I) : Hv I (jP m.l k) := ⟨fun X w hw => (hw _ h : IsLE m k X w).l⟩
theorem Hv.lep {I : List bA} {m : LE} {k : Nat} (h : mW m k ∈ I) : Hv I (jP m.p k) := ⟨fun X w hw => (hw _ h : IsLE m k X w).p⟩
theorem Hv.leraw {I : List bA} {m : LE} {k : Nat} (h : mW m k ∈ I) (hk : k ≤ 20000000000) : Hv I (sP m.raw) := ⟨fun X w hw => by
 have := (hw _ h : IsLE m k X w)
 exact ⟨IsX.raw (by omega) this.a, IsL.raw (by omega) this.l, IsL.raw (by omega) this.p⟩⟩
structure LE.fit (m : LE) (R C : Nat) : Prop where
 d : m.a.fit R C
 c : C ≤ 24
 l : m.l.es.length = R
 p : m.p.es.length = R
 pos : ∀ e ∈ m.p.es, 0 < e.q
theorem LE.fit.code {m : LE} {R C : Nat} (h : m.fit R C) : m.raw.code = 0 := by
 have hok := h.d.ok
 have hR : m.a.raw.rows.length = R := by rw [MX.raw_rows]; exact h.d.1.1
 have hC : (gt m.a.raw.rows 0).es.length = C := MX.raw_c0 h.d
 refine LW.code_0 ⟨fun r hr => (hok.2 r hr).2, RL.raw_good _, RL.raw_good _⟩ ⟨⟨hok.1.1, hok.1.2.1⟩, hok.1.2.2.1, ?_⟩ ⟨fun r hr => (hok.2 r hr).1, ?_, ?_⟩ (fun e he => ?_)
 ·show (gt m.a.raw.rows 0).es.length ≤ 24; have := h.c; omega
 ·show (m.l.es.map RE.raw).length = m.a.raw.rows.length; rw [List.length_map, h.l, hR]
 ·show (m.p.es.map RE.raw).length = m.a.raw.rows.length; rw [List.length_map, h.p, hR]
 ·obtain ⟨x, hx, rfl⟩ := List.mem_map.1 (show e ∈ m.p.es.map RE.raw from he)
  have e1 : zI x.raw.n1 x.raw.g1 = x.q.num := sS _
  unfold RW.posi
  rw [e1]
  exact aFV.2 (h.pos x hx)
theorem LW.num {m : LW} (hf : (∀ r ∈ m.a.rows, ∀ e ∈ r.es, e.Fit) ∧ (∀ e ∈ m.l.es, e.Fit) ∧ ∀ e ∈ m.p.es, e.Fit) (h : m.code = 0) : ∃ (n : LE) (R C : Nat), m = n.raw ∧ n.fit R C ∧ R = m.a.rows.length ∧ C = (gt m.a.rows 0).es.length := by
 obtain ⟨⟨g1, g2, g3⟩, ⟨⟨r1, r2⟩, c1, c2⟩, ⟨h1, h2, h3⟩, hp⟩ := LW.code_ok h
 obtain ⟨a, l, p⟩ := m
 simp only at *
 obtain ⟨A, rfl, hA⟩ := aUD hf.1 ⟨⟨r1, r2, c1, by omega⟩, fun r hr => ⟨h1 r hr, g1 r hr⟩⟩
 obtain ⟨L, rfl, hL⟩ := aDM hf.2.1 g2
 obtain ⟨P, rfl, hP⟩ := aDM hf.2.2 g3
 refine ⟨⟨A, L, P⟩, _, _, rfl, ⟨hA, c2, by rw [hL]; exact h2, by rw [hP]; exact h3, fun e he => ?_⟩, rfl, rfl⟩
 have := hp e.raw (List.mem_map.2 ⟨e, he, rfl⟩)
 have e1 : zI e.raw.n1 e.raw.g1 = e.q.num := sS _
 unfold RW.posi at this
 rw [e1] at this
 exact aFV.1 this
theorem Mem.fitLW {X : List Nat} {w0 w : World} {M : List Ent} {I : List bA} {m : LW} (h : sP m ∈ I) (hw : Mem X w0 M I w) : (∀ r ∈ m.a.rows, ∀ e ∈ r.es, e.Fit) ∧ (∀ e ∈ m.l.es, e.Fit) ∧ ∀ e ∈ m.p.es, e.Fit := by
 have := ((hw.imm _ h).2 : IsLW m _ w)
 exact ⟨fun r hr e he => ((this.a.row r hr).el e he).fit, fun e he => (this.l.el e he).fit, fun e he => (this.p.el e he).fit⟩
theorem LW.few.sml {m : LW} {R C : Nat} (hR : R ≤ 1000 ∧ C ≤ 1000) (h : m.few R C) : m.sml := by
 obtain ⟨⟨h1, h2, h3⟩, h4⟩ := h
 exact ⟨⟨by omega, fun r hr => ⟨by have := (h4 r hr).1; omega, fun e he => (((h4 r hr).2 e he).2 (by omega)).sml⟩⟩, ⟨by have := h2.1; omega, fun e he => ((h2.2 e he).2 (by omega)).sml⟩, ⟨by have := h3.1; omega, fun e he => ((h3.2 e he).2 (by omega)).sml⟩⟩
theorem Hv.few {I : List bA} {m : LE} {R C : Nat} (hf : m.raw.few R C) (h : sP m.raw ∈ I) : Hv I (mW m 30) := ⟨fun X w hw => by
 have hh := (hw _ h : IsLW m.raw X w)
 obtain ⟨⟨h1, h2, h3⟩, h4⟩ := hf
 have lst : ∀ {r : RL} {n : Nat}, r.raw.shN n 6 → IsWL r.raw X w → IsL r 30 X w := fun {r n} h0 hi => ⟨by have := hi.sl; rw [show r.raw.es = r.es.map RE.raw from rfl, aFK] at this; exact this, fun e he => aME ((h0.2 e.raw (List.mem_map.2 ⟨e, he, rfl⟩)).2 (by omega)) (hi.el e.raw (List.mem_map.2 ⟨e, he, rfl⟩)), by have := hi.cap; rw [show r.raw.es.length = r.es.length from by show (r.es.map RE.raw).length = _; rw [List.length_map]] at this; exact this⟩
 refine ⟨⟨by have := hh.a.sl; rw [show m.raw.a.rows = m.a.rows.map RL.raw from rfl, aCY] at this; exact this, fun r hr => lst (h4 r.raw (List.mem_map.2 ⟨r, hr, rfl⟩)) (hh.a.row r.raw (List.mem_map.2 ⟨r, hr, rfl⟩)), by have := hh.a.cap; rw [show m.raw.a.rows.length = m.a.rows.length from MX.raw_rows _] at this; exact this⟩, lst h2 hh.l, lst h3 hh.p⟩⟩
section
variable {X : List Nat} {w0 : World} {M0 : List Ent} {I0 : List bA}
theorem aUL {m : LW} {R C : Nat} (hn : R ≤ 1000000 ∧ C ≤ 1000000) (hR : m.rch) (hm : sP m ∈ I0) : CD Tryz.prog 92 [vLW m, .int .i64 (R : Int), .int .i64 (C : Int)] X w0 M0 I0 (fun v M I => M0 = M ∧ I0 = I ∧ v = .bool (B (m.few R C))) := by
 obtain ⟨ra, rl, rp⟩ := hR
 have hla := ra.1
 refine bQ (φ := oZ m.a) (Hv.lwa hm) ?_
 refine bQ (φ := iW m.l) (Hv.lwl (List.Mem.tail _ hm)) ?_
 refine bQ (φ := iW m.p) (Hv.lwp (List.Mem.tail _ (List.Mem.tail _ hm))) ?_
 refine bQ (φ := aT m.a.p (recs wH m.a.rows)) (Hv.wmsl aB) ?_
 have hSl := fun M0 I0 h => aAQ (X := X) (w0 := w0) (M0 := M0) (I0 := I0) (r := m.l) (n := R) (g := 6) ⟨hn.1, by omega⟩ rl h
 have hSp := fun M0 I0 h => aAQ (X := X) (w0 := w0) (M0 := M0) (I0 := I0) (r := m.p) (n := R) (g := 6) ⟨hn.1, by omega⟩ rp h
 refine mE Tryz.func92 rfl Tryz.ntmps92 rfl ?_
 refine aJ ?_
 refine aI ?_
 (refine aP rfl rfl rfl ?_; intro b1; refine ⟨okF, ?_⟩)
 refine aF .here ?_
 by_cases e1 : m.a.rows.length ≤ R
 ·by_cases e2 : m.l.shN R 6
  ·rw [bR e2] at hSl
   by_cases e3 : m.p.shN R 6
   ·rw [bR e3] at hSp
    repeat (refine aK ?_)
    (refine aA rfl (hSl _ _ aB) rfl rfl ?_; rintro _ _ _ ⟨rfl, rfl, rfl⟩; refine ⟨okF, ?_⟩)
    repeat (refine aK ?_)
    (refine aA rfl (hSp _ _ aB) rfl rfl ?_; rintro _ _ _ ⟨rfl, rfl, rfl⟩; refine ⟨okF, ?_⟩)
    repeat (refine aK ?_)
    refine aS [2, 29, 30] rfl (fun k G M I => ∃ i : Nat, i ≤ m.a.rows.length ∧ k = m.a.rows.length - i ∧ (∀ j : Nat, j < i → (gt m.a.rows (j : Int)).shN C 6) ∧ G = [(31, .int .i64 i)] ∧ M0 = M ∧ I = aT (some ⟨b1, 0, none⟩) [mvW m.a, vD m.l, vD m.p] :: aT m.a.p (recs wH m.a.rows) :: iW m.p :: iW m.l :: oZ m.a :: I0) (m.a.rows.length) _ _ _ aO aC aD (⟨0, by omega, rfl, fun j hj => by omega, rfl, rfl, rfl⟩) ?_
    rintro kk G M I ⟨i, hi, rfl, hg, rfl, rfl, rfl⟩
    by_cases hin : i < m.a.rows.length
    ·have hS := fun M0 I0 h => aAQ (X := X) (w0 := w0) (M0 := M0) (I0 := I0) (r := gt m.a.rows (i : Int)) (n := C) (g := 6) ⟨hn.2, by omega⟩ (kQ ra.2 hin) h
     refine bL (φ := iW (gt m.a.rows (i : Int))) (Hv.wmrow aB (by omega)) ?_
     by_cases e : (gt m.a.rows (i : Int)).shN C 6
     ·rw [bR e] at hS
      repeat (refine aK ?_)
      (refine aA rfl (hS _ _ aB) rfl rfl ?_; rintro _ _ _ ⟨rfl, rfl, rfl⟩; refine ⟨okF, ?_⟩)
      repeat (refine aK ?_)
      refine aM (m.a.rows.length - (i + 1)) _ _ _ (by first | omega | (simp only [List.length_append, List.length_cons, List.length_nil]; omega)) aO aC aD (⟨i + 1, by omega, rfl, oP hg e, rfl, rfl, rfl⟩)
     ·rw [aY e] at hS
      repeat (refine aK ?_)
      (refine aA rfl (hS _ _ aB) rfl rfl ?_; rintro _ _ _ ⟨rfl, rfl, rfl⟩; refine ⟨okF, ?_⟩)
      repeat (refine aK ?_)
      refine aH (by first | exact .inl rfl | exact .inr rfl) rfl rfl _ _ aC aD (⟨rfl, rfl, congrArg Value.bool (aY (fun h => e (kQ h.2 hin))).symm⟩)
    ·repeat (refine aK ?_)
     refine aH (by first | exact .inl rfl | exact .inr rfl) rfl rfl _ _ aC aD (⟨rfl, rfl, congrArg Value.bool (bR ⟨⟨e1, e2, e3⟩, pW hg (by omega)⟩).symm⟩)
   ·rw [aY e3] at hSp
    repeat (refine aK ?_)
    (refine aA rfl (hSl _ _ aB) rfl rfl ?_; rintro _ _ _ ⟨rfl, rfl, rfl⟩; refine ⟨okF, ?_⟩)
    repeat (refine aK ?_)
    (refine aA rfl (hSp _ _ aB) rfl rfl ?_; rintro _ _ _ ⟨rfl, rfl, rfl⟩; refine ⟨okF, ?_⟩)
    repeat (refine aK ?_)
    refine aH (by first | exact .inl rfl | exact .inr rfl) rfl rfl _ _ aC aD (⟨rfl, rfl, congrArg Value.bool (aY (fun h => e3 h.1.2.2)).symm⟩)
  ·rw [aY e2] at hSl
   repeat (refine aK ?_)
   (refine aA rfl (hSl _ _ aB) rfl rfl ?_; rintro _ _ _ ⟨rfl, rfl, rfl⟩; refine ⟨okF, ?_⟩)
   repeat (refine aK ?_)
   refine aH (by first | exact .inl rfl | exact .inr rfl) rfl rfl _ _ aC aD (⟨rfl, rfl, congrArg Value.bool (aY (fun h => e2 h.1.2.1)).symm⟩)
 ·repeat (refine aK ?_)
  refine aH (by first | exact .inl rfl | exact .inr rfl) rfl rfl _ _ aC aD (⟨rfl, rfl, congrArg Value.bool (aY (fun h => e1 h.1.1)).symm⟩)
theorem aGA {m : LW} (hR : m.rch) (hm : sP m ∈ I0) : CD Tryz.prog 38 [vLW m] X w0 M0 I0 (fun v M I => M0 = M ∧ I0 = I ∧ v = .bool (B (m.few 7 5))) := by
 have hF := fun M0 I0 h => aUL (X := X) (w0 := w0) (M0 := M0) (I0 := I0) (m := m) (R := 7) (C := 5) ⟨by omega, by omega⟩ hR h
 refine bE Tryz.func38 rfl Tryz.ntmps38 rfl ?_
 refine aJ ?_
 refine aI ?_
 (refine aP rfl rfl rfl ?_; intro b1; refine ⟨okF, ?_⟩)
 refine aF .here ?_
 repeat (refine aK ?_)
 (refine aA rfl (hF _ _ aB) rfl rfl ?_; rintro _ _ _ ⟨rfl, rfl, rfl⟩; refine ⟨okF, ?_⟩)
 repeat (refine aK ?_)
 refine aH (by first | exact .inl rfl | exact .inr rfl) rfl rfl _ _ aC aD (⟨rfl, rfl, rfl⟩)
theorem wZ {m : LW} (hs : m.sml) (hm : sP m ∈ I0) : CD Tryz.prog 39 [vLW m] X w0 M0 I0 (fun v M I => M0 = M ∧ I0 = I ∧ v = .int .i64 m.code) := by
 have hF := fun M0 I0 h => aHI (X := X) (w0 := w0) (M0 := M0) (I0 := I0) (m := m) hs h
 refine bE Tryz.func39 rfl Tryz.ntmps39 rfl ?_
 refine aJ ?_
 refine aI ?_
 (refine aP rfl rfl rfl ?_; intro b1; refine ⟨okF, ?_⟩)
 refine aF .here ?_
 repeat (refine aK ?_)
 (refine aA rfl (hF _ _ aB) rfl rfl ?_; rintro _ _ _ ⟨rfl, rfl, rfl⟩; refine ⟨okF, ?_⟩)
 repeat (refine aK ?_)
 refine aH (by first | exact .inl rfl | exact .inr rfl) rfl rfl _ _ aC aD (⟨rfl, rfl, rfl⟩)
theorem qE {m : LE} {R C k : Nat} (hk : k ≤ 20000000000) (f : m.fit R C) (h : mW m k ∈ I0) : CD Tryz.prog 95 [vLE m] X w0 M0 I0 (fun v M I => M0 = M ∧ I0 = I ∧ v = .int .i64 0) := by
 have hR := f.d.2.1
 have hC := f.d.2.2
 refine kM (φ := m.raw.sml) (fun w hw => ?_) (fun hs => ?_)
 ·have hh := ((hw.imm _ h).2 : IsLE m k _ w)
  have lst : ∀ {r : RL}, r.es.length ≤ 1000000000 → IsL r k (muts M0) w → r.raw.sml := fun {r} hl hi => ⟨by show (r.es.map RE.raw).length ≤ _; rw [List.length_map]; exact hl, fun e he => by
   obtain ⟨x, hx, rfl⟩ := List.mem_map.1 (show e ∈ r.es.map RE.raw from he)
   exact (hi.el x hx).sml hk⟩
  refine ⟨⟨by rw [show m.raw.a.rows.length = m.a.rows.length from MX.raw_rows _, f.d.1.1]; omega, fun r hr => ?_⟩, lst (by rw [f.l]; omega) hh.l, lst (by rw [f.p]; omega) hh.p⟩
  obtain ⟨x, hx, rfl⟩ := List.mem_map.1 (show r ∈ m.a.rows.map RL.raw from hr)
  exact lst (by rw [f.d.1.2 x hx]; omega) (hh.a.row x hx)
 ·refine aAP (φ := sP m.raw) (Hv.leraw h hk) ?_
  have := aML (X := X) (w0 := w0) (M0 := M0) (I0 := sP m.raw :: I0) (m := m.raw) hs (List.Mem.head _)
  rw [zX, f.code] at this
  exact this
theorem aBV {r : WL} (hs : r.sml) (hw : iW r ∈ I0) : CD Tryz.prog 96 [vD r] X w0 M0 I0 (fun v M I => M0 = M ∧ I0 = I ∧ v = .bool (B r.good)) := by
 refine bQ (φ := aT r.p (recs eW r.es)) (Hv.wlsl hw) ?_
 have hl := hs.1
 refine bE Tryz.func96 rfl Tryz.ntmps96 rfl ?_
 repeat (refine aK ?_)
 refine aS [5, 6] rfl (fun k G M I => ∃ i : Nat, i ≤ r.es.length ∧ k = r.es.length - i ∧ (∀ j : Nat, j < i → (gt r.es (j : Int)).good) ∧ G = [(7, .int .i64 i)] ∧ M0 = M ∧ I = aT r.p (recs eW r.es) :: I0) (r.es.length) _ _ _ aO aC aD (⟨0, by omega, rfl, fun j hj => by omega, rfl, rfl, rfl⟩) ?_
 rintro kk G M I ⟨i, hi, rfl, hg, rfl, rfl, rfl⟩
 by_cases hin : i < r.es.length
 ·have hV := fun M0 I0 h => yQ (X := X) (w0 := w0) (M0 := M0) (I0 := I0) (r := gt r.es (i : Int)) (kQ hs.2 hin) h
  refine bL (φ := isW (gt r.es (i : Int))) (Hv.wlel (List.Mem.tail _ hw) (by omega)) ?_
  by_cases e : (gt r.es (i : Int)).good
  ·rw [bR e] at hV
   repeat (refine aK ?_)
   (refine aN rfl rfl ?_; intro b; refine ⟨okF, ?_⟩)
   repeat (refine aK ?_)
   (refine aA rfl (hV _ _ (Hv.mem aB)) rfl rfl ?_; rintro _ _ _ ⟨rfl, rfl, rfl⟩; refine ⟨okF, ?_⟩)
   repeat (refine aK ?_)
   refine aM (r.es.length - (i + 1)) _ _ _ (by first | omega | (simp only [List.length_append, List.length_cons, List.length_nil]; omega)) aO aC aD (⟨i + 1, by omega, rfl, oP hg e, rfl, rfl, rfl⟩)
  ·rw [aY e] at hV
   repeat (refine aK ?_)
   (refine aN rfl rfl ?_; intro b; refine ⟨okF, ?_⟩)
   repeat (refine aK ?_)
   (refine aA rfl (hV _ _ (Hv.mem aB)) rfl rfl ?_; rintro _ _ _ ⟨rfl, rfl, rfl⟩; refine ⟨okF, ?_⟩)
   repeat (refine aK ?_)
   refine aH (by first | exact .inl rfl | exact .inr rfl) rfl rfl _ _ aC aD (⟨rfl, rfl, congrArg Value.bool (aY (fun h => e (kQ h hin))).symm⟩)
 ·repeat (refine aK ?_)
  refine aH (by first | exact .inl rfl | exact .inr rfl) rfl rfl _ _ aC aD (⟨rfl, rfl, congrArg Value.bool (bR (pW hg (by omega))).symm⟩)
theorem xR {r : RL} {k : Nat} (hk : k ≤ 100000000000) (hl : r.es.length ≤ 1000000000) (hr : jP r k ∈ I0) : CD Tryz.prog 98 [lv r] X w0 M0 I0 (fun v M I => M0 = M ∧ I0 = I ∧ v = .bool (B (vJ r.q))) := by
 refine bQ (φ := aT (r).p (recs eR (r).es)) (Hv.lsl aB) ?_
 refine bE Tryz.func98 rfl Tryz.ntmps98 rfl ?_
 repeat (refine aK ?_)
 refine aS [5, 6] rfl (fun k G M I => ∃ i : Nat, i ≤ r.es.length ∧ k = r.es.length - i ∧ (∀ j : Nat, j < i → (gt r.es (j : Int)).q = 0) ∧ G = [(7, .int .i64 i)] ∧ M0 = M ∧ I = aT r.p (recs eR r.es) :: I0) (r.es.length) _ _ _ aO aC aD (⟨0, by omega, rfl, fun j hj => by omega, rfl, rfl, rfl⟩) ?_
 rintro kk G M I ⟨i, hi, rfl, hg, rfl, rfl, rfl⟩
 by_cases hin : i < r.es.length
 ·have hS := fun M0 I0 h => lZ (X := X) (w0 := w0) (M0 := M0) (I0 := I0) (e := gt r.es (i : Int)) (k := k) (by omega) h
  refine bL (φ := eQ (gt r.es (i : Int)) k) (Hv.lel (List.Mem.tail _ hr) (by omega)) ?_
  by_cases e : (gt r.es (i : Int)).q = 0
  ·rw [(mP _).2 e] at hS
   repeat (refine aK ?_)
   (refine aN rfl rfl ?_; intro b; refine ⟨okF, ?_⟩)
   repeat (refine aK ?_)
   (refine aA rfl (hS _ _ (Hv.mem aB)) rfl rfl ?_; rintro _ _ _ ⟨rfl, rfl, rfl⟩; refine ⟨okF, ?_⟩)
   repeat (refine aK ?_)
   refine aM (r.es.length - (i + 1)) _ _ _ (by first | omega | (simp only [List.length_append, List.length_cons, List.length_nil]; omega)) aO aC aD (⟨i + 1, by omega, rfl, oP hg e, rfl, rfl, rfl⟩)
  ·have hs1 : ¬ (gt r.es (i : Int)).q.num.sign = 0 := fun h => e ((mP _).1 h)
   generalize (gt r.es (i : Int)).q.num.sign = sg at *
   repeat (refine aK ?_)
   (refine aN rfl rfl ?_; intro b; refine ⟨okF, ?_⟩)
   repeat (refine aK ?_)
   (refine aA rfl (hS _ _ (Hv.mem aB)) rfl rfl ?_; rintro _ _ _ ⟨rfl, rfl, rfl⟩; refine ⟨okF, ?_⟩)
   repeat (refine aK ?_)
   refine aH (by first | exact .inl rfl | exact .inr rfl) rfl rfl _ _ aC aD (⟨rfl, rfl, congrArg Value.bool (aY (fun h => e (h _ (List.mem_map.2 ⟨_, cZ (by omega), rfl⟩)))).symm⟩)
 ·repeat (refine aK ?_)
  refine aH (by first | exact .inl rfl | exact .inr rfl) rfl rfl _ _ aC aD (⟨rfl, rfl, congrArg Value.bool (bR (fun x hx => by
   obtain ⟨y, hy, rfl⟩ := List.mem_map.1 hx
   exact pW (p := fun e : RE => e.q = 0) hg (by omega) y hy)).symm⟩)
theorem aGM {n i : Nat} (hn : n ≤ 100) (hi : i < n) : CD Tryz.prog 101 [.int .i64 (n : Int), .int .i64 (i : Int)] X w0 M0 I0 (fun v M I => M0 = M ∧ ∃ r : RL, v = lv r ∧ r.q = unL n i ∧ r.es.length = n ∧ I = jP r 0 :: I0) := by
 have hW := fun M0 I0 => lX (X := X) (w0 := w0) (M0 := M0) (I0 := I0) (x := 0) (by decide) (k := 0) (by decide)
 have hW1 := fun M0 I0 => lX (X := X) (w0 := w0) (M0 := M0) (I0 := I0) (x := 1) (by decide) (k := 0) (by decide)
 refine bD Tryz.func101 rfl Tryz.ntmps101 rfl ?_
 repeat (refine aK ?_)
 (refine jM (n) rfl rfl (by omega) (by omega) (by omega) (by omega) (pK (enc := e4) (by decide) z4 n) rfl rfl ?_; intro bi; refine ⟨okF, ?_⟩)
 repeat (refine aK ?_)
 refine bL (φ := cK [] 0) Hv.nilR ?_
 refine aS [1, 5, 10] rfl (fun k G M I => ∃ (x : Nat) (es : List RE), x ≤ n ∧ k = n - x ∧ es.length = x ∧ (∀ t : Nat, t < x → (gt es (t : Int)).q = 0) ∧ G = [(11, .int .i64 x)] ∧ M = .blk bi (recs e4 (es.map t4 ++ List.replicate (n - x) z4)) 42 :: M0 ∧ I = cK es 0 :: I0) (n) _ _ _ aO aC aD (⟨0, [], by omega, by omega, rfl, fun t ht => by omega, rfl, rfl, rfl⟩) ?_
 rintro kk G M I ⟨x, es, hx, rfl, hel, heq, rfl, rfl, rfl⟩
 by_cases hxC : x < n
 ·have hz2 := pJ (n := n - x) (z := z4) (by omega)
  have hl2 : ((es.map t4 ++ z4 :: List.replicate (n - x - 1) z4).length : Int) = n := by simp; omega
  rw [hz2]
  repeat (refine aK ?_)
  (refine aA rfl (hW _ _) rfl rfl ?_; rintro _ _ _ ⟨rfl, e, rfl, he, rfl⟩; refine ⟨okF, ?_⟩)
  repeat (refine yXh ?_)
  refine fH (vs := eR e) rfl rfl rfl (Ones.one e) kU (StAts.r (t4 e) (by omega) rfl) rfl rfl ⟨okF, ?_⟩
  rw [vQ (by simp; omega)]
  repeat (refine aK ?_)
  refine fM (φ := cK (es ++ [e]) 0) (Hv.snoc aB aB) ?_
  have e9 : es.map t4 ++ t4 e :: List.replicate (n - x - 1) z4 = (es ++ [e]).map t4 ++ List.replicate (n - (x + 1)) z4 := by simp [Nat.sub_sub]
  rw [e9]
  refine aM (n - (x + 1)) _ _ _ (by first | omega | (simp only [List.length_append, List.length_cons, List.length_nil]; omega)) aO aC aD (⟨x + 1, es ++ [e], by omega, rfl, by simp; omega, fun t ht => ?_, rfl, rfl, rfl⟩)
  by_cases e1 : t < x
  ·have : gt (es ++ [e]) (t : Int) = gt es (t : Int) := by rw [dY (by simp; omega), dY (by omega), List.getElem_append_left (by omega)]
   rw [this]; exact heq t e1
  ·have : gt (es ++ [e]) (t : Int) = e := tT (A := es) (B := []) (by omega)
   rw [this, he]; rfl
 ·obtain rfl : x = n := by omega
  rw [Nat.sub_self, List.replicate_zero, List.append_nil, wM]
  repeat (refine aK ?_)
  (refine aA rfl (hW1 _ _) rfl rfl ?_; rintro _ _ _ ⟨rfl, e, rfl, he, rfl⟩; refine ⟨okF, ?_⟩)
  repeat (refine aK ?_)
  refine fM (φ := cK (st es (i : Int) e) 0) (Hv.stR aB aB) ?_
  refine aKJ (k := 0) aB ?_
  refine aH (by first | exact .inl rfl | exact .inr rfl) rfl rfl _ _ aC aD (⟨rfl, ⟨some ⟨bi, 0, none⟩, (st es (i : Int) e).length, st es (i : Int) e⟩, ?_, ?_, ?_, rfl⟩)
  ·show _ = Value.slice (some ⟨bi, 0, none⟩) (st es (i : Int) e).length (st es (i : Int) e).length
   rw [dH, hel]
  ·apply rT
   ·simp [dH, hel, unL]
   ·intro t ht
    have ht' : t < x := by simpa [dH, hel] using ht
    show (qs (st es (i : Int) e)).getD t 0 = _
    rw [kS (by rw [dH]; omega), xZ ht', sI (by omega)]
    simp only [oO]
    by_cases e1 : t = i
    ·rw [if_pos e1, if_pos e1.symm, he]; rfl
    ·rw [if_neg e1, if_neg (fun h => e1 h.symm)]; exact heq t ht'
  ·show (st es (i : Int) e).length = x
   rw [dH]; exact hel
end
end Go.Proofs.YtgeagiikkeiioaaGreat
namespace Go.Proofs.YtgeagiikkeiioaaGreat
open Go Go.Fx
def apL (R C : Nat) (A : Mt) (x : List Rat) : List Rat := (List.range R).map (fun i => sm C (fun t => at2 A i t * x.getD t 0))
def annP (R C : Nat) (A : Mt) (y : List Rat) : Prop := vJ (apL C R (trM R C A) y)
instance annP.dec (R C : Nat) (A : Mt) (y : List Rat) : Decidable (annP R C A y) := by unfold annP; exact inferInstance
theorem aEB {R C : Nat} {A : Mt} {x : List Rat} : (apL R C A x).length = R := by simp [apL]
def aCA (R C : Nat) (A : Mt) : List Bool := (List.range R).map (fun i => B (ctl R C A i))
section
variable {X : List Nat} {w0 : World} {M0 : List Ent} {I0 : List bA}
theorem zG {y : RL} {a : MX} {R C k m : Nat} (hk : k ≤ 1000000000) (hm : m ≤ 500000000) (da : a.fit R C) (hl : y.es.length = R) (ha : gD a k ∈ I0) (hy : jP y m ∈ I0) :
  CD Tryz.prog 99 [lv y, mv a] X w0 M0 I0 (LQ (apL C R (trM R C a.q) y.q) (R * (k + m + 1)) M0 I0) := by
 have hT := fun M0 I0 h => aCI (X := X) (w0 := w0) (M0 := M0) (I0 := I0) (a := a) (R := R) (C := C) (k := k) (by omega) da h
 refine bD Tryz.func99 rfl Tryz.ntmps99 rfl ?_
 repeat (refine aK ?_)
 (refine aA rfl (hT _ _ aB) rfl rfl ?_; rintro _ _ _ ⟨rfl, t, rfl, ht, td, rfl⟩; refine ⟨okF, ?_⟩)
 have hA := fun M0 I0 h1 h2 => aDH (X := X) (w0 := w0) (M0 := M0) (I0 := I0) (a := t) (x := y) (R := C) (C := R) (k := k) (m := m) hk hm ⟨td, da.2.2, da.2.1⟩ hl h1 h2
 repeat (refine aK ?_)
 (refine aA rfl (hA _ _ aB aB) rfl rfl ?_; rintro _ _ _ ⟨rfl, r, rfl, hr, rfl⟩; refine ⟨okF, ?_⟩)
 repeat (refine aK ?_)
 refine aH (by first | exact .inl rfl | exact .inr rfl) rfl rfl _ _ aC aD (⟨rfl, r, rfl, by rw [hr, ht]; rfl, rfl⟩)
theorem aHY {m : LE} {R C i k : Nat} (hb : 2 * kb k C ≤ 20000000000) (f : m.fit R C) (hi : i < R) (h : mW m k ∈ I0) :
  CD Tryz.prog 102 [vLE m, .int .i64 (i : Int)] X w0 M0 I0 (fun v M I => M0 = M ∧ I0 = I ∧ ∃ x : Value, v = .agg #[.bool (B (ctl R C m.a.q i)), x]) := by
 have hk0 : k ≤ kb k C := nH k (Nat.zero_le C)
 have lR := f.d.1.1
 subst lR
 obtain ⟨r1, r2⟩ := f.d.2.1
 have hC := f.c
 refine bQ (φ := gD m.a k) (Hv.lea h) ?_
 have hO := fun M0 I0 => aGM (X := X) (w0 := w0) (M0 := M0) (I0 := I0) (n := m.a.rows.length) (i := i) (by omega) hi
 refine bD Tryz.func102 rfl Tryz.ntmps102 rfl ?_
 refine aJ ?_
 refine aI ?_
 (refine aP rfl rfl rfl ?_; intro b1; refine ⟨okF, ?_⟩)
 refine aF .here ?_
 (refine aN rfl rfl ?_; intro b2; refine ⟨okF, ?_⟩)
 repeat (refine aK ?_)
 (refine aA rfl (hO _ _) rfl rfl ?_; rintro _ _ _ ⟨rfl, e, rfl, he, hel, rfl⟩; refine ⟨okF, ?_⟩)
 refine iA (φ := jP e k) (Hv.lm (k := 0) aB (Nat.zero_le _)) ?_
 have hS := fun M0 I0 h1 h2 => aQI (X := X) (w0 := w0) (M0 := M0) (I0 := I0) (a := m.a) (b := e) (R := m.a.rows.length) (C := C) (k0 := k) (by omega) (by omega) f.d hel h1 h2
 by_cases hs : wD m.a.rows.length C m.a.q (unL m.a.rows.length i)
 ·have hs' : wD m.a.rows.length C m.a.q e.q := by rw [he]; exact hs
  simp only [if_pos hs'] at hS
  repeat (refine aK ?_)
  (refine aA rfl (hS _ _ aB aB) rfl rfl ?_; rintro _ _ _ ⟨rfl, x, rfl, hx, rfl⟩; refine ⟨okF, ?_⟩)
  repeat (refine aK ?_)
  refine aG rfl (fun _ => eD (pvs := [(1, lv x)]) (cells := [.bool false, lv x]) rfl rfl) rfl rfl ?_
  repeat (refine aK ?_)
  refine bG (cs := [.bool false, lv x]) (.inl rfl) rfl rfl aB rfl M0 I0 aC aD ⟨rfl, rfl, lv x, by rw [aY (show ¬ ctl m.a.rows.length C m.a.q i from fun hn => hn hs)]⟩
 ·have hs' : ¬ wD m.a.rows.length C m.a.q e.q := by rw [he]; exact hs
  simp only [if_neg hs'] at hS
  have hR := fun M0 I0 h1 h2 => aMC (X := X) (w0 := w0) (M0 := M0) (I0 := I0) (a := m.a) (b := e) (R := m.a.rows.length) (C := C) (k0 := k) hb (by omega) (by omega) f.d hel h1 h2 hs'
  repeat (refine aK ?_)
  (refine aA rfl (hS _ _ aB aB) rfl rfl ?_; rintro _ _ _ ⟨rfl, rfl, rfl⟩; refine ⟨okF, ?_⟩)
  repeat (refine aK ?_)
  (refine aA rfl (hR _ _ aB aB) rfl rfl ?_; rintro _ _ _ ⟨rfl, x, rfl, rfl⟩; refine ⟨okF, ?_⟩)
  repeat (refine aK ?_)
  (refine aG rfl (fun _ => lV (vals := [.bool true, lv x]) (cells := [.bool true, lv x]) rfl ?hpl rfl ?hz) rfl rfl ?_; (case hpl => repeat (first | exact True.intro | refine ⟨rfl, ?_⟩)); (case hz => rfl))
  repeat (refine aK ?_)
  refine bG (cs := [.bool true, lv x]) (.inl rfl) rfl rfl aB rfl M0 I0 aC aD ⟨rfl, rfl, lv x, by rw [bR (show ctl m.a.rows.length C m.a.q i from hs)]⟩
theorem qP {m : LE} {R C k : Nat} (hb : 2 * kb k C ≤ 20000000000) (f : m.fit R C) (h : mW m k ∈ I0) :
  CD Tryz.prog 43 [vLE m] X w0 M0 I0 (fun v M I => M0 = M ∧ ∃ (q : Option Addr) (c : Nat), v = .tuple #[.slice q R c, .int .i64 0] ∧ I = aT q (recs eB (aCA R C m.a.q)) :: I0) := by
 have hk0 : k ≤ kb k C := nH k (Nat.zero_le C)
 have lR := f.d.1.1
 subst lR
 obtain ⟨r1, r2⟩ := f.d.2.1
 have hC := fun M0 I0 h => qE (X := X) (w0 := w0) (M0 := M0) (I0 := I0) (m := m) (k := k) (by omega) f h
 have hP := fun (i : Nat) (hi : i < m.a.rows.length) M0 I0 h => aHY (X := X) (w0 := w0) (M0 := M0) (I0 := I0) (m := m) (i := i) (k := k) hb f hi h
 refine bE Tryz.func43 rfl Tryz.ntmps43 rfl ?_
 refine aJ ?_
 refine aI ?_
 (refine aP rfl rfl rfl ?_; intro b1; refine ⟨okF, ?_⟩)
 refine aF .here ?_
 repeat (refine aK ?_)
 (refine aA rfl (hC _ _ aB) rfl rfl ?_; rintro _ _ _ ⟨rfl, rfl, rfl⟩; refine ⟨okF, ?_⟩)
 repeat (refine aK ?_)
 refine mI 4 1 ?_
 refine aS [1, 14] rfl (fun k G M I => ∃ (i : Nat) (bs : List Bool) (q : Option Addr) (c : Nat), i ≤ m.a.rows.length ∧ k = m.a.rows.length - i ∧ bs.length = i ∧ bs = (List.range i).map (fun t => B (ctl m.a.rows.length C m.a.q t)) ∧ G = [(5, .slice q bs.length c), (15, .int .i64 i)] ∧ M = .row q bs.length c (recs eB bs) 4 1 :: M0 ∧ I = aT (some ⟨b1, 0, none⟩) [mv m.a, lv m.l, lv m.p] :: I0) (m.a.rows.length) _ _ _ aO aC aD (⟨0, [], none, 0, by omega, rfl, rfl, rfl, rfl, rfl, rfl⟩) ?_
 rintro kk G M I ⟨i, bs, q, c, hi, rfl, hbl, hbs, rfl, rfl, rfl⟩
 by_cases hin : i < m.a.rows.length
 ·have hPi := hP i hin
  generalize hbb : B (ctl m.a.rows.length C m.a.q i) = bb at *
  repeat (refine aK ?_)
  (refine aA rfl (hPi _ _ aB) rfl rfl ?_; rintro _ _ _ ⟨rfl, rfl, x, rfl⟩; refine ⟨okF, ?_⟩)
  repeat (refine aK ?_)
  (refine aL (cs := recs eB [bb]) ([.bool bb]) rfl rfl (by intro v hv; repeat (first | exact absurd hv (List.not_mem_nil) | (rcases List.mem_cons.1 hv with rfl | hv; · rfl))) (by omega) rfl rfl rfl ?_; intro b; refine ⟨okF, ?_⟩)
  (refine aX (ys := [bb]) 1 rfl rfl rfl ?_ (by decide) rfl (by omega) (by omega) rfl rfl ?_; (· first | exact Src.blk aB | exact Src.row aB | exact Src.imm aB (by first | assumption | exact .inl (Ok.mk _ _))); intro q2 c2; refine ⟨okF, ?_⟩)
  repeat (refine aK ?_)
  refine aM (m.a.rows.length - (i + 1)) _ _ _ (by first | omega | (simp only [List.length_append, List.length_cons, List.length_nil]; omega)) aO aC aD (⟨i + 1, bs ++ [bb], q2, c2, by omega, rfl, by simp; omega, by rw [List.range_succ, List.map_append, ← hbs, ← hbb]; rfl, rfl, rfl, rfl⟩)
 ·obtain rfl : i = m.a.rows.length := by omega
  repeat (refine aK ?_)
  refine wE .here ?_
  refine aQS (M' := M0) (I' := aT q (recs eB bs) :: I0) SubP.refl aD ?_
  have hbs2 : bs = aCA m.a.rows.length C m.a.q := hbs
  rw [hbl, hbs2]
  refine dZ [2, 3] (by first | exact .inl rfl | exact .inr rfl) rfl rfl rfl _ _ aC aD (⟨rfl, q, c, rfl, rfl⟩)
end
end Go.Proofs.YtgeagiikkeiioaaGreat
namespace Go.Proofs.YtgeagiikkeiioaaGreat
open Go Go.Fx
def prvP (R C : Nat) (A : Mt) (i : Nat) (ct : Bool) (y : List Rat) : Prop := if ct = true then y.length = R ∧ annP R C A y ∧ y.getD i 0 = ((1 : Int) : Rat) else y.length = C ∧ apL R C A y = unL R i
instance prvP.dec (R C : Nat) (A : Mt) (i : Nat) (ct : Bool) (y : List Rat) : Decidable (prvP R C A i ct y) := by unfold prvP; exact inferInstance
theorem aEO {R C i : Nat} {A : Mt} {y : List Rat} : prvP R C A i true y ↔ (y.length = R ∧ annP R C A y ∧ y.getD i 0 = ((1 : Int) : Rat)) := by unfold prvP; simp
theorem aJU {P : Program} {n : Nat} {Q : Exit → Act → World → Prop} {G : Env} {X : List Nat} {w0 : World} {M M' : List Ent} {I : List bA} {c : Code} {b : Nat} {cs : List Value} {e : TypeId} (hr : Rem (.blk b cs e) M M') (h : TD P n c Q G X w0 M' (aT (some ⟨b, 0, none⟩) cs :: I)) : TD P n c Q G X w0 M I := aLK (fun _ hw => hw.freezeB hr) h
section
variable {X : List Nat} {w0 : World} {M0 : List Ent} {I0 : List bA}
theorem aHB {m : LE} {R C k : Nat} {i : Int} (hi : -9223372036854775808 ≤ i ∧ i ≤ 9223372036854775807) (hk : k ≤ 20000000000) (f : m.fit R C) (h : mW m k ∈ I0) :
  CD Tryz.prog 97 [vLE m, .int .i64 i] X w0 M0 I0 (fun v M I => M0 = M ∧ I0 = I ∧ v = .int .i64 (if 0 ≤ i ∧ i < R then 0 else 2)) := by
 have lR := f.d.1.1
 obtain ⟨r1, r2⟩ := f.d.2.1
 have hC := fun M0 I0 h => qE (X := X) (w0 := w0) (M0 := M0) (I0 := I0) (m := m) (k := k) hk f h
 refine bD Tryz.func97 rfl Tryz.ntmps97 rfl ?_
 refine aJ ?_
 refine aI ?_
 (refine aP rfl rfl rfl ?_; intro b1; refine ⟨okF, ?_⟩)
 refine aF .here ?_
 repeat (refine aK ?_)
 (refine aA rfl (hC _ _ aB) rfl rfl ?_; rintro _ _ _ ⟨rfl, rfl, rfl⟩; refine ⟨okF, ?_⟩)
 by_cases h1 : 0 ≤ i
 ·by_cases h2 : i < R
  ·rw [if_pos ⟨h1, h2⟩]
   repeat (refine aK ?_)
   refine aH (by first | exact .inl rfl | exact .inr rfl) rfl rfl _ _ aC aD (⟨rfl, rfl, rfl⟩)
  ·rw [if_neg (fun h => h2 h.2)]
   repeat (refine aK ?_)
   refine aH (by first | exact .inl rfl | exact .inr rfl) rfl rfl _ _ aC aD (⟨rfl, rfl, rfl⟩)
 ·rw [if_neg (fun h => h1 h.1)]
  repeat (refine aK ?_)
  refine aH (by first | exact .inl rfl | exact .inr rfl) rfl rfl _ _ aC aD (⟨rfl, rfl, rfl⟩)
theorem zJ {y : RL} {k : Nat} (hk : k ≤ 20000000000) (hl : y.es.length ≤ 1000000000) (hy : jP y k ∈ I0) : CD Tryz.prog 96 [lv y] X w0 M0 I0 (fun v M I => M0 = M ∧ I0 = I ∧ v = .bool true) := by
 refine kM (φ := y.raw.sml) (fun w hw => Mem.lsml hy hl hk hw) (fun hs => ?_)
 refine aAP (φ := iW y.raw) (Hv.lraw hy hk) ?_
 have := aBV (X := X) (w0 := w0) (M0 := M0) (I0 := iW y.raw :: I0) (r := y.raw) hs (List.Mem.head _)
 rwa [bR y.raw_good, xX] at this
theorem aDU {m : LE} {R C k n i : Nat} {y : RL} (hk : k ≤ 1000000000) (hn : n ≤ 500000000) (hi : i < R) (f : m.fit R C) (h : mW m k ∈ I0) (hl : y.es.length ≤ 1000000000) (hy : jP y n ∈ I0) : CD Tryz.prog 42 [vLE m, .int .i64 (i : Int), .agg #[.bool true, lv y]] X w0 M0 I0 (fun v M I => M0 = M ∧ I0 = I ∧ v = .int .i64 (if prvP R C m.a.q i true y.q then 0 else 12)) := by
 have lR := f.d.1.1
 subst lR
 obtain ⟨r1, r2⟩ := f.d.2.1
 obtain ⟨c1, c2⟩ := f.d.2.2
 have hC := fun M0 I0 h => qE (X := X) (w0 := w0) (M0 := M0) (I0 := I0) (m := m) (k := k) (by omega) f h
 have hV := fun M0 I0 h => zJ (X := X) (w0 := w0) (M0 := M0) (I0 := I0) (y := y) (k := n) (by omega) hl h
 have hE := fun M0 I0 h => aHB (X := X) (w0 := w0) (M0 := M0) (I0 := I0) (m := m) (k := k) (i := (i : Int)) (by omega) (by omega) f h
 rw [if_pos ⟨by omega, by omega⟩] at hE
 have hW := fun M0 I0 => lX (X := X) (w0 := w0) (M0 := M0) (I0 := I0) (x := 1) (by decide) (k := 0) (by decide)
 have yl : y.q.length = y.es.length := by show (y.es.map _).length = _; rw [List.length_map]
 refine bQ (φ := gD m.a k) (Hv.lea h) ?_
 refine bQ (φ := aT y.p (recs eR y.es)) (Hv.lsl (List.Mem.tail _ hy)) ?_
 refine mE Tryz.func42 rfl Tryz.ntmps42 rfl ?_
 refine aJ ?_
 refine aI ?_
 (refine aP rfl rfl rfl ?_; intro b1; refine ⟨okF, ?_⟩)
 refine aF .here ?_
 (refine aP rfl rfl rfl ?_; intro b2; refine ⟨okF, ?_⟩)
 refine aF .here ?_
 repeat (refine aK ?_)
 (refine aA rfl (hC _ _ aB) rfl rfl ?_; rintro _ _ _ ⟨rfl, rfl, rfl⟩; refine ⟨okF, ?_⟩)
 repeat (refine aK ?_)
 (refine aA rfl (hV _ _ aB) rfl rfl ?_; rintro _ _ _ ⟨rfl, rfl, rfl⟩; refine ⟨okF, ?_⟩)
 repeat (refine aK ?_)
 (refine aA rfl (hE _ _ aB) rfl rfl ?_; rintro _ _ _ ⟨rfl, rfl, rfl⟩; refine ⟨okF, ?_⟩)
 repeat (refine aK ?_)
 by_cases e1 : y.es.length = m.a.rows.length
 ·have hB := fun M0 I0 h1 h2 => zG (X := X) (w0 := w0) (M0 := M0) (I0 := I0) (y := y) (a := m.a) (k := k) (m := n) hk hn f.d e1 h1 h2
  have hkm : m.a.rows.length * (k + n + 1) ≤ 100000000000 := Nat.le_trans (Nat.mul_le_mul r2 (show k + n + 1 ≤ 1500000001 by omega)) (by decide)
  have hZ := fun (r : RL) (hr : r.q = apL C m.a.rows.length (trM m.a.rows.length C m.a.q) y.q) M0 I0 h => by
   have := xR (X := X) (w0 := w0) (M0 := M0) (I0 := I0) (r := r) (k := m.a.rows.length * (k + n + 1)) hkm (by
    have := congrArg List.length hr
    rw [aEB, List.length_map] at this; omega) h
   rw [hr] at this
   exact this
  by_cases e2 : annP m.a.rows.length C m.a.q y.q
  ·have hCm := fun (e : RE) M0 I0 h1 h2 => yZ (X := X) (w0 := w0) (M0 := M0) (I0 := I0) (a := gt y.es (i : Int)) (b := e) (k := n) (m := 0) (by omega) h1 h2
   have hq : y.q.getD i 0 = (gt y.es (i : Int)).q := kS (by omega)
   refine bL (φ := eQ (gt y.es (i : Int)) n) (Hv.lel aB (by omega)) ?_
   (repeat refine aJ ?_); refine dJ [0, 1, 2, 3, 4, 5, 6, 7, 8, 9, 10, 11, 12, 13, 14, 15, 16, 17, 18, 19, 20, 21, 22, 23, 24, 25] [4, 4, 4, 4, 4, 4, 4, 2, 4, 3, 4, 3, 0, 0, 2, 2, 0, 2, 2, 2, 2, 1, 0, 0, 0, 0] mixed (by kernel_rfl) ?_
   repeat (refine aK ?_)
   (refine aA rfl (hB _ _ aB aB) rfl rfl ?_; rintro _ _ _ ⟨rfl, r, rfl, hr, rfl⟩; refine ⟨okF, ?_⟩)
   have hZr := hZ r hr
   rw [bR (show vJ _ from e2)] at hZr
   repeat (refine aK ?_)
   (refine aA rfl (hZr _ _ aB) rfl rfl ?_; rintro _ _ _ ⟨rfl, rfl, rfl⟩; refine ⟨okF, ?_⟩)
   repeat (refine aK ?_)
   (refine aA rfl (hW _ _) rfl rfl ?_; rintro _ _ _ ⟨rfl, e, rfl, he, rfl⟩; refine ⟨okF, ?_⟩)
   repeat (refine aK ?_)
   have hCe := hCm e
   have hcq := aJO (p := (gt y.es (i : Int)).q) (q := e.q)
   generalize aPJ (gt y.es (i : Int)).q e.q = cv at *
   (refine aA rfl (hCe _ _ (Hv.mem aB) (Hv.mem aB)) rfl rfl ?_; rintro _ _ _ ⟨rfl, rfl, rfl⟩; refine ⟨okF, ?_⟩)
   by_cases e3 : y.q.getD i 0 = ((1 : Int) : Rat)
   ·have h0 : cv = 0 := hcq.2 (by rw [he, ← hq]; exact e3)
    simp only [if_pos (aEO.2 ⟨by omega, e2, e3⟩ : prvP m.a.rows.length C m.a.q i true y.q)]
    repeat (refine aK ?_)
    refine aH (by first | exact .inl rfl | exact .inr rfl) rfl rfl _ _ aC aD (⟨rfl, rfl, rfl⟩)
   ·have h0 : ¬ cv = 0 := fun h => e3 (by rw [hq, hcq.1 h, he])
    simp only [if_neg (fun h => e3 (aEO.1 h).2.2 : ¬ prvP m.a.rows.length C m.a.q i true y.q)]
    repeat (refine aK ?_)
    refine aH (by first | exact .inl rfl | exact .inr rfl) rfl rfl _ _ aC aD (⟨rfl, rfl, rfl⟩)
  ·simp only [if_neg (fun h => e2 (aEO.1 h).2.1 : ¬ prvP m.a.rows.length C m.a.q i true y.q)]
   (repeat refine aJ ?_); refine dJ [0, 1, 2, 3, 4, 5, 6, 7, 8, 9, 10, 11, 12, 13, 14, 15, 16, 17, 18, 19, 20, 21, 22, 23, 24, 25] [4, 4, 4, 4, 4, 4, 4, 2, 4, 3, 4, 3, 0, 0, 2, 2, 0, 2, 2, 2, 2, 1, 0, 0, 0, 0] mixed (by kernel_rfl) ?_
   repeat (refine aK ?_)
   (refine aA rfl (hB _ _ aB aB) rfl rfl ?_; rintro _ _ _ ⟨rfl, r, rfl, hr, rfl⟩; refine ⟨okF, ?_⟩)
   have hZr := hZ r hr
   rw [aY (show ¬ vJ _ from e2)] at hZr
   repeat (refine aK ?_)
   (refine aA rfl (hZr _ _ aB) rfl rfl ?_; rintro _ _ _ ⟨rfl, rfl, rfl⟩; refine ⟨okF, ?_⟩)
   repeat (refine aK ?_)
   refine aH (by first | exact .inl rfl | exact .inr rfl) rfl rfl _ _ aC aD (⟨rfl, rfl, rfl⟩)
 ·simp only [if_neg (fun h => e1 (by have := (aEO.1 h).1; omega) : ¬ prvP m.a.rows.length C m.a.q i true y.q)]
  (repeat refine aJ ?_); refine dJ [0, 1, 2, 3, 4, 5, 6, 7, 8, 9, 10, 11, 12, 13, 14, 15, 16, 17, 18, 19, 20, 21, 22, 23, 24, 25] [4, 4, 4, 4, 4, 4, 4, 2, 4, 3, 4, 3, 0, 0, 2, 2, 0, 2, 2, 2, 2, 1, 0, 0, 0, 0] mixed (by kernel_rfl) ?_
  repeat (refine aK ?_)
  refine aH (by first | exact .inl rfl | exact .inr rfl) rfl rfl _ _ aC aD (⟨rfl, rfl, rfl⟩)
end
end Go.Proofs.YtgeagiikkeiioaaGreat
namespace Go.Proofs.YtgeagiikkeiioaaGreat
open Go Go.Fx
section
variable {X : List Nat} {w0 : World} {M0 : List Ent} {I0 : List bA}
end
end Go.Proofs.YtgeagiikkeiioaaGreat
