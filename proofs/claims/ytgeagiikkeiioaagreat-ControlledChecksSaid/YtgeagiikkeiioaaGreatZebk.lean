/- Models of numbers: few; the program's one, zero, canonical, combined, prove, Controlled. controlled: combined, prove, Controlled. -/
import Derived.Test.YtgeagiikkeiioaaGreatZebi
import Derived.Test.YtgeagiikkeiioaaGreatZebj
import Derived.Test.YtgeagiikkeiioaaGreatZebg
import Derived.Test.YtgeagiikkeiioaaGreatZeaw
set_option linter.unusedSimpArgs false
set_option linter.unusedVariables false
set_option maxRecDepth 100000
set_option maxHeartbeats 4000000
namespace Go.Proofs.YtgeagiikkeiioaaGreat
open Go Go.Fx
theorem aHX {q : Rat} : 0 < q.num ↔ 0 < q := by
 have h1 : 0 ≤ q.num ↔ 0 ≤ q := Rat.num_nonneg
 have h2 : q.num = 0 ↔ q = 0 := Rat.num_eq_zero
 constructor
 ·intro h
  have a := h1.1 (by omega)
  have b : q ≠ 0 := fun e => by have := h2.2 e; omega
  grind
 ·intro h
  have a := h1.2 (by grind)
  have b : q.num ≠ 0 := fun e => by have := h2.1 e; grind
  omega
def LW.few (m : LW) (R C : Nat) : Prop := (m.a.rows.length ≤ R ∧ m.l.shN R 6 ∧ m.p.shN R 6) ∧ ∀ r ∈ m.a.rows, r.shN C 6
instance LW.decFew (m : LW) (R C : Nat) : Decidable (m.few R C) := by unfold LW.few; exact inferInstance
structure LE where
 a : MX
 l : RL
 p : RL
abbrev uN (m : LE) : Value := .agg #[mv m.a, lv m.l, lv m.p]
def LE.raw (m : LE) : LW := ⟨m.a.raw, m.l.raw, m.p.raw⟩
theorem rG (m : LE) : vLW m.raw = uN m := by
 show Value.agg #[mvW m.a.raw, rZ m.l.raw, rZ m.p.raw] = _
 rw [uW, tY, tY]
structure IsLE (m : LE) (k : Nat) (X : List Nat) (w : World) : Prop where
 a : IsX m.a k X w
 l : IsL m.l k X w
 p : IsL m.p k X w
abbrev iX (m : LE) (k : Nat) : bD := IsLE m k
instance LE.gd (m : LE) (k : Nat) : Fx.Good (IsLE m k) := ⟨fun X Y w w' h he hY => ⟨Fx.Good.go (φ := IsX _ _) X Y w w' h.a he hY, Fx.Good.go (φ := IsL _ _) X Y w w' h.l he hY, Fx.Good.go (φ := IsL _ _) X Y w w' h.p he hY⟩⟩
theorem Hv.lea {I : List bD} {m : LE} {k : Nat} (h : iX m k ∈ I) : Hv I (fF m.a k) := ⟨fun X w hw => (hw _ h : IsLE m k X w).a⟩
theorem Hv.leraw {I : List bD} {m : LE} {k : Nat} (h : iX m k ∈ I) (hk : k ≤ 20000000000) : Hv I (iZ m.raw) := ⟨fun X w hw => by
 have := (hw _ h : IsLE m k X w)
 exact ⟨IsX.raw (by omega) this.a, IsL.raw (by omega) this.l, IsL.raw (by omega) this.p⟩⟩
structure LE.fit (m : LE) (R C : Nat) : Prop where
 d : m.a.fit R C
 c : C ≤ 24
 l : m.l.es.length = R
 p : m.p.es.length = R
 pos : ∀ e ∈ m.p.es, 0 < e.q
theorem LE.fit.code {m : LE} {R C : Nat} (h : m.fit R C) : m.raw.code = 0 := by
 have hok := h.d.ok
 have hR : m.a.raw.rows.length = R := by rw [MX.raw_rows]; exact h.d.1.1
 have hC : (gt m.a.raw.rows 0).es.length = C := MX.raw_c0 h.d
 refine LW.code_0 ⟨fun r hr => (hok.2 r hr).2, RL.raw_good _, RL.raw_good _⟩ ⟨⟨hok.1.1, hok.1.2.1⟩, hok.1.2.2.1, ?_⟩ ⟨fun r hr => (hok.2 r hr).1, ?_, ?_⟩ (fun e he => ?_)
 ·show (gt m.a.raw.rows 0).es.length ≤ 24; have := h.c; omega
 ·show (m.l.es.map RE.raw).length = m.a.raw.rows.length; rw [List.length_map, h.l, hR]
 ·show (m.p.es.map RE.raw).length = m.a.raw.rows.length; rw [List.length_map, h.p, hR]
 ·obtain ⟨x, hx, rfl⟩ := List.mem_map.1 (show e ∈ m.p.es.map RE.raw from he)
  have e1 : zI x.raw.n1 x.raw.g1 = x.q.num := uF _
  unfold RW.posi
  rw [e1]
  exact aHX.2 (h.pos x hx)
theorem LW.num {m : LW} (hf : (∀ r ∈ m.a.rows, ∀ e ∈ r.es, e.Fit) ∧ (∀ e ∈ m.l.es, e.Fit) ∧ ∀ e ∈ m.p.es, e.Fit) (h : m.code = 0) : ∃ (n : LE) (R C : Nat), m = n.raw ∧ n.fit R C ∧ R = m.a.rows.length ∧ C = (gt m.a.rows 0).es.length := by
 obtain ⟨⟨g1, g2, g3⟩, ⟨⟨r1, r2⟩, c1, c2⟩, ⟨h1, h2, h3⟩, hp⟩ := LW.code_ok h
 obtain ⟨a, l, p⟩ := m
 simp only at *
 obtain ⟨A, rfl, hA⟩ := aWS hf.1 ⟨⟨r1, r2, c1, by omega⟩, fun r hr => ⟨h1 r hr, g1 r hr⟩⟩
 obtain ⟨L, rfl, hL⟩ := zF hf.2.1 g2
 obtain ⟨P, rfl, hP⟩ := zF hf.2.2 g3
 refine ⟨⟨A, L, P⟩, _, _, rfl, ⟨hA, c2, by rw [hL]; exact h2, by rw [hP]; exact h3, fun e he => ?_⟩, rfl, rfl⟩
 have := hp e.raw (List.mem_map.2 ⟨e, he, rfl⟩)
 have e1 : zI e.raw.n1 e.raw.g1 = e.q.num := uF _
 unfold RW.posi at this
 rw [e1] at this
 exact aHX.1 this
theorem Mem.fitLW {X : List Nat} {w0 w : World} {M : List Ent} {I : List bD} {m : LW} (h : iZ m ∈ I) (hw : Mem X w0 M I w) : (∀ r ∈ m.a.rows, ∀ e ∈ r.es, e.Fit) ∧ (∀ e ∈ m.l.es, e.Fit) ∧ ∀ e ∈ m.p.es, e.Fit := by
 have := ((hw.imm _ h).2 : IsLW m _ w)
 exact ⟨fun r hr e he => ((this.a.row r hr).el e he).fit, fun e he => (this.l.el e he).fit, fun e he => (this.p.el e he).fit⟩
theorem LW.few.sml {m : LW} {R C : Nat} (hR : R ≤ 1000 ∧ C ≤ 1000) (h : m.few R C) : m.sml := by
 obtain ⟨⟨h1, h2, h3⟩, h4⟩ := h
 exact ⟨⟨by omega, fun r hr => ⟨by have := (h4 r hr).1; omega, fun e he => (((h4 r hr).2 e he).2 (by omega)).sml⟩⟩, ⟨by have := h2.1; omega, fun e he => ((h2.2 e he).2 (by omega)).sml⟩, ⟨by have := h3.1; omega, fun e he => ((h3.2 e he).2 (by omega)).sml⟩⟩
theorem Hv.few {I : List bD} {m : LE} {R C : Nat} (hf : m.raw.few R C) (h : iZ m.raw ∈ I) : Hv I (iX m 30) := ⟨fun X w hw => by
 have hh := (hw _ h : IsLW m.raw X w)
 obtain ⟨⟨h1, h2, h3⟩, h4⟩ := hf
 have lst : ∀ {r : RL} {n : Nat}, r.raw.shN n 6 → IsWL r.raw X w → IsL r 30 X w := fun {r n} h0 hi => ⟨by have := hi.sl; rw [show r.raw.es = r.es.map RE.raw from rfl, aDE] at this; exact this, fun e he => aON ((h0.2 e.raw (List.mem_map.2 ⟨e, he, rfl⟩)).2 (by omega)) (hi.el e.raw (List.mem_map.2 ⟨e, he, rfl⟩)), by have := hi.cap; rw [show r.raw.es.length = r.es.length from by show (r.es.map RE.raw).length = _; rw [List.length_map]] at this; exact this⟩
 refine ⟨⟨by have := hh.a.sl; rw [show m.raw.a.rows = m.a.rows.map RL.raw from rfl, zG] at this; exact this, fun r hr => lst (h4 r.raw (List.mem_map.2 ⟨r, hr, rfl⟩)) (hh.a.row r.raw (List.mem_map.2 ⟨r, hr, rfl⟩)), by have := hh.a.cap; rw [show m.raw.a.rows.length = m.a.rows.length from MX.raw_rows _] at this; exact this⟩, lst h2 hh.l, lst h3 hh.p⟩⟩
section
variable {X : List Nat} {w0 : World} {M0 : List Ent} {I0 : List bD}
theorem aWF {m : LW} {R C : Nat} (hn : R ≤ 1000000 ∧ C ≤ 1000000) (hR : m.rch) (hm : iZ m ∈ I0) : CD Tryz.prog 92 [vLW m, .int .i64 (R : Int), .int .i64 (C : Int)] X w0 M0 I0 (fun v M I => M0 = M ∧ I0 = I ∧ v = .bool (B (m.few R C))) := by
 obtain ⟨ra, rl, rp⟩ := hR
 have hla := ra.1
 refine bI (φ := lS m.a) (Hv.lwa hm) ?_
 refine bI (φ := fT m.l) (Hv.lwl (List.Mem.tail _ hm)) ?_
 refine bI (φ := fT m.p) (Hv.lwp (List.Mem.tail _ (List.Mem.tail _ hm))) ?_
 refine bI (φ := aV m.a.p (recs uR m.a.rows)) (Hv.wmsl aB) ?_
 have hSl := fun M0 I0 h => pR (X := X) (w0 := w0) (M0 := M0) (I0 := I0) (r := m.l) (n := R) (g := 6) ⟨hn.1, by omega⟩ rl h
 have hSp := fun M0 I0 h => pR (X := X) (w0 := w0) (M0 := M0) (I0 := I0) (r := m.p) (n := R) (g := 6) ⟨hn.1, by omega⟩ rp h
 refine eQ Tryz.func92 rfl Tryz.ntmps92 rfl ?_
 refine aJ ?_
 refine aH ?_
 (refine aM rfl rfl rfl ?_; intro b1; refine ⟨okF, ?_⟩)
 refine aF .here ?_
 by_cases e1 : m.a.rows.length ≤ R
 ·by_cases e2 : m.l.shN R 6
  ·rw [aU e2] at hSl
   by_cases e3 : m.p.shN R 6
   ·rw [aU e3] at hSp
    repeat (refine aI ?_)
    (refine aA rfl (hSl _ _ aB) rfl rfl ?_; rintro _ _ _ ⟨rfl, rfl, rfl⟩; refine ⟨okF, ?_⟩)
    repeat (refine aI ?_)
    (refine aA rfl (hSp _ _ aB) rfl rfl ?_; rintro _ _ _ ⟨rfl, rfl, rfl⟩; refine ⟨okF, ?_⟩)
    repeat (refine aI ?_)
    refine aQ [2, 29, 30] rfl (fun k G M I => ∃ i : Nat, i ≤ m.a.rows.length ∧ k = m.a.rows.length - i ∧ (∀ j : Nat, j < i → (gt m.a.rows (j : Int)).shN C 6) ∧ G = [(31, .int .i64 i)] ∧ M0 = M ∧ I = aV (some ⟨b1, 0, none⟩) [mvW m.a, rZ m.l, rZ m.p] :: aV m.a.p (recs uR m.a.rows) :: fT m.p :: fT m.l :: lS m.a :: I0) (m.a.rows.length) _ _ _ aR aG aD (⟨0, by omega, rfl, fun j hj => by omega, rfl, rfl, rfl⟩) ?_
    rintro kk G M I ⟨i, hi, rfl, hg, rfl, rfl, rfl⟩
    by_cases hin : i < m.a.rows.length
    ·have hS := fun M0 I0 h => pR (X := X) (w0 := w0) (M0 := M0) (I0 := I0) (r := gt m.a.rows (i : Int)) (n := C) (g := 6) ⟨hn.2, by omega⟩ (kP ra.2 hin) h
     refine bQ (φ := fT (gt m.a.rows (i : Int))) (Hv.wmrow aB (by omega)) ?_
     by_cases e : (gt m.a.rows (i : Int)).shN C 6
     ·rw [aU e] at hS
      repeat (refine aI ?_)
      (refine aA rfl (hS _ _ aB) rfl rfl ?_; rintro _ _ _ ⟨rfl, rfl, rfl⟩; refine ⟨okF, ?_⟩)
      repeat (refine aI ?_)
      refine aL (m.a.rows.length - (i + 1)) _ _ _ (by first | omega | (simp only [List.length_append, List.length_cons, List.length_nil]; omega)) aR aG aD (⟨i + 1, by omega, rfl, kR hg e, rfl, rfl, rfl⟩)
     ·rw [aP e] at hS
      repeat (refine aI ?_)
      (refine aA rfl (hS _ _ aB) rfl rfl ?_; rintro _ _ _ ⟨rfl, rfl, rfl⟩; refine ⟨okF, ?_⟩)
      repeat (refine aI ?_)
      refine aC (by first | exact .inl rfl | exact .inr rfl) rfl rfl _ _ aG aD (⟨rfl, rfl, congrArg Value.bool (aP (fun h => e (kP h.2 hin))).symm⟩)
    ·repeat (refine aI ?_)
     refine aC (by first | exact .inl rfl | exact .inr rfl) rfl rfl _ _ aG aD (⟨rfl, rfl, congrArg Value.bool (aU ⟨⟨e1, e2, e3⟩, oG hg (by omega)⟩).symm⟩)
   ·rw [aP e3] at hSp
    repeat (refine aI ?_)
    (refine aA rfl (hSl _ _ aB) rfl rfl ?_; rintro _ _ _ ⟨rfl, rfl, rfl⟩; refine ⟨okF, ?_⟩)
    repeat (refine aI ?_)
    (refine aA rfl (hSp _ _ aB) rfl rfl ?_; rintro _ _ _ ⟨rfl, rfl, rfl⟩; refine ⟨okF, ?_⟩)
    repeat (refine aI ?_)
    refine aC (by first | exact .inl rfl | exact .inr rfl) rfl rfl _ _ aG aD (⟨rfl, rfl, congrArg Value.bool (aP (fun h => e3 h.1.2.2)).symm⟩)
  ·rw [aP e2] at hSl
   repeat (refine aI ?_)
   (refine aA rfl (hSl _ _ aB) rfl rfl ?_; rintro _ _ _ ⟨rfl, rfl, rfl⟩; refine ⟨okF, ?_⟩)
   repeat (refine aI ?_)
   refine aC (by first | exact .inl rfl | exact .inr rfl) rfl rfl _ _ aG aD (⟨rfl, rfl, congrArg Value.bool (aP (fun h => e2 h.1.2.1)).symm⟩)
 ·repeat (refine aI ?_)
  refine aC (by first | exact .inl rfl | exact .inr rfl) rfl rfl _ _ aG aD (⟨rfl, rfl, congrArg Value.bool (aP (fun h => e1 h.1.1)).symm⟩)
theorem nU {m : LW} (hR : m.rch) (hm : iZ m ∈ I0) : CD Tryz.prog 38 [vLW m] X w0 M0 I0 (fun v M I => M0 = M ∧ I0 = I ∧ v = .bool (B (m.few 7 5))) := by
 have hF := fun M0 I0 h => aWF (X := X) (w0 := w0) (M0 := M0) (I0 := I0) (m := m) (R := 7) (C := 5) ⟨by omega, by omega⟩ hR h
 refine bC Tryz.func38 rfl Tryz.ntmps38 rfl ?_
 refine aJ ?_
 refine aH ?_
 (refine aM rfl rfl rfl ?_; intro b1; refine ⟨okF, ?_⟩)
 refine aF .here ?_
 repeat (refine aI ?_)
 (refine aA rfl (hF _ _ aB) rfl rfl ?_; rintro _ _ _ ⟨rfl, rfl, rfl⟩; refine ⟨okF, ?_⟩)
 repeat (refine aI ?_)
 refine aC (by first | exact .inl rfl | exact .inr rfl) rfl rfl _ _ aG aD (⟨rfl, rfl, rfl⟩)
theorem mF {m : LW} (hs : m.sml) (hm : iZ m ∈ I0) : CD Tryz.prog 39 [vLW m] X w0 M0 I0 (fun v M I => M0 = M ∧ I0 = I ∧ v = .int .i64 m.code) := by
 have hF := fun M0 I0 h => aHG (X := X) (w0 := w0) (M0 := M0) (I0 := I0) (m := m) hs h
 refine bC Tryz.func39 rfl Tryz.ntmps39 rfl ?_
 refine aJ ?_
 refine aH ?_
 (refine aM rfl rfl rfl ?_; intro b1; refine ⟨okF, ?_⟩)
 refine aF .here ?_
 repeat (refine aI ?_)
 (refine aA rfl (hF _ _ aB) rfl rfl ?_; rintro _ _ _ ⟨rfl, rfl, rfl⟩; refine ⟨okF, ?_⟩)
 repeat (refine aI ?_)
 refine aC (by first | exact .inl rfl | exact .inr rfl) rfl rfl _ _ aG aD (⟨rfl, rfl, rfl⟩)
theorem jY {m : LE} {R C k : Nat} (hk : k ≤ 20000000000) (f : m.fit R C) (h : iX m k ∈ I0) : CD Tryz.prog 95 [uN m] X w0 M0 I0 (fun v M I => M0 = M ∧ I0 = I ∧ v = .int .i64 0) := by
 have hR := f.d.2.1
 have hC := f.d.2.2
 refine iW (φ := m.raw.sml) (fun w hw => ?_) (fun hs => ?_)
 ·have hh := ((hw.imm _ h).2 : IsLE m k _ w)
  have lst : ∀ {r : RL}, r.es.length ≤ 1000000000 → IsL r k (muts M0) w → r.raw.sml := fun {r} hl hi => ⟨by show (r.es.map RE.raw).length ≤ _; rw [List.length_map]; exact hl, fun e he => by
   obtain ⟨x, hx, rfl⟩ := List.mem_map.1 (show e ∈ r.es.map RE.raw from he)
   exact (hi.el x hx).sml hk⟩
  refine ⟨⟨by rw [show m.raw.a.rows.length = m.a.rows.length from MX.raw_rows _, f.d.1.1]; omega, fun r hr => ?_⟩, lst (by rw [f.l]; omega) hh.l, lst (by rw [f.p]; omega) hh.p⟩
  obtain ⟨x, hx, rfl⟩ := List.mem_map.1 (show r ∈ m.a.rows.map RL.raw from hr)
  exact lst (by rw [f.d.1.2 x hx]; omega) (hh.a.row x hx)
 ·refine nC (φ := iZ m.raw) (Hv.leraw h hk) ?_
  have := sU (X := X) (w0 := w0) (M0 := M0) (I0 := iZ m.raw :: I0) (m := m.raw) hs (List.Mem.head _)
  rw [rG, f.code] at this
  exact this
theorem qP {r : WL} (hs : r.sml) (hw : fT r ∈ I0) : CD Tryz.prog 96 [rZ r] X w0 M0 I0 (fun v M I => M0 = M ∧ I0 = I ∧ v = .bool (B r.good)) := by
 refine bI (φ := aV r.p (recs eW r.es)) (Hv.wlsl hw) ?_
 have hl := hs.1
 refine bC Tryz.func96 rfl Tryz.ntmps96 rfl ?_
 repeat (refine aI ?_)
 refine aQ [5, 6] rfl (fun k G M I => ∃ i : Nat, i ≤ r.es.length ∧ k = r.es.length - i ∧ (∀ j : Nat, j < i → (gt r.es (j : Int)).good) ∧ G = [(7, .int .i64 i)] ∧ M0 = M ∧ I = aV r.p (recs eW r.es) :: I0) (r.es.length) _ _ _ aR aG aD (⟨0, by omega, rfl, fun j hj => by omega, rfl, rfl, rfl⟩) ?_
 rintro kk G M I ⟨i, hi, rfl, hg, rfl, rfl, rfl⟩
 by_cases hin : i < r.es.length
 ·have hV := fun M0 I0 h => zO (X := X) (w0 := w0) (M0 := M0) (I0 := I0) (r := gt r.es (i : Int)) (kP hs.2 hin) h
  refine bQ (φ := isW (gt r.es (i : Int))) (Hv.wlel (List.Mem.tail _ hw) (by omega)) ?_
  by_cases e : (gt r.es (i : Int)).good
  ·rw [aU e] at hV
   repeat (refine aI ?_)
   (refine aN rfl rfl ?_; intro b; refine ⟨okF, ?_⟩)
   repeat (refine aI ?_)
   (refine aA rfl (hV _ _ (Hv.mem aB)) rfl rfl ?_; rintro _ _ _ ⟨rfl, rfl, rfl⟩; refine ⟨okF, ?_⟩)
   repeat (refine aI ?_)
   refine aL (r.es.length - (i + 1)) _ _ _ (by first | omega | (simp only [List.length_append, List.length_cons, List.length_nil]; omega)) aR aG aD (⟨i + 1, by omega, rfl, kR hg e, rfl, rfl, rfl⟩)
  ·rw [aP e] at hV
   repeat (refine aI ?_)
   (refine aN rfl rfl ?_; intro b; refine ⟨okF, ?_⟩)
   repeat (refine aI ?_)
   (refine aA rfl (hV _ _ (Hv.mem aB)) rfl rfl ?_; rintro _ _ _ ⟨rfl, rfl, rfl⟩; refine ⟨okF, ?_⟩)
   repeat (refine aI ?_)
   refine aC (by first | exact .inl rfl | exact .inr rfl) rfl rfl _ _ aG aD (⟨rfl, rfl, congrArg Value.bool (aP (fun h => e (kP h hin))).symm⟩)
 ·repeat (refine aI ?_)
  refine aC (by first | exact .inl rfl | exact .inr rfl) rfl rfl _ _ aG aD (⟨rfl, rfl, congrArg Value.bool (aU (oG hg (by omega))).symm⟩)
theorem wB {r : RL} {k : Nat} (hk : k ≤ 100000000000) (hl : r.es.length ≤ 1000000000) (hr : jR r k ∈ I0) : CD Tryz.prog 98 [lv r] X w0 M0 I0 (fun v M I => M0 = M ∧ I0 = I ∧ v = .bool (B (nP r.q))) := by
 refine bI (φ := aV (r).p (recs eR (r).es)) (Hv.lsl aB) ?_
 refine bC Tryz.func98 rfl Tryz.ntmps98 rfl ?_
 repeat (refine aI ?_)
 refine aQ [5, 6] rfl (fun k G M I => ∃ i : Nat, i ≤ r.es.length ∧ k = r.es.length - i ∧ (∀ j : Nat, j < i → (gt r.es (j : Int)).q = 0) ∧ G = [(7, .int .i64 i)] ∧ M0 = M ∧ I = aV r.p (recs eR r.es) :: I0) (r.es.length) _ _ _ aR aG aD (⟨0, by omega, rfl, fun j hj => by omega, rfl, rfl, rfl⟩) ?_
 rintro kk G M I ⟨i, hi, rfl, hg, rfl, rfl, rfl⟩
 by_cases hin : i < r.es.length
 ·have hS := fun M0 I0 h => mU (X := X) (w0 := w0) (M0 := M0) (I0 := I0) (e := gt r.es (i : Int)) (k := k) (by omega) h
  refine bQ (φ := eY (gt r.es (i : Int)) k) (Hv.lel (List.Mem.tail _ hr) (by omega)) ?_
  by_cases e : (gt r.es (i : Int)).q = 0
  ·rw [(lH _).2 e] at hS
   repeat (refine aI ?_)
   (refine aN rfl rfl ?_; intro b; refine ⟨okF, ?_⟩)
   repeat (refine aI ?_)
   (refine aA rfl (hS _ _ (Hv.mem aB)) rfl rfl ?_; rintro _ _ _ ⟨rfl, rfl, rfl⟩; refine ⟨okF, ?_⟩)
   repeat (refine aI ?_)
   refine aL (r.es.length - (i + 1)) _ _ _ (by first | omega | (simp only [List.length_append, List.length_cons, List.length_nil]; omega)) aR aG aD (⟨i + 1, by omega, rfl, kR hg e, rfl, rfl, rfl⟩)
  ·have hs1 : ¬ (gt r.es (i : Int)).q.num.sign = 0 := fun h => e ((lH _).1 h)
   generalize (gt r.es (i : Int)).q.num.sign = sg at *
   repeat (refine aI ?_)
   (refine aN rfl rfl ?_; intro b; refine ⟨okF, ?_⟩)
   repeat (refine aI ?_)
   (refine aA rfl (hS _ _ (Hv.mem aB)) rfl rfl ?_; rintro _ _ _ ⟨rfl, rfl, rfl⟩; refine ⟨okF, ?_⟩)
   repeat (refine aI ?_)
   refine aC (by first | exact .inl rfl | exact .inr rfl) rfl rfl _ _ aG aD (⟨rfl, rfl, congrArg Value.bool (aP (fun h => e (h _ (List.mem_map.2 ⟨_, bM (by omega), rfl⟩)))).symm⟩)
 ·repeat (refine aI ?_)
  refine aC (by first | exact .inl rfl | exact .inr rfl) rfl rfl _ _ aG aD (⟨rfl, rfl, congrArg Value.bool (aU (fun x hx => by
   obtain ⟨y, hy, rfl⟩ := List.mem_map.1 hx
   exact oG (p := fun e : RE => e.q = 0) hg (by omega) y hy)).symm⟩)
theorem aCY {n i : Nat} (hn : n ≤ 100) (hi : i < n) : CD Tryz.prog 101 [.int .i64 (n : Int), .int .i64 (i : Int)] X w0 M0 I0 (fun v M I => M0 = M ∧ ∃ r : RL, v = lv r ∧ r.q = unL n i ∧ r.es.length = n ∧ I = jR r 0 :: I0) := by
 have hW := fun M0 I0 => kV (X := X) (w0 := w0) (M0 := M0) (I0 := I0) (x := 0) (by decide) (k := 0) (by decide)
 have hW1 := fun M0 I0 => kV (X := X) (w0 := w0) (M0 := M0) (I0 := I0) (x := 1) (by decide) (k := 0) (by decide)
 refine aW Tryz.func101 rfl Tryz.ntmps101 rfl ?_
 repeat (refine aI ?_)
 (refine jU (n) rfl rfl (by omega) (by omega) (by omega) (by omega) (qG (enc := e4) (by decide) z4 n) rfl rfl ?_; intro bi; refine ⟨okF, ?_⟩)
 repeat (refine aI ?_)
 refine bQ (φ := dD [] 0) Hv.nilR ?_
 refine aQ [1, 5, 10] rfl (fun k G M I => ∃ (x : Nat) (es : List RE), x ≤ n ∧ k = n - x ∧ es.length = x ∧ (∀ t : Nat, t < x → (gt es (t : Int)).q = 0) ∧ G = [(11, .int .i64 x)] ∧ M = .blk bi (recs e4 (es.map t4 ++ List.replicate (n - x) z4)) 42 :: M0 ∧ I = dD es 0 :: I0) (n) _ _ _ aR aG aD (⟨0, [], by omega, by omega, rfl, fun t ht => by omega, rfl, rfl, rfl⟩) ?_
 rintro kk G M I ⟨x, es, hx, rfl, hel, heq, rfl, rfl, rfl⟩
 by_cases hxC : x < n
 ·have hz2 := qH (n := n - x) (z := z4) (by omega)
  have hl2 : ((es.map t4 ++ z4 :: List.replicate (n - x - 1) z4).length : Int) = n := by simp; omega
  rw [hz2]
  repeat (refine aI ?_)
  (refine aA rfl (hW _ _) rfl rfl ?_; rintro _ _ _ ⟨rfl, e, rfl, he, rfl⟩; refine ⟨okF, ?_⟩)
  repeat (refine yXh ?_)
  refine fI (vs := eR e) rfl rfl rfl (Ones.one e) lF (StAts.r (t4 e) (by omega) rfl) rfl rfl ⟨okF, ?_⟩
  rw [zT (by simp; omega)]
  repeat (refine aI ?_)
  refine eT (φ := dD (es ++ [e]) 0) (Hv.snoc aB aB) ?_
  have e9 : es.map t4 ++ t4 e :: List.replicate (n - x - 1) z4 = (es ++ [e]).map t4 ++ List.replicate (n - (x + 1)) z4 := by simp [Nat.sub_sub]
  rw [e9]
  refine aL (n - (x + 1)) _ _ _ (by first | omega | (simp only [List.length_append, List.length_cons, List.length_nil]; omega)) aR aG aD (⟨x + 1, es ++ [e], by omega, rfl, by simp; omega, fun t ht => ?_, rfl, rfl, rfl⟩)
  by_cases e1 : t < x
  ·have : gt (es ++ [e]) (t : Int) = gt es (t : Int) := by rw [dH (by simp; omega), dH (by omega), List.getElem_append_left (by omega)]
   rw [this]; exact heq t e1
  ·have : gt (es ++ [e]) (t : Int) = e := rU (A := es) (B := []) (by omega)
   rw [this, he]; rfl
 ·obtain rfl : x = n := by omega
  rw [Nat.sub_self, List.replicate_zero, List.append_nil, xQ]
  repeat (refine aI ?_)
  (refine aA rfl (hW1 _ _) rfl rfl ?_; rintro _ _ _ ⟨rfl, e, rfl, he, rfl⟩; refine ⟨okF, ?_⟩)
  repeat (refine aI ?_)
  refine eT (φ := dD (st es (i : Int) e) 0) (Hv.stR aB aB) ?_
  refine aLW (k := 0) aB ?_
  refine aC (by first | exact .inl rfl | exact .inr rfl) rfl rfl _ _ aG aD (⟨rfl, ⟨some ⟨bi, 0, none⟩, (st es (i : Int) e).length, st es (i : Int) e⟩, ?_, ?_, ?_, rfl⟩)
  ·show _ = Value.slice (some ⟨bi, 0, none⟩) (st es (i : Int) e).length (st es (i : Int) e).length
   rw [cZ, hel]
  ·apply nI
   ·simp [cZ, hel, unL]
   ·intro t ht
    have ht' : t < x := by simpa [cZ, hel] using ht
    show (qs (st es (i : Int) e)).getD t 0 = _
    rw [fA (by rw [cZ]; omega), zL ht', nJ (by omega)]
    simp only [mM]
    by_cases e1 : t = i
    ·rw [if_pos e1, if_pos e1.symm, he]; rfl
    ·rw [if_neg e1, if_neg (fun h => e1 h.symm)]; exact heq t ht'
  ·show (st es (i : Int) e).length = x
   rw [cZ]; exact hel
end
end Go.Proofs.YtgeagiikkeiioaaGreat
namespace Go.Proofs.YtgeagiikkeiioaaGreat
open Go Go.Fx
def apL (R C : Nat) (A : Mt) (x : List Rat) : List Rat := (List.range R).map (fun i => sm C (fun t => at2 A i t * x.getD t 0))
def annP (R C : Nat) (A : Mt) (y : List Rat) : Prop := nP (apL C R (vB R C A) y)
instance annP.dec (R C : Nat) (A : Mt) (y : List Rat) : Decidable (annP R C A y) := by unfold annP; exact inferInstance
theorem yB {R C : Nat} {A : Mt} {x : List Rat} : (apL R C A x).length = R := by simp [apL]
theorem aGO {R C : Nat} {A : Mt} {y : List Rat} : annP R C A y ↔ ∀ j, j < C → sm R (fun i => y.getD i 0 * at2 A i j) = 0 := by
 unfold annP nP apL
 simp only [List.mem_map, List.mem_range, forall_exists_index, and_imp, forall_apply_eq_imp_iff₂]
 refine forall_congr' (fun j => forall_congr' (fun hj => ?_))
 rw [bA (g := fun i => y.getD i 0 * at2 A i j) (fun i hi => by rw [aBI hj hi]; exact Rat.mul_comm _ _)]
def aDK (R C : Nat) (A : Mt) : List Bool := (List.range R).map (fun i => B (ctl R C A i))
section
variable {X : List Nat} {w0 : World} {M0 : List Ent} {I0 : List bD}
theorem aAO {y : RL} {a : MX} {R C k m : Nat} (hk : k ≤ 1000000000) (hm : m ≤ 500000000) (da : a.fit R C) (hl : y.es.length = R) (ha : fF a k ∈ I0) (hy : jR y m ∈ I0) :
  CD Tryz.prog 99 [lv y, mv a] X w0 M0 I0 (LQ (apL C R (vB R C a.q) y.q) (R * (k + m + 1)) M0 I0) := by
 have hT := fun M0 I0 h => rY (X := X) (w0 := w0) (M0 := M0) (I0 := I0) (a := a) (R := R) (C := C) (k := k) (by omega) da h
 refine aW Tryz.func99 rfl Tryz.ntmps99 rfl ?_
 repeat (refine aI ?_)
 (refine aA rfl (hT _ _ aB) rfl rfl ?_; rintro _ _ _ ⟨rfl, t, rfl, ht, td, rfl⟩; refine ⟨okF, ?_⟩)
 have hA := fun M0 I0 h1 h2 => aAA (X := X) (w0 := w0) (M0 := M0) (I0 := I0) (a := t) (x := y) (R := C) (C := R) (k := k) (m := m) hk hm ⟨td, da.2.2, da.2.1⟩ hl h1 h2
 repeat (refine aI ?_)
 (refine aA rfl (hA _ _ aB aB) rfl rfl ?_; rintro _ _ _ ⟨rfl, r, rfl, hr, rfl⟩; refine ⟨okF, ?_⟩)
 repeat (refine aI ?_)
 refine aC (by first | exact .inl rfl | exact .inr rfl) rfl rfl _ _ aG aD (⟨rfl, r, rfl, by rw [hr, ht]; rfl, rfl⟩)
theorem aKM {m : LE} {R C i k : Nat} (hb : 2 * kb k C ≤ 20000000000) (f : m.fit R C) (hi : i < R) (h : iX m k ∈ I0) :
  CD Tryz.prog 102 [uN m, .int .i64 (i : Int)] X w0 M0 I0 (fun v M I => M0 = M ∧ I0 = I ∧ ∃ x : Value, v = .agg #[.bool (B (ctl R C m.a.q i)), x]) := by
 have hk0 : k ≤ kb k C := iC k (Nat.zero_le C)
 have lR := f.d.1.1
 subst lR
 obtain ⟨r1, r2⟩ := f.d.2.1
 have hC := f.c
 refine bI (φ := fF m.a k) (Hv.lea h) ?_
 have hO := fun M0 I0 => aCY (X := X) (w0 := w0) (M0 := M0) (I0 := I0) (n := m.a.rows.length) (i := i) (by omega) hi
 refine aW Tryz.func102 rfl Tryz.ntmps102 rfl ?_
 refine aJ ?_
 refine aH ?_
 (refine aM rfl rfl rfl ?_; intro b1; refine ⟨okF, ?_⟩)
 refine aF .here ?_
 (refine aN rfl rfl ?_; intro b2; refine ⟨okF, ?_⟩)
 repeat (refine aI ?_)
 (refine aA rfl (hO _ _) rfl rfl ?_; rintro _ _ _ ⟨rfl, e, rfl, he, hel, rfl⟩; refine ⟨okF, ?_⟩)
 refine fD (φ := jR e k) (Hv.lm (k := 0) aB (Nat.zero_le _)) ?_
 have hS := fun M0 I0 h1 h2 => aGX (X := X) (w0 := w0) (M0 := M0) (I0 := I0) (a := m.a) (b := e) (R := m.a.rows.length) (C := C) (k0 := k) (by omega) (by omega) f.d hel h1 h2
 by_cases hs : qN m.a.rows.length C m.a.q (unL m.a.rows.length i)
 ·have hs' : qN m.a.rows.length C m.a.q e.q := by rw [he]; exact hs
  simp only [if_pos hs'] at hS
  repeat (refine aI ?_)
  (refine aA rfl (hS _ _ aB aB) rfl rfl ?_; rintro _ _ _ ⟨rfl, x, rfl, hx, rfl⟩; refine ⟨okF, ?_⟩)
  repeat (refine aI ?_)
  refine aK rfl (fun _ => dX (pvs := [(1, lv x)]) (cells := [.bool false, lv x]) rfl rfl) rfl rfl ?_
  repeat (refine aI ?_)
  refine bG (cs := [.bool false, lv x]) (.inl rfl) rfl rfl aB rfl M0 I0 aG aD ⟨rfl, rfl, lv x, by rw [aP (show ¬ ctl m.a.rows.length C m.a.q i from fun hn => hn hs)]⟩
 ·have hs' : ¬ qN m.a.rows.length C m.a.q e.q := by rw [he]; exact hs
  simp only [if_neg hs'] at hS
  have hR := fun M0 I0 h1 h2 => aOB (X := X) (w0 := w0) (M0 := M0) (I0 := I0) (a := m.a) (b := e) (R := m.a.rows.length) (C := C) (k0 := k) hb (by omega) (by omega) f.d hel h1 h2 hs'
  repeat (refine aI ?_)
  (refine aA rfl (hS _ _ aB aB) rfl rfl ?_; rintro _ _ _ ⟨rfl, rfl, rfl⟩; refine ⟨okF, ?_⟩)
  repeat (refine aI ?_)
  (refine aA rfl (hR _ _ aB aB) rfl rfl ?_; rintro _ _ _ ⟨rfl, x, rfl, rfl⟩; refine ⟨okF, ?_⟩)
  repeat (refine aI ?_)
  (refine aK rfl (fun _ => mV (vals := [.bool true, lv x]) (cells := [.bool true, lv x]) rfl ?hpl rfl ?hz) rfl rfl ?_; (case hpl => repeat (first | exact True.intro | refine ⟨rfl, ?_⟩)); (case hz => rfl))
  repeat (refine aI ?_)
  refine bG (cs := [.bool true, lv x]) (.inl rfl) rfl rfl aB rfl M0 I0 aG aD ⟨rfl, rfl, lv x, by rw [aU (show ctl m.a.rows.length C m.a.q i from hs)]⟩
theorem rV {m : LE} {R C k : Nat} (hb : 2 * kb k C ≤ 20000000000) (f : m.fit R C) (h : iX m k ∈ I0) :
  CD Tryz.prog 43 [uN m] X w0 M0 I0 (fun v M I => M0 = M ∧ ∃ (q : Option Addr) (c : Nat), v = .tuple #[.slice q R c, .int .i64 0] ∧ I = aV q (recs eB (aDK R C m.a.q)) :: I0) := by
 have hk0 : k ≤ kb k C := iC k (Nat.zero_le C)
 have lR := f.d.1.1
 subst lR
 obtain ⟨r1, r2⟩ := f.d.2.1
 have hC := fun M0 I0 h => jY (X := X) (w0 := w0) (M0 := M0) (I0 := I0) (m := m) (k := k) (by omega) f h
 have hP := fun (i : Nat) (hi : i < m.a.rows.length) M0 I0 h => aKM (X := X) (w0 := w0) (M0 := M0) (I0 := I0) (m := m) (i := i) (k := k) hb f hi h
 refine bC Tryz.func43 rfl Tryz.ntmps43 rfl ?_
 refine aJ ?_
 refine aH ?_
 (refine aM rfl rfl rfl ?_; intro b1; refine ⟨okF, ?_⟩)
 refine aF .here ?_
 repeat (refine aI ?_)
 (refine aA rfl (hC _ _ aB) rfl rfl ?_; rintro _ _ _ ⟨rfl, rfl, rfl⟩; refine ⟨okF, ?_⟩)
 repeat (refine aI ?_)
 refine mI 4 1 ?_
 refine aQ [1, 14] rfl (fun k G M I => ∃ (i : Nat) (bs : List Bool) (q : Option Addr) (c : Nat), i ≤ m.a.rows.length ∧ k = m.a.rows.length - i ∧ bs.length = i ∧ bs = (List.range i).map (fun t => B (ctl m.a.rows.length C m.a.q t)) ∧ G = [(5, .slice q bs.length c), (15, .int .i64 i)] ∧ M = .row q bs.length c (recs eB bs) 4 1 :: M0 ∧ I = aV (some ⟨b1, 0, none⟩) [mv m.a, lv m.l, lv m.p] :: I0) (m.a.rows.length) _ _ _ aR aG aD (⟨0, [], none, 0, by omega, rfl, rfl, rfl, rfl, rfl, rfl⟩) ?_
 rintro kk G M I ⟨i, bs, q, c, hi, rfl, hbl, hbs, rfl, rfl, rfl⟩
 by_cases hin : i < m.a.rows.length
 ·have hPi := hP i hin
  generalize hbb : B (ctl m.a.rows.length C m.a.q i) = bb at *
  repeat (refine aI ?_)
  (refine aA rfl (hPi _ _ aB) rfl rfl ?_; rintro _ _ _ ⟨rfl, rfl, x, rfl⟩; refine ⟨okF, ?_⟩)
  repeat (refine aI ?_)
  (refine aO (cs := recs eB [bb]) ([.bool bb]) rfl rfl (by intro v hv; repeat (first | exact absurd hv (List.not_mem_nil) | (rcases List.mem_cons.1 hv with rfl | hv; · rfl))) (by omega) rfl rfl rfl ?_; intro b; refine ⟨okF, ?_⟩)
  (refine dV (ys := [bb]) 1 rfl rfl rfl ?_ (by decide) rfl (by omega) (by omega) rfl rfl ?_; (· first | exact Src.blk aB | exact Src.row aB | exact Src.imm aB (by first | assumption | exact .inl (Ok.mk _ _))); intro q2 c2; refine ⟨okF, ?_⟩)
  repeat (refine aI ?_)
  refine aL (m.a.rows.length - (i + 1)) _ _ _ (by first | omega | (simp only [List.length_append, List.length_cons, List.length_nil]; omega)) aR aG aD (⟨i + 1, bs ++ [bb], q2, c2, by omega, rfl, by simp; omega, by rw [List.range_succ, List.map_append, ← hbs, ← hbb]; rfl, rfl, rfl, rfl⟩)
 ·obtain rfl : i = m.a.rows.length := by omega
  repeat (refine aI ?_)
  refine wX .here ?_
  refine aOM (M' := M0) (I' := aV q (recs eB bs) :: I0) SubP.refl aD ?_
  have hbs2 : bs = aDK m.a.rows.length C m.a.q := hbs
  rw [hbl, hbs2]
  refine bZ [2, 3] (by first | exact .inl rfl | exact .inr rfl) rfl rfl rfl _ _ aG aD (⟨rfl, q, c, rfl, rfl⟩)
end
end Go.Proofs.YtgeagiikkeiioaaGreat
