/- The homography of four pairs, plain: every map that has the pairs is a multiple of the one that the program finds. The symbolic heap, continued: regions with stores behind all reads, cells with a tail, rows as blocks. The symbolic heap, continued: drawn regions that lean on a part of the heap. The symbolic heap, continued: scopes, results that lie in cells, structs' lists compared. The side conditions of the walk. Printed by pre.py. -/
import Derived.Test.YtmmmfphealhapaaGreatZrad
import Derived.Scope
set_option linter.unusedSimpArgs false
set_option linter.unusedVariables false
set_option maxRecDepth 100000
set_option maxHeartbeats 4000000
namespace Go.Proofs.YtmmmfphealhapaaGreat
open Go Go.Fx
structure T3 (α : Type) where
 a : α
 b : α
 c : α
structure M9 (α : Type) where
 x : T3 α
 y : T3 α
 z : T3 α
section
variable {α : Type} [Mul α] [Add α] [Sub α]
def T3.cross (p q : T3 α) : T3 α := ⟨p.b * q.c - p.c * q.b, p.c * q.a - p.a * q.c, p.a * q.b - p.b * q.a⟩
def T3.dot (p q : T3 α) : α := p.a * q.a + p.b * q.b + p.c * q.c
def d3 (p q r : T3 α) : α := (p.cross q).dot r
def T3.smul (k : α) (p : T3 α) : T3 α := ⟨k * p.a, k * p.b, k * p.c⟩
def T3.add (p q : T3 α) : T3 α := ⟨p.a + q.a, p.b + q.b, p.c + q.c⟩
def M9.tr (m : M9 α) : M9 α := ⟨⟨m.x.a, m.y.a, m.z.a⟩, ⟨m.x.b, m.y.b, m.z.b⟩, ⟨m.x.c, m.y.c, m.z.c⟩⟩
def M9.app (m : M9 α) (p : T3 α) : T3 α := ⟨m.x.dot p, m.y.dot p, m.z.dot p⟩
def M9.mul (g h : M9 α) : M9 α := ⟨h.tr.app g.x, h.tr.app g.y, h.tr.app g.z⟩
def M9.cof (m : M9 α) : M9 α := ⟨m.y.cross m.z, m.z.cross m.x, m.x.cross m.y⟩
structure P4 (α : Type) where
 p : T3 α
 q : T3 α
 r : T3 α
 s : T3 α
def P4.k0 (l : P4 α) : α := d3 l.s l.q l.r
def P4.k1 (l : P4 α) : α := d3 l.p l.s l.r
def P4.k2 (l : P4 α) : α := d3 l.p l.q l.s
def P4.k3 (l : P4 α) : α := d3 l.p l.q l.r
def P4.bas (l : P4 α) : M9 α := (M9.mk (l.p.smul l.k0) (l.q.smul l.k1) (l.r.smul l.k2)).tr
def oZ (l m : P4 α) : M9 α := m.bas.mul l.bas.cof.tr
end
def iU (p : T3 Int) : T3 Rat := ⟨(p.a : Rat), (p.b : Rat), (p.c : Rat)⟩
def dB (m : M9 Int) : M9 Rat := ⟨iU m.x, iU m.y, iU m.z⟩
def bY (l : P4 Int) : P4 Rat := ⟨iU l.p, iU l.q, iU l.r, iU l.s⟩
theorem qY (p q : T3 Int) : iU (p.cross q) = (iU p).cross (iU q) := by simp [iU, T3.cross, Rat.intCast_sub, Rat.intCast_mul]
theorem nG (p q : T3 Int) : ((p.dot q : Int) : Rat) = (iU p).dot (iU q) := by simp [iU, T3.dot, Rat.intCast_add, Rat.intCast_mul]
theorem nO (p q r : T3 Int) : ((d3 p q r : Int) : Rat) = d3 (iU p) (iU q) (iU r) := by unfold d3; rw [nG, qY]
theorem wO (k : Int) (p : T3 Int) : iU (p.smul k) = (iU p).smul (k : Rat) := by simp [iU, T3.smul, Rat.intCast_mul]
theorem aBH (m : M9 Int) : dB m.tr = (dB m).tr := rfl
theorem xV (m : M9 Int) (p : T3 Int) : iU (m.app p) = (dB m).app (iU p) := by
 unfold M9.app
 show T3.mk _ _ _ = T3.mk _ _ _
 rw [nG, nG, nG]; rfl
theorem aMU (g h : M9 Int) : dB (g.mul h) = (dB g).mul (dB h) := by
 unfold M9.mul
 show M9.mk _ _ _ = M9.mk _ _ _
 rw [xV, xV, xV, aBH]; rfl
theorem aLW (m : M9 Int) : dB m.cof = (dB m).cof := by
 unfold M9.cof
 show M9.mk _ _ _ = M9.mk _ _ _
 rw [qY, qY, qY]; rfl
theorem aCS (l : P4 Int) : dB l.bas = (bY l).bas := by
 unfold P4.bas
 rw [aBH]
 congr 1
 show M9.mk _ _ _ = M9.mk _ _ _
 rw [wO, wO, wO]
 unfold P4.k0 P4.k1 P4.k2
 rw [nO, nO, nO]; rfl
theorem wR (l m : P4 Int) : dB (oZ l m) = oZ (bY l) (bY m) := by
 unfold oZ
 rw [aMU, aBH, aLW, aCS, aCS]
theorem aQW (l : P4 Int) : ((l.k0 : Int) : Rat) = (bY l).k0 ∧ ((l.k1 : Int) : Rat) = (bY l).k1 ∧ ((l.k2 : Int) : Rat) = (bY l).k2 ∧ ((l.k3 : Int) : Rat) = (bY l).k3 := by
 unfold P4.k0 P4.k1 P4.k2 P4.k3
 rw [nO, nO, nO, nO]
 exact ⟨rfl, rfl, rfl, rfl⟩
/- ---------- over fractions ---------- -/
theorem T3.ext3 {p q : T3 Rat} (h1 : p.a = q.a) (h2 : p.b = q.b) (h3 : p.c = q.c) : p = q := by
 cases p; cases q; simp only at h1 h2 h3; rw [h1, h2, h3]
theorem aPK (p q r R : T3 Rat) : R.smul (d3 p q r) = (((q.cross r).smul (R.dot p)).add ((r.cross p).smul (R.dot q))).add ((p.cross q).smul (R.dot r)) := by
 apply T3.ext3 <;> simp only [T3.smul, T3.add, T3.cross, T3.dot, d3] <;> grind
theorem cram3 (l : P4 Rat) : l.s.smul l.k3 = ((l.p.smul l.k0).add (l.q.smul l.k1)).add (l.r.smul l.k2) := by
 apply T3.ext3 <;> simp only [T3.smul, T3.add, T3.cross, T3.dot, d3, P4.k0, P4.k1, P4.k2, P4.k3] <;> grind
def xH (l m : P4 Rat) (u v w : Rat) : T3 Rat := (((l.q.cross l.r).smul (m.k0 * u * (l.k1 * l.k2))).add ((l.r.cross l.p).smul (m.k1 * v * (l.k2 * l.k0)))).add ((l.p.cross l.q).smul (m.k2 * w * (l.k0 * l.k1)))
theorem aAL (l m : P4 Rat) : oZ l m = ⟨xH l m m.p.a m.q.a m.r.a, xH l m m.p.b m.q.b m.r.b, xH l m m.p.c m.q.c m.r.c⟩ := by
 unfold oZ P4.bas xH
 generalize l.k0 = k0
 generalize l.k1 = k1
 generalize l.k2 = k2
 generalize m.k0 = m0
 generalize m.k1 = m1
 generalize m.k2 = m2
 simp only [M9.mul, M9.tr, M9.cof, M9.app, T3.cross, T3.dot, T3.smul, T3.add, M9.mk.injEq, T3.mk.injEq]
 refine ⟨⟨?_, ?_, ?_⟩, ⟨?_, ?_, ?_⟩, ⟨?_, ?_, ?_⟩⟩ <;> grind
theorem vY (l m : P4 Rat) (u v w : Rat) (x : T3 Rat) : (xH l m u v w).dot x = m.k0 * u * (l.k1 * l.k2) * (l.q.cross l.r).dot x + m.k1 * v * (l.k2 * l.k0) * (l.r.cross l.p).dot x + m.k2 * w * (l.k0 * l.k1) * (l.p.cross l.q).dot x := by
 unfold xH
 simp only [T3.smul, T3.add, T3.dot]
 grind
theorem sK (p q : T3 Rat) : (p.cross q).dot p = 0 ∧ (p.cross q).dot q = 0 := by
 simp only [T3.cross, T3.dot]
 constructor <;> grind
theorem aHX (p q r : T3 Rat) : (q.cross r).dot p = d3 p q r ∧ (r.cross p).dot q = d3 p q r := by
 simp only [T3.cross, T3.dot, d3]
 constructor <;> grind
theorem aQO (l m : P4 Rat) (u v w : Rat) : (xH l m u v w).dot l.p = (m.k0 * l.k1 * l.k2 * l.k3) * u := by
 rw [vY, (aHX l.p l.q l.r).1, (sK l.r l.p).2, (sK l.p l.q).1]
 show _ = m.k0 * l.k1 * l.k2 * d3 l.p l.q l.r * u
 grind
theorem aPU (l m : P4 Rat) (u v w : Rat) : (xH l m u v w).dot l.q = (m.k1 * l.k0 * l.k2 * l.k3) * v := by
 rw [vY, (aHX l.p l.q l.r).2, (sK l.q l.r).1, (sK l.p l.q).2]
 show _ = m.k1 * l.k0 * l.k2 * d3 l.p l.q l.r * v
 grind
theorem aPY (l m : P4 Rat) (u v w : Rat) : (xH l m u v w).dot l.r = (m.k2 * l.k0 * l.k1 * l.k3) * w := by
 rw [vY, (sK l.q l.r).2, (sK l.r l.p).1]
 show _ = m.k2 * l.k0 * l.k1 * d3 l.p l.q l.r * w
 show m.k0 * u * (l.k1 * l.k2) * 0 + m.k1 * v * (l.k2 * l.k0) * 0 + m.k2 * w * (l.k0 * l.k1) * d3 l.p l.q l.r = _
 grind
theorem aER (l : P4 Rat) : (l.q.cross l.r).dot l.s = l.k0 ∧ (l.r.cross l.p).dot l.s = l.k1 ∧ (l.p.cross l.q).dot l.s = l.k2 := by
 simp only [T3.cross, T3.dot, d3, P4.k0, P4.k1, P4.k2]
 refine ⟨?_, ?_, ?_⟩ <;> grind
theorem aFF (l m : P4 Rat) (u v w t : Rat) (h : t * m.k3 = u * m.k0 + v * m.k1 + w * m.k2) : (xH l m u v w).dot l.s = (m.k3 * l.k0 * l.k1 * l.k2) * t := by
 rw [vY, (aER l).1, (aER l).2.1, (aER l).2.2]
 grind
theorem uF (m : P4 Rat) : m.s.a * m.k3 = m.p.a * m.k0 + m.q.a * m.k1 + m.r.a * m.k2 ∧ m.s.b * m.k3 = m.p.b * m.k0 + m.q.b * m.k1 + m.r.b * m.k2 ∧ m.s.c * m.k3 = m.p.c * m.k0 + m.q.c * m.k1 + m.r.c * m.k2 := by
 have h := cram3 m
 simp only [T3.smul, T3.add, T3.mk.injEq] at h
 refine ⟨?_, ?_, ?_⟩ <;> grind
theorem aEM (l m : P4 Rat) : (oZ l m).app l.p = m.p.smul (m.k0 * l.k1 * l.k2 * l.k3) ∧ (oZ l m).app l.q = m.q.smul (m.k1 * l.k0 * l.k2 * l.k3) ∧ (oZ l m).app l.r = m.r.smul (m.k2 * l.k0 * l.k1 * l.k3) ∧ (oZ l m).app l.s = m.s.smul (m.k3 * l.k0 * l.k1 * l.k2) := by
 rw [aAL]
 have hc := uF m
 refine ⟨?_, ?_, ?_, ?_⟩
 ·simp only [M9.app, T3.smul, aQO]
 ·simp only [M9.app, T3.smul, aPU]
 ·simp only [M9.app, T3.smul, aPY]
 ·simp only [M9.app, T3.smul]
  rw [aFF l m _ _ _ _ hc.1, aFF l m _ _ _ _ hc.2.1, aFF l m _ _ _ _ hc.2.2]
structure P4.ok (l : P4 Rat) : Prop where
 h0 : l.k0 ≠ 0
 h1 : l.k1 ≠ 0
 h2 : l.k2 ≠ 0
 h3 : l.k3 ≠ 0
theorem aQF {p q r : T3 Rat} (hd : d3 p q r ≠ 0) {x y z : Rat} (ha : x * p.a + y * q.a + z * r.a = 0) (hb : x * p.b + y * q.b + z * r.b = 0) (hc : x * p.c + y * q.c + z * r.c = 0) : x = 0 ∧ y = 0 ∧ z = 0 := by
 have ex : x * d3 p q r = (x * p.a + y * q.a + z * r.a) * (q.cross r).a + (x * p.b + y * q.b + z * r.b) * (q.cross r).b + (x * p.c + y * q.c + z * r.c) * (q.cross r).c := by
  simp only [T3.cross, T3.dot, d3]; grind
 have ey : y * d3 p q r = (x * p.a + y * q.a + z * r.a) * (r.cross p).a + (x * p.b + y * q.b + z * r.b) * (r.cross p).b + (x * p.c + y * q.c + z * r.c) * (r.cross p).c := by
  simp only [T3.cross, T3.dot, d3]; grind
 have ez : z * d3 p q r = (x * p.a + y * q.a + z * r.a) * (p.cross q).a + (x * p.b + y * q.b + z * r.b) * (p.cross q).b + (x * p.c + y * q.c + z * r.c) * (p.cross q).c := by
  simp only [T3.cross, T3.dot, d3]; grind
 rw [ha, hb, hc] at ex ey ez
 have f : ∀ g : Rat, g * d3 p q r = 0 → g = 0 := fun g h => (Rat.mul_eq_zero.1 h).resolve_right hd
 exact ⟨f x (by grind), f y (by grind), f z (by grind)⟩
theorem aFX {l m : P4 Rat} {H : M9 Rat} {c0 c1 c2 c3 : Rat} (h0 : H.app l.p = m.p.smul c0) (h1 : H.app l.q = m.q.smul c1) (h2 : H.app l.r = m.r.smul c2) (h3 : H.app l.s = m.s.smul c3) (hm : m.ok) :
  m.k3 * l.k0 * c0 = l.k3 * c3 * m.k0 ∧ m.k3 * l.k1 * c1 = l.k3 * c3 * m.k1 ∧ m.k3 * l.k2 * c2 = l.k3 * c3 * m.k2 := by
 have hl := uF l
 have hc := uF m
 have e : ∀ (x0 x1 x2 x3 : Rat) (R : T3 Rat), R.dot l.p = c0 * x0 → R.dot l.q = c1 * x1 → R.dot l.r = c2 * x2 → R.dot l.s = c3 * x3 → x3 * m.k3 = x0 * m.k0 + x1 * m.k1 + x2 * m.k2 →
   (m.k3 * l.k0 * c0 - l.k3 * c3 * m.k0) * x0 + (m.k3 * l.k1 * c1 - l.k3 * c3 * m.k1) * x1 + (m.k3 * l.k2 * c2 - l.k3 * c3 * m.k2) * x2 = 0 := by
  intro x0 x1 x2 x3 R e0 e1 e2 e3 e4
  have e5 : R.dot l.s * l.k3 = R.dot l.p * l.k0 + R.dot l.q * l.k1 + R.dot l.r * l.k2 := by
   have a1 := hl.1
   have a2 := hl.2.1
   have a3 := hl.2.2
   simp only [T3.dot]
   grind
  rw [e0, e1, e2, e3] at e5
  generalize l.k0 = a0 at *
  generalize l.k1 = a1 at *
  generalize l.k2 = a2 at *
  generalize l.k3 = a3 at *
  generalize m.k0 = b0 at *
  generalize m.k1 = b1 at *
  generalize m.k2 = b2 at *
  generalize m.k3 = b3 at *
  grind
 simp only [M9.app, T3.smul, T3.mk.injEq] at h0 h1 h2 h3
 have ea := e m.p.a m.q.a m.r.a m.s.a H.x h0.1 h1.1 h2.1 h3.1 hc.1
 have eb := e m.p.b m.q.b m.r.b m.s.b H.y h0.2.1 h1.2.1 h2.2.1 h3.2.1 hc.2.1
 have ec := e m.p.c m.q.c m.r.c m.s.c H.z h0.2.2 h1.2.2 h2.2.2 h3.2.2 hc.2.2
 obtain ⟨d0, d1, d2⟩ := aQF (p := m.p) (q := m.q) (r := m.r) hm.h3 ea eb ec
 refine ⟨?_, ?_, ?_⟩ <;> grind
theorem yI {l m : P4 Rat} (hl : l.ok) {c0 c1 c2 c3 u v w : Rat} {R : T3 Rat} (e0 : R.dot l.p = c0 * u) (e1 : R.dot l.q = c1 * v) (e2 : R.dot l.r = c2 * w)
  (s0 : m.k3 * l.k0 * c0 = l.k3 * c3 * m.k0) (s1 : m.k3 * l.k1 * c1 = l.k3 * c3 * m.k1) (s2 : m.k3 * l.k2 * c2 = l.k3 * c3 * m.k2) :
  R.smul (m.k3 * l.k0 * l.k1 * l.k2) = (xH l m u v w).smul c3 := by
 have f := aPK l.p l.q l.r R
 rw [e0, e1, e2] at f
 have hk : d3 l.p l.q l.r = l.k3 := rfl
 rw [hk] at f
 have h3 := hl.h3
 have fin : ∀ R' A B C : Rat, l.k3 * R' = c0 * u * A + c1 * v * B + c2 * w * C → m.k3 * l.k0 * l.k1 * l.k2 * R' = c3 * (m.k0 * u * (l.k1 * l.k2) * A + m.k1 * v * (l.k2 * l.k0) * B + m.k2 * w * (l.k0 * l.k1) * C) := by
  intro R' A B C h
  have e : l.k3 * (m.k3 * l.k0 * l.k1 * l.k2 * R') = l.k3 * (c3 * (m.k0 * u * (l.k1 * l.k2) * A + m.k1 * v * (l.k2 * l.k0) * B + m.k2 * w * (l.k0 * l.k1) * C)) := by
   generalize l.k0 = a0 at *
   generalize l.k1 = a1 at *
   generalize l.k2 = a2 at *
   generalize l.k3 = a3 at *
   generalize m.k0 = b0 at *
   generalize m.k1 = b1 at *
   generalize m.k2 = b2 at *
   generalize m.k3 = b3 at *
   have e1 : a3 * (b3 * a0 * a1 * a2 * R') = b3 * a0 * a1 * a2 * (a3 * R') := by grind
   rw [e1, h]
   have e2 : b3 * a0 * a1 * a2 * (c0 * u * A + c1 * v * B + c2 * w * C) = (b3 * a0 * c0) * (a1 * a2 * u * A) + (b3 * a1 * c1) * (a0 * a2 * v * B) + (b3 * a2 * c2) * (a0 * a1 * w * C) := by grind
   rw [e2, s0, s1, s2]
   grind
  have e' : l.k3 * (m.k3 * l.k0 * l.k1 * l.k2 * R' - c3 * (m.k0 * u * (l.k1 * l.k2) * A + m.k1 * v * (l.k2 * l.k0) * B + m.k2 * w * (l.k0 * l.k1) * C)) = 0 := by
   have e9 : ∀ x y z : Rat, x * y = x * z → x * (y - z) = 0 := by intro x y z h; grind
   exact e9 _ _ _ e
  have := (Rat.mul_eq_zero.1 e').resolve_left h3
  grind
 simp only [T3.smul, T3.add, T3.mk.injEq] at f
 obtain ⟨fa, fb, fc⟩ := f
 unfold xH
 apply T3.ext3 <;> simp only [T3.smul, T3.add]
 ·exact fin _ _ _ _ fa
 ·exact fin _ _ _ _ fb
 ·exact fin _ _ _ _ fc
theorem aIG {l m : P4 Rat} {H : M9 Rat} {c0 c1 c2 c3 : Rat} (hl : l.ok) (hm : m.ok) (h0 : H.app l.p = m.p.smul c0) (h1 : H.app l.q = m.q.smul c1) (h2 : H.app l.r = m.r.smul c2) (h3 : H.app l.s = m.s.smul c3) :
  H.x.smul (m.k3 * l.k0 * l.k1 * l.k2) = (oZ l m).x.smul c3 ∧ H.y.smul (m.k3 * l.k0 * l.k1 * l.k2) = (oZ l m).y.smul c3 ∧ H.z.smul (m.k3 * l.k0 * l.k1 * l.k2) = (oZ l m).z.smul c3 := by
 obtain ⟨s0, s1, s2⟩ := aFX h0 h1 h2 h3 hm
 rw [aAL]
 simp only [M9.app, T3.smul, T3.mk.injEq] at h0 h1 h2
 exact ⟨yI hl h0.1 h1.1 h2.1 s0 s1 s2, yI hl h0.2.1 h1.2.1 h2.2.1 s0 s1 s2, yI hl h0.2.2 h1.2.2 h2.2.2 s0 s1 s2⟩
end Go.Proofs.YtmmmfphealhapaaGreat
namespace Go.Fx
def Cs1 (X : List Nat) (w0 : World) (M : List Ent) (I : List bA) : Nat → World → Prop
 | 0, w => Mem X w0 M I w
 | _ + 1, _ => True
section
variable {P : Program} {n : Nat} {Q Q' : Exit → Act → World → Prop} {G : Env} {X : List Nat} {w0 : World} {M M' M1 : List Ent} {I I' I1 : List bA}
theorem View.one {k : Nat} {ms : List Nat} (h : k + ms.headD 0 = 0) : View (.any (Cs1 X w0 M1 I1) k ms) X w0 M I M1 I1 := ⟨fun w w' _ hc => by
 have hc' : Cs1 X w0 M1 I1 (k + ms.headD 0) w' := hc
 rw [h] at hc'
 exact hc'⟩
theorem OkD.one {k : Nat} {ms : List Nat} : OkD (.any (Cs1 X w0 M1 I1) k ms) X w0 M I := ⟨fun _ _ => True.intro⟩
/- cells with a tail -/
theorem At.app {cs tl : List Value} {o : Nat} {v : Value} (h : At cs o v) : At (cs ++ tl) o v := ⟨by
 have := h.get
 rw [List.getElem?_append_left (List.getElem?_eq_some_iff.1 this).1]; exact this⟩
theorem Ats.app {cs tl vs : List Value} {o : Nat} (h : Ats cs o vs) : Ats (cs ++ tl) o vs := ⟨fun j v hj => by
 have := h.get j v hj
 rw [List.getElem?_append_left (List.getElem?_eq_some_iff.1 this).1]; exact this⟩
theorem StAt.app {cs cs' tl : List Value} {o : Nat} {v : Value} (h : StAt cs o v cs') : StAt (cs ++ tl) o v (cs' ++ tl) := by
 obtain ⟨h1, h2⟩ := h.out
 exact ⟨by rw [List.set_append_left _ _ h2, h1], by rw [List.length_append]; omega⟩
theorem StAts.app {cs cs' tl vs : List Value} {o : Nat} (h : StAts cs o vs cs') : StAts (cs ++ tl) o vs (cs' ++ tl) := by
 obtain ⟨h1, h2⟩ := h.out
 refine ⟨?_, by rw [List.length_append]; omega⟩
 unfold splice at *
 rw [List.take_append_of_le_length (by omega), List.drop_append_of_le_length (by omega), ← h1]
 simp
theorem Mem.rowBlk {w : World} {a : Option Addr} {mm c : Nat} {cs : List Value} {e : TypeId} {sz : Nat} (h : Mem X w0 (.row a mm c cs e sz :: M) I w) : (a = none ∧ mm = 0 ∧ cs = []) ∨ ∃ b tl, a = some ⟨b, 0, none⟩ ∧ mm ≤ c ∧ Mem X w0 (.blk b (cs ++ tl) e :: M) I w := by
 have ho : w.ownsRow 0 e sz (.slice a mm c) mm cs := h.ent _ List.mem_cons_self
 rcases ho.2 with ⟨h1, h2⟩ | ⟨g, cap, cur, hv, _, hg, hmc, _, hsz, htake⟩
 ·injection h1 with e1 e2 e3
  exact .inl ⟨e1, h2, List.eq_nil_of_length_eq_zero (by rw [ho.1, h2]; simp)⟩
 ·injection hv with e1 e2 e3
  subst e1; subst e3
  refine .inr ⟨g, cur.toList.drop (mm * sz), rfl, hmc, ?_⟩
  have hcs : cs ++ cur.toList.drop (mm * sz) = cur.toList := by rw [← htake, List.take_append_drop]
  rw [hcs]
  refine h.upd (en := .row (some ⟨g, 0, none⟩) mm c cs e sz) (en' := .blk g cur.toList e) .here (Ext.refl _ _) (fun b hb => .inl (by simpa [Ent.blocks] using hb)) (by simp [Ent.blocks]) ?_
  show Blk w g cur.toList e
  simpa [Blk] using hg
theorem aBE {c' : Code} {a : Option Addr} {mm c : Nat} {cs : List Value} {e : TypeId} {sz : Nat} (h0 : a = none → mm = 0 → cs = [] → TD P n c' Q G X w0 (.row a mm c cs e sz :: M) I) (h1 : ∀ b tl, a = some ⟨b, 0, none⟩ → mm ≤ c → TD P n c' Q G X w0 (.blk b (cs ++ tl) e :: M) I) : TD P n c' Q G X w0 (.row a mm c cs e sz :: M) I :=
 ⟨fun w hw => by
  rcases hw.rowBlk with ⟨e1, e2, e3⟩ | ⟨b, tl, e1, e2, hm⟩
  ·exact (h0 e1 e2 e3).go w hw
  ·exact (h1 b tl e1 e2).go w hm⟩
theorem Mem.takeI {w : World} {a : Option Addr} {cs tl : List Value} (h : Mem X w0 M I w) (hm : aX a (cs ++ tl) ∈ I) : Mem X w0 M (aX a cs :: I) w :=
 h.add (φ := aX a cs) ⟨by
  have := (h.sl hm).take cs.length
  rwa [List.take_left] at this⟩
theorem aOK {φ : Prop} {ex : Exit} (h : ∀ w, Mem X w0 M I w → φ) (k : φ → ND n Q ex G X w0 M I) : ND n Q ex G X w0 M I := ⟨fun w hw => (k (h w hw)).go w hw⟩
theorem uS {φ : Prop} {c : Code} (h : ∀ w, Mem X w0 M I w → φ) (k : φ → TD P n c Q G X w0 M I) : TD P n c Q G X w0 M I := ⟨fun w hw => (k (h w hw)).go w hw⟩
theorem lU {φ : Prop} {ops l : List Oper} {m : Mode} (h : ∀ w, Mem X w0 M I w → φ) (k : φ → RD P n ops Q m l G X w0 M I) : RD P n ops Q m l G X w0 M I := ⟨fun w hw => (k (h w hw)).go w hw⟩
theorem CD.sub {f : FuncId} {vs : List Value} {K : Value → List Ent → List bA → Prop} (hM : SubP M M') (h : CD P f vs X w0 M' I K) : CD P f vs X w0 M I K := h.weak hM .refl
theorem dK {C : World → Prop} {ty : TypeId} {t t' : TypeId} {x y : Operand} {k k' : IntKind} {a : Int} (hx : ev G x = some (.int k a)) (hy : ev G y = some (.int k' 1)) : Const P n G (.binOp .shr t x y t') ty C (.int k (a / 2)) := by
 refine aCW hx hy (by omega) (.inr ⟨rfl, ?_⟩)
 have : min ((1 : Int).toNat) k.bits = 1 := by cases k <;> decide
 rw [this, Int.fdiv_eq_ediv_of_nonneg _ (by decide)]
 rfl
theorem dL {C : World → Prop} {ty : TypeId} {t : TypeId} {x : Operand} {p : Prop} [Decidable p] (hx : ev G x = some (.bool (B p))) : Const P n G (.unOp .not t x) ty C (.bool (B (¬ p))) := by
 have := bH (P := P) (n := n) (G := G) (ty := ty) (C := C) (op := .unOp .not t x) (v := .bool (!(B p))) (by simp [wV, hx])
 rwa [show (!(B p)) = B (¬ p) by rw [qW, qW]; simp] at this
theorem fI {ops l : List Oper} {m : Mode} {ty : TypeId} {pos : String} {af : Array Edge} {g : Option (Nat × Bool)} {d : Nat} {t : TypeId} {x : Operand} {b o : Nat} {cs : List Value} {v : Value} [ScalarTy P t] (hv : View m X w0 M I M1 I1) (hx : ev G x = some (.pointer (some ⟨b, o, none⟩))) (hm : aX (some ⟨b, 0, none⟩) cs ∈ I1) (hc : At cs o v) (hg : nM ops G g = some true)
  (hd : Nat.ble (d + 1) n = true) (k : RD P n ops Q m.next l ((d, v) :: G) X w0 M I) : RD P n ops Q m (⟨some d, .load t x, ty, pos, af, g⟩ :: l) G X w0 M I :=
 zO hv hg (fun w hw => rF hx (fun w' e => by
  subst e
  have := (hw.sl hm).cell hc.get
  simpa [pt, bl, of] using this)) rfl hd k
theorem jM {ops l : List Oper} {m : Mode} {ty : TypeId} {pos : String} {af : Array Edge} {g : Option (Nat × Bool)} {d : Nat} {t : TypeId} {sz : Nat} {x : Operand} {b o : Nat} {cs vs : List Value} [AggTy P t sz] (hv : View m X w0 M I M1 I1) (hx : ev G x = some (.pointer (some ⟨b, o, none⟩))) (hm : aX (some ⟨b, 0, none⟩) cs ∈ I1) (hc : Ats cs o vs) (hl : vs.length = sz) (hg : nM ops G g = some true)
  (hd : Nat.ble (d + 1) n = true) (k : RD P n ops Q m.next l ((d, .agg vs.toArray) :: G) X w0 M I) : RD P n ops Q m (⟨some d, .load t x, ty, pos, af, g⟩ :: l) G X w0 M I :=
 zO hv hg (fun w hw => oV hx hl (fun w' e => by
  subst e
  have := Sl.rowAt (hw.sl hm) o vs hc.get
  simpa [bl, of] using this)) rfl hd k
end
end Go.Fx
namespace Go.Fx
section
variable {P : Program} {n : Nat} {Q Q' : Exit → Act → World → Prop} {G : Env} {X : List Nat} {w0 : World} {M M' M1 : List Ent} {I I' I1 : List bA}
theorem bB {id : Nat} {l : List Oper} (Ms : List Ent) (Is : List bA) (p ms : List Nat) (hM : SubP M Ms) (hI : Inc I Is) (hx : P.follows .mixedOrders = true)
  (hp : (Region.noSelect l.toArray && iZ l.toArray p ms (Array.replicate l.length false) && p.length == l.length) = true)
  (h : RD P n l Q (.any (rQ X w0 Ms Is) 0 ms) (pick l p) G X w0 M I) : TD P n (.region id l.toArray true) Q G X w0 M I :=
 wI (rQ X w0 Ms Is) p ms hx (fun _ _ h => h) hp (fun _ h => h.weak hM hI) h
/- slices from the start -/
theorem rJ {C : World → Prop} {ty t e : TypeId} {sz : Nat} {x y : Operand} {b o len c : Nat} {k : IntKind} {i : Int} (h : Nat) [ht : SliceTy P t e sz] (hx : ev G x = some (.slice (some ⟨b, o, none⟩) len c)) (hy : ev G y = some (.int k i)) (hi : i = h) (h2 : h ≤ c) :
  Const P n G (.slice t x none (some y) none) ty C (.slice (some ⟨b, o, none⟩) h c) := by
 subst hi
 refine ⟨?_⟩
 intro st ha dst pos after guard w _
 by_cases h0 : c = 0
 ·have hh : h = 0 := by omega
  simp [execOp, Instr.sliceAt, Instr.slice, ha.ev hx, fD ht.und, run_sizeOf ht.size, Instr.sliceBounds, Instr.sliceBound, asIntOf, ha.ev hy, h0, hh]
 ·simp [execOp, Instr.sliceAt, Instr.slice, ha.ev hx, fD ht.und, run_sizeOf ht.size, Instr.sliceBounds, Instr.sliceBound, asIntOf, ha.ev hy, h2, h0, add_lit]
end
end Go.Fx
namespace Go.Fx
@[irreducible] def NoG (Q : Exit → Act → World → Prop) : Exit → Act → World → Prop := Exit.noGoto Q
section
variable {P : Program} {n : Nat} {Q Q' : Exit → Act → World → Prop} {G : Env} {X : List Nat} {w0 : World} {M M' M1 : List Ent} {I I' I1 : List bA}
theorem zT {fn : Func} {a : Tmp} {t : TypeId} {sz : Nat} {tmps : Array Value} {w : World} {b : Nat} {cs : List Value} {e : TypeId} [ht : AggTy P t sz] (h : fn.results = #[.cell a t]) (hb : tmps.getD a undef = .pointer (some ⟨b, 0, none⟩)) (hB : Blk w b cs e) (hl : cs.length = sz) :
  (results fn tmps).run P w = .ok (.agg cs.toArray) w := by
 have := run_loadCellsFrom (P := P) cs (hB.row0) sz 0 #[] (by omega) rfl
 have hb' : tmps[a]?.getD undef = .pointer (some ⟨b, 0, none⟩) := by simpa using hb
 simp [results, h, hb', asAddr, loadVar, lQ, run_sizeOf ht.size, loadCells, this]
theorem zL {fn : Func} {a : Tmp} {t : TypeId} {tmps : Array Value} {w : World} {b : Nat} {v : Value} {e : TypeId} [ht : ScalarTy P t] (h : fn.results = #[.cell a t]) (hb : tmps.getD a undef = .pointer (some ⟨b, 0, none⟩)) (hB : Blk w b [v] e) :
  (results fn tmps).run P w = .ok v w := by
 have hc := hB.cell (o := 0) rfl
 have hb' : tmps[a]?.getD undef = .pointer (some ⟨b, 0, none⟩) := by simpa using hb
 simp [results, h, hb', asAddr, loadVar, lC, hc]
theorem bC {fn : Func} {K : Value → List Ent → List bA → Prop} {ex : Exit} {a : Tmp} {t : TypeId} {sz b : Nat} {cs : List Value} {e : TypeId} [AggTy P t sz] (he : ex = .ret ∨ ex = .normal) (hr : fn.results = #[.cell a t]) (hv : lk G a = some (.pointer (some ⟨b, 0, none⟩))) (hm : .blk b cs e ∈ M) (hl : cs.length = sz) (M' : List Ent) (I' : List bA) (hM : SubP M M') (hI : Inc I I') (h : K (.agg cs.toArray) M' I') :
  ND n (Body P fn (KB K X w0)) ex G X w0 M I := ⟨fun w hw => ⟨fun act ha => by
 unfold Body
 have e1 : act.tmps.getD a undef = .pointer (some ⟨b, 0, none⟩) := by simp [ha.get a _ hv]
 have e2 := zT (P := P) (t := t) hr e1 (hw.blk hm) hl
 rcases he with rfl | rfl <;> exact ⟨ha.defers, _, e2, _, rfl, M', I', h, hw.weak hM hI⟩⟩⟩
end
end Go.Fx
namespace Go.Fx
section
variable {P : Program} {n : Nat} {Q : Exit → Act → World → Prop} {G G' : Env} {X : List Nat} {w0 : World} {M M' M1 : List Ent} {I I' I1 : List bA} {m : Mode} {a b : Ent} {φ : bA} {cs cs' vs : List Value} {o sz : Nat} {v : Value} {x y : Int} {kk : IntKind} {α : Type} {aa : α} {ll : List α}
theorem cZ (h : SubP M M' := by repeat (first | exact SubP.refl | exact SubP.nil | refine SubP.cons (by first | exact .here | exact .there .here | exact .there (.there .here) | exact .there (.there (.there .here)) | exact .there (.there (.there (.there .here))) | exact .there (.there (.there (.there (.there .here)))) | exact .there (.there (.there (.there (.there (.there .here))))) | exact .there (.there (.there (.there (.there (.there (.there .here)))))) | exact .there (.there (.there (.there (.there (.there (.there (.there .here)))))))) ?_ | refine SubP.drop ?_)) : SubP M M' := h
theorem cK (h : Inc I I' := by repeat (first | exact Inc.refl | exact Inc.nil | refine Inc.cons (by repeat (first | exact List.Mem.head _ | assumption | refine List.Mem.tail _ ?_)) ?_ | refine Inc.wk ?_)) : Inc I I' := h
theorem lW (h : Rep a b M M' := by first | exact .here | exact .there .here | exact .there (.there .here) | exact .there (.there (.there .here)) | exact .there (.there (.there (.there .here))) | exact .there (.there (.there (.there (.there .here)))) | exact .there (.there (.there (.there (.there (.there .here))))) | exact .there (.there (.there (.there (.there (.there (.there .here)))))) | exact .there (.there (.there (.there (.there (.there (.there (.there .here))))))) | assumption) : Rep a b M M' := h
theorem uK (h : Rem a M M' := by first | exact .here | exact .there .here | exact .there (.there .here) | exact .there (.there (.there .here)) | exact .there (.there (.there (.there .here))) | exact .there (.there (.there (.there (.there .here)))) | exact .there (.there (.there (.there (.there (.there .here))))) | exact .there (.there (.there (.there (.there (.there (.there .here)))))) | exact .there (.there (.there (.there (.there (.there (.there (.there .here)))))))) : Rem a M M' := h
theorem aP (h : aa ∈ ll := by repeat (first | exact List.Mem.head _ | assumption | refine List.Mem.tail _ ?_)) : aa ∈ ll := h
theorem okD (h : OkD m X w0 M I := by first | exact OkD.seq | exact OkD.one | exact OkD.any (by repeat (first | exact SubP.refl | exact SubP.nil | refine SubP.cons (by first | exact .here | exact .there .here | exact .there (.there .here) | exact .there (.there (.there .here)) | exact .there (.there (.there (.there .here))) | exact .there (.there (.there (.there (.there .here)))) | exact .there (.there (.there (.there (.there (.there .here))))) | exact .there (.there (.there (.there (.there (.there (.there .here)))))) | exact .there (.there (.there (.there (.there (.there (.there (.there .here)))))))) ?_ | refine SubP.drop ?_)) (by repeat (first | exact Inc.refl | exact Inc.nil | refine Inc.cons (by repeat (first | exact List.Mem.head _ | assumption | refine List.Mem.tail _ ?_)) ?_ | refine Inc.wk ?_))) : OkD m X w0 M I := h
theorem zX (h : View m X w0 M I M1 I1 := by first | exact View.seq | exact View.any | exact View.one rfl) : View m X w0 M I M1 I1 := h
theorem nJ (h : At cs o v := by first | exact At.r1 (by first | omega | (simp only [fG, List.length_replicate, List.length_append]; omega)) rfl | exact At.r2 (by first | omega | (simp only [fG, List.length_replicate, List.length_append]; omega)) rfl | exact At.mk rfl | exact At.app (At.r1 (by first | omega | (simp only [fG, List.length_replicate, List.length_append]; omega)) rfl) | exact At.app (At.r2 (by first | omega | (simp only [fG, List.length_replicate, List.length_append]; omega)) rfl)) : At cs o v := h
theorem iG (h : Ats cs o vs := by first | exact Ats.r (by first | omega | (simp only [fG, List.length_replicate, List.length_append]; omega)) | exact Ats.all | exact Ats.app (Ats.r (by first | omega | (simp only [fG, List.length_replicate, List.length_append]; omega))) | exact Ats.lit rfl) : Ats cs o vs := h
theorem stC (h : StAt cs o v cs' := by first | exact StAt.r1 _ (by first | omega | (simp only [fG, List.length_replicate, List.length_append]; omega)) rfl | exact StAt.app (StAt.r1 _ (by first | omega | (simp only [fG, List.length_replicate, List.length_append]; omega)) rfl) | exact StAt.mk (by first | (dsimp only [List.set]; done) | (dsimp only [List.set]; rfl)) (by simp)) : StAt cs o v cs' := h
theorem qO (h : StAts cs o vs cs' := by first | exact StAts.r _ (by first | omega | (simp only [fG, List.length_replicate, List.length_append]; omega)) rfl | exact StAts.app (StAts.r _ (by first | omega | (simp only [fG, List.length_replicate, List.length_append]; omega)) rfl) | exact StAts.all (by first | rfl | simp)) : StAts cs o vs cs' := h
theorem jL (h : 0 < cs.length := by rw [iP]; omega) : 0 < cs.length := h
theorem fC (h : vs.length = sz := by first | rfl | exact Sized.len _) : vs.length = sz := h
theorem qE (h : ∀ u ∈ vs, u.oneCell' = true := by first | exact Ones.one _ | (intro u hu; repeat (first | exact absurd hu (List.not_mem_nil) | (rcases List.mem_cons.1 hu with rfl | hu; · rfl)))) : ∀ u ∈ vs, u.oneCell' = true := h
theorem aS (h : Sub G G' := by repeat (first | exact Sub.nil | refine Sub.cons rfl rfl ?_)) : Sub G G' := h
theorem iQ (h : 0 ≤ x ∧ x < y := by first | omega | (simp only [fG, List.length_replicate, List.length_append]; omega)) : 0 ≤ x ∧ x < y := h
theorem w_ (h : kk.wrap x = y := by first | exact wrap_i64 (by first | omega | assumption) | exact wrap_u64 (by first | omega | assumption) | exact wrap_u32 (by first | omega | assumption) | exact wrap_u8 (by omega)) : kk.wrap x = y := h
theorem q_ (h : kk.wrap x = y := by first | exact aGJ (by omega) | exact aFZ (by omega) (by omega)) : kk.wrap x = y := h
end
end Go.Fx
