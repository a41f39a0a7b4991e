/- The position of a sensor is found: plain. -/
import Derived.Test.YtdmlebigkakplaaGreatZrsbj
set_option linter.unusedSimpArgs false
set_option linter.unusedVariables false
namespace Go.Proofs.YtdmlebigkakplaaGreat
open Go Go.Fx
theorem slp_mul {c f p : V2} (h : ahd c f p ≠ 0) : slp c f p * (p.sub c).dot f = (p.sub c).dot f.sd := by
  unfold slp
  exact Rat.div_mul_cancel h
theorem dot_z {o f : V2} (h : o.dot f ≠ 0) : ¬ o.z0 := fun ⟨h1, h2⟩ => h (by simp only [V2.dot, h1, h2, Rat.zero_mul, Rat.add_zero])
theorem sub_sub' (a b c : V2) : (a.sub c).sub (b.sub c) = a.sub b := by
  simp only [V2.sub, V2.mk.injEq]; constructor <;> grind
/-- a sensor that sees three points in front is found -/
theorem finds {c f p0 p1 p2 : V2} (hf : ¬ f.z0) (h0 : 0 < ahd c f p0) (h1 : 0 < ahd c f p1) (h2 : 0 < ahd c f p2)
    (hd : plD p0 p1 p2 (slp c f p0) (slp c f p1) (slp c f p2) ≠ 0) :
    ¬ (plZ p0 p1 p2 (slp c f p0) (slp c f p1) (slp c f p2)).z0 ∧ plC p0 p1 p2 (slp c f p0) (slp c f p1) (slp c f p2) = (p1.sub c).scl (-1) ∧ plA p0 p1 p2 (slp c f p0) (slp c f p1) (slp c f p2) = c := by
  have n0 : ahd c f p0 ≠ 0 := by grind
  have n1 : ahd c f p1 ≠ 0 := by grind
  have n2 : ahd c f p2 ≠ 0 := by grind
  have m0 := slp_mul n0
  have m1 := slp_mul n1
  have m2 := slp_mul n2
  have c0 := cond_of (q := p0.sub c) (o := p1.sub c) hf m0 m1
  have c2 := cond_of (q := p2.sub c) (o := p1.sub c) hf m2 m1
  rw [sub_sub'] at c0 c2
  have ho : ¬ ((p1.sub c).scl (-1)).z0 := by
    have := dot_z (o := p1.sub c) (f := f) n1
    simp only [V2.z0, V2.scl] at *
    grind
  have hsq : (p1.sub c).dot (p1.sub c) = ((p1.sub c).scl (-1)).dot ((p1.sub c).scl (-1)) := by
    simp only [V2.dot, V2.scl]; grind
  rw [hsq] at c0 c2
  have hm := meet_of hd ho c0 c2
  refine ⟨hm.1, hm.2, ?_⟩
  unfold plA
  rw [show plC p0 p1 p2 (slp c f p0) (slp c f p1) (slp c f p2) = (p1.sub c).scl (-1) from hm.2]
  cases c
  simp only [V2.add, V2.scl, V2.sub, V2.mk.injEq]
  constructor <;> grind
/-- the axis that is found -/
theorem finds_axis {c f p0 p1 p2 : V2} (h1 : 0 < ahd c f p1) (hc : plC p0 p1 p2 (slp c f p0) (slp c f p1) (slp c f p2) = (p1.sub c).scl (-1)) :
    (plF p0 p1 p2 (slp c f p0) (slp c f p1) (slp c f p2)).scl (f.dot f) = f.scl (ahd c f p1 * (1 + slp c f p1 * slp c f p1)) := by
  have m1 := slp_mul (show ahd c f p1 ≠ 0 by grind)
  unfold plF
  rw [hc]
  have e : ((p1.sub c).scl (-1)).scl (-1) = p1.sub c := by
    simp only [V2.scl, V2.sub, V2.mk.injEq]; constructor <;> grind
  rw [e]
  exact axis_of m1
theorem axis_pos {f g : V2} {m k : Rat} (hf : ¬ f.z0) (hk : 0 < k) (h : g.scl (f.dot f) = f.scl k) : ¬ g.z0 ∧ g.crs f = 0 ∧ 0 < g.dot f ∧ ∀ v : V2, 0 < v.dot f → 0 < v.dot g := by
  have hq : 0 < f.dot f := sq_pos hf
  simp only [V2.scl, V2.mk.injEq] at h
  obtain ⟨hx, hy⟩ := h
  generalize hqq : f.dot f = q at *
  have hd : q * g.dot f = k * q := by
    rw [← hqq]; simp only [V2.dot] at *; grind
  have hcr : q * g.crs f = 0 := by simp only [V2.crs]; grind
  have hg : 0 < g.dot f := by
    rcases (Rat.le_total : g.dot f ≤ 0 ∨ 0 ≤ g.dot f) with hh | hh
    · have : 0 ≤ q * (-(g.dot f)) := Rat.mul_nonneg (by grind) (by grind)
      have h2 : 0 < k * q := Rat.mul_pos hk hq
      grind
    · have hne : g.dot f ≠ 0 := fun e => by
        rw [e] at hd
        have h2 : 0 < k * q := Rat.mul_pos hk hq
        grind
      grind
  refine ⟨fun hz => ?_, ?_, hg, fun v hv => ?_⟩
  · have : g.dot f = 0 := by simp only [V2.dot, hz.1, hz.2]; grind
    grind
  · rcases Rat.mul_eq_zero.1 hcr with e | e
    · grind
    · exact e
  · have e : q * v.dot g = k * v.dot f := by simp only [V2.dot]; grind
    have h2 : 0 < k * v.dot f := Rat.mul_pos hk hv
    rcases (Rat.le_total : v.dot g ≤ 0 ∨ 0 ≤ v.dot g) with hh | hh
    · have : 0 ≤ q * (-(v.dot g)) := Rat.mul_nonneg (by grind) (by grind)
      grind
    · have hne : v.dot g ≠ 0 := fun e2 => by rw [e2] at e; grind
      grind
theorem one_sq (t : Rat) : 0 < 1 + t * t := by
  have : 0 ≤ t * t := by
    rcases (Rat.le_total : 0 ≤ t ∨ t ≤ 0) with h | h
    · exact Rat.mul_nonneg h h
    · have h2 : 0 ≤ -t := by grind
      have := Rat.mul_nonneg h2 h2
      grind
  grind
theorem finds_all {c f p0 p1 p2 : V2} (hf : ¬ f.z0) (h0 : 0 < ahd c f p0) (h1 : 0 < ahd c f p1) (h2 : 0 < ahd c f p2)
    (hd : plD p0 p1 p2 (slp c f p0) (slp c f p1) (slp c f p2) ≠ 0) :
    (¬ (plZ p0 p1 p2 (slp c f p0) (slp c f p1) (slp c f p2)).z0 ∧ ¬ ((plC p0 p1 p2 (slp c f p0) (slp c f p1) (slp c f p2)).sub (p0.sub p1)).z0 ∧ ¬ ((plC p0 p1 p2 (slp c f p0) (slp c f p1) (slp c f p2)).sub (p2.sub p1)).z0) ∧
    plA p0 p1 p2 (slp c f p0) (slp c f p1) (slp c f p2) = c ∧
    ¬ (plF p0 p1 p2 (slp c f p0) (slp c f p1) (slp c f p2)).z0 ∧ (plF p0 p1 p2 (slp c f p0) (slp c f p1) (slp c f p2)).crs f = 0 ∧ 0 < (plF p0 p1 p2 (slp c f p0) (slp c f p1) (slp c f p2)).dot f ∧
    ∀ p : V2, 0 < ahd c f p → 0 < ahd c (plF p0 p1 p2 (slp c f p0) (slp c f p1) (slp c f p2)) p := by
  obtain ⟨hz, hc, ha⟩ := finds hf h0 h1 h2 hd
  have hax := finds_axis h1 hc
  have hk : 0 < ahd c f p1 * (1 + slp c f p1 * slp c f p1) := Rat.mul_pos h1 (one_sq _)
  obtain ⟨g1, g2, g3, g4⟩ := axis_pos (m := 0) hf hk hax
  refine ⟨⟨hz, ?_, ?_⟩, ha, g1, g2, g3, fun p hp => g4 _ hp⟩
  · rw [hc]
    intro hzz
    have : ahd c f p0 = 0 := by
      simp only [V2.z0, V2.sub, V2.scl, ahd, V2.dot] at *
      grind
    grind
  · rw [hc]
    intro hzz
    have : ahd c f p2 = 0 := by
      simp only [V2.z0, V2.sub, V2.scl, ahd, V2.dot] at *
      grind
    grind
end Go.Proofs.YtdmlebigkakplaaGreat
