/- The law DegenerateMoved: what it says in plain numbers. -/
import Derived.Test.YtkccjglmnhgabaaGreatDoorZqbn
set_option linter.unusedSimpArgs false
set_option linter.unusedVariables false
set_option maxRecDepth 100000
set_option maxHeartbeats 4000000
namespace Go.Proofs.YtkccjglmnhgabaaGreatDoor
open Go Go.Fx
instance S3.ons : Ones oM := ⟨fun s v hv => by simp only [List.mem_cons, List.not_mem_nil, or_false] at hv; rcases hv with rfl | rfl | rfl <;> rfl⟩
structure MB where
 m0 : Int
 m1 : Int
 m2 : Int
 m3 : Int
 m4 : Int
 m5 : Int
 m6 : Int
 m7 : Int
 m8 : Int
 y0 : Int
 y1 : Int
 y2 : Int
def MB.ok (t : MB) : Prop := (-128 ≤ t.m0 ∧ t.m0 ≤ 127) ∧ (-128 ≤ t.m1 ∧ t.m1 ≤ 127) ∧ (-128 ≤ t.m2 ∧ t.m2 ≤ 127) ∧ (-128 ≤ t.m3 ∧ t.m3 ≤ 127) ∧ (-128 ≤ t.m4 ∧ t.m4 ≤ 127) ∧ (-128 ≤ t.m5 ∧ t.m5 ≤ 127) ∧ (-128 ≤ t.m6 ∧ t.m6 ≤ 127) ∧ (-128 ≤ t.m7 ∧ t.m7 ≤ 127) ∧ (-128 ≤ t.m8 ∧ t.m8 ≤ 127) ∧ (-32768 ≤ t.y0 ∧ t.y0 ≤ 32767) ∧ (-32768 ≤ t.y1 ∧ t.y1 ≤ 32767) ∧ (-32768 ≤ t.y2 ∧ t.y2 ≤ 32767)
def MB.mv (t : MB) (s : S3) : S3 := ⟨t.y0 + t.m0 * s.x + t.m1 * s.y + t.m2 * s.z, t.y1 + t.m3 * s.x + t.m4 * s.y + t.m5 * s.z, t.y2 + t.m6 * s.x + t.m7 * s.y + t.m8 * s.z⟩
def MB.mat (t : MB) : Mt := [kP [t.m0, t.m1, t.m2], kP [t.m3, t.m4, t.m5], kP [t.m6, t.m7, t.m8]]
def q3 (s : S3) (j : Nat) : Rat := (([s.x, s.y, s.z].getD j 0 : Int) : Rat)
theorem aEU {l : List S3} {n : Nat} (hl : l.length = n) : l.map sV = yT n (fun i => q3 (gt l (i : Int))) := by
 apply List.ext_getElem
 ·simp [yT, uY, hl]
 ·intro i h1 h2
  have hi : i < l.length := by simpa using h1
  simp only [yT, uY, List.getElem_map, List.getElem_range]
  rw [dH hi]
  rfl
theorem aOV {l : List S3} {n : Nat} (hl : l.length = n) : kQ l = yV n (fun i => q3 (gt l (i : Int))) := by
 apply List.ext_getElem
 ·simp [kQ, yV, uY, hl]
 ·intro i h1 h2
  have hi : i < l.length := by simpa [kQ] using h1
  simp only [kQ, yV, uY, List.getElem_map, List.getElem_range]
  rw [dH hi, ← aRA]
  unfold kP qv
  simp only [List.map, Rat.intCast_mul]
  rfl
theorem aEA {y a b c u v w : Int} : ((y + a * u + b * v + c * w : Int) : Rat) = (a : Rat) * u + b * v + c * w + y := by
 rw [Rat.intCast_add, Rat.intCast_add, Rat.intCast_add, Rat.intCast_mul, Rat.intCast_mul, Rat.intCast_mul]
 grind
theorem aNG {t : MB} {l : List S3} {n : Nat} (hl : l.length = n) (hd : dt 3 (at2 t.mat) ≠ 0) : rk ((l.map t.mv).map sV) 4 = rk (l.map sV) 4 ∧ rk (kQ (l.map t.mv)) 10 = rk (kQ l) 10 := by
 have hl2 : (l.map t.mv).length = n := by rw [List.length_map, hl]
 rw [aEU hl, aEU hl2, aOV hl, aOV hl2]
 refine aNP (m := at2 t.mat) (b := q3 ⟨t.y0, t.y1, t.y2⟩) hd (fun i hi a ha => ?_)
 have hg : gt (l.map t.mv) (i : Int) = t.mv (gt l (i : Int)) := by rw [dH (by omega), dH (by omega), List.getElem_map]
 rw [hg]
 obtain rfl | rfl | rfl : a = 0 ∨ a = 1 ∨ a = 2 := by omega
 ·exact aEA
 ·exact aEA
 ·exact aEA
def nr3 (s : S3) : Prop := (-1000 ≤ s.x ∧ s.x ≤ 1000) ∧ (-1000 ≤ s.y ∧ s.y ≤ 1000) ∧ (-1000 ≤ s.z ∧ s.z ≤ 1000)
theorem rT {a b : Int} (ha : -128 ≤ a ∧ a ≤ 127) (hb : -1000 ≤ b ∧ b ≤ 1000) : -128000 ≤ a * b ∧ a * b ≤ 128000 := by
 have h1 : (a * b).natAbs ≤ 128 * 1000 := by rw [Int.natAbs_mul]; exact Nat.mul_le_mul (by omega) (by omega)
 omega
end Go.Proofs.YtkccjglmnhgabaaGreatDoor
