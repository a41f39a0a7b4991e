/- The law ControlledChecks. The laws ControlledSingle and ControlledConditions. -/
import Derived.Test.YtgeagiikkeiioaaGreatZfbg
import Derived.Test.YtgeagiikkeiioaaGreatZfbk
import Derived.Test.YtgeagiikkeiioaaGreatZfav
import Derived.Test.YtgeagiikkeiioaaGreatZfbb
set_option linter.unusedSimpArgs false
set_option linter.unusedVariables false
set_option maxRecDepth 100000
set_option maxHeartbeats 4000000
namespace Go.Proofs.YtgeagiikkeiioaaGreat
open Go Go.Fx
section
variable {X : List Nat} {w0 : World} {M0 : List Ent} {I0 : List bA}
theorem aIS {m : LE} (hR : m.raw.rch) (fw : m.raw.few 7 5) (hm : qY m.raw ∈ I0) : CD Tryz.prog 38 [vLE m] X w0 M0 I0 (fun v M I => M0 = M ∧ I0 = I ∧ v = .bool true) := by
 have := aFG (X := X) (w0 := w0) (M0 := M0) (I0 := I0) hR hm
 rwa [bO fw, yC] at this
theorem aAU {m : LE} {R C : Nat} (fw : m.raw.few 7 5) (f : m.fit R C) (hm : qY m.raw ∈ I0) : CD Tryz.prog 39 [vLE m] X w0 M0 I0 (fun v M I => M0 = M ∧ I0 = I ∧ v = .int .i64 0) := by
 have := vF (X := X) (w0 := w0) (M0 := M0) (I0 := I0) (fw.sml (by omega)) hm
 rwa [f.code, yC] at this
end
end Go.Proofs.YtgeagiikkeiioaaGreat
namespace Go.Proofs.YtgeagiikkeiioaaGreat
open Go Go.Fx
theorem aHZ {R C i : Nat} {A : Mt} (hi : i < R) : gt (xB R C A) (i : Int) = B (ctl R C A i) := by
 rw [eY (by simp [xB]; exact hi)]; simp [xB]
section
variable {X : List Nat} {w0 : World} {M0 : List Ent} {I0 : List bA}
theorem few_C {m : LE} {R C : Nat} (f : m.fit R C) (fw : m.raw.few 7 5) : R ≤ 7 ∧ C ≤ 5 := by
 have h1 := fw.1.1
 rw [show m.raw.a.rows.length = m.a.rows.length from MX.raw_rows _, f.d.1.1] at h1
 refine ⟨h1, ?_⟩
 have h2 := (fw.2 (gt m.raw.a.rows 0) (eQ (by rw [show m.raw.a.rows.length = m.a.rows.length from MX.raw_rows _, f.d.1.1]; have := f.d.2.1; omega))).1
 rw [show (gt m.raw.a.rows 0).es.length = C from MX.raw_c0 f.d] at h2
 exact h2
/- Conditions -/
end
end Go.Proofs.YtgeagiikkeiioaaGreat
