/-
  No cell of these rows narrows 'for every input' (looked for: loops, veiled, ifaces, maps, wideKeys, modest, calm, conditions, laid).
  DERIVED. THE GIVEN ROWS OF THIS SEAT. 10 by the template 'for every input the law returns true; each argument reads behind the call as it read before'; 0 by the template 'total and deterministic' (their statements: YtgeagiikkeiioaaGreatTotals.lean).
  GIVEN WITH THE SEED: the statements are not yours to turn. If you find one false, say at which input.
  Laid BY PROGRAM, IN A SANDBOX (cutbox-rows.mjs): the forced cells as the released guide's own fill.sh prints them over the translation c424f12929e6486f… (all of the seat's roots in one cut). By AI agents, Wed Nov 11 2026. No macro, syntax, notation, axiom, sorry.
-/
import Derived.Test.YtgeagiikkeiioaaGreatChecked
import GoSem.Claim
import GoSem.ClaimJoined
import GoSem.ClaimMapViews
import Derived.JoinedTies
import Derived.KernelRfl
namespace Go.Proofs.YtgeagiikkeiioaaGreat
/- THE CELL 'sum', in the pinned program and in every row, IS THE sha256 OF THE DUMP (.gsa) THAT YtgeagiikkeiioaaGreatProg.lean LOADS. Nothing in Lean hashes anything: it is a label: what it is worth is what the hold of that sum in a sandbox is worth. -/
noncomputable def Tryz.pinned : Pinned := { name := "ytgeagiikkeiioaagreat", sum := "c424f12929e6486f31d2fd6e5617711967f6fe8034bcfd007881f9375a352e3c", checked := Tryz.checked }
namespace Rows
def none {H : Type} : Left H := { results := [], args := [] }

/-- 'fiduciallaw30.ResectDirect': WHATEVER THE INPUT: true; the input reads as it did. -/
def resectDirectSpec : ChangeSpec := { name := "resectDirect", fn := fun _ => fun
  | [d] => { results := [.lit (.bool true)], args := [d] }
  | _ => none }
def resectDirectRow : OpenClaim := { program := "ytgeagiikkeiioaagreat", sum := "c424f12929e6486f31d2fd6e5617711967f6fe8034bcfd007881f9375a352e3c", func := "fiducial/fiduciallaw30.ResectDirect", spec := "resectDirect", unfollowed := true, recurses := true, apart := false }
def ResectDirectSaid : Prop := resectDirectRow.holds Tryz.pinned (OpenSpec.ofChange resectDirectSpec)

/-- ITS FALSE NEIGHBOUR: 'it returns false'. Refute it at one input. -/
def resectDirectWrong : ChangeSpec := { name := "resectDirect", fn := fun _ => fun
  | [d] => { results := [.lit (.bool false)], args := [d] }
  | _ => none }
def ResectDirectWrongFalsely : Prop := resectDirectRow.holds Tryz.pinned (OpenSpec.ofChange resectDirectWrong)

/-- 'fiduciallaw30.ResectMatrices': WHATEVER THE INPUT: true; the input reads as it did. -/
def resectMatricesSpec : ChangeSpec := { name := "resectMatrices", fn := fun _ => fun
  | [d1, d2] => { results := [.lit (.bool true)], args := [d1, d2] }
  | _ => none }
def resectMatricesRow : OpenClaim := { program := "ytgeagiikkeiioaagreat", sum := "c424f12929e6486f31d2fd6e5617711967f6fe8034bcfd007881f9375a352e3c", func := "fiducial/fiduciallaw30.ResectMatrices", spec := "resectMatrices", unfollowed := true, recurses := true, apart := false }
def ResectMatricesSaid : Prop := resectMatricesRow.holds Tryz.pinned (OpenSpec.ofChange resectMatricesSpec)

/-- ITS FALSE NEIGHBOUR: 'it returns false'. Refute it at one input. -/
def resectMatricesWrong : ChangeSpec := { name := "resectMatrices", fn := fun _ => fun
  | [d1, d2] => { results := [.lit (.bool false)], args := [d1, d2] }
  | _ => none }
def ResectMatricesWrongFalsely : Prop := resectMatricesRow.holds Tryz.pinned (OpenSpec.ofChange resectMatricesWrong)

/-- 'fiduciallaw30.ResectRecovers': WHATEVER THE INPUT: true; the input reads as it did. -/
def resectRecoversSpec : ChangeSpec := { name := "resectRecovers", fn := fun _ => fun
  | [d1, d2] => { results := [.lit (.bool true)], args := [d1, d2] }
  | _ => none }
def resectRecoversRow : OpenClaim := { program := "ytgeagiikkeiioaagreat", sum := "c424f12929e6486f31d2fd6e5617711967f6fe8034bcfd007881f9375a352e3c", func := "fiducial/fiduciallaw30.ResectRecovers", spec := "resectRecovers", unfollowed := true, recurses := true, apart := false }
def ResectRecoversSaid : Prop := resectRecoversRow.holds Tryz.pinned (OpenSpec.ofChange resectRecoversSpec)

/-- ITS FALSE NEIGHBOUR: 'it returns false'. Refute it at one input. -/
def resectRecoversWrong : ChangeSpec := { name := "resectRecovers", fn := fun _ => fun
  | [d1, d2] => { results := [.lit (.bool false)], args := [d1, d2] }
  | _ => none }
def ResectRecoversWrongFalsely : Prop := resectRecoversRow.holds Tryz.pinned (OpenSpec.ofChange resectRecoversWrong)

/-- 'fiduciallaw42.ControlledChecks': WHATEVER THE INPUT: true; the input reads as it did. -/
def controlledChecksSpec : ChangeSpec := { name := "controlledChecks", fn := fun _ => fun
  | [d1, d2, d3] => { results := [.lit (.bool true)], args := [d1, d2, d3] }
  | _ => none }
def controlledChecksRow : OpenClaim := { program := "ytgeagiikkeiioaagreat", sum := "c424f12929e6486f31d2fd6e5617711967f6fe8034bcfd007881f9375a352e3c", func := "fiducial/fiduciallaw42.ControlledChecks", spec := "controlledChecks", unfollowed := true, recurses := true, apart := false }
def ControlledChecksSaid : Prop := controlledChecksRow.holds Tryz.pinned (OpenSpec.ofChange controlledChecksSpec)

/-- ITS FALSE NEIGHBOUR: 'it returns false'. Refute it at one input. -/
def controlledChecksWrong : ChangeSpec := { name := "controlledChecks", fn := fun _ => fun
  | [d1, d2, d3] => { results := [.lit (.bool false)], args := [d1, d2, d3] }
  | _ => none }
def ControlledChecksWrongFalsely : Prop := controlledChecksRow.holds Tryz.pinned (OpenSpec.ofChange controlledChecksWrong)

/-- 'fiduciallaw42.ControlledRedundant': WHATEVER THE INPUT: true; the input reads as it did. -/
def controlledRedundantSpec : ChangeSpec := { name := "controlledRedundant", fn := fun _ => fun
  | [d] => { results := [.lit (.bool true)], args := [d] }
  | _ => none }
def controlledRedundantRow : OpenClaim := { program := "ytgeagiikkeiioaagreat", sum := "c424f12929e6486f31d2fd6e5617711967f6fe8034bcfd007881f9375a352e3c", func := "fiducial/fiduciallaw42.ControlledRedundant", spec := "controlledRedundant", unfollowed := true, recurses := true, apart := false }
def ControlledRedundantSaid : Prop := controlledRedundantRow.holds Tryz.pinned (OpenSpec.ofChange controlledRedundantSpec)

/-- ITS FALSE NEIGHBOUR: 'it returns false'. Refute it at one input. -/
def controlledRedundantWrong : ChangeSpec := { name := "controlledRedundant", fn := fun _ => fun
  | [d] => { results := [.lit (.bool false)], args := [d] }
  | _ => none }
def ControlledRedundantWrongFalsely : Prop := controlledRedundantRow.holds Tryz.pinned (OpenSpec.ofChange controlledRedundantWrong)

/-- 'fiduciallaw42.ControlledSingle': WHATEVER THE INPUT: true; the input reads as it did. -/
def controlledSingleSpec : ChangeSpec := { name := "controlledSingle", fn := fun _ => fun
  | [d] => { results := [.lit (.bool true)], args := [d] }
  | _ => none }
def controlledSingleRow : OpenClaim := { program := "ytgeagiikkeiioaagreat", sum := "c424f12929e6486f31d2fd6e5617711967f6fe8034bcfd007881f9375a352e3c", func := "fiducial/fiduciallaw42.ControlledSingle", spec := "controlledSingle", unfollowed := true, recurses := true, apart := false }
def ControlledSingleSaid : Prop := controlledSingleRow.holds Tryz.pinned (OpenSpec.ofChange controlledSingleSpec)

/-- ITS FALSE NEIGHBOUR: 'it returns false'. Refute it at one input. -/
def controlledSingleWrong : ChangeSpec := { name := "controlledSingle", fn := fun _ => fun
  | [d] => { results := [.lit (.bool false)], args := [d] }
  | _ => none }
def ControlledSingleWrongFalsely : Prop := controlledSingleRow.holds Tryz.pinned (OpenSpec.ofChange controlledSingleWrong)

/-- 'fiduciallaw42.ControlledFirm': WHATEVER THE INPUT: true; the input reads as it did. -/
def controlledFirmSpec : ChangeSpec := { name := "controlledFirm", fn := fun _ => fun
  | [d1, d2, d3] => { results := [.lit (.bool true)], args := [d1, d2, d3] }
  | _ => none }
def controlledFirmRow : OpenClaim := { program := "ytgeagiikkeiioaagreat", sum := "c424f12929e6486f31d2fd6e5617711967f6fe8034bcfd007881f9375a352e3c", func := "fiducial/fiduciallaw42.ControlledFirm", spec := "controlledFirm", unfollowed := true, recurses := true, apart := false }
def ControlledFirmSaid : Prop := controlledFirmRow.holds Tryz.pinned (OpenSpec.ofChange controlledFirmSpec)

/-- ITS FALSE NEIGHBOUR: 'it returns false'. Refute it at one input. -/
def controlledFirmWrong : ChangeSpec := { name := "controlledFirm", fn := fun _ => fun
  | [d1, d2, d3] => { results := [.lit (.bool false)], args := [d1, d2, d3] }
  | _ => none }
def ControlledFirmWrongFalsely : Prop := controlledFirmRow.holds Tryz.pinned (OpenSpec.ofChange controlledFirmWrong)

/-- 'fiduciallaw42.ControlledMore': WHATEVER THE INPUT: true; the input reads as it did. -/
def controlledMoreSpec : ChangeSpec := { name := "controlledMore", fn := fun _ => fun
  | [d1, d2] => { results := [.lit (.bool true)], args := [d1, d2] }
  | _ => none }
def controlledMoreRow : OpenClaim := { program := "ytgeagiikkeiioaagreat", sum := "c424f12929e6486f31d2fd6e5617711967f6fe8034bcfd007881f9375a352e3c", func := "fiducial/fiduciallaw42.ControlledMore", spec := "controlledMore", unfollowed := true, recurses := true, apart := false }
def ControlledMoreSaid : Prop := controlledMoreRow.holds Tryz.pinned (OpenSpec.ofChange controlledMoreSpec)

/-- ITS FALSE NEIGHBOUR: 'it returns false'. Refute it at one input. -/
def controlledMoreWrong : ChangeSpec := { name := "controlledMore", fn := fun _ => fun
  | [d1, d2] => { results := [.lit (.bool false)], args := [d1, d2] }
  | _ => none }
def ControlledMoreWrongFalsely : Prop := controlledMoreRow.holds Tryz.pinned (OpenSpec.ofChange controlledMoreWrong)

/-- 'fiduciallaw42.ControlledConditions': WHATEVER THE INPUT: true; the input reads as it did. -/
def controlledConditionsSpec : ChangeSpec := { name := "controlledConditions", fn := fun _ => fun
  | [d] => { results := [.lit (.bool true)], args := [d] }
  | _ => none }
def controlledConditionsRow : OpenClaim := { program := "ytgeagiikkeiioaagreat", sum := "c424f12929e6486f31d2fd6e5617711967f6fe8034bcfd007881f9375a352e3c", func := "fiducial/fiduciallaw42.ControlledConditions", spec := "controlledConditions", unfollowed := true, recurses := true, apart := false }
def ControlledConditionsSaid : Prop := controlledConditionsRow.holds Tryz.pinned (OpenSpec.ofChange controlledConditionsSpec)

/-- ITS FALSE NEIGHBOUR: 'it returns false'. Refute it at one input. -/
def controlledConditionsWrong : ChangeSpec := { name := "controlledConditions", fn := fun _ => fun
  | [d] => { results := [.lit (.bool false)], args := [d] }
  | _ => none }
def ControlledConditionsWrongFalsely : Prop := controlledConditionsRow.holds Tryz.pinned (OpenSpec.ofChange controlledConditionsWrong)

/-- 'fiduciallaw42.ControlledSets': WHATEVER THE INPUT: true; the input reads as it did. -/
def controlledSetsSpec : ChangeSpec := { name := "controlledSets", fn := fun _ => fun
  | [d1, d2] => { results := [.lit (.bool true)], args := [d1, d2] }
  | _ => none }
def controlledSetsRow : OpenClaim := { program := "ytgeagiikkeiioaagreat", sum := "c424f12929e6486f31d2fd6e5617711967f6fe8034bcfd007881f9375a352e3c", func := "fiducial/fiduciallaw42.ControlledSets", spec := "controlledSets", unfollowed := true, recurses := true, apart := false }
def ControlledSetsSaid : Prop := controlledSetsRow.holds Tryz.pinned (OpenSpec.ofChange controlledSetsSpec)

/-- ITS FALSE NEIGHBOUR: 'it returns false'. Refute it at one input. -/
def controlledSetsWrong : ChangeSpec := { name := "controlledSets", fn := fun _ => fun
  | [d1, d2] => { results := [.lit (.bool false)], args := [d1, d2] }
  | _ => none }
def ControlledSetsWrongFalsely : Prop := controlledSetsRow.holds Tryz.pinned (OpenSpec.ofChange controlledSetsWrong)

/- THE SECOND FORM. 'bulk': how many values and letters a reading holds, each counted each time it is reached (what is shared counts as often as it is met; a slice's spare places count too). A statement '..UptoSaid' is the law's where the arguments, and the package variables that the reading takes, are together of bulk at most 1048576: NARROWER than '..Said'. Prove '..Said' where nothing that the law and all that it calls make is longer than what came in: it says more and counts as full. Else prove '..UptoSaid'. A law counts once. -/
mutual
def uptoBulk {H : Type} : DataW H → Nat
  | .lit (.string bytes) => bytes.length + 1
  | .lit _ => 1
  | .nil => 1
  | .ptr d => uptoBulk d + 1
  | .slice elems spare => uptoBulkAll elems + uptoBulkAll spare + 1
  | .agg parts => uptoBulkAll parts + 1
  | .iface _ d => uptoBulk d + 1
  | .map entries => uptoBulkEntries entries + 1
  | .held _ => 1
def uptoBulkAll {H : Type} : List (DataW H) → Nat
  | [] => 0
  | d :: r => uptoBulk d + uptoBulkAll r
def uptoBulkEntries {H : Type} : List (Lit × DataW H) → Nat
  | [] => 0
  | x :: r => uptoBulkEntry x + uptoBulkEntries r
def uptoBulkEntry {H : Type} : Lit × DataW H → Nat
  | (.string bytes, d) => bytes.length + uptoBulk d + 1
  | (_, d) => uptoBulk d + 1
 end
def uptoSmall : (H : Type) → List (DataW H) → Bool := fun _ ds => decide (uptoBulkAll ds ≤ 1048576)
def OpenSpec.upto (s : _root_.Go.ChangeSpec) : _root_.Go.OpenSpec := { _root_.Go.OpenSpec.ofChange s with cond := some uptoSmall }

/-- 'fiduciallaw30.ResectDirect', WHERE WHAT IT READS IS OF BULK AT MOST 1048576: true; the input reads as it did. -/
def resectDirectUptoRow : OpenClaim := { program := "ytgeagiikkeiioaagreat", sum := "c424f12929e6486f31d2fd6e5617711967f6fe8034bcfd007881f9375a352e3c", func := "fiducial/fiduciallaw30.ResectDirect", spec := "resectDirect", unfollowed := true, recurses := true, apart := false, narrowed := true }
def ResectDirectUptoSaid : Prop := resectDirectUptoRow.holds Tryz.pinned (OpenSpec.upto resectDirectSpec)

/-- 'fiduciallaw30.ResectMatrices', WHERE WHAT IT READS IS OF BULK AT MOST 1048576: true; the input reads as it did. -/
def resectMatricesUptoRow : OpenClaim := { program := "ytgeagiikkeiioaagreat", sum := "c424f12929e6486f31d2fd6e5617711967f6fe8034bcfd007881f9375a352e3c", func := "fiducial/fiduciallaw30.ResectMatrices", spec := "resectMatrices", unfollowed := true, recurses := true, apart := false, narrowed := true }
def ResectMatricesUptoSaid : Prop := resectMatricesUptoRow.holds Tryz.pinned (OpenSpec.upto resectMatricesSpec)

/-- 'fiduciallaw30.ResectRecovers', WHERE WHAT IT READS IS OF BULK AT MOST 1048576: true; the input reads as it did. -/
def resectRecoversUptoRow : OpenClaim := { program := "ytgeagiikkeiioaagreat", sum := "c424f12929e6486f31d2fd6e5617711967f6fe8034bcfd007881f9375a352e3c", func := "fiducial/fiduciallaw30.ResectRecovers", spec := "resectRecovers", unfollowed := true, recurses := true, apart := false, narrowed := true }
def ResectRecoversUptoSaid : Prop := resectRecoversUptoRow.holds Tryz.pinned (OpenSpec.upto resectRecoversSpec)

/-- 'fiduciallaw42.ControlledChecks', WHERE WHAT IT READS IS OF BULK AT MOST 1048576: true; the input reads as it did. -/
def controlledChecksUptoRow : OpenClaim := { program := "ytgeagiikkeiioaagreat", sum := "c424f12929e6486f31d2fd6e5617711967f6fe8034bcfd007881f9375a352e3c", func := "fiducial/fiduciallaw42.ControlledChecks", spec := "controlledChecks", unfollowed := true, recurses := true, apart := false, narrowed := true }
def ControlledChecksUptoSaid : Prop := controlledChecksUptoRow.holds Tryz.pinned (OpenSpec.upto controlledChecksSpec)

/-- 'fiduciallaw42.ControlledRedundant', WHERE WHAT IT READS IS OF BULK AT MOST 1048576: true; the input reads as it did. -/
def controlledRedundantUptoRow : OpenClaim := { program := "ytgeagiikkeiioaagreat", sum := "c424f12929e6486f31d2fd6e5617711967f6fe8034bcfd007881f9375a352e3c", func := "fiducial/fiduciallaw42.ControlledRedundant", spec := "controlledRedundant", unfollowed := true, recurses := true, apart := false, narrowed := true }
def ControlledRedundantUptoSaid : Prop := controlledRedundantUptoRow.holds Tryz.pinned (OpenSpec.upto controlledRedundantSpec)

/-- 'fiduciallaw42.ControlledSingle', WHERE WHAT IT READS IS OF BULK AT MOST 1048576: true; the input reads as it did. -/
def controlledSingleUptoRow : OpenClaim := { program := "ytgeagiikkeiioaagreat", sum := "c424f12929e6486f31d2fd6e5617711967f6fe8034bcfd007881f9375a352e3c", func := "fiducial/fiduciallaw42.ControlledSingle", spec := "controlledSingle", unfollowed := true, recurses := true, apart := false, narrowed := true }
def ControlledSingleUptoSaid : Prop := controlledSingleUptoRow.holds Tryz.pinned (OpenSpec.upto controlledSingleSpec)

/-- 'fiduciallaw42.ControlledFirm', WHERE WHAT IT READS IS OF BULK AT MOST 1048576: true; the input reads as it did. -/
def controlledFirmUptoRow : OpenClaim := { program := "ytgeagiikkeiioaagreat", sum := "c424f12929e6486f31d2fd6e5617711967f6fe8034bcfd007881f9375a352e3c", func := "fiducial/fiduciallaw42.ControlledFirm", spec := "controlledFirm", unfollowed := true, recurses := true, apart := false, narrowed := true }
def ControlledFirmUptoSaid : Prop := controlledFirmUptoRow.holds Tryz.pinned (OpenSpec.upto controlledFirmSpec)

/-- 'fiduciallaw42.ControlledMore', WHERE WHAT IT READS IS OF BULK AT MOST 1048576: true; the input reads as it did. -/
def controlledMoreUptoRow : OpenClaim := { program := "ytgeagiikkeiioaagreat", sum := "c424f12929e6486f31d2fd6e5617711967f6fe8034bcfd007881f9375a352e3c", func := "fiducial/fiduciallaw42.ControlledMore", spec := "controlledMore", unfollowed := true, recurses := true, apart := false, narrowed := true }
def ControlledMoreUptoSaid : Prop := controlledMoreUptoRow.holds Tryz.pinned (OpenSpec.upto controlledMoreSpec)

/-- 'fiduciallaw42.ControlledConditions', WHERE WHAT IT READS IS OF BULK AT MOST 1048576: true; the input reads as it did. -/
def controlledConditionsUptoRow : OpenClaim := { program := "ytgeagiikkeiioaagreat", sum := "c424f12929e6486f31d2fd6e5617711967f6fe8034bcfd007881f9375a352e3c", func := "fiducial/fiduciallaw42.ControlledConditions", spec := "controlledConditions", unfollowed := true, recurses := true, apart := false, narrowed := true }
def ControlledConditionsUptoSaid : Prop := controlledConditionsUptoRow.holds Tryz.pinned (OpenSpec.upto controlledConditionsSpec)

/-- 'fiduciallaw42.ControlledSets', WHERE WHAT IT READS IS OF BULK AT MOST 1048576: true; the input reads as it did. -/
def controlledSetsUptoRow : OpenClaim := { program := "ytgeagiikkeiioaagreat", sum := "c424f12929e6486f31d2fd6e5617711967f6fe8034bcfd007881f9375a352e3c", func := "fiducial/fiduciallaw42.ControlledSets", spec := "controlledSets", unfollowed := true, recurses := true, apart := false, narrowed := true }
def ControlledSetsUptoSaid : Prop := controlledSetsUptoRow.holds Tryz.pinned (OpenSpec.upto controlledSetsSpec)

end Rows
end Go.Proofs.YtgeagiikkeiioaaGreat
