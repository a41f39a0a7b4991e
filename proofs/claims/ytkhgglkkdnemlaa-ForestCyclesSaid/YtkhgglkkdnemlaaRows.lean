/-
  No cell of these rows narrows 'for every input' (looked for: loops, veiled, ifaces, maps, wideKeys, modest, calm, conditions, laid).
  DERIVED. THE GIVEN ROWS OF THIS SEAT. 9 by the template 'for every input the law returns true; each argument reads behind the call as it read before'; 0 by the template 'total and deterministic' (their statements: YtkhgglkkdnemlaaTotals.lean).
  GIVEN WITH THE SEED: the statements are not yours to turn. If you find one false, say at which input.
  Laid BY PROGRAM, IN A SANDBOX (cutbox-rows.mjs): the forced cells as the released guide's own fill.sh prints them over the translation a018c6444c7f8792… (all of the seat's roots in one cut). By AI agents, Wed Nov 11 2026. No macro, syntax, notation, axiom, sorry.
-/
import Derived.Test.YtkhgglkkdnemlaaChecked
import GoSem.Claim
import GoSem.ClaimJoined
import GoSem.ClaimMapViews
import Derived.JoinedTies
import Derived.KernelRfl
namespace Go.Proofs.Ytkhgglkkdnemlaa
/- THE CELL 'sum', in the pinned program and in every row, IS THE sha256 OF THE DUMP (.gsa) THAT YtkhgglkkdnemlaaProg.lean LOADS. Nothing in Lean hashes anything: it is a label: what it is worth is what the hold of that sum in a sandbox is worth. -/
noncomputable def Try.pinned : Pinned := { name := "ytkhgglkkdnemlaa", sum := "a018c6444c7f879204a3da5e2d13c4992707a547a4beb098140de0ffdb283fe1", checked := Try.checked }
namespace Rows
def none {H : Type} : Left H := { results := [], args := [] }

/-- 'fiduciallaw11.ForestTrees': WHATEVER THE INPUT: true; the input reads as it did. -/
def forestTreesSpec : ChangeSpec := { name := "forestTrees", fn := fun _ => fun
  | [d] => { results := [.lit (.bool true)], args := [d] }
  | _ => none }
def forestTreesRow : OpenClaim := { program := "ytkhgglkkdnemlaa", sum := "a018c6444c7f879204a3da5e2d13c4992707a547a4beb098140de0ffdb283fe1", func := "fiducial/fiduciallaw11.ForestTrees", spec := "forestTrees", unfollowed := true, recurses := true, apart := false }
def ForestTreesSaid : Prop := forestTreesRow.holds Try.pinned (OpenSpec.ofChange forestTreesSpec)

/-- ITS FALSE NEIGHBOUR: 'it returns false'. Refute it at one input. -/
def forestTreesWrong : ChangeSpec := { name := "forestTrees", fn := fun _ => fun
  | [d] => { results := [.lit (.bool false)], args := [d] }
  | _ => none }
def ForestTreesWrongFalsely : Prop := forestTreesRow.holds Try.pinned (OpenSpec.ofChange forestTreesWrong)

/-- 'fiduciallaw11.ForestShortest': WHATEVER THE INPUT: true; the input reads as it did. -/
def forestShortestSpec : ChangeSpec := { name := "forestShortest", fn := fun _ => fun
  | [d1, d2, d3] => { results := [.lit (.bool true)], args := [d1, d2, d3] }
  | _ => none }
def forestShortestRow : OpenClaim := { program := "ytkhgglkkdnemlaa", sum := "a018c6444c7f879204a3da5e2d13c4992707a547a4beb098140de0ffdb283fe1", func := "fiducial/fiduciallaw11.ForestShortest", spec := "forestShortest", unfollowed := true, recurses := true, apart := false }
def ForestShortestSaid : Prop := forestShortestRow.holds Try.pinned (OpenSpec.ofChange forestShortestSpec)

/-- ITS FALSE NEIGHBOUR: 'it returns false'. Refute it at one input. -/
def forestShortestWrong : ChangeSpec := { name := "forestShortest", fn := fun _ => fun
  | [d1, d2, d3] => { results := [.lit (.bool false)], args := [d1, d2, d3] }
  | _ => none }
def ForestShortestWrongFalsely : Prop := forestShortestRow.holds Try.pinned (OpenSpec.ofChange forestShortestWrong)

/-- 'fiduciallaw11.ForestPotentials': WHATEVER THE INPUT: true; the input reads as it did. -/
def forestPotentialsSpec : ChangeSpec := { name := "forestPotentials", fn := fun _ => fun
  | [d1, d2, d3] => { results := [.lit (.bool true)], args := [d1, d2, d3] }
  | _ => none }
def forestPotentialsRow : OpenClaim := { program := "ytkhgglkkdnemlaa", sum := "a018c6444c7f879204a3da5e2d13c4992707a547a4beb098140de0ffdb283fe1", func := "fiducial/fiduciallaw11.ForestPotentials", spec := "forestPotentials", unfollowed := true, recurses := true, apart := false }
def ForestPotentialsSaid : Prop := forestPotentialsRow.holds Try.pinned (OpenSpec.ofChange forestPotentialsSpec)

/-- ITS FALSE NEIGHBOUR: 'it returns false'. Refute it at one input. -/
def forestPotentialsWrong : ChangeSpec := { name := "forestPotentials", fn := fun _ => fun
  | [d1, d2, d3] => { results := [.lit (.bool false)], args := [d1, d2, d3] }
  | _ => none }
def ForestPotentialsWrongFalsely : Prop := forestPotentialsRow.holds Try.pinned (OpenSpec.ofChange forestPotentialsWrong)

/-- 'fiduciallaw11.ForestClasses': WHATEVER THE INPUT: true; the input reads as it did. -/
def forestClassesSpec : ChangeSpec := { name := "forestClasses", fn := fun _ => fun
  | [d] => { results := [.lit (.bool true)], args := [d] }
  | _ => none }
def forestClassesRow : OpenClaim := { program := "ytkhgglkkdnemlaa", sum := "a018c6444c7f879204a3da5e2d13c4992707a547a4beb098140de0ffdb283fe1", func := "fiducial/fiduciallaw11.ForestClasses", spec := "forestClasses", unfollowed := true, recurses := true, apart := false }
def ForestClassesSaid : Prop := forestClassesRow.holds Try.pinned (OpenSpec.ofChange forestClassesSpec)

/-- ITS FALSE NEIGHBOUR: 'it returns false'. Refute it at one input. -/
def forestClassesWrong : ChangeSpec := { name := "forestClasses", fn := fun _ => fun
  | [d] => { results := [.lit (.bool false)], args := [d] }
  | _ => none }
def ForestClassesWrongFalsely : Prop := forestClassesRow.holds Try.pinned (OpenSpec.ofChange forestClassesWrong)

/-- 'fiduciallaw11.ForestLightest': WHATEVER THE INPUT: true; the input reads as it did. -/
def forestLightestSpec : ChangeSpec := { name := "forestLightest", fn := fun _ => fun
  | [d1, d2, d3] => { results := [.lit (.bool true)], args := [d1, d2, d3] }
  | _ => none }
def forestLightestRow : OpenClaim := { program := "ytkhgglkkdnemlaa", sum := "a018c6444c7f879204a3da5e2d13c4992707a547a4beb098140de0ffdb283fe1", func := "fiducial/fiduciallaw11.ForestLightest", spec := "forestLightest", unfollowed := true, recurses := true, apart := false }
def ForestLightestSaid : Prop := forestLightestRow.holds Try.pinned (OpenSpec.ofChange forestLightestSpec)

/-- ITS FALSE NEIGHBOUR: 'it returns false'. Refute it at one input. -/
def forestLightestWrong : ChangeSpec := { name := "forestLightest", fn := fun _ => fun
  | [d1, d2, d3] => { results := [.lit (.bool false)], args := [d1, d2, d3] }
  | _ => none }
def ForestLightestWrongFalsely : Prop := forestLightestRow.holds Try.pinned (OpenSpec.ofChange forestLightestWrong)

/-- 'fiduciallaw11.ForestProofs': WHATEVER THE INPUT: true; the input reads as it did. -/
def forestProofsSpec : ChangeSpec := { name := "forestProofs", fn := fun _ => fun
  | [d1, d2, d3] => { results := [.lit (.bool true)], args := [d1, d2, d3] }
  | _ => none }
def forestProofsRow : OpenClaim := { program := "ytkhgglkkdnemlaa", sum := "a018c6444c7f879204a3da5e2d13c4992707a547a4beb098140de0ffdb283fe1", func := "fiducial/fiduciallaw11.ForestProofs", spec := "forestProofs", unfollowed := true, recurses := true, apart := false }
def ForestProofsSaid : Prop := forestProofsRow.holds Try.pinned (OpenSpec.ofChange forestProofsSpec)

/-- ITS FALSE NEIGHBOUR: 'it returns false'. Refute it at one input. -/
def forestProofsWrong : ChangeSpec := { name := "forestProofs", fn := fun _ => fun
  | [d1, d2, d3] => { results := [.lit (.bool false)], args := [d1, d2, d3] }
  | _ => none }
def ForestProofsWrongFalsely : Prop := forestProofsRow.holds Try.pinned (OpenSpec.ofChange forestProofsWrong)

/-- 'fiduciallaw11.ForestNegative': WHATEVER THE INPUT: true; the input reads as it did. -/
def forestNegativeSpec : ChangeSpec := { name := "forestNegative", fn := fun _ => fun
  | [d] => { results := [.lit (.bool true)], args := [d] }
  | _ => none }
def forestNegativeRow : OpenClaim := { program := "ytkhgglkkdnemlaa", sum := "a018c6444c7f879204a3da5e2d13c4992707a547a4beb098140de0ffdb283fe1", func := "fiducial/fiduciallaw11.ForestNegative", spec := "forestNegative", unfollowed := true, recurses := true, apart := false }
def ForestNegativeSaid : Prop := forestNegativeRow.holds Try.pinned (OpenSpec.ofChange forestNegativeSpec)

/-- ITS FALSE NEIGHBOUR: 'it returns false'. Refute it at one input. -/
def forestNegativeWrong : ChangeSpec := { name := "forestNegative", fn := fun _ => fun
  | [d] => { results := [.lit (.bool false)], args := [d] }
  | _ => none }
def ForestNegativeWrongFalsely : Prop := forestNegativeRow.holds Try.pinned (OpenSpec.ofChange forestNegativeWrong)

/-- 'fiduciallaw11.ForestPaths': WHATEVER THE INPUT: true; the input reads as it did. -/
def forestPathsSpec : ChangeSpec := { name := "forestPaths", fn := fun _ => fun
  | [d1, d2, d3] => { results := [.lit (.bool true)], args := [d1, d2, d3] }
  | _ => none }
def forestPathsRow : OpenClaim := { program := "ytkhgglkkdnemlaa", sum := "a018c6444c7f879204a3da5e2d13c4992707a547a4beb098140de0ffdb283fe1", func := "fiducial/fiduciallaw11.ForestPaths", spec := "forestPaths", unfollowed := true, recurses := true, apart := false }
def ForestPathsSaid : Prop := forestPathsRow.holds Try.pinned (OpenSpec.ofChange forestPathsSpec)

/-- ITS FALSE NEIGHBOUR: 'it returns false'. Refute it at one input. -/
def forestPathsWrong : ChangeSpec := { name := "forestPaths", fn := fun _ => fun
  | [d1, d2, d3] => { results := [.lit (.bool false)], args := [d1, d2, d3] }
  | _ => none }
def ForestPathsWrongFalsely : Prop := forestPathsRow.holds Try.pinned (OpenSpec.ofChange forestPathsWrong)

/-- 'fiduciallaw11.ForestCycles': WHATEVER THE INPUT: true; the input reads as it did. -/
def forestCyclesSpec : ChangeSpec := { name := "forestCycles", fn := fun _ => fun
  | [d1, d2] => { results := [.lit (.bool true)], args := [d1, d2] }
  | _ => none }
def forestCyclesRow : OpenClaim := { program := "ytkhgglkkdnemlaa", sum := "a018c6444c7f879204a3da5e2d13c4992707a547a4beb098140de0ffdb283fe1", func := "fiducial/fiduciallaw11.ForestCycles", spec := "forestCycles", unfollowed := true, recurses := true, apart := false }
def ForestCyclesSaid : Prop := forestCyclesRow.holds Try.pinned (OpenSpec.ofChange forestCyclesSpec)

/-- ITS FALSE NEIGHBOUR: 'it returns false'. Refute it at one input. -/
def forestCyclesWrong : ChangeSpec := { name := "forestCycles", fn := fun _ => fun
  | [d1, d2] => { results := [.lit (.bool false)], args := [d1, d2] }
  | _ => none }
def ForestCyclesWrongFalsely : Prop := forestCyclesRow.holds Try.pinned (OpenSpec.ofChange forestCyclesWrong)

/- THE SECOND FORM. 'bulk': how many values and letters a reading holds, each counted each time it is reached (what is shared counts as often as it is met; a slice's spare places count too). A statement '..UptoSaid' is the law's where the arguments, and the package variables that the reading takes, are together of bulk at most 1048576: NARROWER than '..Said'. Prove '..Said' where nothing that the law and all that it calls make is longer than what came in: it says more and counts as full. Else prove '..UptoSaid'. A law counts once. -/
mutual
def uptoBulk {H : Type} : DataW H → Nat
  | .lit (.string bytes) => bytes.length + 1
  | .lit _ => 1
  | .nil => 1
  | .ptr d => uptoBulk d + 1
  | .slice elems spare => uptoBulkAll elems + uptoBulkAll spare + 1
  | .agg parts => uptoBulkAll parts + 1
  | .iface _ d => uptoBulk d + 1
  | .map entries => uptoBulkEntries entries + 1
  | .held _ => 1
def uptoBulkAll {H : Type} : List (DataW H) → Nat
  | [] => 0
  | d :: r => uptoBulk d + uptoBulkAll r
def uptoBulkEntries {H : Type} : List (Lit × DataW H) → Nat
  | [] => 0
  | x :: r => uptoBulkEntry x + uptoBulkEntries r
def uptoBulkEntry {H : Type} : Lit × DataW H → Nat
  | (.string bytes, d) => bytes.length + uptoBulk d + 1
  | (_, d) => uptoBulk d + 1
 end
def uptoSmall : (H : Type) → List (DataW H) → Bool := fun _ ds => decide (uptoBulkAll ds ≤ 1048576)
def OpenSpec.upto (s : _root_.Go.ChangeSpec) : _root_.Go.OpenSpec := { _root_.Go.OpenSpec.ofChange s with cond := some uptoSmall }

/-- 'fiduciallaw11.ForestTrees', WHERE WHAT IT READS IS OF BULK AT MOST 1048576: true; the input reads as it did. -/
def forestTreesUptoRow : OpenClaim := { program := "ytkhgglkkdnemlaa", sum := "a018c6444c7f879204a3da5e2d13c4992707a547a4beb098140de0ffdb283fe1", func := "fiducial/fiduciallaw11.ForestTrees", spec := "forestTrees", unfollowed := true, recurses := true, apart := false, narrowed := true }
def ForestTreesUptoSaid : Prop := forestTreesUptoRow.holds Try.pinned (OpenSpec.upto forestTreesSpec)

/-- 'fiduciallaw11.ForestShortest', WHERE WHAT IT READS IS OF BULK AT MOST 1048576: true; the input reads as it did. -/
def forestShortestUptoRow : OpenClaim := { program := "ytkhgglkkdnemlaa", sum := "a018c6444c7f879204a3da5e2d13c4992707a547a4beb098140de0ffdb283fe1", func := "fiducial/fiduciallaw11.ForestShortest", spec := "forestShortest", unfollowed := true, recurses := true, apart := false, narrowed := true }
def ForestShortestUptoSaid : Prop := forestShortestUptoRow.holds Try.pinned (OpenSpec.upto forestShortestSpec)

/-- 'fiduciallaw11.ForestPotentials', WHERE WHAT IT READS IS OF BULK AT MOST 1048576: true; the input reads as it did. -/
def forestPotentialsUptoRow : OpenClaim := { program := "ytkhgglkkdnemlaa", sum := "a018c6444c7f879204a3da5e2d13c4992707a547a4beb098140de0ffdb283fe1", func := "fiducial/fiduciallaw11.ForestPotentials", spec := "forestPotentials", unfollowed := true, recurses := true, apart := false, narrowed := true }
def ForestPotentialsUptoSaid : Prop := forestPotentialsUptoRow.holds Try.pinned (OpenSpec.upto forestPotentialsSpec)

/-- 'fiduciallaw11.ForestClasses', WHERE WHAT IT READS IS OF BULK AT MOST 1048576: true; the input reads as it did. -/
def forestClassesUptoRow : OpenClaim := { program := "ytkhgglkkdnemlaa", sum := "a018c6444c7f879204a3da5e2d13c4992707a547a4beb098140de0ffdb283fe1", func := "fiducial/fiduciallaw11.ForestClasses", spec := "forestClasses", unfollowed := true, recurses := true, apart := false, narrowed := true }
def ForestClassesUptoSaid : Prop := forestClassesUptoRow.holds Try.pinned (OpenSpec.upto forestClassesSpec)

/-- 'fiduciallaw11.ForestLightest', WHERE WHAT IT READS IS OF BULK AT MOST 1048576: true; the input reads as it did. -/
def forestLightestUptoRow : OpenClaim := { program := "ytkhgglkkdnemlaa", sum := "a018c6444c7f879204a3da5e2d13c4992707a547a4beb098140de0ffdb283fe1", func := "fiducial/fiduciallaw11.ForestLightest", spec := "forestLightest", unfollowed := true, recurses := true, apart := false, narrowed := true }
def ForestLightestUptoSaid : Prop := forestLightestUptoRow.holds Try.pinned (OpenSpec.upto forestLightestSpec)

/-- 'fiduciallaw11.ForestProofs', WHERE WHAT IT READS IS OF BULK AT MOST 1048576: true; the input reads as it did. -/
def forestProofsUptoRow : OpenClaim := { program := "ytkhgglkkdnemlaa", sum := "a018c6444c7f879204a3da5e2d13c4992707a547a4beb098140de0ffdb283fe1", func := "fiducial/fiduciallaw11.ForestProofs", spec := "forestProofs", unfollowed := true, recurses := true, apart := false, narrowed := true }
def ForestProofsUptoSaid : Prop := forestProofsUptoRow.holds Try.pinned (OpenSpec.upto forestProofsSpec)

/-- 'fiduciallaw11.ForestNegative', WHERE WHAT IT READS IS OF BULK AT MOST 1048576: true; the input reads as it did. -/
def forestNegativeUptoRow : OpenClaim := { program := "ytkhgglkkdnemlaa", sum := "a018c6444c7f879204a3da5e2d13c4992707a547a4beb098140de0ffdb283fe1", func := "fiducial/fiduciallaw11.ForestNegative", spec := "forestNegative", unfollowed := true, recurses := true, apart := false, narrowed := true }
def ForestNegativeUptoSaid : Prop := forestNegativeUptoRow.holds Try.pinned (OpenSpec.upto forestNegativeSpec)

/-- 'fiduciallaw11.ForestPaths', WHERE WHAT IT READS IS OF BULK AT MOST 1048576: true; the input reads as it did. -/
def forestPathsUptoRow : OpenClaim := { program := "ytkhgglkkdnemlaa", sum := "a018c6444c7f879204a3da5e2d13c4992707a547a4beb098140de0ffdb283fe1", func := "fiducial/fiduciallaw11.ForestPaths", spec := "forestPaths", unfollowed := true, recurses := true, apart := false, narrowed := true }
def ForestPathsUptoSaid : Prop := forestPathsUptoRow.holds Try.pinned (OpenSpec.upto forestPathsSpec)

/-- 'fiduciallaw11.ForestCycles', WHERE WHAT IT READS IS OF BULK AT MOST 1048576: true; the input reads as it did. -/
def forestCyclesUptoRow : OpenClaim := { program := "ytkhgglkkdnemlaa", sum := "a018c6444c7f879204a3da5e2d13c4992707a547a4beb098140de0ffdb283fe1", func := "fiducial/fiduciallaw11.ForestCycles", spec := "forestCycles", unfollowed := true, recurses := true, apart := false, narrowed := true }
def ForestCyclesUptoSaid : Prop := forestCyclesUptoRow.holds Try.pinned (OpenSpec.upto forestCyclesSpec)

end Rows
end Go.Proofs.Ytkhgglkkdnemlaa
