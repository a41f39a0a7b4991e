/-
  No cell of these rows narrows 'for every input' (looked for: loops, veiled, ifaces, maps, wideKeys, modest, calm, conditions, laid).
  DERIVED. THE GIVEN ROWS OF THIS SEAT. 8 by the template 'for every input the law returns true; each argument reads behind the call as it read before'; 0 by the template 'total and deterministic' (their statements: YtfkciihgncfemaaTotals.lean).
  GIVEN WITH THE SEED: the statements are not yours to turn. If you find one false, say at which input.
  Laid BY PROGRAM, IN A SANDBOX (cutbox-rows.mjs): the forced cells as the released guide's own fill.sh prints them over the translation f7d21dbdd0526eaf… (all of the seat's roots in one cut). By AI agents, Wed Nov 11 2026. No macro, syntax, notation, axiom, sorry.
-/
import Derived.Test.YtfkciihgncfemaaChecked
import GoSem.Claim
import GoSem.ClaimJoined
import GoSem.ClaimMapViews
import Derived.JoinedTies
import Derived.KernelRfl
namespace Go.Proofs.Ytfkciihgncfemaa
/- THE CELL 'sum', in the pinned program and in every row, IS THE sha256 OF THE DUMP (.gsa) THAT YtfkciihgncfemaaProg.lean LOADS. Nothing in Lean hashes anything: it is a label: what it is worth is what the hold of that sum in a sandbox is worth. -/
noncomputable def Try.pinned : Pinned := { name := "ytfkciihgncfemaa", sum := "f7d21dbdd0526eafeddeda6646b65488e550663ab4fcf1949bcdaf0e3eed1a6c", checked := Try.checked }
namespace Rows
def none {H : Type} : Left H := { results := [], args := [] }

/-- 'fiduciallaw20.CornerScores': WHATEVER THE INPUT: true; the input reads as it did. -/
def cornerScoresSpec : ChangeSpec := { name := "cornerScores", fn := fun _ => fun
  | [d] => { results := [.lit (.bool true)], args := [d] }
  | _ => none }
def cornerScoresRow : OpenClaim := { program := "ytfkciihgncfemaa", sum := "f7d21dbdd0526eafeddeda6646b65488e550663ab4fcf1949bcdaf0e3eed1a6c", func := "fiducial/fiduciallaw20.CornerScores", spec := "cornerScores", unfollowed := true, recurses := true, apart := false }
def CornerScoresSaid : Prop := cornerScoresRow.holds Try.pinned (OpenSpec.ofChange cornerScoresSpec)

/-- ITS FALSE NEIGHBOUR: 'it returns false'. Refute it at one input. -/
def cornerScoresWrong : ChangeSpec := { name := "cornerScores", fn := fun _ => fun
  | [d] => { results := [.lit (.bool false)], args := [d] }
  | _ => none }
def CornerScoresWrongFalsely : Prop := cornerScoresRow.holds Try.pinned (OpenSpec.ofChange cornerScoresWrong)

/-- 'fiduciallaw20.CornerFinds': WHATEVER THE INPUT: true; the input reads as it did. -/
def cornerFindsSpec : ChangeSpec := { name := "cornerFinds", fn := fun _ => fun
  | [d1, d2, d3] => { results := [.lit (.bool true)], args := [d1, d2, d3] }
  | _ => none }
def cornerFindsRow : OpenClaim := { program := "ytfkciihgncfemaa", sum := "f7d21dbdd0526eafeddeda6646b65488e550663ab4fcf1949bcdaf0e3eed1a6c", func := "fiducial/fiduciallaw20.CornerFinds", spec := "cornerFinds", unfollowed := true, recurses := true, apart := false }
def CornerFindsSaid : Prop := cornerFindsRow.holds Try.pinned (OpenSpec.ofChange cornerFindsSpec)

/-- ITS FALSE NEIGHBOUR: 'it returns false'. Refute it at one input. -/
def cornerFindsWrong : ChangeSpec := { name := "cornerFinds", fn := fun _ => fun
  | [d1, d2, d3] => { results := [.lit (.bool false)], args := [d1, d2, d3] }
  | _ => none }
def CornerFindsWrongFalsely : Prop := cornerFindsRow.holds Try.pinned (OpenSpec.ofChange cornerFindsWrong)

/-- 'fiduciallaw20.CornerThins': WHATEVER THE INPUT: true; the input reads as it did. -/
def cornerThinsSpec : ChangeSpec := { name := "cornerThins", fn := fun _ => fun
  | [d1, d2] => { results := [.lit (.bool true)], args := [d1, d2] }
  | _ => none }
def cornerThinsRow : OpenClaim := { program := "ytfkciihgncfemaa", sum := "f7d21dbdd0526eafeddeda6646b65488e550663ab4fcf1949bcdaf0e3eed1a6c", func := "fiducial/fiduciallaw20.CornerThins", spec := "cornerThins", unfollowed := true, recurses := true, apart := false }
def CornerThinsSaid : Prop := cornerThinsRow.holds Try.pinned (OpenSpec.ofChange cornerThinsSpec)

/-- ITS FALSE NEIGHBOUR: 'it returns false'. Refute it at one input. -/
def cornerThinsWrong : ChangeSpec := { name := "cornerThins", fn := fun _ => fun
  | [d1, d2] => { results := [.lit (.bool false)], args := [d1, d2] }
  | _ => none }
def CornerThinsWrongFalsely : Prop := cornerThinsRow.holds Try.pinned (OpenSpec.ofChange cornerThinsWrong)

/-- 'fiduciallaw20.CornerApart': WHATEVER THE INPUT: true; the input reads as it did. -/
def cornerApartSpec : ChangeSpec := { name := "cornerApart", fn := fun _ => fun
  | [d1, d2] => { results := [.lit (.bool true)], args := [d1, d2] }
  | _ => none }
def cornerApartRow : OpenClaim := { program := "ytfkciihgncfemaa", sum := "f7d21dbdd0526eafeddeda6646b65488e550663ab4fcf1949bcdaf0e3eed1a6c", func := "fiducial/fiduciallaw20.CornerApart", spec := "cornerApart", unfollowed := true, recurses := true, apart := false }
def CornerApartSaid : Prop := cornerApartRow.holds Try.pinned (OpenSpec.ofChange cornerApartSpec)

/-- ITS FALSE NEIGHBOUR: 'it returns false'. Refute it at one input. -/
def cornerApartWrong : ChangeSpec := { name := "cornerApart", fn := fun _ => fun
  | [d1, d2] => { results := [.lit (.bool false)], args := [d1, d2] }
  | _ => none }
def CornerApartWrongFalsely : Prop := cornerApartRow.holds Try.pinned (OpenSpec.ofChange cornerApartWrong)

/-- 'fiduciallaw20.CornerOffsets': WHATEVER THE INPUT: true; the input reads as it did. -/
def cornerOffsetsSpec : ChangeSpec := { name := "cornerOffsets", fn := fun _ => fun
  | [d1, d2, d3] => { results := [.lit (.bool true)], args := [d1, d2, d3] }
  | _ => none }
def cornerOffsetsRow : OpenClaim := { program := "ytfkciihgncfemaa", sum := "f7d21dbdd0526eafeddeda6646b65488e550663ab4fcf1949bcdaf0e3eed1a6c", func := "fiducial/fiduciallaw20.CornerOffsets", spec := "cornerOffsets", unfollowed := true, recurses := true, apart := false }
def CornerOffsetsSaid : Prop := cornerOffsetsRow.holds Try.pinned (OpenSpec.ofChange cornerOffsetsSpec)

/-- ITS FALSE NEIGHBOUR: 'it returns false'. Refute it at one input. -/
def cornerOffsetsWrong : ChangeSpec := { name := "cornerOffsets", fn := fun _ => fun
  | [d1, d2, d3] => { results := [.lit (.bool false)], args := [d1, d2, d3] }
  | _ => none }
def CornerOffsetsWrongFalsely : Prop := cornerOffsetsRow.holds Try.pinned (OpenSpec.ofChange cornerOffsetsWrong)

/-- 'fiduciallaw20.CornerInvariant': WHATEVER THE INPUT: true; the input reads as it did. -/
def cornerInvariantSpec : ChangeSpec := { name := "cornerInvariant", fn := fun _ => fun
  | [d1, d2, d3] => { results := [.lit (.bool true)], args := [d1, d2, d3] }
  | _ => none }
def cornerInvariantRow : OpenClaim := { program := "ytfkciihgncfemaa", sum := "f7d21dbdd0526eafeddeda6646b65488e550663ab4fcf1949bcdaf0e3eed1a6c", func := "fiducial/fiduciallaw20.CornerInvariant", spec := "cornerInvariant", unfollowed := true, recurses := true, apart := false }
def CornerInvariantSaid : Prop := cornerInvariantRow.holds Try.pinned (OpenSpec.ofChange cornerInvariantSpec)

/-- ITS FALSE NEIGHBOUR: 'it returns false'. Refute it at one input. -/
def cornerInvariantWrong : ChangeSpec := { name := "cornerInvariant", fn := fun _ => fun
  | [d1, d2, d3] => { results := [.lit (.bool false)], args := [d1, d2, d3] }
  | _ => none }
def CornerInvariantWrongFalsely : Prop := cornerInvariantRow.holds Try.pinned (OpenSpec.ofChange cornerInvariantWrong)

/-- 'fiduciallaw20.CornerTransposes': WHATEVER THE INPUT: true; the input reads as it did. -/
def cornerTransposesSpec : ChangeSpec := { name := "cornerTransposes", fn := fun _ => fun
  | [d] => { results := [.lit (.bool true)], args := [d] }
  | _ => none }
def cornerTransposesRow : OpenClaim := { program := "ytfkciihgncfemaa", sum := "f7d21dbdd0526eafeddeda6646b65488e550663ab4fcf1949bcdaf0e3eed1a6c", func := "fiducial/fiduciallaw20.CornerTransposes", spec := "cornerTransposes", unfollowed := true, recurses := true, apart := false }
def CornerTransposesSaid : Prop := cornerTransposesRow.holds Try.pinned (OpenSpec.ofChange cornerTransposesSpec)

/-- ITS FALSE NEIGHBOUR: 'it returns false'. Refute it at one input. -/
def cornerTransposesWrong : ChangeSpec := { name := "cornerTransposes", fn := fun _ => fun
  | [d] => { results := [.lit (.bool false)], args := [d] }
  | _ => none }
def CornerTransposesWrongFalsely : Prop := cornerTransposesRow.holds Try.pinned (OpenSpec.ofChange cornerTransposesWrong)

/-- 'fiduciallaw20.CornerStripes': WHATEVER THE INPUT: true; the input reads as it did. -/
def cornerStripesSpec : ChangeSpec := { name := "cornerStripes", fn := fun _ => fun
  | [d1, d2] => { results := [.lit (.bool true)], args := [d1, d2] }
  | _ => none }
def cornerStripesRow : OpenClaim := { program := "ytfkciihgncfemaa", sum := "f7d21dbdd0526eafeddeda6646b65488e550663ab4fcf1949bcdaf0e3eed1a6c", func := "fiducial/fiduciallaw20.CornerStripes", spec := "cornerStripes", unfollowed := true, recurses := true, apart := false }
def CornerStripesSaid : Prop := cornerStripesRow.holds Try.pinned (OpenSpec.ofChange cornerStripesSpec)

/-- ITS FALSE NEIGHBOUR: 'it returns false'. Refute it at one input. -/
def cornerStripesWrong : ChangeSpec := { name := "cornerStripes", fn := fun _ => fun
  | [d1, d2] => { results := [.lit (.bool false)], args := [d1, d2] }
  | _ => none }
def CornerStripesWrongFalsely : Prop := cornerStripesRow.holds Try.pinned (OpenSpec.ofChange cornerStripesWrong)

/- THE SECOND FORM. 'bulk': how many values and letters a reading holds, each counted each time it is reached (what is shared counts as often as it is met; a slice's spare places count too). A statement '..UptoSaid' is the law's where the arguments, and the package variables that the reading takes, are together of bulk at most 1048576: NARROWER than '..Said'. Prove '..Said' where nothing that the law and all that it calls make is longer than what came in: it says more and counts as full. Else prove '..UptoSaid'. A law counts once. -/
mutual
def uptoBulk {H : Type} : DataW H → Nat
  | .lit (.string bytes) => bytes.length + 1
  | .lit _ => 1
  | .nil => 1
  | .ptr d => uptoBulk d + 1
  | .slice elems spare => uptoBulkAll elems + uptoBulkAll spare + 1
  | .agg parts => uptoBulkAll parts + 1
  | .iface _ d => uptoBulk d + 1
  | .map entries => uptoBulkEntries entries + 1
  | .held _ => 1
def uptoBulkAll {H : Type} : List (DataW H) → Nat
  | [] => 0
  | d :: r => uptoBulk d + uptoBulkAll r
def uptoBulkEntries {H : Type} : List (Lit × DataW H) → Nat
  | [] => 0
  | x :: r => uptoBulkEntry x + uptoBulkEntries r
def uptoBulkEntry {H : Type} : Lit × DataW H → Nat
  | (.string bytes, d) => bytes.length + uptoBulk d + 1
  | (_, d) => uptoBulk d + 1
 end
def uptoSmall : (H : Type) → List (DataW H) → Bool := fun _ ds => decide (uptoBulkAll ds ≤ 1048576)
def OpenSpec.upto (s : _root_.Go.ChangeSpec) : _root_.Go.OpenSpec := { _root_.Go.OpenSpec.ofChange s with cond := some uptoSmall }

/-- 'fiduciallaw20.CornerScores', WHERE WHAT IT READS IS OF BULK AT MOST 1048576: true; the input reads as it did. -/
def cornerScoresUptoRow : OpenClaim := { program := "ytfkciihgncfemaa", sum := "f7d21dbdd0526eafeddeda6646b65488e550663ab4fcf1949bcdaf0e3eed1a6c", func := "fiducial/fiduciallaw20.CornerScores", spec := "cornerScores", unfollowed := true, recurses := true, apart := false, narrowed := true }
def CornerScoresUptoSaid : Prop := cornerScoresUptoRow.holds Try.pinned (OpenSpec.upto cornerScoresSpec)

/-- 'fiduciallaw20.CornerFinds', WHERE WHAT IT READS IS OF BULK AT MOST 1048576: true; the input reads as it did. -/
def cornerFindsUptoRow : OpenClaim := { program := "ytfkciihgncfemaa", sum := "f7d21dbdd0526eafeddeda6646b65488e550663ab4fcf1949bcdaf0e3eed1a6c", func := "fiducial/fiduciallaw20.CornerFinds", spec := "cornerFinds", unfollowed := true, recurses := true, apart := false, narrowed := true }
def CornerFindsUptoSaid : Prop := cornerFindsUptoRow.holds Try.pinned (OpenSpec.upto cornerFindsSpec)

/-- 'fiduciallaw20.CornerThins', WHERE WHAT IT READS IS OF BULK AT MOST 1048576: true; the input reads as it did. -/
def cornerThinsUptoRow : OpenClaim := { program := "ytfkciihgncfemaa", sum := "f7d21dbdd0526eafeddeda6646b65488e550663ab4fcf1949bcdaf0e3eed1a6c", func := "fiducial/fiduciallaw20.CornerThins", spec := "cornerThins", unfollowed := true, recurses := true, apart := false, narrowed := true }
def CornerThinsUptoSaid : Prop := cornerThinsUptoRow.holds Try.pinned (OpenSpec.upto cornerThinsSpec)

/-- 'fiduciallaw20.CornerApart', WHERE WHAT IT READS IS OF BULK AT MOST 1048576: true; the input reads as it did. -/
def cornerApartUptoRow : OpenClaim := { program := "ytfkciihgncfemaa", sum := "f7d21dbdd0526eafeddeda6646b65488e550663ab4fcf1949bcdaf0e3eed1a6c", func := "fiducial/fiduciallaw20.CornerApart", spec := "cornerApart", unfollowed := true, recurses := true, apart := false, narrowed := true }
def CornerApartUptoSaid : Prop := cornerApartUptoRow.holds Try.pinned (OpenSpec.upto cornerApartSpec)

/-- 'fiduciallaw20.CornerOffsets', WHERE WHAT IT READS IS OF BULK AT MOST 1048576: true; the input reads as it did. -/
def cornerOffsetsUptoRow : OpenClaim := { program := "ytfkciihgncfemaa", sum := "f7d21dbdd0526eafeddeda6646b65488e550663ab4fcf1949bcdaf0e3eed1a6c", func := "fiducial/fiduciallaw20.CornerOffsets", spec := "cornerOffsets", unfollowed := true, recurses := true, apart := false, narrowed := true }
def CornerOffsetsUptoSaid : Prop := cornerOffsetsUptoRow.holds Try.pinned (OpenSpec.upto cornerOffsetsSpec)

/-- 'fiduciallaw20.CornerInvariant', WHERE WHAT IT READS IS OF BULK AT MOST 1048576: true; the input reads as it did. -/
def cornerInvariantUptoRow : OpenClaim := { program := "ytfkciihgncfemaa", sum := "f7d21dbdd0526eafeddeda6646b65488e550663ab4fcf1949bcdaf0e3eed1a6c", func := "fiducial/fiduciallaw20.CornerInvariant", spec := "cornerInvariant", unfollowed := true, recurses := true, apart := false, narrowed := true }
def CornerInvariantUptoSaid : Prop := cornerInvariantUptoRow.holds Try.pinned (OpenSpec.upto cornerInvariantSpec)

/-- 'fiduciallaw20.CornerTransposes', WHERE WHAT IT READS IS OF BULK AT MOST 1048576: true; the input reads as it did. -/
def cornerTransposesUptoRow : OpenClaim := { program := "ytfkciihgncfemaa", sum := "f7d21dbdd0526eafeddeda6646b65488e550663ab4fcf1949bcdaf0e3eed1a6c", func := "fiducial/fiduciallaw20.CornerTransposes", spec := "cornerTransposes", unfollowed := true, recurses := true, apart := false, narrowed := true }
def CornerTransposesUptoSaid : Prop := cornerTransposesUptoRow.holds Try.pinned (OpenSpec.upto cornerTransposesSpec)

/-- 'fiduciallaw20.CornerStripes', WHERE WHAT IT READS IS OF BULK AT MOST 1048576: true; the input reads as it did. -/
def cornerStripesUptoRow : OpenClaim := { program := "ytfkciihgncfemaa", sum := "f7d21dbdd0526eafeddeda6646b65488e550663ab4fcf1949bcdaf0e3eed1a6c", func := "fiducial/fiduciallaw20.CornerStripes", spec := "cornerStripes", unfollowed := true, recurses := true, apart := false, narrowed := true }
def CornerStripesUptoSaid : Prop := cornerStripesUptoRow.holds Try.pinned (OpenSpec.upto cornerStripesSpec)

end Rows
end Go.Proofs.Ytfkciihgncfemaa
