/-
  No cell of these rows narrows 'for every input' (looked for: loops, veiled, ifaces, maps, wideKeys, modest, calm, conditions, laid).
  DERIVED. THE GIVEN ROWS OF THIS SEAT. 7 by the template 'for every input the law returns true; each argument reads behind the call as it read before'; 0 by the template 'total and deterministic' (their statements: YtjbhdfpjnjedhaaGreatTotals.lean).
  GIVEN WITH THE SEED: the statements are not yours to turn. If you find one false, say at which input.
  Laid BY PROGRAM, IN A SANDBOX (cutbox-rows.mjs): the forced cells as the released guide's own fill.sh prints them over the translation 273147d6578476f9… (all of the seat's roots in one cut). By AI agents, Wed Nov 11 2026. No macro, syntax, notation, axiom, sorry.
-/
import Derived.Test.YtjbhdfpjnjedhaaGreatChecked
import GoSem.Claim
import GoSem.ClaimJoined
import GoSem.ClaimMapViews
import Derived.JoinedTies
import Derived.KernelRfl
namespace Go.Proofs.YtjbhdfpjnjedhaaGreat
/- THE CELL 'sum', in the pinned program and in every row, IS THE sha256 OF THE DUMP (.gsa) THAT YtjbhdfpjnjedhaaGreatProg.lean LOADS. Nothing in Lean hashes anything: it is a label: what it is worth is what the hold of that sum in a sandbox is worth. -/
noncomputable def Tryz.pinned : Pinned := { name := "ytjbhdfpjnjedhaagreat", sum := "273147d6578476f90ce41567a7c272c8d61320e126642fb5b2d99470dda4bd97", checked := Tryz.checked }
namespace Rows
def none {H : Type} : Left H := { results := [], args := [] }

/-- 'fiduciallaw29.ConsensusBest': WHATEVER THE INPUT: true; the input reads as it did. -/
def consensusBestSpec : ChangeSpec := { name := "consensusBest", fn := fun _ => fun
  | [d1, d2] => { results := [.lit (.bool true)], args := [d1, d2] }
  | _ => none }
def consensusBestRow : OpenClaim := { program := "ytjbhdfpjnjedhaagreat", sum := "273147d6578476f90ce41567a7c272c8d61320e126642fb5b2d99470dda4bd97", func := "fiducial/fiduciallaw29.ConsensusBest", spec := "consensusBest", unfollowed := true, recurses := true, apart := false }
def ConsensusBestSaid : Prop := consensusBestRow.holds Tryz.pinned (OpenSpec.ofChange consensusBestSpec)

/-- ITS FALSE NEIGHBOUR: 'it returns false'. Refute it at one input. -/
def consensusBestWrong : ChangeSpec := { name := "consensusBest", fn := fun _ => fun
  | [d1, d2] => { results := [.lit (.bool false)], args := [d1, d2] }
  | _ => none }
def ConsensusBestWrongFalsely : Prop := consensusBestRow.holds Tryz.pinned (OpenSpec.ofChange consensusBestWrong)

/-- 'fiduciallaw29.ConsensusDensest': WHATEVER THE INPUT: true; the input reads as it did. -/
def consensusDensestSpec : ChangeSpec := { name := "consensusDensest", fn := fun _ => fun
  | [d1, d2, d3] => { results := [.lit (.bool true)], args := [d1, d2, d3] }
  | _ => none }
def consensusDensestRow : OpenClaim := { program := "ytjbhdfpjnjedhaagreat", sum := "273147d6578476f90ce41567a7c272c8d61320e126642fb5b2d99470dda4bd97", func := "fiducial/fiduciallaw29.ConsensusDensest", spec := "consensusDensest", unfollowed := true, recurses := true, apart := false }
def ConsensusDensestSaid : Prop := consensusDensestRow.holds Tryz.pinned (OpenSpec.ofChange consensusDensestSpec)

/-- ITS FALSE NEIGHBOUR: 'it returns false'. Refute it at one input. -/
def consensusDensestWrong : ChangeSpec := { name := "consensusDensest", fn := fun _ => fun
  | [d1, d2, d3] => { results := [.lit (.bool false)], args := [d1, d2, d3] }
  | _ => none }
def ConsensusDensestWrongFalsely : Prop := consensusDensestRow.holds Tryz.pinned (OpenSpec.ofChange consensusDensestWrong)

/-- 'fiduciallaw29.ConsensusMoves': WHATEVER THE INPUT: true; the input reads as it did. -/
def consensusMovesSpec : ChangeSpec := { name := "consensusMoves", fn := fun _ => fun
  | [d1, d2] => { results := [.lit (.bool true)], args := [d1, d2] }
  | _ => none }
def consensusMovesRow : OpenClaim := { program := "ytjbhdfpjnjedhaagreat", sum := "273147d6578476f90ce41567a7c272c8d61320e126642fb5b2d99470dda4bd97", func := "fiducial/fiduciallaw29.ConsensusMoves", spec := "consensusMoves", unfollowed := true, recurses := true, apart := false }
def ConsensusMovesSaid : Prop := consensusMovesRow.holds Tryz.pinned (OpenSpec.ofChange consensusMovesSpec)

/-- ITS FALSE NEIGHBOUR: 'it returns false'. Refute it at one input. -/
def consensusMovesWrong : ChangeSpec := { name := "consensusMoves", fn := fun _ => fun
  | [d1, d2] => { results := [.lit (.bool false)], args := [d1, d2] }
  | _ => none }
def ConsensusMovesWrongFalsely : Prop := consensusMovesRow.holds Tryz.pinned (OpenSpec.ofChange consensusMovesWrong)

/-- 'fiduciallaw29.ConsensusErrors': WHATEVER THE INPUT: true; the input reads as it did. -/
def consensusErrorsSpec : ChangeSpec := { name := "consensusErrors", fn := fun _ => fun
  | [d1, d2, d3] => { results := [.lit (.bool true)], args := [d1, d2, d3] }
  | _ => none }
def consensusErrorsRow : OpenClaim := { program := "ytjbhdfpjnjedhaagreat", sum := "273147d6578476f90ce41567a7c272c8d61320e126642fb5b2d99470dda4bd97", func := "fiducial/fiduciallaw29.ConsensusErrors", spec := "consensusErrors", unfollowed := true, recurses := true, apart := false }
def ConsensusErrorsSaid : Prop := consensusErrorsRow.holds Tryz.pinned (OpenSpec.ofChange consensusErrorsSpec)

/-- ITS FALSE NEIGHBOUR: 'it returns false'. Refute it at one input. -/
def consensusErrorsWrong : ChangeSpec := { name := "consensusErrors", fn := fun _ => fun
  | [d1, d2, d3] => { results := [.lit (.bool false)], args := [d1, d2, d3] }
  | _ => none }
def ConsensusErrorsWrongFalsely : Prop := consensusErrorsRow.holds Tryz.pinned (OpenSpec.ofChange consensusErrorsWrong)

/-- 'fiduciallaw29.ConsensusModels': WHATEVER THE INPUT: true; the input reads as it did. -/
def consensusModelsSpec : ChangeSpec := { name := "consensusModels", fn := fun _ => fun
  | [d1, d2, d3] => { results := [.lit (.bool true)], args := [d1, d2, d3] }
  | _ => none }
def consensusModelsRow : OpenClaim := { program := "ytjbhdfpjnjedhaagreat", sum := "273147d6578476f90ce41567a7c272c8d61320e126642fb5b2d99470dda4bd97", func := "fiducial/fiduciallaw29.ConsensusModels", spec := "consensusModels", unfollowed := true, recurses := true, apart := false }
def ConsensusModelsSaid : Prop := consensusModelsRow.holds Tryz.pinned (OpenSpec.ofChange consensusModelsSpec)

/-- ITS FALSE NEIGHBOUR: 'it returns false'. Refute it at one input. -/
def consensusModelsWrong : ChangeSpec := { name := "consensusModels", fn := fun _ => fun
  | [d1, d2, d3] => { results := [.lit (.bool false)], args := [d1, d2, d3] }
  | _ => none }
def ConsensusModelsWrongFalsely : Prop := consensusModelsRow.holds Tryz.pinned (OpenSpec.ofChange consensusModelsWrong)

/-- 'fiduciallaw29.ConsensusRefits': WHATEVER THE INPUT: true; the input reads as it did. -/
def consensusRefitsSpec : ChangeSpec := { name := "consensusRefits", fn := fun _ => fun
  | [d1, d2, d3] => { results := [.lit (.bool true)], args := [d1, d2, d3] }
  | _ => none }
def consensusRefitsRow : OpenClaim := { program := "ytjbhdfpjnjedhaagreat", sum := "273147d6578476f90ce41567a7c272c8d61320e126642fb5b2d99470dda4bd97", func := "fiducial/fiduciallaw29.ConsensusRefits", spec := "consensusRefits", unfollowed := true, recurses := true, apart := false }
def ConsensusRefitsSaid : Prop := consensusRefitsRow.holds Tryz.pinned (OpenSpec.ofChange consensusRefitsSpec)

/-- ITS FALSE NEIGHBOUR: 'it returns false'. Refute it at one input. -/
def consensusRefitsWrong : ChangeSpec := { name := "consensusRefits", fn := fun _ => fun
  | [d1, d2, d3] => { results := [.lit (.bool false)], args := [d1, d2, d3] }
  | _ => none }
def ConsensusRefitsWrongFalsely : Prop := consensusRefitsRow.holds Tryz.pinned (OpenSpec.ofChange consensusRefitsWrong)

/-- 'fiduciallaw29.ConsensusLists': WHATEVER THE INPUT: true; the input reads as it did. -/
def consensusListsSpec : ChangeSpec := { name := "consensusLists", fn := fun _ => fun
  | [d1, d2, d3] => { results := [.lit (.bool true)], args := [d1, d2, d3] }
  | _ => none }
def consensusListsRow : OpenClaim := { program := "ytjbhdfpjnjedhaagreat", sum := "273147d6578476f90ce41567a7c272c8d61320e126642fb5b2d99470dda4bd97", func := "fiducial/fiduciallaw29.ConsensusLists", spec := "consensusLists", unfollowed := true, recurses := true, apart := false }
def ConsensusListsSaid : Prop := consensusListsRow.holds Tryz.pinned (OpenSpec.ofChange consensusListsSpec)

/-- ITS FALSE NEIGHBOUR: 'it returns false'. Refute it at one input. -/
def consensusListsWrong : ChangeSpec := { name := "consensusLists", fn := fun _ => fun
  | [d1, d2, d3] => { results := [.lit (.bool false)], args := [d1, d2, d3] }
  | _ => none }
def ConsensusListsWrongFalsely : Prop := consensusListsRow.holds Tryz.pinned (OpenSpec.ofChange consensusListsWrong)

/- THE SECOND FORM. 'bulk': how many values and letters a reading holds, each counted each time it is reached (what is shared counts as often as it is met; a slice's spare places count too). A statement '..UptoSaid' is the law's where the arguments, and the package variables that the reading takes, are together of bulk at most 1048576: NARROWER than '..Said'. Prove '..Said' where nothing that the law and all that it calls make is longer than what came in: it says more and counts as full. Else prove '..UptoSaid'. A law counts once. -/
mutual
def uptoBulk {H : Type} : DataW H → Nat
  | .lit (.string bytes) => bytes.length + 1
  | .lit _ => 1
  | .nil => 1
  | .ptr d => uptoBulk d + 1
  | .slice elems spare => uptoBulkAll elems + uptoBulkAll spare + 1
  | .agg parts => uptoBulkAll parts + 1
  | .iface _ d => uptoBulk d + 1
  | .map entries => uptoBulkEntries entries + 1
  | .held _ => 1
def uptoBulkAll {H : Type} : List (DataW H) → Nat
  | [] => 0
  | d :: r => uptoBulk d + uptoBulkAll r
def uptoBulkEntries {H : Type} : List (Lit × DataW H) → Nat
  | [] => 0
  | x :: r => uptoBulkEntry x + uptoBulkEntries r
def uptoBulkEntry {H : Type} : Lit × DataW H → Nat
  | (.string bytes, d) => bytes.length + uptoBulk d + 1
  | (_, d) => uptoBulk d + 1
 end
def uptoSmall : (H : Type) → List (DataW H) → Bool := fun _ ds => decide (uptoBulkAll ds ≤ 1048576)
def OpenSpec.upto (s : _root_.Go.ChangeSpec) : _root_.Go.OpenSpec := { _root_.Go.OpenSpec.ofChange s with cond := some uptoSmall }

/-- 'fiduciallaw29.ConsensusBest', WHERE WHAT IT READS IS OF BULK AT MOST 1048576: true; the input reads as it did. -/
def consensusBestUptoRow : OpenClaim := { program := "ytjbhdfpjnjedhaagreat", sum := "273147d6578476f90ce41567a7c272c8d61320e126642fb5b2d99470dda4bd97", func := "fiducial/fiduciallaw29.ConsensusBest", spec := "consensusBest", unfollowed := true, recurses := true, apart := false, narrowed := true }
def ConsensusBestUptoSaid : Prop := consensusBestUptoRow.holds Tryz.pinned (OpenSpec.upto consensusBestSpec)

/-- 'fiduciallaw29.ConsensusDensest', WHERE WHAT IT READS IS OF BULK AT MOST 1048576: true; the input reads as it did. -/
def consensusDensestUptoRow : OpenClaim := { program := "ytjbhdfpjnjedhaagreat", sum := "273147d6578476f90ce41567a7c272c8d61320e126642fb5b2d99470dda4bd97", func := "fiducial/fiduciallaw29.ConsensusDensest", spec := "consensusDensest", unfollowed := true, recurses := true, apart := false, narrowed := true }
def ConsensusDensestUptoSaid : Prop := consensusDensestUptoRow.holds Tryz.pinned (OpenSpec.upto consensusDensestSpec)

/-- 'fiduciallaw29.ConsensusMoves', WHERE WHAT IT READS IS OF BULK AT MOST 1048576: true; the input reads as it did. -/
def consensusMovesUptoRow : OpenClaim := { program := "ytjbhdfpjnjedhaagreat", sum := "273147d6578476f90ce41567a7c272c8d61320e126642fb5b2d99470dda4bd97", func := "fiducial/fiduciallaw29.ConsensusMoves", spec := "consensusMoves", unfollowed := true, recurses := true, apart := false, narrowed := true }
def ConsensusMovesUptoSaid : Prop := consensusMovesUptoRow.holds Tryz.pinned (OpenSpec.upto consensusMovesSpec)

/-- 'fiduciallaw29.ConsensusErrors', WHERE WHAT IT READS IS OF BULK AT MOST 1048576: true; the input reads as it did. -/
def consensusErrorsUptoRow : OpenClaim := { program := "ytjbhdfpjnjedhaagreat", sum := "273147d6578476f90ce41567a7c272c8d61320e126642fb5b2d99470dda4bd97", func := "fiducial/fiduciallaw29.ConsensusErrors", spec := "consensusErrors", unfollowed := true, recurses := true, apart := false, narrowed := true }
def ConsensusErrorsUptoSaid : Prop := consensusErrorsUptoRow.holds Tryz.pinned (OpenSpec.upto consensusErrorsSpec)

/-- 'fiduciallaw29.ConsensusModels', WHERE WHAT IT READS IS OF BULK AT MOST 1048576: true; the input reads as it did. -/
def consensusModelsUptoRow : OpenClaim := { program := "ytjbhdfpjnjedhaagreat", sum := "273147d6578476f90ce41567a7c272c8d61320e126642fb5b2d99470dda4bd97", func := "fiducial/fiduciallaw29.ConsensusModels", spec := "consensusModels", unfollowed := true, recurses := true, apart := false, narrowed := true }
def ConsensusModelsUptoSaid : Prop := consensusModelsUptoRow.holds Tryz.pinned (OpenSpec.upto consensusModelsSpec)

/-- 'fiduciallaw29.ConsensusRefits', WHERE WHAT IT READS IS OF BULK AT MOST 1048576: true; the input reads as it did. -/
def consensusRefitsUptoRow : OpenClaim := { program := "ytjbhdfpjnjedhaagreat", sum := "273147d6578476f90ce41567a7c272c8d61320e126642fb5b2d99470dda4bd97", func := "fiducial/fiduciallaw29.ConsensusRefits", spec := "consensusRefits", unfollowed := true, recurses := true, apart := false, narrowed := true }
def ConsensusRefitsUptoSaid : Prop := consensusRefitsUptoRow.holds Tryz.pinned (OpenSpec.upto consensusRefitsSpec)

/-- 'fiduciallaw29.ConsensusLists', WHERE WHAT IT READS IS OF BULK AT MOST 1048576: true; the input reads as it did. -/
def consensusListsUptoRow : OpenClaim := { program := "ytjbhdfpjnjedhaagreat", sum := "273147d6578476f90ce41567a7c272c8d61320e126642fb5b2d99470dda4bd97", func := "fiducial/fiduciallaw29.ConsensusLists", spec := "consensusLists", unfollowed := true, recurses := true, apart := false, narrowed := true }
def ConsensusListsUptoSaid : Prop := consensusListsUptoRow.holds Tryz.pinned (OpenSpec.upto consensusListsSpec)

end Rows
end Go.Proofs.YtjbhdfpjnjedhaaGreat
