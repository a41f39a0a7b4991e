/-
  No cell of these rows narrows 'for every input' (looked for: loops, veiled, ifaces, maps, wideKeys, modest, calm, conditions, laid).
  DERIVED. THE GIVEN ROWS OF THIS SEAT. 8 by the template 'for every input the law returns true; each argument reads behind the call as it read before'; 0 by the template 'total and deterministic' (their statements: YtkccjglmnhgabaaGreatTotals.lean).
  GIVEN WITH THE SEED: the statements are not yours to turn. If you find one false, say at which input.
  Laid BY PROGRAM, IN A SANDBOX (cutbox-rows.mjs): the forced cells as the released guide's own fill.sh prints them over the translation 9b267231ac3d8444… (all of the seat's roots in one cut). By AI agents, Wed Nov 11 2026. No macro, syntax, notation, axiom, sorry.
-/
import Derived.Test.YtkccjglmnhgabaaGreatChecked
import GoSem.Claim
import GoSem.ClaimJoined
import GoSem.ClaimMapViews
import Derived.JoinedTies
import Derived.KernelRfl
namespace Go.Proofs.YtkccjglmnhgabaaGreat
/- THE CELL 'sum', in the pinned program and in every row, IS THE sha256 OF THE DUMP (.gsa) THAT YtkccjglmnhgabaaGreatProg.lean LOADS. Nothing in Lean hashes anything: it is a label: what it is worth is what the hold of that sum in a sandbox is worth. -/
noncomputable def Tryz.pinned : Pinned := { name := "ytkccjglmnhgabaagreat", sum := "9b267231ac3d844432d11612546e210f85660e3e90f53a89acaa058c3bc42bb6", checked := Tryz.checked }
namespace Rows
def none {H : Type} : Left H := { results := [], args := [] }

/-- 'fiduciallaw30.ResectRecovers': WHATEVER THE INPUT: true; the input reads as it did. -/
def resectRecoversSpec : ChangeSpec := { name := "resectRecovers", fn := fun _ => fun
  | [d1, d2] => { results := [.lit (.bool true)], args := [d1, d2] }
  | _ => none }
def resectRecoversRow : OpenClaim := { program := "ytkccjglmnhgabaagreat", sum := "9b267231ac3d844432d11612546e210f85660e3e90f53a89acaa058c3bc42bb6", func := "fiducial/fiduciallaw30.ResectRecovers", spec := "resectRecovers", unfollowed := true, recurses := true, apart := false }
def ResectRecoversSaid : Prop := resectRecoversRow.holds Tryz.pinned (OpenSpec.ofChange resectRecoversSpec)

/-- ITS FALSE NEIGHBOUR: 'it returns false'. Refute it at one input. -/
def resectRecoversWrong : ChangeSpec := { name := "resectRecovers", fn := fun _ => fun
  | [d1, d2] => { results := [.lit (.bool false)], args := [d1, d2] }
  | _ => none }
def ResectRecoversWrongFalsely : Prop := resectRecoversRow.holds Tryz.pinned (OpenSpec.ofChange resectRecoversWrong)

/-- 'fiduciallaw31.DegenerateRanks': WHATEVER THE INPUT: true; the input reads as it did. -/
def degenerateRanksSpec : ChangeSpec := { name := "degenerateRanks", fn := fun _ => fun
  | [d] => { results := [.lit (.bool true)], args := [d] }
  | _ => none }
def degenerateRanksRow : OpenClaim := { program := "ytkccjglmnhgabaagreat", sum := "9b267231ac3d844432d11612546e210f85660e3e90f53a89acaa058c3bc42bb6", func := "fiducial/fiduciallaw31.DegenerateRanks", spec := "degenerateRanks", unfollowed := true, recurses := true, apart := false }
def DegenerateRanksSaid : Prop := degenerateRanksRow.holds Tryz.pinned (OpenSpec.ofChange degenerateRanksSpec)

/-- ITS FALSE NEIGHBOUR: 'it returns false'. Refute it at one input. -/
def degenerateRanksWrong : ChangeSpec := { name := "degenerateRanks", fn := fun _ => fun
  | [d] => { results := [.lit (.bool false)], args := [d] }
  | _ => none }
def DegenerateRanksWrongFalsely : Prop := degenerateRanksRow.holds Tryz.pinned (OpenSpec.ofChange degenerateRanksWrong)

/-- 'fiduciallaw31.DegenerateProofs': WHATEVER THE INPUT: true; the input reads as it did. -/
def degenerateProofsSpec : ChangeSpec := { name := "degenerateProofs", fn := fun _ => fun
  | [d1, d2, d3] => { results := [.lit (.bool true)], args := [d1, d2, d3] }
  | _ => none }
def degenerateProofsRow : OpenClaim := { program := "ytkccjglmnhgabaagreat", sum := "9b267231ac3d844432d11612546e210f85660e3e90f53a89acaa058c3bc42bb6", func := "fiducial/fiduciallaw31.DegenerateProofs", spec := "degenerateProofs", unfollowed := true, recurses := true, apart := false }
def DegenerateProofsSaid : Prop := degenerateProofsRow.holds Tryz.pinned (OpenSpec.ofChange degenerateProofsSpec)

/-- ITS FALSE NEIGHBOUR: 'it returns false'. Refute it at one input. -/
def degenerateProofsWrong : ChangeSpec := { name := "degenerateProofs", fn := fun _ => fun
  | [d1, d2, d3] => { results := [.lit (.bool false)], args := [d1, d2, d3] }
  | _ => none }
def DegenerateProofsWrongFalsely : Prop := degenerateProofsRow.holds Tryz.pinned (OpenSpec.ofChange degenerateProofsWrong)

/-- 'fiduciallaw31.DegenerateSound': WHATEVER THE INPUT: true; the input reads as it did. -/
def degenerateSoundSpec : ChangeSpec := { name := "degenerateSound", fn := fun _ => fun
  | [d1, d2, d3] => { results := [.lit (.bool true)], args := [d1, d2, d3] }
  | _ => none }
def degenerateSoundRow : OpenClaim := { program := "ytkccjglmnhgabaagreat", sum := "9b267231ac3d844432d11612546e210f85660e3e90f53a89acaa058c3bc42bb6", func := "fiducial/fiduciallaw31.DegenerateSound", spec := "degenerateSound", unfollowed := true, recurses := true, apart := false }
def DegenerateSoundSaid : Prop := degenerateSoundRow.holds Tryz.pinned (OpenSpec.ofChange degenerateSoundSpec)

/-- ITS FALSE NEIGHBOUR: 'it returns false'. Refute it at one input. -/
def degenerateSoundWrong : ChangeSpec := { name := "degenerateSound", fn := fun _ => fun
  | [d1, d2, d3] => { results := [.lit (.bool false)], args := [d1, d2, d3] }
  | _ => none }
def DegenerateSoundWrongFalsely : Prop := degenerateSoundRow.holds Tryz.pinned (OpenSpec.ofChange degenerateSoundWrong)

/-- 'fiduciallaw31.DegenerateCriticals': WHATEVER THE INPUT: true; the input reads as it did. -/
def degenerateCriticalsSpec : ChangeSpec := { name := "degenerateCriticals", fn := fun _ => fun
  | [d] => { results := [.lit (.bool true)], args := [d] }
  | _ => none }
def degenerateCriticalsRow : OpenClaim := { program := "ytkccjglmnhgabaagreat", sum := "9b267231ac3d844432d11612546e210f85660e3e90f53a89acaa058c3bc42bb6", func := "fiducial/fiduciallaw31.DegenerateCriticals", spec := "degenerateCriticals", unfollowed := true, recurses := true, apart := false }
def DegenerateCriticalsSaid : Prop := degenerateCriticalsRow.holds Tryz.pinned (OpenSpec.ofChange degenerateCriticalsSpec)

/-- ITS FALSE NEIGHBOUR: 'it returns false'. Refute it at one input. -/
def degenerateCriticalsWrong : ChangeSpec := { name := "degenerateCriticals", fn := fun _ => fun
  | [d] => { results := [.lit (.bool false)], args := [d] }
  | _ => none }
def DegenerateCriticalsWrongFalsely : Prop := degenerateCriticalsRow.holds Tryz.pinned (OpenSpec.ofChange degenerateCriticalsWrong)

/-- 'fiduciallaw31.DegenerateShapes': WHATEVER THE INPUT: true; the input reads as it did. -/
def degenerateShapesSpec : ChangeSpec := { name := "degenerateShapes", fn := fun _ => fun
  | [d] => { results := [.lit (.bool true)], args := [d] }
  | _ => none }
def degenerateShapesRow : OpenClaim := { program := "ytkccjglmnhgabaagreat", sum := "9b267231ac3d844432d11612546e210f85660e3e90f53a89acaa058c3bc42bb6", func := "fiducial/fiduciallaw31.DegenerateShapes", spec := "degenerateShapes", unfollowed := true, recurses := true, apart := false }
def DegenerateShapesSaid : Prop := degenerateShapesRow.holds Tryz.pinned (OpenSpec.ofChange degenerateShapesSpec)

/-- ITS FALSE NEIGHBOUR: 'it returns false'. Refute it at one input. -/
def degenerateShapesWrong : ChangeSpec := { name := "degenerateShapes", fn := fun _ => fun
  | [d] => { results := [.lit (.bool false)], args := [d] }
  | _ => none }
def DegenerateShapesWrongFalsely : Prop := degenerateShapesRow.holds Tryz.pinned (OpenSpec.ofChange degenerateShapesWrong)

/-- 'fiduciallaw31.DegenerateViews': WHATEVER THE INPUT: true; the input reads as it did. -/
def degenerateViewsSpec : ChangeSpec := { name := "degenerateViews", fn := fun _ => fun
  | [d] => { results := [.lit (.bool true)], args := [d] }
  | _ => none }
def degenerateViewsRow : OpenClaim := { program := "ytkccjglmnhgabaagreat", sum := "9b267231ac3d844432d11612546e210f85660e3e90f53a89acaa058c3bc42bb6", func := "fiducial/fiduciallaw31.DegenerateViews", spec := "degenerateViews", unfollowed := true, recurses := true, apart := false }
def DegenerateViewsSaid : Prop := degenerateViewsRow.holds Tryz.pinned (OpenSpec.ofChange degenerateViewsSpec)

/-- ITS FALSE NEIGHBOUR: 'it returns false'. Refute it at one input. -/
def degenerateViewsWrong : ChangeSpec := { name := "degenerateViews", fn := fun _ => fun
  | [d] => { results := [.lit (.bool false)], args := [d] }
  | _ => none }
def DegenerateViewsWrongFalsely : Prop := degenerateViewsRow.holds Tryz.pinned (OpenSpec.ofChange degenerateViewsWrong)

/-- 'fiduciallaw31.DegenerateAffine': WHATEVER THE INPUT: true; the input reads as it did. -/
def degenerateAffineSpec : ChangeSpec := { name := "degenerateAffine", fn := fun _ => fun
  | [d1, d2] => { results := [.lit (.bool true)], args := [d1, d2] }
  | _ => none }
def degenerateAffineRow : OpenClaim := { program := "ytkccjglmnhgabaagreat", sum := "9b267231ac3d844432d11612546e210f85660e3e90f53a89acaa058c3bc42bb6", func := "fiducial/fiduciallaw31.DegenerateAffine", spec := "degenerateAffine", unfollowed := true, recurses := true, apart := false }
def DegenerateAffineSaid : Prop := degenerateAffineRow.holds Tryz.pinned (OpenSpec.ofChange degenerateAffineSpec)

/-- ITS FALSE NEIGHBOUR: 'it returns false'. Refute it at one input. -/
def degenerateAffineWrong : ChangeSpec := { name := "degenerateAffine", fn := fun _ => fun
  | [d1, d2] => { results := [.lit (.bool false)], args := [d1, d2] }
  | _ => none }
def DegenerateAffineWrongFalsely : Prop := degenerateAffineRow.holds Tryz.pinned (OpenSpec.ofChange degenerateAffineWrong)

/- THE SECOND FORM. 'bulk': how many values and letters a reading holds, each counted each time it is reached (what is shared counts as often as it is met; a slice's spare places count too). A statement '..UptoSaid' is the law's where the arguments, and the package variables that the reading takes, are together of bulk at most 1048576: NARROWER than '..Said'. Prove '..Said' where nothing that the law and all that it calls make is longer than what came in: it says more and counts as full. Else prove '..UptoSaid'. A law counts once. -/
mutual
def uptoBulk {H : Type} : DataW H → Nat
  | .lit (.string bytes) => bytes.length + 1
  | .lit _ => 1
  | .nil => 1
  | .ptr d => uptoBulk d + 1
  | .slice elems spare => uptoBulkAll elems + uptoBulkAll spare + 1
  | .agg parts => uptoBulkAll parts + 1
  | .iface _ d => uptoBulk d + 1
  | .map entries => uptoBulkEntries entries + 1
  | .held _ => 1
def uptoBulkAll {H : Type} : List (DataW H) → Nat
  | [] => 0
  | d :: r => uptoBulk d + uptoBulkAll r
def uptoBulkEntries {H : Type} : List (Lit × DataW H) → Nat
  | [] => 0
  | x :: r => uptoBulkEntry x + uptoBulkEntries r
def uptoBulkEntry {H : Type} : Lit × DataW H → Nat
  | (.string bytes, d) => bytes.length + uptoBulk d + 1
  | (_, d) => uptoBulk d + 1
 end
def uptoSmall : (H : Type) → List (DataW H) → Bool := fun _ ds => decide (uptoBulkAll ds ≤ 1048576)
def OpenSpec.upto (s : _root_.Go.ChangeSpec) : _root_.Go.OpenSpec := { _root_.Go.OpenSpec.ofChange s with cond := some uptoSmall }

/-- 'fiduciallaw30.ResectRecovers', WHERE WHAT IT READS IS OF BULK AT MOST 1048576: true; the input reads as it did. -/
def resectRecoversUptoRow : OpenClaim := { program := "ytkccjglmnhgabaagreat", sum := "9b267231ac3d844432d11612546e210f85660e3e90f53a89acaa058c3bc42bb6", func := "fiducial/fiduciallaw30.ResectRecovers", spec := "resectRecovers", unfollowed := true, recurses := true, apart := false, narrowed := true }
def ResectRecoversUptoSaid : Prop := resectRecoversUptoRow.holds Tryz.pinned (OpenSpec.upto resectRecoversSpec)

/-- 'fiduciallaw31.DegenerateRanks', WHERE WHAT IT READS IS OF BULK AT MOST 1048576: true; the input reads as it did. -/
def degenerateRanksUptoRow : OpenClaim := { program := "ytkccjglmnhgabaagreat", sum := "9b267231ac3d844432d11612546e210f85660e3e90f53a89acaa058c3bc42bb6", func := "fiducial/fiduciallaw31.DegenerateRanks", spec := "degenerateRanks", unfollowed := true, recurses := true, apart := false, narrowed := true }
def DegenerateRanksUptoSaid : Prop := degenerateRanksUptoRow.holds Tryz.pinned (OpenSpec.upto degenerateRanksSpec)

/-- 'fiduciallaw31.DegenerateProofs', WHERE WHAT IT READS IS OF BULK AT MOST 1048576: true; the input reads as it did. -/
def degenerateProofsUptoRow : OpenClaim := { program := "ytkccjglmnhgabaagreat", sum := "9b267231ac3d844432d11612546e210f85660e3e90f53a89acaa058c3bc42bb6", func := "fiducial/fiduciallaw31.DegenerateProofs", spec := "degenerateProofs", unfollowed := true, recurses := true, apart := false, narrowed := true }
def DegenerateProofsUptoSaid : Prop := degenerateProofsUptoRow.holds Tryz.pinned (OpenSpec.upto degenerateProofsSpec)

/-- 'fiduciallaw31.DegenerateSound', WHERE WHAT IT READS IS OF BULK AT MOST 1048576: true; the input reads as it did. -/
def degenerateSoundUptoRow : OpenClaim := { program := "ytkccjglmnhgabaagreat", sum := "9b267231ac3d844432d11612546e210f85660e3e90f53a89acaa058c3bc42bb6", func := "fiducial/fiduciallaw31.DegenerateSound", spec := "degenerateSound", unfollowed := true, recurses := true, apart := false, narrowed := true }
def DegenerateSoundUptoSaid : Prop := degenerateSoundUptoRow.holds Tryz.pinned (OpenSpec.upto degenerateSoundSpec)

/-- 'fiduciallaw31.DegenerateCriticals', WHERE WHAT IT READS IS OF BULK AT MOST 1048576: true; the input reads as it did. -/
def degenerateCriticalsUptoRow : OpenClaim := { program := "ytkccjglmnhgabaagreat", sum := "9b267231ac3d844432d11612546e210f85660e3e90f53a89acaa058c3bc42bb6", func := "fiducial/fiduciallaw31.DegenerateCriticals", spec := "degenerateCriticals", unfollowed := true, recurses := true, apart := false, narrowed := true }
def DegenerateCriticalsUptoSaid : Prop := degenerateCriticalsUptoRow.holds Tryz.pinned (OpenSpec.upto degenerateCriticalsSpec)

/-- 'fiduciallaw31.DegenerateShapes', WHERE WHAT IT READS IS OF BULK AT MOST 1048576: true; the input reads as it did. -/
def degenerateShapesUptoRow : OpenClaim := { program := "ytkccjglmnhgabaagreat", sum := "9b267231ac3d844432d11612546e210f85660e3e90f53a89acaa058c3bc42bb6", func := "fiducial/fiduciallaw31.DegenerateShapes", spec := "degenerateShapes", unfollowed := true, recurses := true, apart := false, narrowed := true }
def DegenerateShapesUptoSaid : Prop := degenerateShapesUptoRow.holds Tryz.pinned (OpenSpec.upto degenerateShapesSpec)

/-- 'fiduciallaw31.DegenerateViews', WHERE WHAT IT READS IS OF BULK AT MOST 1048576: true; the input reads as it did. -/
def degenerateViewsUptoRow : OpenClaim := { program := "ytkccjglmnhgabaagreat", sum := "9b267231ac3d844432d11612546e210f85660e3e90f53a89acaa058c3bc42bb6", func := "fiducial/fiduciallaw31.DegenerateViews", spec := "degenerateViews", unfollowed := true, recurses := true, apart := false, narrowed := true }
def DegenerateViewsUptoSaid : Prop := degenerateViewsUptoRow.holds Tryz.pinned (OpenSpec.upto degenerateViewsSpec)

/-- 'fiduciallaw31.DegenerateAffine', WHERE WHAT IT READS IS OF BULK AT MOST 1048576: true; the input reads as it did. -/
def degenerateAffineUptoRow : OpenClaim := { program := "ytkccjglmnhgabaagreat", sum := "9b267231ac3d844432d11612546e210f85660e3e90f53a89acaa058c3bc42bb6", func := "fiducial/fiduciallaw31.DegenerateAffine", spec := "degenerateAffine", unfollowed := true, recurses := true, apart := false, narrowed := true }
def DegenerateAffineUptoSaid : Prop := degenerateAffineUptoRow.holds Tryz.pinned (OpenSpec.upto degenerateAffineSpec)

end Rows
end Go.Proofs.YtkccjglmnhgabaaGreat
