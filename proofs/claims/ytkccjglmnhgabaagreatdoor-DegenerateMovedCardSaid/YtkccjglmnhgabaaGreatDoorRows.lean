/-
  NARROWER THAN 'FOR EVERY INPUT', by the rows' own cells (each row's printed sentence says how): DegenerateQuadrics: laid · DegenerateMoved: laid.
  DERIVED. THE GIVEN ROWS OF THIS SEAT. 2 by the template 'for every input the law returns true; each argument reads behind the call as it read before'; 0 by the template 'total and deterministic' (their statements: YtkccjglmnhgabaaGreatDoorTotals.lean).
  GIVEN WITH THE SEED: the statements are not yours to turn. If you find one false, say at which input.
  Laid BY PROGRAM, IN A SANDBOX (cutbox-rows.mjs): the forced cells as the released guide's own fill.sh prints them over the translation e81677499e5403a1… (all of the seat's roots in one cut). By AI agents, Wed Nov 11 2026. No macro, syntax, notation, axiom, sorry.
-/
import Derived.Test.YtkccjglmnhgabaaGreatDoorChecked
import GoSem.Claim
import GoSem.ClaimJoined
import GoSem.ClaimMapViews
import Derived.JoinedTies
import Derived.KernelRfl
namespace Go.Proofs.YtkccjglmnhgabaaGreatDoor
/- THE CELL 'sum', in the pinned program and in every row, IS THE sha256 OF THE DUMP (.gsa) THAT YtkccjglmnhgabaaGreatDoorProg.lean LOADS. Nothing in Lean hashes anything: it is a label: what it is worth is what the hold of that sum in a sandbox is worth. -/
noncomputable def Tryz.pinned : Pinned := { name := "ytkccjglmnhgabaagreatdoor", sum := "e81677499e5403a163fe281504e0d33c0a186cdae46c7275c5bb40436e3b171a", checked := Tryz.checked }
namespace Rows
def none {H : Type} : Left H := { results := [], args := [] }

/- WHAT THE LISTED PACKAGE-LEVEL VARIABLES READ AS WHEN THE CALL BEGINS. Each datum BY PROGRAM (the guide's laid-datum.mjs) off the statement by which the dump's own 'gosem.cut.vars' lays the variable. In a bare row this is a premise. The card (YtkccjglmnhgabaaGreatDoorCards.lean) ties it to the program's text. -/
def laid_fiducial_degenerate_products {H : Type} : DataW H := .agg [.agg [.lit (.int .i64 0), .lit (.int .i64 0)], .agg [.lit (.int .i64 1), .lit (.int .i64 1)], .agg [.lit (.int .i64 2), .lit (.int .i64 2)], .agg [.lit (.int .i64 0), .lit (.int .i64 1)], .agg [.lit (.int .i64 0), .lit (.int .i64 2)], .agg [.lit (.int .i64 1), .lit (.int .i64 2)], .agg [.lit (.int .i64 0), .lit (.int .i64 3)], .agg [.lit (.int .i64 1), .lit (.int .i64 3)], .agg [.lit (.int .i64 2), .lit (.int .i64 3)], .agg [.lit (.int .i64 3), .lit (.int .i64 3)]]

/-- 'fiduciallaw31.DegenerateQuadrics': WHATEVER THE INPUT: true; the input reads as it did. -/
def degenerateQuadricsSpec : ChangeSpec := { name := "degenerateQuadrics", fn := fun _ => fun
  | [d] => { results := [.lit (.bool true)], args := [d] }
  | _ => none }
def degenerateQuadricsRow : OpenClaim := { program := "ytkccjglmnhgabaagreatdoor", sum := "e81677499e5403a163fe281504e0d33c0a186cdae46c7275c5bb40436e3b171a", func := "fiducial/fiduciallaw31.DegenerateQuadrics", spec := "degenerateQuadrics", unfollowed := true, recurses := true, named := ["fiducial/degenerate.products"], apart := false, laid := [("fiducial/degenerate.products", laid_fiducial_degenerate_products)] }
def DegenerateQuadricsSaid : Prop := degenerateQuadricsRow.holds Tryz.pinned (OpenSpec.ofChange degenerateQuadricsSpec)

/-- ITS FALSE NEIGHBOUR: 'it returns false'. Refute it at one input. -/
def degenerateQuadricsWrong : ChangeSpec := { name := "degenerateQuadrics", fn := fun _ => fun
  | [d] => { results := [.lit (.bool false)], args := [d] }
  | _ => none }
def DegenerateQuadricsWrongFalsely : Prop := degenerateQuadricsRow.holds Tryz.pinned (OpenSpec.ofChange degenerateQuadricsWrong)

/-- 'fiduciallaw31.DegenerateMoved': WHATEVER THE INPUT: true; the input reads as it did. -/
def degenerateMovedSpec : ChangeSpec := { name := "degenerateMoved", fn := fun _ => fun
  | [d1, d2, d3] => { results := [.lit (.bool true)], args := [d1, d2, d3] }
  | _ => none }
def degenerateMovedRow : OpenClaim := { program := "ytkccjglmnhgabaagreatdoor", sum := "e81677499e5403a163fe281504e0d33c0a186cdae46c7275c5bb40436e3b171a", func := "fiducial/fiduciallaw31.DegenerateMoved", spec := "degenerateMoved", unfollowed := true, recurses := true, named := ["fiducial/degenerate.products"], apart := false, laid := [("fiducial/degenerate.products", laid_fiducial_degenerate_products)] }
def DegenerateMovedSaid : Prop := degenerateMovedRow.holds Tryz.pinned (OpenSpec.ofChange degenerateMovedSpec)

/-- ITS FALSE NEIGHBOUR: 'it returns false'. Refute it at one input. -/
def degenerateMovedWrong : ChangeSpec := { name := "degenerateMoved", fn := fun _ => fun
  | [d1, d2, d3] => { results := [.lit (.bool false)], args := [d1, d2, d3] }
  | _ => none }
def DegenerateMovedWrongFalsely : Prop := degenerateMovedRow.holds Tryz.pinned (OpenSpec.ofChange degenerateMovedWrong)

/- THE SECOND FORM. 'bulk': how many values and letters a reading holds, each counted each time it is reached (what is shared counts as often as it is met; a slice's spare places count too). A statement '..UptoSaid' is the law's where the arguments, and the package variables that the reading takes, are together of bulk at most 1048576: NARROWER than '..Said'. Prove '..Said' where nothing that the law and all that it calls make is longer than what came in: it says more and counts as full. Else prove '..UptoSaid'. A law counts once. -/
mutual
def uptoBulk {H : Type} : DataW H → Nat
  | .lit (.string bytes) => bytes.length + 1
  | .lit _ => 1
  | .nil => 1
  | .ptr d => uptoBulk d + 1
  | .slice elems spare => uptoBulkAll elems + uptoBulkAll spare + 1
  | .agg parts => uptoBulkAll parts + 1
  | .iface _ d => uptoBulk d + 1
  | .map entries => uptoBulkEntries entries + 1
  | .held _ => 1
def uptoBulkAll {H : Type} : List (DataW H) → Nat
  | [] => 0
  | d :: r => uptoBulk d + uptoBulkAll r
def uptoBulkEntries {H : Type} : List (Lit × DataW H) → Nat
  | [] => 0
  | x :: r => uptoBulkEntry x + uptoBulkEntries r
def uptoBulkEntry {H : Type} : Lit × DataW H → Nat
  | (.string bytes, d) => bytes.length + uptoBulk d + 1
  | (_, d) => uptoBulk d + 1
 end
def uptoSmall : (H : Type) → List (DataW H) → Bool := fun _ ds => decide (uptoBulkAll ds ≤ 1048576)
def OpenSpec.upto (s : _root_.Go.ChangeSpec) : _root_.Go.OpenSpec := { _root_.Go.OpenSpec.ofChange s with cond := some uptoSmall }

/-- 'fiduciallaw31.DegenerateQuadrics', WHERE WHAT IT READS IS OF BULK AT MOST 1048576: true; the input reads as it did. -/
def degenerateQuadricsUptoRow : OpenClaim := { program := "ytkccjglmnhgabaagreatdoor", sum := "e81677499e5403a163fe281504e0d33c0a186cdae46c7275c5bb40436e3b171a", func := "fiducial/fiduciallaw31.DegenerateQuadrics", spec := "degenerateQuadrics", unfollowed := true, recurses := true, named := ["fiducial/degenerate.products"], apart := false, laid := [("fiducial/degenerate.products", laid_fiducial_degenerate_products)], narrowed := true }
def DegenerateQuadricsUptoSaid : Prop := degenerateQuadricsUptoRow.holds Tryz.pinned (OpenSpec.upto degenerateQuadricsSpec)

/-- 'fiduciallaw31.DegenerateMoved', WHERE WHAT IT READS IS OF BULK AT MOST 1048576: true; the input reads as it did. -/
def degenerateMovedUptoRow : OpenClaim := { program := "ytkccjglmnhgabaagreatdoor", sum := "e81677499e5403a163fe281504e0d33c0a186cdae46c7275c5bb40436e3b171a", func := "fiducial/fiduciallaw31.DegenerateMoved", spec := "degenerateMoved", unfollowed := true, recurses := true, named := ["fiducial/degenerate.products"], apart := false, laid := [("fiducial/degenerate.products", laid_fiducial_degenerate_products)], narrowed := true }
def DegenerateMovedUptoSaid : Prop := degenerateMovedUptoRow.holds Tryz.pinned (OpenSpec.upto degenerateMovedSpec)

end Rows
end Go.Proofs.YtkccjglmnhgabaaGreatDoor
