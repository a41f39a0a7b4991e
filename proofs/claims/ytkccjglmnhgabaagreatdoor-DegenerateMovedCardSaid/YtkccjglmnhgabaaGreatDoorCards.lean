/-
  DERIVED. GIVEN WITH THE SEED: THE CARDS: each row of YtkccjglmnhgabaaGreatDoorRows.lean that lists a variable, with what it lists TIED to the program's text (the seventh form; the later family's looks); each row that meets fmt, with fmt's text TOLD by the authors' own Lean function (tested against real Go, not proved from fmt's source: count such statements apart). THE CARD IS WHAT COUNTS. Prove the row's statement (the work); the ties are given (YtkccjglmnhgabaaGreatDoorTie.lean); close each card by the builder's one call (the guide's Derived/Test/ToyasCard.lean, 'card_holds'). Laid BY PROGRAM, IN A SANDBOX (cutbox-door.mjs). By AI agents, Wed Nov 11 2026. No macro, syntax, notation, axiom, sorry.
-/
import Derived.Test.YtkccjglmnhgabaaGreatDoorRows
import GoSem.ClaimSeven
namespace Go.Proofs.YtkccjglmnhgabaaGreatDoor
namespace Rows

/-- THE TIED CARD OF 'fiduciallaw31.DegenerateQuadrics'. -/
def degenerateQuadricsCard : Claim7 := { stood := { row := degenerateQuadricsRow, standIns := [], harness := (true, "055b709fb71163e7aa2ad2a94a644b94cd7957f9a46258d3dceb97159430f74d"), looks := false }, kinds := [], alts := [], laidByText := true, laidKinds := [.data], laidTests := true, laidLooks := .later }
def DegenerateQuadricsCardSaid : Prop := Claim7.holds Tryz.pinned (.plain (OpenSpec.ofChange degenerateQuadricsSpec)) degenerateQuadricsCard

/-- THE TIED CARD OF 'fiduciallaw31.DegenerateMoved'. -/
def degenerateMovedCard : Claim7 := { stood := { row := degenerateMovedRow, standIns := [], harness := (true, "055b709fb71163e7aa2ad2a94a644b94cd7957f9a46258d3dceb97159430f74d"), looks := false }, kinds := [], alts := [], laidByText := true, laidKinds := [.data], laidTests := true, laidLooks := .later }
def DegenerateMovedCardSaid : Prop := Claim7.holds Tryz.pinned (.plain (OpenSpec.ofChange degenerateMovedSpec)) degenerateMovedCard

/-- THE SECOND FORM's CARD OF 'fiduciallaw31.DegenerateQuadrics'. -/
def degenerateQuadricsUptoCard : Claim7 := { stood := { row := degenerateQuadricsUptoRow, standIns := [], harness := (true, "055b709fb71163e7aa2ad2a94a644b94cd7957f9a46258d3dceb97159430f74d"), looks := false }, kinds := [], alts := [], laidByText := true, laidKinds := [.data], laidTests := true, laidLooks := .later }
def DegenerateQuadricsUptoCardSaid : Prop := Claim7.holds Tryz.pinned (.plain (OpenSpec.upto degenerateQuadricsSpec)) degenerateQuadricsUptoCard

/-- THE SECOND FORM's CARD OF 'fiduciallaw31.DegenerateMoved'. -/
def degenerateMovedUptoCard : Claim7 := { stood := { row := degenerateMovedUptoRow, standIns := [], harness := (true, "055b709fb71163e7aa2ad2a94a644b94cd7957f9a46258d3dceb97159430f74d"), looks := false }, kinds := [], alts := [], laidByText := true, laidKinds := [.data], laidTests := true, laidLooks := .later }
def DegenerateMovedUptoCardSaid : Prop := Claim7.holds Tryz.pinned (.plain (OpenSpec.upto degenerateMovedSpec)) degenerateMovedUptoCard
end Rows
end Go.Proofs.YtkccjglmnhgabaaGreatDoor
