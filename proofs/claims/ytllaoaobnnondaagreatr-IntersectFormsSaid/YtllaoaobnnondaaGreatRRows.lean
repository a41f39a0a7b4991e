/-
  No cell of these rows narrows 'for every input' (looked for: loops, veiled, ifaces, maps, wideKeys, modest, calm, conditions, laid).
  DERIVED. THE GIVEN ROWS OF THIS SEAT. 10 by the template 'for every input the law returns true; each argument reads behind the call as it read before'; 0 by the template 'total and deterministic' (their statements: YtllaoaobnnondaaGreatRTotals.lean).
  GIVEN WITH THE SEED: the statements are not yours to turn. If you find one false, say at which input.
  Laid BY PROGRAM, IN A SANDBOX (cutbox-rows.mjs): the forced cells as the released guide's own fill.sh prints them over the translation 5bed8c5f36e0ee6b… (all of the seat's roots in one cut). By AI agents, Wed Nov 11 2026. No macro, syntax, notation, axiom, sorry.
-/
import Derived.Test.YtllaoaobnnondaaGreatRChecked
import GoSem.Claim
import GoSem.ClaimJoined
import GoSem.ClaimMapViews
import Derived.JoinedTies
import Derived.KernelRfl
namespace Go.Proofs.YtllaoaobnnondaaGreatR
/- THE CELL 'sum', in the pinned program and in every row, IS THE sha256 OF THE DUMP (.gsa) THAT YtllaoaobnnondaaGreatRProg.lean LOADS. Nothing in Lean hashes anything: it is a label: what it is worth is what the hold of that sum in a sandbox is worth. -/
noncomputable def Tryz.pinned : Pinned := { name := "ytllaoaobnnondaagreatr", sum := "5bed8c5f36e0ee6b0afb5aeac1c4b24090e513ac0bc2cdb9022b53817175dc05", checked := Tryz.checked }
namespace Rows
def none {H : Type} : Left H := { results := [], args := [] }

/-- 'fiduciallaw25.IntersectFeet': WHATEVER THE INPUT: true; the input reads as it did. -/
def intersectFeetSpec : ChangeSpec := { name := "intersectFeet", fn := fun _ => fun
  | [d1, d2] => { results := [.lit (.bool true)], args := [d1, d2] }
  | _ => none }
def intersectFeetRow : OpenClaim := { program := "ytllaoaobnnondaagreatr", sum := "5bed8c5f36e0ee6b0afb5aeac1c4b24090e513ac0bc2cdb9022b53817175dc05", func := "fiducial/fiduciallaw25.IntersectFeet", spec := "intersectFeet", unfollowed := true, recurses := true, apart := false }
def IntersectFeetSaid : Prop := intersectFeetRow.holds Tryz.pinned (OpenSpec.ofChange intersectFeetSpec)

/-- ITS FALSE NEIGHBOUR: 'it returns false'. Refute it at one input. -/
def intersectFeetWrong : ChangeSpec := { name := "intersectFeet", fn := fun _ => fun
  | [d1, d2] => { results := [.lit (.bool false)], args := [d1, d2] }
  | _ => none }
def IntersectFeetWrongFalsely : Prop := intersectFeetRow.holds Tryz.pinned (OpenSpec.ofChange intersectFeetWrong)

/-- 'fiduciallaw25.IntersectParallax': WHATEVER THE INPUT: true; the input reads as it did. -/
def intersectParallaxSpec : ChangeSpec := { name := "intersectParallax", fn := fun _ => fun
  | [d1, d2] => { results := [.lit (.bool true)], args := [d1, d2] }
  | _ => none }
def intersectParallaxRow : OpenClaim := { program := "ytllaoaobnnondaagreatr", sum := "5bed8c5f36e0ee6b0afb5aeac1c4b24090e513ac0bc2cdb9022b53817175dc05", func := "fiducial/fiduciallaw25.IntersectParallax", spec := "intersectParallax", unfollowed := true, recurses := true, apart := false }
def IntersectParallaxSaid : Prop := intersectParallaxRow.holds Tryz.pinned (OpenSpec.ofChange intersectParallaxSpec)

/-- ITS FALSE NEIGHBOUR: 'it returns false'. Refute it at one input. -/
def intersectParallaxWrong : ChangeSpec := { name := "intersectParallax", fn := fun _ => fun
  | [d1, d2] => { results := [.lit (.bool false)], args := [d1, d2] }
  | _ => none }
def IntersectParallaxWrongFalsely : Prop := intersectParallaxRow.holds Tryz.pinned (OpenSpec.ofChange intersectParallaxWrong)

/-- 'fiduciallaw25.IntersectForms': WHATEVER THE INPUT: true; the input reads as it did. -/
def intersectFormsSpec : ChangeSpec := { name := "intersectForms", fn := fun _ => fun
  | [d1, d2, d3] => { results := [.lit (.bool true)], args := [d1, d2, d3] }
  | _ => none }
def intersectFormsRow : OpenClaim := { program := "ytllaoaobnnondaagreatr", sum := "5bed8c5f36e0ee6b0afb5aeac1c4b24090e513ac0bc2cdb9022b53817175dc05", func := "fiducial/fiduciallaw25.IntersectForms", spec := "intersectForms", unfollowed := true, recurses := true, apart := false }
def IntersectFormsSaid : Prop := intersectFormsRow.holds Tryz.pinned (OpenSpec.ofChange intersectFormsSpec)

/-- ITS FALSE NEIGHBOUR: 'it returns false'. Refute it at one input. -/
def intersectFormsWrong : ChangeSpec := { name := "intersectForms", fn := fun _ => fun
  | [d1, d2, d3] => { results := [.lit (.bool false)], args := [d1, d2, d3] }
  | _ => none }
def IntersectFormsWrongFalsely : Prop := intersectFormsRow.holds Tryz.pinned (OpenSpec.ofChange intersectFormsWrong)

/-- 'fiduciallaw30.ResectDirect': WHATEVER THE INPUT: true; the input reads as it did. -/
def resectDirectSpec : ChangeSpec := { name := "resectDirect", fn := fun _ => fun
  | [d] => { results := [.lit (.bool true)], args := [d] }
  | _ => none }
def resectDirectRow : OpenClaim := { program := "ytllaoaobnnondaagreatr", sum := "5bed8c5f36e0ee6b0afb5aeac1c4b24090e513ac0bc2cdb9022b53817175dc05", func := "fiducial/fiduciallaw30.ResectDirect", spec := "resectDirect", unfollowed := true, recurses := true, apart := false }
def ResectDirectSaid : Prop := resectDirectRow.holds Tryz.pinned (OpenSpec.ofChange resectDirectSpec)

/-- ITS FALSE NEIGHBOUR: 'it returns false'. Refute it at one input. -/
def resectDirectWrong : ChangeSpec := { name := "resectDirect", fn := fun _ => fun
  | [d] => { results := [.lit (.bool false)], args := [d] }
  | _ => none }
def ResectDirectWrongFalsely : Prop := resectDirectRow.holds Tryz.pinned (OpenSpec.ofChange resectDirectWrong)

/-- 'fiduciallaw30.ResectMatrices': WHATEVER THE INPUT: true; the input reads as it did. -/
def resectMatricesSpec : ChangeSpec := { name := "resectMatrices", fn := fun _ => fun
  | [d1, d2] => { results := [.lit (.bool true)], args := [d1, d2] }
  | _ => none }
def resectMatricesRow : OpenClaim := { program := "ytllaoaobnnondaagreatr", sum := "5bed8c5f36e0ee6b0afb5aeac1c4b24090e513ac0bc2cdb9022b53817175dc05", func := "fiducial/fiduciallaw30.ResectMatrices", spec := "resectMatrices", unfollowed := true, recurses := true, apart := false }
def ResectMatricesSaid : Prop := resectMatricesRow.holds Tryz.pinned (OpenSpec.ofChange resectMatricesSpec)

/-- ITS FALSE NEIGHBOUR: 'it returns false'. Refute it at one input. -/
def resectMatricesWrong : ChangeSpec := { name := "resectMatrices", fn := fun _ => fun
  | [d1, d2] => { results := [.lit (.bool false)], args := [d1, d2] }
  | _ => none }
def ResectMatricesWrongFalsely : Prop := resectMatricesRow.holds Tryz.pinned (OpenSpec.ofChange resectMatricesWrong)

/-- 'fiduciallaw30.ResectRecovers': WHATEVER THE INPUT: true; the input reads as it did. -/
def resectRecoversSpec : ChangeSpec := { name := "resectRecovers", fn := fun _ => fun
  | [d1, d2] => { results := [.lit (.bool true)], args := [d1, d2] }
  | _ => none }
def resectRecoversRow : OpenClaim := { program := "ytllaoaobnnondaagreatr", sum := "5bed8c5f36e0ee6b0afb5aeac1c4b24090e513ac0bc2cdb9022b53817175dc05", func := "fiducial/fiduciallaw30.ResectRecovers", spec := "resectRecovers", unfollowed := true, recurses := true, apart := false }
def ResectRecoversSaid : Prop := resectRecoversRow.holds Tryz.pinned (OpenSpec.ofChange resectRecoversSpec)

/-- ITS FALSE NEIGHBOUR: 'it returns false'. Refute it at one input. -/
def resectRecoversWrong : ChangeSpec := { name := "resectRecovers", fn := fun _ => fun
  | [d1, d2] => { results := [.lit (.bool false)], args := [d1, d2] }
  | _ => none }
def ResectRecoversWrongFalsely : Prop := resectRecoversRow.holds Tryz.pinned (OpenSpec.ofChange resectRecoversWrong)

/-- 'fiduciallaw05.MatrixDefinite': WHATEVER THE INPUT: true; the input reads as it did. -/
def matrixDefiniteSpec : ChangeSpec := { name := "matrixDefinite", fn := fun _ => fun
  | [d1, d2] => { results := [.lit (.bool true)], args := [d1, d2] }
  | _ => none }
def matrixDefiniteRow : OpenClaim := { program := "ytllaoaobnnondaagreatr", sum := "5bed8c5f36e0ee6b0afb5aeac1c4b24090e513ac0bc2cdb9022b53817175dc05", func := "fiducial/fiduciallaw05.MatrixDefinite", spec := "matrixDefinite", unfollowed := true, recurses := true, apart := false }
def MatrixDefiniteSaid : Prop := matrixDefiniteRow.holds Tryz.pinned (OpenSpec.ofChange matrixDefiniteSpec)

/-- ITS FALSE NEIGHBOUR: 'it returns false'. Refute it at one input. -/
def matrixDefiniteWrong : ChangeSpec := { name := "matrixDefinite", fn := fun _ => fun
  | [d1, d2] => { results := [.lit (.bool false)], args := [d1, d2] }
  | _ => none }
def MatrixDefiniteWrongFalsely : Prop := matrixDefiniteRow.holds Tryz.pinned (OpenSpec.ofChange matrixDefiniteWrong)

/-- 'fiduciallaw05.MatrixProducts': WHATEVER THE INPUT: true; the input reads as it did. -/
def matrixProductsSpec : ChangeSpec := { name := "matrixProducts", fn := fun _ => fun
  | [d1, d2, d3] => { results := [.lit (.bool true)], args := [d1, d2, d3] }
  | _ => none }
def matrixProductsRow : OpenClaim := { program := "ytllaoaobnnondaagreatr", sum := "5bed8c5f36e0ee6b0afb5aeac1c4b24090e513ac0bc2cdb9022b53817175dc05", func := "fiducial/fiduciallaw05.MatrixProducts", spec := "matrixProducts", unfollowed := true, recurses := true, apart := false }
def MatrixProductsSaid : Prop := matrixProductsRow.holds Tryz.pinned (OpenSpec.ofChange matrixProductsSpec)

/-- ITS FALSE NEIGHBOUR: 'it returns false'. Refute it at one input. -/
def matrixProductsWrong : ChangeSpec := { name := "matrixProducts", fn := fun _ => fun
  | [d1, d2, d3] => { results := [.lit (.bool false)], args := [d1, d2, d3] }
  | _ => none }
def MatrixProductsWrongFalsely : Prop := matrixProductsRow.holds Tryz.pinned (OpenSpec.ofChange matrixProductsWrong)

/-- 'fiduciallaw05.MatrixSums': WHATEVER THE INPUT: true; the input reads as it did. -/
def matrixSumsSpec : ChangeSpec := { name := "matrixSums", fn := fun _ => fun
  | [d1, d2, d3] => { results := [.lit (.bool true)], args := [d1, d2, d3] }
  | _ => none }
def matrixSumsRow : OpenClaim := { program := "ytllaoaobnnondaagreatr", sum := "5bed8c5f36e0ee6b0afb5aeac1c4b24090e513ac0bc2cdb9022b53817175dc05", func := "fiducial/fiduciallaw05.MatrixSums", spec := "matrixSums", unfollowed := true, recurses := true, apart := false }
def MatrixSumsSaid : Prop := matrixSumsRow.holds Tryz.pinned (OpenSpec.ofChange matrixSumsSpec)

/-- ITS FALSE NEIGHBOUR: 'it returns false'. Refute it at one input. -/
def matrixSumsWrong : ChangeSpec := { name := "matrixSums", fn := fun _ => fun
  | [d1, d2, d3] => { results := [.lit (.bool false)], args := [d1, d2, d3] }
  | _ => none }
def MatrixSumsWrongFalsely : Prop := matrixSumsRow.holds Tryz.pinned (OpenSpec.ofChange matrixSumsWrong)

/-- 'fiduciallaw05.MatrixInverses': WHATEVER THE INPUT: true; the input reads as it did. -/
def matrixInversesSpec : ChangeSpec := { name := "matrixInverses", fn := fun _ => fun
  | [d] => { results := [.lit (.bool true)], args := [d] }
  | _ => none }
def matrixInversesRow : OpenClaim := { program := "ytllaoaobnnondaagreatr", sum := "5bed8c5f36e0ee6b0afb5aeac1c4b24090e513ac0bc2cdb9022b53817175dc05", func := "fiducial/fiduciallaw05.MatrixInverses", spec := "matrixInverses", unfollowed := true, recurses := true, apart := false }
def MatrixInversesSaid : Prop := matrixInversesRow.holds Tryz.pinned (OpenSpec.ofChange matrixInversesSpec)

/-- ITS FALSE NEIGHBOUR: 'it returns false'. Refute it at one input. -/
def matrixInversesWrong : ChangeSpec := { name := "matrixInverses", fn := fun _ => fun
  | [d] => { results := [.lit (.bool false)], args := [d] }
  | _ => none }
def MatrixInversesWrongFalsely : Prop := matrixInversesRow.holds Tryz.pinned (OpenSpec.ofChange matrixInversesWrong)

/- THE SECOND FORM. 'bulk': how many values and letters a reading holds, each counted each time it is reached (what is shared counts as often as it is met; a slice's spare places count too). A statement '..UptoSaid' is the law's where the arguments, and the package variables that the reading takes, are together of bulk at most 1048576: NARROWER than '..Said'. Prove '..Said' where nothing that the law and all that it calls make is longer than what came in: it says more and counts as full. Else prove '..UptoSaid'. A law counts once. -/
mutual
def uptoBulk {H : Type} : DataW H → Nat
  | .lit (.string bytes) => bytes.length + 1
  | .lit _ => 1
  | .nil => 1
  | .ptr d => uptoBulk d + 1
  | .slice elems spare => uptoBulkAll elems + uptoBulkAll spare + 1
  | .agg parts => uptoBulkAll parts + 1
  | .iface _ d => uptoBulk d + 1
  | .map entries => uptoBulkEntries entries + 1
  | .held _ => 1
def uptoBulkAll {H : Type} : List (DataW H) → Nat
  | [] => 0
  | d :: r => uptoBulk d + uptoBulkAll r
def uptoBulkEntries {H : Type} : List (Lit × DataW H) → Nat
  | [] => 0
  | x :: r => uptoBulkEntry x + uptoBulkEntries r
def uptoBulkEntry {H : Type} : Lit × DataW H → Nat
  | (.string bytes, d) => bytes.length + uptoBulk d + 1
  | (_, d) => uptoBulk d + 1
 end
def uptoSmall : (H : Type) → List (DataW H) → Bool := fun _ ds => decide (uptoBulkAll ds ≤ 1048576)
def OpenSpec.upto (s : _root_.Go.ChangeSpec) : _root_.Go.OpenSpec := { _root_.Go.OpenSpec.ofChange s with cond := some uptoSmall }

/-- 'fiduciallaw25.IntersectFeet', WHERE WHAT IT READS IS OF BULK AT MOST 1048576: true; the input reads as it did. -/
def intersectFeetUptoRow : OpenClaim := { program := "ytllaoaobnnondaagreatr", sum := "5bed8c5f36e0ee6b0afb5aeac1c4b24090e513ac0bc2cdb9022b53817175dc05", func := "fiducial/fiduciallaw25.IntersectFeet", spec := "intersectFeet", unfollowed := true, recurses := true, apart := false, narrowed := true }
def IntersectFeetUptoSaid : Prop := intersectFeetUptoRow.holds Tryz.pinned (OpenSpec.upto intersectFeetSpec)

/-- 'fiduciallaw25.IntersectParallax', WHERE WHAT IT READS IS OF BULK AT MOST 1048576: true; the input reads as it did. -/
def intersectParallaxUptoRow : OpenClaim := { program := "ytllaoaobnnondaagreatr", sum := "5bed8c5f36e0ee6b0afb5aeac1c4b24090e513ac0bc2cdb9022b53817175dc05", func := "fiducial/fiduciallaw25.IntersectParallax", spec := "intersectParallax", unfollowed := true, recurses := true, apart := false, narrowed := true }
def IntersectParallaxUptoSaid : Prop := intersectParallaxUptoRow.holds Tryz.pinned (OpenSpec.upto intersectParallaxSpec)

/-- 'fiduciallaw25.IntersectForms', WHERE WHAT IT READS IS OF BULK AT MOST 1048576: true; the input reads as it did. -/
def intersectFormsUptoRow : OpenClaim := { program := "ytllaoaobnnondaagreatr", sum := "5bed8c5f36e0ee6b0afb5aeac1c4b24090e513ac0bc2cdb9022b53817175dc05", func := "fiducial/fiduciallaw25.IntersectForms", spec := "intersectForms", unfollowed := true, recurses := true, apart := false, narrowed := true }
def IntersectFormsUptoSaid : Prop := intersectFormsUptoRow.holds Tryz.pinned (OpenSpec.upto intersectFormsSpec)

/-- 'fiduciallaw30.ResectDirect', WHERE WHAT IT READS IS OF BULK AT MOST 1048576: true; the input reads as it did. -/
def resectDirectUptoRow : OpenClaim := { program := "ytllaoaobnnondaagreatr", sum := "5bed8c5f36e0ee6b0afb5aeac1c4b24090e513ac0bc2cdb9022b53817175dc05", func := "fiducial/fiduciallaw30.ResectDirect", spec := "resectDirect", unfollowed := true, recurses := true, apart := false, narrowed := true }
def ResectDirectUptoSaid : Prop := resectDirectUptoRow.holds Tryz.pinned (OpenSpec.upto resectDirectSpec)

/-- 'fiduciallaw30.ResectMatrices', WHERE WHAT IT READS IS OF BULK AT MOST 1048576: true; the input reads as it did. -/
def resectMatricesUptoRow : OpenClaim := { program := "ytllaoaobnnondaagreatr", sum := "5bed8c5f36e0ee6b0afb5aeac1c4b24090e513ac0bc2cdb9022b53817175dc05", func := "fiducial/fiduciallaw30.ResectMatrices", spec := "resectMatrices", unfollowed := true, recurses := true, apart := false, narrowed := true }
def ResectMatricesUptoSaid : Prop := resectMatricesUptoRow.holds Tryz.pinned (OpenSpec.upto resectMatricesSpec)

/-- 'fiduciallaw30.ResectRecovers', WHERE WHAT IT READS IS OF BULK AT MOST 1048576: true; the input reads as it did. -/
def resectRecoversUptoRow : OpenClaim := { program := "ytllaoaobnnondaagreatr", sum := "5bed8c5f36e0ee6b0afb5aeac1c4b24090e513ac0bc2cdb9022b53817175dc05", func := "fiducial/fiduciallaw30.ResectRecovers", spec := "resectRecovers", unfollowed := true, recurses := true, apart := false, narrowed := true }
def ResectRecoversUptoSaid : Prop := resectRecoversUptoRow.holds Tryz.pinned (OpenSpec.upto resectRecoversSpec)

/-- 'fiduciallaw05.MatrixDefinite', WHERE WHAT IT READS IS OF BULK AT MOST 1048576: true; the input reads as it did. -/
def matrixDefiniteUptoRow : OpenClaim := { program := "ytllaoaobnnondaagreatr", sum := "5bed8c5f36e0ee6b0afb5aeac1c4b24090e513ac0bc2cdb9022b53817175dc05", func := "fiducial/fiduciallaw05.MatrixDefinite", spec := "matrixDefinite", unfollowed := true, recurses := true, apart := false, narrowed := true }
def MatrixDefiniteUptoSaid : Prop := matrixDefiniteUptoRow.holds Tryz.pinned (OpenSpec.upto matrixDefiniteSpec)

/-- 'fiduciallaw05.MatrixProducts', WHERE WHAT IT READS IS OF BULK AT MOST 1048576: true; the input reads as it did. -/
def matrixProductsUptoRow : OpenClaim := { program := "ytllaoaobnnondaagreatr", sum := "5bed8c5f36e0ee6b0afb5aeac1c4b24090e513ac0bc2cdb9022b53817175dc05", func := "fiducial/fiduciallaw05.MatrixProducts", spec := "matrixProducts", unfollowed := true, recurses := true, apart := false, narrowed := true }
def MatrixProductsUptoSaid : Prop := matrixProductsUptoRow.holds Tryz.pinned (OpenSpec.upto matrixProductsSpec)

/-- 'fiduciallaw05.MatrixSums', WHERE WHAT IT READS IS OF BULK AT MOST 1048576: true; the input reads as it did. -/
def matrixSumsUptoRow : OpenClaim := { program := "ytllaoaobnnondaagreatr", sum := "5bed8c5f36e0ee6b0afb5aeac1c4b24090e513ac0bc2cdb9022b53817175dc05", func := "fiducial/fiduciallaw05.MatrixSums", spec := "matrixSums", unfollowed := true, recurses := true, apart := false, narrowed := true }
def MatrixSumsUptoSaid : Prop := matrixSumsUptoRow.holds Tryz.pinned (OpenSpec.upto matrixSumsSpec)

/-- 'fiduciallaw05.MatrixInverses', WHERE WHAT IT READS IS OF BULK AT MOST 1048576: true; the input reads as it did. -/
def matrixInversesUptoRow : OpenClaim := { program := "ytllaoaobnnondaagreatr", sum := "5bed8c5f36e0ee6b0afb5aeac1c4b24090e513ac0bc2cdb9022b53817175dc05", func := "fiducial/fiduciallaw05.MatrixInverses", spec := "matrixInverses", unfollowed := true, recurses := true, apart := false, narrowed := true }
def MatrixInversesUptoSaid : Prop := matrixInversesUptoRow.holds Tryz.pinned (OpenSpec.upto matrixInversesSpec)

end Rows
end Go.Proofs.YtllaoaobnnondaaGreatR
