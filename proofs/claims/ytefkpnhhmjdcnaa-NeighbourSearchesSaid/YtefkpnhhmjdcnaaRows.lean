/-
  No cell of these rows narrows 'for every input' (looked for: loops, veiled, ifaces, maps, wideKeys, modest, calm, conditions, laid).
  DERIVED. THE GIVEN ROWS OF THIS SEAT. 8 by the template 'for every input the law returns true; each argument reads behind the call as it read before'; 0 by the template 'total and deterministic' (their statements: YtefkpnhhmjdcnaaTotals.lean).
  GIVEN WITH THE SEED: the statements are not yours to turn. If you find one false, say at which input.
  Laid BY PROGRAM, IN A SANDBOX (cutbox-rows.mjs): the forced cells as the released guide's own fill.sh prints them over the translation ef5d2bf717f00017… (all of the seat's roots in one cut). By AI agents, Wed Nov 11 2026. No macro, syntax, notation, axiom, sorry.
-/
import Derived.Test.YtefkpnhhmjdcnaaChecked
import GoSem.Claim
import GoSem.ClaimJoined
import GoSem.ClaimMapViews
import Derived.JoinedTies
import Derived.KernelRfl
namespace Go.Proofs.Ytefkpnhhmjdcnaa
/- THE CELL 'sum', in the pinned program and in every row, IS THE sha256 OF THE DUMP (.gsa) THAT YtefkpnhhmjdcnaaProg.lean LOADS. Nothing in Lean hashes anything: it is a label: what it is worth is what the hold of that sum in a sandbox is worth. -/
noncomputable def Try.pinned : Pinned := { name := "ytefkpnhhmjdcnaa", sum := "ef5d2bf717f00017fbf0a446dd9170d548b95ed564f1b1adb13d8b342b58e685", checked := Try.checked }
namespace Rows
def none {H : Type} : Left H := { results := [], args := [] }

/-- 'fiduciallaw22.NeighbourMetric': WHATEVER THE INPUT: true; the input reads as it did. -/
def neighbourMetricSpec : ChangeSpec := { name := "neighbourMetric", fn := fun _ => fun
  | [d1, d2, d3] => { results := [.lit (.bool true)], args := [d1, d2, d3] }
  | _ => none }
def neighbourMetricRow : OpenClaim := { program := "ytefkpnhhmjdcnaa", sum := "ef5d2bf717f00017fbf0a446dd9170d548b95ed564f1b1adb13d8b342b58e685", func := "fiducial/fiduciallaw22.NeighbourMetric", spec := "neighbourMetric", unfollowed := true, recurses := true, apart := false }
def NeighbourMetricSaid : Prop := neighbourMetricRow.holds Try.pinned (OpenSpec.ofChange neighbourMetricSpec)

/-- ITS FALSE NEIGHBOUR: 'it returns false'. Refute it at one input. -/
def neighbourMetricWrong : ChangeSpec := { name := "neighbourMetric", fn := fun _ => fun
  | [d1, d2, d3] => { results := [.lit (.bool false)], args := [d1, d2, d3] }
  | _ => none }
def NeighbourMetricWrongFalsely : Prop := neighbourMetricRow.holds Try.pinned (OpenSpec.ofChange neighbourMetricWrong)

/-- 'fiduciallaw22.NeighbourMatches': WHATEVER THE INPUT: true; the input reads as it did. -/
def neighbourMatchesSpec : ChangeSpec := { name := "neighbourMatches", fn := fun _ => fun
  | [d1, d2, d3] => { results := [.lit (.bool true)], args := [d1, d2, d3] }
  | _ => none }
def neighbourMatchesRow : OpenClaim := { program := "ytefkpnhhmjdcnaa", sum := "ef5d2bf717f00017fbf0a446dd9170d548b95ed564f1b1adb13d8b342b58e685", func := "fiducial/fiduciallaw22.NeighbourMatches", spec := "neighbourMatches", unfollowed := true, recurses := true, apart := false }
def NeighbourMatchesSaid : Prop := neighbourMatchesRow.holds Try.pinned (OpenSpec.ofChange neighbourMatchesSpec)

/-- ITS FALSE NEIGHBOUR: 'it returns false'. Refute it at one input. -/
def neighbourMatchesWrong : ChangeSpec := { name := "neighbourMatches", fn := fun _ => fun
  | [d1, d2, d3] => { results := [.lit (.bool false)], args := [d1, d2, d3] }
  | _ => none }
def NeighbourMatchesWrongFalsely : Prop := neighbourMatchesRow.holds Try.pinned (OpenSpec.ofChange neighbourMatchesWrong)

/-- 'fiduciallaw22.NeighbourMasked': WHATEVER THE INPUT: true; the input reads as it did. -/
def neighbourMaskedSpec : ChangeSpec := { name := "neighbourMasked", fn := fun _ => fun
  | [d1, d2, d3] => { results := [.lit (.bool true)], args := [d1, d2, d3] }
  | _ => none }
def neighbourMaskedRow : OpenClaim := { program := "ytefkpnhhmjdcnaa", sum := "ef5d2bf717f00017fbf0a446dd9170d548b95ed564f1b1adb13d8b342b58e685", func := "fiducial/fiduciallaw22.NeighbourMasked", spec := "neighbourMasked", unfollowed := true, recurses := true, apart := false }
def NeighbourMaskedSaid : Prop := neighbourMaskedRow.holds Try.pinned (OpenSpec.ofChange neighbourMaskedSpec)

/-- ITS FALSE NEIGHBOUR: 'it returns false'. Refute it at one input. -/
def neighbourMaskedWrong : ChangeSpec := { name := "neighbourMasked", fn := fun _ => fun
  | [d1, d2, d3] => { results := [.lit (.bool false)], args := [d1, d2, d3] }
  | _ => none }
def NeighbourMaskedWrongFalsely : Prop := neighbourMaskedRow.holds Try.pinned (OpenSpec.ofChange neighbourMaskedWrong)

/-- 'fiduciallaw22.NeighbourExchanged': WHATEVER THE INPUT: true; the input reads as it did. -/
def neighbourExchangedSpec : ChangeSpec := { name := "neighbourExchanged", fn := fun _ => fun
  | [d1, d2, d3] => { results := [.lit (.bool true)], args := [d1, d2, d3] }
  | _ => none }
def neighbourExchangedRow : OpenClaim := { program := "ytefkpnhhmjdcnaa", sum := "ef5d2bf717f00017fbf0a446dd9170d548b95ed564f1b1adb13d8b342b58e685", func := "fiducial/fiduciallaw22.NeighbourExchanged", spec := "neighbourExchanged", unfollowed := true, recurses := true, apart := false }
def NeighbourExchangedSaid : Prop := neighbourExchangedRow.holds Try.pinned (OpenSpec.ofChange neighbourExchangedSpec)

/-- ITS FALSE NEIGHBOUR: 'it returns false'. Refute it at one input. -/
def neighbourExchangedWrong : ChangeSpec := { name := "neighbourExchanged", fn := fun _ => fun
  | [d1, d2, d3] => { results := [.lit (.bool false)], args := [d1, d2, d3] }
  | _ => none }
def NeighbourExchangedWrongFalsely : Prop := neighbourExchangedRow.holds Try.pinned (OpenSpec.ofChange neighbourExchangedWrong)

/-- 'fiduciallaw22.NeighbourNearest': WHATEVER THE INPUT: true; the input reads as it did. -/
def neighbourNearestSpec : ChangeSpec := { name := "neighbourNearest", fn := fun _ => fun
  | [d1, d2, d3] => { results := [.lit (.bool true)], args := [d1, d2, d3] }
  | _ => none }
def neighbourNearestRow : OpenClaim := { program := "ytefkpnhhmjdcnaa", sum := "ef5d2bf717f00017fbf0a446dd9170d548b95ed564f1b1adb13d8b342b58e685", func := "fiducial/fiduciallaw22.NeighbourNearest", spec := "neighbourNearest", unfollowed := true, recurses := true, apart := false }
def NeighbourNearestSaid : Prop := neighbourNearestRow.holds Try.pinned (OpenSpec.ofChange neighbourNearestSpec)

/-- ITS FALSE NEIGHBOUR: 'it returns false'. Refute it at one input. -/
def neighbourNearestWrong : ChangeSpec := { name := "neighbourNearest", fn := fun _ => fun
  | [d1, d2, d3] => { results := [.lit (.bool false)], args := [d1, d2, d3] }
  | _ => none }
def NeighbourNearestWrongFalsely : Prop := neighbourNearestRow.holds Try.pinned (OpenSpec.ofChange neighbourNearestWrong)

/-- 'fiduciallaw22.NeighbourBuilds': WHATEVER THE INPUT: true; the input reads as it did. -/
def neighbourBuildsSpec : ChangeSpec := { name := "neighbourBuilds", fn := fun _ => fun
  | [d] => { results := [.lit (.bool true)], args := [d] }
  | _ => none }
def neighbourBuildsRow : OpenClaim := { program := "ytefkpnhhmjdcnaa", sum := "ef5d2bf717f00017fbf0a446dd9170d548b95ed564f1b1adb13d8b342b58e685", func := "fiducial/fiduciallaw22.NeighbourBuilds", spec := "neighbourBuilds", unfollowed := true, recurses := true, apart := false }
def NeighbourBuildsSaid : Prop := neighbourBuildsRow.holds Try.pinned (OpenSpec.ofChange neighbourBuildsSpec)

/-- ITS FALSE NEIGHBOUR: 'it returns false'. Refute it at one input. -/
def neighbourBuildsWrong : ChangeSpec := { name := "neighbourBuilds", fn := fun _ => fun
  | [d] => { results := [.lit (.bool false)], args := [d] }
  | _ => none }
def NeighbourBuildsWrongFalsely : Prop := neighbourBuildsRow.holds Try.pinned (OpenSpec.ofChange neighbourBuildsWrong)

/-- 'fiduciallaw22.NeighbourTrees': WHATEVER THE INPUT: true; the input reads as it did. -/
def neighbourTreesSpec : ChangeSpec := { name := "neighbourTrees", fn := fun _ => fun
  | [d1, d2] => { results := [.lit (.bool true)], args := [d1, d2] }
  | _ => none }
def neighbourTreesRow : OpenClaim := { program := "ytefkpnhhmjdcnaa", sum := "ef5d2bf717f00017fbf0a446dd9170d548b95ed564f1b1adb13d8b342b58e685", func := "fiducial/fiduciallaw22.NeighbourTrees", spec := "neighbourTrees", unfollowed := true, recurses := true, apart := false }
def NeighbourTreesSaid : Prop := neighbourTreesRow.holds Try.pinned (OpenSpec.ofChange neighbourTreesSpec)

/-- ITS FALSE NEIGHBOUR: 'it returns false'. Refute it at one input. -/
def neighbourTreesWrong : ChangeSpec := { name := "neighbourTrees", fn := fun _ => fun
  | [d1, d2] => { results := [.lit (.bool false)], args := [d1, d2] }
  | _ => none }
def NeighbourTreesWrongFalsely : Prop := neighbourTreesRow.holds Try.pinned (OpenSpec.ofChange neighbourTreesWrong)

/-- 'fiduciallaw22.NeighbourSearches': WHATEVER THE INPUT: true; the input reads as it did. -/
def neighbourSearchesSpec : ChangeSpec := { name := "neighbourSearches", fn := fun _ => fun
  | [d1, d2, d3] => { results := [.lit (.bool true)], args := [d1, d2, d3] }
  | _ => none }
def neighbourSearchesRow : OpenClaim := { program := "ytefkpnhhmjdcnaa", sum := "ef5d2bf717f00017fbf0a446dd9170d548b95ed564f1b1adb13d8b342b58e685", func := "fiducial/fiduciallaw22.NeighbourSearches", spec := "neighbourSearches", unfollowed := true, recurses := true, apart := false }
def NeighbourSearchesSaid : Prop := neighbourSearchesRow.holds Try.pinned (OpenSpec.ofChange neighbourSearchesSpec)

/-- ITS FALSE NEIGHBOUR: 'it returns false'. Refute it at one input. -/
def neighbourSearchesWrong : ChangeSpec := { name := "neighbourSearches", fn := fun _ => fun
  | [d1, d2, d3] => { results := [.lit (.bool false)], args := [d1, d2, d3] }
  | _ => none }
def NeighbourSearchesWrongFalsely : Prop := neighbourSearchesRow.holds Try.pinned (OpenSpec.ofChange neighbourSearchesWrong)

/- THE SECOND FORM. 'bulk': how many values and letters a reading holds, each counted each time it is reached (what is shared counts as often as it is met; a slice's spare places count too). A statement '..UptoSaid' is the law's where the arguments, and the package variables that the reading takes, are together of bulk at most 1048576: NARROWER than '..Said'. Prove '..Said' where nothing that the law and all that it calls make is longer than what came in: it says more and counts as full. Else prove '..UptoSaid'. A law counts once. -/
mutual
def uptoBulk {H : Type} : DataW H → Nat
  | .lit (.string bytes) => bytes.length + 1
  | .lit _ => 1
  | .nil => 1
  | .ptr d => uptoBulk d + 1
  | .slice elems spare => uptoBulkAll elems + uptoBulkAll spare + 1
  | .agg parts => uptoBulkAll parts + 1
  | .iface _ d => uptoBulk d + 1
  | .map entries => uptoBulkEntries entries + 1
  | .held _ => 1
def uptoBulkAll {H : Type} : List (DataW H) → Nat
  | [] => 0
  | d :: r => uptoBulk d + uptoBulkAll r
def uptoBulkEntries {H : Type} : List (Lit × DataW H) → Nat
  | [] => 0
  | x :: r => uptoBulkEntry x + uptoBulkEntries r
def uptoBulkEntry {H : Type} : Lit × DataW H → Nat
  | (.string bytes, d) => bytes.length + uptoBulk d + 1
  | (_, d) => uptoBulk d + 1
 end
def uptoSmall : (H : Type) → List (DataW H) → Bool := fun _ ds => decide (uptoBulkAll ds ≤ 1048576)
def OpenSpec.upto (s : _root_.Go.ChangeSpec) : _root_.Go.OpenSpec := { _root_.Go.OpenSpec.ofChange s with cond := some uptoSmall }

/-- 'fiduciallaw22.NeighbourMetric', WHERE WHAT IT READS IS OF BULK AT MOST 1048576: true; the input reads as it did. -/
def neighbourMetricUptoRow : OpenClaim := { program := "ytefkpnhhmjdcnaa", sum := "ef5d2bf717f00017fbf0a446dd9170d548b95ed564f1b1adb13d8b342b58e685", func := "fiducial/fiduciallaw22.NeighbourMetric", spec := "neighbourMetric", unfollowed := true, recurses := true, apart := false, narrowed := true }
def NeighbourMetricUptoSaid : Prop := neighbourMetricUptoRow.holds Try.pinned (OpenSpec.upto neighbourMetricSpec)

/-- 'fiduciallaw22.NeighbourMatches', WHERE WHAT IT READS IS OF BULK AT MOST 1048576: true; the input reads as it did. -/
def neighbourMatchesUptoRow : OpenClaim := { program := "ytefkpnhhmjdcnaa", sum := "ef5d2bf717f00017fbf0a446dd9170d548b95ed564f1b1adb13d8b342b58e685", func := "fiducial/fiduciallaw22.NeighbourMatches", spec := "neighbourMatches", unfollowed := true, recurses := true, apart := false, narrowed := true }
def NeighbourMatchesUptoSaid : Prop := neighbourMatchesUptoRow.holds Try.pinned (OpenSpec.upto neighbourMatchesSpec)

/-- 'fiduciallaw22.NeighbourMasked', WHERE WHAT IT READS IS OF BULK AT MOST 1048576: true; the input reads as it did. -/
def neighbourMaskedUptoRow : OpenClaim := { program := "ytefkpnhhmjdcnaa", sum := "ef5d2bf717f00017fbf0a446dd9170d548b95ed564f1b1adb13d8b342b58e685", func := "fiducial/fiduciallaw22.NeighbourMasked", spec := "neighbourMasked", unfollowed := true, recurses := true, apart := false, narrowed := true }
def NeighbourMaskedUptoSaid : Prop := neighbourMaskedUptoRow.holds Try.pinned (OpenSpec.upto neighbourMaskedSpec)

/-- 'fiduciallaw22.NeighbourExchanged', WHERE WHAT IT READS IS OF BULK AT MOST 1048576: true; the input reads as it did. -/
def neighbourExchangedUptoRow : OpenClaim := { program := "ytefkpnhhmjdcnaa", sum := "ef5d2bf717f00017fbf0a446dd9170d548b95ed564f1b1adb13d8b342b58e685", func := "fiducial/fiduciallaw22.NeighbourExchanged", spec := "neighbourExchanged", unfollowed := true, recurses := true, apart := false, narrowed := true }
def NeighbourExchangedUptoSaid : Prop := neighbourExchangedUptoRow.holds Try.pinned (OpenSpec.upto neighbourExchangedSpec)

/-- 'fiduciallaw22.NeighbourNearest', WHERE WHAT IT READS IS OF BULK AT MOST 1048576: true; the input reads as it did. -/
def neighbourNearestUptoRow : OpenClaim := { program := "ytefkpnhhmjdcnaa", sum := "ef5d2bf717f00017fbf0a446dd9170d548b95ed564f1b1adb13d8b342b58e685", func := "fiducial/fiduciallaw22.NeighbourNearest", spec := "neighbourNearest", unfollowed := true, recurses := true, apart := false, narrowed := true }
def NeighbourNearestUptoSaid : Prop := neighbourNearestUptoRow.holds Try.pinned (OpenSpec.upto neighbourNearestSpec)

/-- 'fiduciallaw22.NeighbourBuilds', WHERE WHAT IT READS IS OF BULK AT MOST 1048576: true; the input reads as it did. -/
def neighbourBuildsUptoRow : OpenClaim := { program := "ytefkpnhhmjdcnaa", sum := "ef5d2bf717f00017fbf0a446dd9170d548b95ed564f1b1adb13d8b342b58e685", func := "fiducial/fiduciallaw22.NeighbourBuilds", spec := "neighbourBuilds", unfollowed := true, recurses := true, apart := false, narrowed := true }
def NeighbourBuildsUptoSaid : Prop := neighbourBuildsUptoRow.holds Try.pinned (OpenSpec.upto neighbourBuildsSpec)

/-- 'fiduciallaw22.NeighbourTrees', WHERE WHAT IT READS IS OF BULK AT MOST 1048576: true; the input reads as it did. -/
def neighbourTreesUptoRow : OpenClaim := { program := "ytefkpnhhmjdcnaa", sum := "ef5d2bf717f00017fbf0a446dd9170d548b95ed564f1b1adb13d8b342b58e685", func := "fiducial/fiduciallaw22.NeighbourTrees", spec := "neighbourTrees", unfollowed := true, recurses := true, apart := false, narrowed := true }
def NeighbourTreesUptoSaid : Prop := neighbourTreesUptoRow.holds Try.pinned (OpenSpec.upto neighbourTreesSpec)

/-- 'fiduciallaw22.NeighbourSearches', WHERE WHAT IT READS IS OF BULK AT MOST 1048576: true; the input reads as it did. -/
def neighbourSearchesUptoRow : OpenClaim := { program := "ytefkpnhhmjdcnaa", sum := "ef5d2bf717f00017fbf0a446dd9170d548b95ed564f1b1adb13d8b342b58e685", func := "fiducial/fiduciallaw22.NeighbourSearches", spec := "neighbourSearches", unfollowed := true, recurses := true, apart := false, narrowed := true }
def NeighbourSearchesUptoSaid : Prop := neighbourSearchesUptoRow.holds Try.pinned (OpenSpec.upto neighbourSearchesSpec)

end Rows
end Go.Proofs.Ytefkpnhhmjdcnaa
