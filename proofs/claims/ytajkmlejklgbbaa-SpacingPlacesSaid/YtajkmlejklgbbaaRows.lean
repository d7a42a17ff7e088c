/-
  No cell of these rows narrows 'for every input' (looked for: loops, veiled, ifaces, maps, wideKeys, modest, calm, conditions, laid).
  DERIVED. THE GIVEN ROWS OF THIS SEAT. 10 by the template 'for every input the law returns true; each argument reads behind the call as it read before'; 0 by the template 'total and deterministic' (their statements: YtajkmlejklgbbaaTotals.lean).
  GIVEN WITH THE SEED: the statements are not yours to turn. If you find one false, say at which input.
  Laid BY PROGRAM, IN A SANDBOX (cutbox-rows.mjs): the forced cells as the released guide's own fill.sh prints them over the translation dbd3de24a30ae09a… (all of the seat's roots in one cut). By AI agents, Wed Nov 11 2026. No macro, syntax, notation, axiom, sorry.
-/
import Derived.Test.YtajkmlejklgbbaaChecked
import GoSem.Claim
import GoSem.ClaimJoined
import GoSem.ClaimMapViews
import Derived.JoinedTies
import Derived.KernelRfl
namespace Go.Proofs.Ytajkmlejklgbbaa
/- THE CELL 'sum', in the pinned program and in every row, IS THE sha256 OF THE DUMP (.gsa) THAT YtajkmlejklgbbaaProg.lean LOADS. Nothing in Lean hashes anything: it is a label: what it is worth is what the hold of that sum in a sandbox is worth. -/
noncomputable def Try.pinned : Pinned := { name := "ytajkmlejklgbbaa", sum := "dbd3de24a30ae09aaf14c4e45d221c371f6fb5e8f6d5e4f17f90729c5cc167f4", checked := Try.checked }
namespace Rows
def none {H : Type} : Left H := { results := [], args := [] }

/-- 'hemiolalaw31.SpacingNatural': WHATEVER THE INPUT: true; the input reads as it did. -/
def spacingNaturalSpec : ChangeSpec := { name := "spacingNatural", fn := fun _ => fun
  | [d1, d2, d3] => { results := [.lit (.bool true)], args := [d1, d2, d3] }
  | _ => none }
def spacingNaturalRow : OpenClaim := { program := "ytajkmlejklgbbaa", sum := "dbd3de24a30ae09aaf14c4e45d221c371f6fb5e8f6d5e4f17f90729c5cc167f4", func := "hemiola/hemiolalaw31.SpacingNatural", spec := "spacingNatural", unfollowed := true, recurses := true, apart := false }
def SpacingNaturalSaid : Prop := spacingNaturalRow.holds Try.pinned (OpenSpec.ofChange spacingNaturalSpec)

/-- ITS FALSE NEIGHBOUR: 'it returns false'. Refute it at one input. -/
def spacingNaturalWrong : ChangeSpec := { name := "spacingNatural", fn := fun _ => fun
  | [d1, d2, d3] => { results := [.lit (.bool false)], args := [d1, d2, d3] }
  | _ => none }
def SpacingNaturalWrongFalsely : Prop := spacingNaturalRow.holds Try.pinned (OpenSpec.ofChange spacingNaturalWrong)

/-- 'hemiolalaw31.SpacingSprings': WHATEVER THE INPUT: true; the input reads as it did. -/
def spacingSpringsSpec : ChangeSpec := { name := "spacingSprings", fn := fun _ => fun
  | [d1, d2, d3] => { results := [.lit (.bool true)], args := [d1, d2, d3] }
  | _ => none }
def spacingSpringsRow : OpenClaim := { program := "ytajkmlejklgbbaa", sum := "dbd3de24a30ae09aaf14c4e45d221c371f6fb5e8f6d5e4f17f90729c5cc167f4", func := "hemiola/hemiolalaw31.SpacingSprings", spec := "spacingSprings", unfollowed := true, recurses := true, apart := false }
def SpacingSpringsSaid : Prop := spacingSpringsRow.holds Try.pinned (OpenSpec.ofChange spacingSpringsSpec)

/-- ITS FALSE NEIGHBOUR: 'it returns false'. Refute it at one input. -/
def spacingSpringsWrong : ChangeSpec := { name := "spacingSprings", fn := fun _ => fun
  | [d1, d2, d3] => { results := [.lit (.bool false)], args := [d1, d2, d3] }
  | _ => none }
def SpacingSpringsWrongFalsely : Prop := spacingSpringsRow.holds Try.pinned (OpenSpec.ofChange spacingSpringsWrong)

/-- 'hemiolalaw31.SpacingGaps': WHATEVER THE INPUT: true; the input reads as it did. -/
def spacingGapsSpec : ChangeSpec := { name := "spacingGaps", fn := fun _ => fun
  | [d1, d2, d3] => { results := [.lit (.bool true)], args := [d1, d2, d3] }
  | _ => none }
def spacingGapsRow : OpenClaim := { program := "ytajkmlejklgbbaa", sum := "dbd3de24a30ae09aaf14c4e45d221c371f6fb5e8f6d5e4f17f90729c5cc167f4", func := "hemiola/hemiolalaw31.SpacingGaps", spec := "spacingGaps", unfollowed := true, recurses := true, apart := false }
def SpacingGapsSaid : Prop := spacingGapsRow.holds Try.pinned (OpenSpec.ofChange spacingGapsSpec)

/-- ITS FALSE NEIGHBOUR: 'it returns false'. Refute it at one input. -/
def spacingGapsWrong : ChangeSpec := { name := "spacingGaps", fn := fun _ => fun
  | [d1, d2, d3] => { results := [.lit (.bool false)], args := [d1, d2, d3] }
  | _ => none }
def SpacingGapsWrongFalsely : Prop := spacingGapsRow.holds Try.pinned (OpenSpec.ofChange spacingGapsWrong)

/-- 'hemiolalaw31.SpacingShortest': WHATEVER THE INPUT: true; the input reads as it did. -/
def spacingShortestSpec : ChangeSpec := { name := "spacingShortest", fn := fun _ => fun
  | [d] => { results := [.lit (.bool true)], args := [d] }
  | _ => none }
def spacingShortestRow : OpenClaim := { program := "ytajkmlejklgbbaa", sum := "dbd3de24a30ae09aaf14c4e45d221c371f6fb5e8f6d5e4f17f90729c5cc167f4", func := "hemiola/hemiolalaw31.SpacingShortest", spec := "spacingShortest", unfollowed := true, recurses := true, apart := false }
def SpacingShortestSaid : Prop := spacingShortestRow.holds Try.pinned (OpenSpec.ofChange spacingShortestSpec)

/-- ITS FALSE NEIGHBOUR: 'it returns false'. Refute it at one input. -/
def spacingShortestWrong : ChangeSpec := { name := "spacingShortest", fn := fun _ => fun
  | [d] => { results := [.lit (.bool false)], args := [d] }
  | _ => none }
def SpacingShortestWrongFalsely : Prop := spacingShortestRow.holds Try.pinned (OpenSpec.ofChange spacingShortestWrong)

/-- 'hemiolalaw31.SpacingJoins': WHATEVER THE INPUT: true; the input reads as it did. -/
def spacingJoinsSpec : ChangeSpec := { name := "spacingJoins", fn := fun _ => fun
  | [d1, d2] => { results := [.lit (.bool true)], args := [d1, d2] }
  | _ => none }
def spacingJoinsRow : OpenClaim := { program := "ytajkmlejklgbbaa", sum := "dbd3de24a30ae09aaf14c4e45d221c371f6fb5e8f6d5e4f17f90729c5cc167f4", func := "hemiola/hemiolalaw31.SpacingJoins", spec := "spacingJoins", unfollowed := true, recurses := true, apart := false }
def SpacingJoinsSaid : Prop := spacingJoinsRow.holds Try.pinned (OpenSpec.ofChange spacingJoinsSpec)

/-- ITS FALSE NEIGHBOUR: 'it returns false'. Refute it at one input. -/
def spacingJoinsWrong : ChangeSpec := { name := "spacingJoins", fn := fun _ => fun
  | [d1, d2] => { results := [.lit (.bool false)], args := [d1, d2] }
  | _ => none }
def SpacingJoinsWrongFalsely : Prop := spacingJoinsRow.holds Try.pinned (OpenSpec.ofChange spacingJoinsWrong)

/-- 'hemiolalaw31.SpacingLong': WHATEVER THE INPUT: true; the input reads as it did. -/
def spacingLongSpec : ChangeSpec := { name := "spacingLong", fn := fun _ => fun
  | [d] => { results := [.lit (.bool true)], args := [d] }
  | _ => none }
def spacingLongRow : OpenClaim := { program := "ytajkmlejklgbbaa", sum := "dbd3de24a30ae09aaf14c4e45d221c371f6fb5e8f6d5e4f17f90729c5cc167f4", func := "hemiola/hemiolalaw31.SpacingLong", spec := "spacingLong", unfollowed := true, recurses := true, apart := false }
def SpacingLongSaid : Prop := spacingLongRow.holds Try.pinned (OpenSpec.ofChange spacingLongSpec)

/-- ITS FALSE NEIGHBOUR: 'it returns false'. Refute it at one input. -/
def spacingLongWrong : ChangeSpec := { name := "spacingLong", fn := fun _ => fun
  | [d] => { results := [.lit (.bool false)], args := [d] }
  | _ => none }
def SpacingLongWrongFalsely : Prop := spacingLongRow.holds Try.pinned (OpenSpec.ofChange spacingLongWrong)

/-- 'hemiolalaw31.SpacingExtents': WHATEVER THE INPUT: true; the input reads as it did. -/
def spacingExtentsSpec : ChangeSpec := { name := "spacingExtents", fn := fun _ => fun
  | [d1, d2] => { results := [.lit (.bool true)], args := [d1, d2] }
  | _ => none }
def spacingExtentsRow : OpenClaim := { program := "ytajkmlejklgbbaa", sum := "dbd3de24a30ae09aaf14c4e45d221c371f6fb5e8f6d5e4f17f90729c5cc167f4", func := "hemiola/hemiolalaw31.SpacingExtents", spec := "spacingExtents", unfollowed := true, recurses := true, apart := false }
def SpacingExtentsSaid : Prop := spacingExtentsRow.holds Try.pinned (OpenSpec.ofChange spacingExtentsSpec)

/-- ITS FALSE NEIGHBOUR: 'it returns false'. Refute it at one input. -/
def spacingExtentsWrong : ChangeSpec := { name := "spacingExtents", fn := fun _ => fun
  | [d1, d2] => { results := [.lit (.bool false)], args := [d1, d2] }
  | _ => none }
def SpacingExtentsWrongFalsely : Prop := spacingExtentsRow.holds Try.pinned (OpenSpec.ofChange spacingExtentsWrong)

/-- 'hemiolalaw31.SpacingWidths': WHATEVER THE INPUT: true; the input reads as it did. -/
def spacingWidthsSpec : ChangeSpec := { name := "spacingWidths", fn := fun _ => fun
  | [d1, d2] => { results := [.lit (.bool true)], args := [d1, d2] }
  | _ => none }
def spacingWidthsRow : OpenClaim := { program := "ytajkmlejklgbbaa", sum := "dbd3de24a30ae09aaf14c4e45d221c371f6fb5e8f6d5e4f17f90729c5cc167f4", func := "hemiola/hemiolalaw31.SpacingWidths", spec := "spacingWidths", unfollowed := true, recurses := true, apart := false }
def SpacingWidthsSaid : Prop := spacingWidthsRow.holds Try.pinned (OpenSpec.ofChange spacingWidthsSpec)

/-- ITS FALSE NEIGHBOUR: 'it returns false'. Refute it at one input. -/
def spacingWidthsWrong : ChangeSpec := { name := "spacingWidths", fn := fun _ => fun
  | [d1, d2] => { results := [.lit (.bool false)], args := [d1, d2] }
  | _ => none }
def SpacingWidthsWrongFalsely : Prop := spacingWidthsRow.holds Try.pinned (OpenSpec.ofChange spacingWidthsWrong)

/-- 'hemiolalaw31.SpacingEven': WHATEVER THE INPUT: true; the input reads as it did. -/
def spacingEvenSpec : ChangeSpec := { name := "spacingEven", fn := fun _ => fun
  | [d1, d2, d3] => { results := [.lit (.bool true)], args := [d1, d2, d3] }
  | _ => none }
def spacingEvenRow : OpenClaim := { program := "ytajkmlejklgbbaa", sum := "dbd3de24a30ae09aaf14c4e45d221c371f6fb5e8f6d5e4f17f90729c5cc167f4", func := "hemiola/hemiolalaw31.SpacingEven", spec := "spacingEven", unfollowed := true, recurses := true, apart := false }
def SpacingEvenSaid : Prop := spacingEvenRow.holds Try.pinned (OpenSpec.ofChange spacingEvenSpec)

/-- ITS FALSE NEIGHBOUR: 'it returns false'. Refute it at one input. -/
def spacingEvenWrong : ChangeSpec := { name := "spacingEven", fn := fun _ => fun
  | [d1, d2, d3] => { results := [.lit (.bool false)], args := [d1, d2, d3] }
  | _ => none }
def SpacingEvenWrongFalsely : Prop := spacingEvenRow.holds Try.pinned (OpenSpec.ofChange spacingEvenWrong)

/-- 'hemiolalaw31.SpacingPlaces': WHATEVER THE INPUT: true; the input reads as it did. -/
def spacingPlacesSpec : ChangeSpec := { name := "spacingPlaces", fn := fun _ => fun
  | [d1, d2, d3] => { results := [.lit (.bool true)], args := [d1, d2, d3] }
  | _ => none }
def spacingPlacesRow : OpenClaim := { program := "ytajkmlejklgbbaa", sum := "dbd3de24a30ae09aaf14c4e45d221c371f6fb5e8f6d5e4f17f90729c5cc167f4", func := "hemiola/hemiolalaw31.SpacingPlaces", spec := "spacingPlaces", unfollowed := true, recurses := true, apart := false }
def SpacingPlacesSaid : Prop := spacingPlacesRow.holds Try.pinned (OpenSpec.ofChange spacingPlacesSpec)

/-- ITS FALSE NEIGHBOUR: 'it returns false'. Refute it at one input. -/
def spacingPlacesWrong : ChangeSpec := { name := "spacingPlaces", fn := fun _ => fun
  | [d1, d2, d3] => { results := [.lit (.bool false)], args := [d1, d2, d3] }
  | _ => none }
def SpacingPlacesWrongFalsely : Prop := spacingPlacesRow.holds Try.pinned (OpenSpec.ofChange spacingPlacesWrong)

/- THE SECOND FORM. 'bulk': how many values and letters a reading holds, each counted each time it is reached (what is shared counts as often as it is met; a slice's spare places count too). A statement '..UptoSaid' is the law's where the arguments, and the package variables that the reading takes, are together of bulk at most 1048576: NARROWER than '..Said'. Prove '..Said' where nothing that the law and all that it calls make is longer than what came in: it says more and counts as full. Else prove '..UptoSaid'. A law counts once. -/
mutual
def uptoBulk {H : Type} : DataW H → Nat
  | .lit (.string bytes) => bytes.length + 1
  | .lit _ => 1
  | .nil => 1
  | .ptr d => uptoBulk d + 1
  | .slice elems spare => uptoBulkAll elems + uptoBulkAll spare + 1
  | .agg parts => uptoBulkAll parts + 1
  | .iface _ d => uptoBulk d + 1
  | .map entries => uptoBulkEntries entries + 1
  | .held _ => 1
def uptoBulkAll {H : Type} : List (DataW H) → Nat
  | [] => 0
  | d :: r => uptoBulk d + uptoBulkAll r
def uptoBulkEntries {H : Type} : List (Lit × DataW H) → Nat
  | [] => 0
  | x :: r => uptoBulkEntry x + uptoBulkEntries r
def uptoBulkEntry {H : Type} : Lit × DataW H → Nat
  | (.string bytes, d) => bytes.length + uptoBulk d + 1
  | (_, d) => uptoBulk d + 1
 end
def uptoSmall : (H : Type) → List (DataW H) → Bool := fun _ ds => decide (uptoBulkAll ds ≤ 1048576)
def OpenSpec.upto (s : _root_.Go.ChangeSpec) : _root_.Go.OpenSpec := { _root_.Go.OpenSpec.ofChange s with cond := some uptoSmall }

/-- 'hemiolalaw31.SpacingNatural', WHERE WHAT IT READS IS OF BULK AT MOST 1048576: true; the input reads as it did. -/
def spacingNaturalUptoRow : OpenClaim := { program := "ytajkmlejklgbbaa", sum := "dbd3de24a30ae09aaf14c4e45d221c371f6fb5e8f6d5e4f17f90729c5cc167f4", func := "hemiola/hemiolalaw31.SpacingNatural", spec := "spacingNatural", unfollowed := true, recurses := true, apart := false, narrowed := true }
def SpacingNaturalUptoSaid : Prop := spacingNaturalUptoRow.holds Try.pinned (OpenSpec.upto spacingNaturalSpec)

/-- 'hemiolalaw31.SpacingSprings', WHERE WHAT IT READS IS OF BULK AT MOST 1048576: true; the input reads as it did. -/
def spacingSpringsUptoRow : OpenClaim := { program := "ytajkmlejklgbbaa", sum := "dbd3de24a30ae09aaf14c4e45d221c371f6fb5e8f6d5e4f17f90729c5cc167f4", func := "hemiola/hemiolalaw31.SpacingSprings", spec := "spacingSprings", unfollowed := true, recurses := true, apart := false, narrowed := true }
def SpacingSpringsUptoSaid : Prop := spacingSpringsUptoRow.holds Try.pinned (OpenSpec.upto spacingSpringsSpec)

/-- 'hemiolalaw31.SpacingGaps', WHERE WHAT IT READS IS OF BULK AT MOST 1048576: true; the input reads as it did. -/
def spacingGapsUptoRow : OpenClaim := { program := "ytajkmlejklgbbaa", sum := "dbd3de24a30ae09aaf14c4e45d221c371f6fb5e8f6d5e4f17f90729c5cc167f4", func := "hemiola/hemiolalaw31.SpacingGaps", spec := "spacingGaps", unfollowed := true, recurses := true, apart := false, narrowed := true }
def SpacingGapsUptoSaid : Prop := spacingGapsUptoRow.holds Try.pinned (OpenSpec.upto spacingGapsSpec)

/-- 'hemiolalaw31.SpacingShortest', WHERE WHAT IT READS IS OF BULK AT MOST 1048576: true; the input reads as it did. -/
def spacingShortestUptoRow : OpenClaim := { program := "ytajkmlejklgbbaa", sum := "dbd3de24a30ae09aaf14c4e45d221c371f6fb5e8f6d5e4f17f90729c5cc167f4", func := "hemiola/hemiolalaw31.SpacingShortest", spec := "spacingShortest", unfollowed := true, recurses := true, apart := false, narrowed := true }
def SpacingShortestUptoSaid : Prop := spacingShortestUptoRow.holds Try.pinned (OpenSpec.upto spacingShortestSpec)

/-- 'hemiolalaw31.SpacingJoins', WHERE WHAT IT READS IS OF BULK AT MOST 1048576: true; the input reads as it did. -/
def spacingJoinsUptoRow : OpenClaim := { program := "ytajkmlejklgbbaa", sum := "dbd3de24a30ae09aaf14c4e45d221c371f6fb5e8f6d5e4f17f90729c5cc167f4", func := "hemiola/hemiolalaw31.SpacingJoins", spec := "spacingJoins", unfollowed := true, recurses := true, apart := false, narrowed := true }
def SpacingJoinsUptoSaid : Prop := spacingJoinsUptoRow.holds Try.pinned (OpenSpec.upto spacingJoinsSpec)

/-- 'hemiolalaw31.SpacingLong', WHERE WHAT IT READS IS OF BULK AT MOST 1048576: true; the input reads as it did. -/
def spacingLongUptoRow : OpenClaim := { program := "ytajkmlejklgbbaa", sum := "dbd3de24a30ae09aaf14c4e45d221c371f6fb5e8f6d5e4f17f90729c5cc167f4", func := "hemiola/hemiolalaw31.SpacingLong", spec := "spacingLong", unfollowed := true, recurses := true, apart := false, narrowed := true }
def SpacingLongUptoSaid : Prop := spacingLongUptoRow.holds Try.pinned (OpenSpec.upto spacingLongSpec)

/-- 'hemiolalaw31.SpacingExtents', WHERE WHAT IT READS IS OF BULK AT MOST 1048576: true; the input reads as it did. -/
def spacingExtentsUptoRow : OpenClaim := { program := "ytajkmlejklgbbaa", sum := "dbd3de24a30ae09aaf14c4e45d221c371f6fb5e8f6d5e4f17f90729c5cc167f4", func := "hemiola/hemiolalaw31.SpacingExtents", spec := "spacingExtents", unfollowed := true, recurses := true, apart := false, narrowed := true }
def SpacingExtentsUptoSaid : Prop := spacingExtentsUptoRow.holds Try.pinned (OpenSpec.upto spacingExtentsSpec)

/-- 'hemiolalaw31.SpacingWidths', WHERE WHAT IT READS IS OF BULK AT MOST 1048576: true; the input reads as it did. -/
def spacingWidthsUptoRow : OpenClaim := { program := "ytajkmlejklgbbaa", sum := "dbd3de24a30ae09aaf14c4e45d221c371f6fb5e8f6d5e4f17f90729c5cc167f4", func := "hemiola/hemiolalaw31.SpacingWidths", spec := "spacingWidths", unfollowed := true, recurses := true, apart := false, narrowed := true }
def SpacingWidthsUptoSaid : Prop := spacingWidthsUptoRow.holds Try.pinned (OpenSpec.upto spacingWidthsSpec)

/-- 'hemiolalaw31.SpacingEven', WHERE WHAT IT READS IS OF BULK AT MOST 1048576: true; the input reads as it did. -/
def spacingEvenUptoRow : OpenClaim := { program := "ytajkmlejklgbbaa", sum := "dbd3de24a30ae09aaf14c4e45d221c371f6fb5e8f6d5e4f17f90729c5cc167f4", func := "hemiola/hemiolalaw31.SpacingEven", spec := "spacingEven", unfollowed := true, recurses := true, apart := false, narrowed := true }
def SpacingEvenUptoSaid : Prop := spacingEvenUptoRow.holds Try.pinned (OpenSpec.upto spacingEvenSpec)

/-- 'hemiolalaw31.SpacingPlaces', WHERE WHAT IT READS IS OF BULK AT MOST 1048576: true; the input reads as it did. -/
def spacingPlacesUptoRow : OpenClaim := { program := "ytajkmlejklgbbaa", sum := "dbd3de24a30ae09aaf14c4e45d221c371f6fb5e8f6d5e4f17f90729c5cc167f4", func := "hemiola/hemiolalaw31.SpacingPlaces", spec := "spacingPlaces", unfollowed := true, recurses := true, apart := false, narrowed := true }
def SpacingPlacesUptoSaid : Prop := spacingPlacesUptoRow.holds Try.pinned (OpenSpec.upto spacingPlacesSpec)

end Rows
end Go.Proofs.Ytajkmlejklgbbaa
