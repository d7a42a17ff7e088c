/-
  No cell of these rows narrows 'for every input' (looked for: loops, veiled, ifaces, maps, wideKeys, modest, calm, conditions, laid).
  DERIVED. THE GIVEN ROWS OF THIS SEAT. 10 by the template 'for every input the law returns true; each argument reads behind the call as it read before'; 0 by the template 'total and deterministic' (their statements: YtcnejnaeahffhaaTotals.lean).
  GIVEN WITH THE SEED: the statements are not yours to turn. If you find one false, say at which input.
  Laid BY PROGRAM, IN A SANDBOX (cutbox-rows.mjs): the forced cells as the released guide's own fill.sh prints them over the translation 74c01782ef9d4424… (all of the seat's roots in one cut). By AI agents, Wed Nov 11 2026. No macro, syntax, notation, axiom, sorry.
-/
import Derived.Test.YtcnejnaeahffhaaChecked
import GoSem.Claim
import GoSem.ClaimJoined
import GoSem.ClaimMapViews
import Derived.JoinedTies
import Derived.KernelRfl
namespace Go.Proofs.Ytcnejnaeahffhaa
/- THE CELL 'sum', in the pinned program and in every row, IS THE sha256 OF THE DUMP (.gsa) THAT YtcnejnaeahffhaaProg.lean LOADS. Nothing in Lean hashes anything: it is a label: what it is worth is what the hold of that sum in a sandbox is worth. -/
noncomputable def Try.pinned : Pinned := { name := "ytcnejnaeahffhaa", sum := "74c01782ef9d44244b79f9add80fecc6b8abaee76ee115627aa9ccab84f97ede", checked := Try.checked }
namespace Rows
def none {H : Type} : Left H := { results := [], args := [] }

/-- 'hemiolalaw30.SpringForces': WHATEVER THE INPUT: true; the input reads as it did. -/
def springForcesSpec : ChangeSpec := { name := "springForces", fn := fun _ => fun
  | [d1, d2] => { results := [.lit (.bool true)], args := [d1, d2] }
  | _ => none }
def springForcesRow : OpenClaim := { program := "ytcnejnaeahffhaa", sum := "74c01782ef9d44244b79f9add80fecc6b8abaee76ee115627aa9ccab84f97ede", func := "hemiola/hemiolalaw30.SpringForces", spec := "springForces", unfollowed := true, recurses := true, apart := false }
def SpringForcesSaid : Prop := springForcesRow.holds Try.pinned (OpenSpec.ofChange springForcesSpec)

/-- ITS FALSE NEIGHBOUR: 'it returns false'. Refute it at one input. -/
def springForcesWrong : ChangeSpec := { name := "springForces", fn := fun _ => fun
  | [d1, d2] => { results := [.lit (.bool false)], args := [d1, d2] }
  | _ => none }
def SpringForcesWrongFalsely : Prop := springForcesRow.holds Try.pinned (OpenSpec.ofChange springForcesWrong)

/-- 'hemiolalaw30.SpringSolves': WHATEVER THE INPUT: true; the input reads as it did. -/
def springSolvesSpec : ChangeSpec := { name := "springSolves", fn := fun _ => fun
  | [d1, d2] => { results := [.lit (.bool true)], args := [d1, d2] }
  | _ => none }
def springSolvesRow : OpenClaim := { program := "ytcnejnaeahffhaa", sum := "74c01782ef9d44244b79f9add80fecc6b8abaee76ee115627aa9ccab84f97ede", func := "hemiola/hemiolalaw30.SpringSolves", spec := "springSolves", unfollowed := true, recurses := true, apart := false }
def SpringSolvesSaid : Prop := springSolvesRow.holds Try.pinned (OpenSpec.ofChange springSolvesSpec)

/-- ITS FALSE NEIGHBOUR: 'it returns false'. Refute it at one input. -/
def springSolvesWrong : ChangeSpec := { name := "springSolves", fn := fun _ => fun
  | [d1, d2] => { results := [.lit (.bool false)], args := [d1, d2] }
  | _ => none }
def SpringSolvesWrongFalsely : Prop := springSolvesRow.holds Try.pinned (OpenSpec.ofChange springSolvesWrong)

/-- 'hemiolalaw30.SpringGrows': WHATEVER THE INPUT: true; the input reads as it did. -/
def springGrowsSpec : ChangeSpec := { name := "springGrows", fn := fun _ => fun
  | [d1, d2] => { results := [.lit (.bool true)], args := [d1, d2] }
  | _ => none }
def springGrowsRow : OpenClaim := { program := "ytcnejnaeahffhaa", sum := "74c01782ef9d44244b79f9add80fecc6b8abaee76ee115627aa9ccab84f97ede", func := "hemiola/hemiolalaw30.SpringGrows", spec := "springGrows", unfollowed := true, recurses := true, apart := false }
def SpringGrowsSaid : Prop := springGrowsRow.holds Try.pinned (OpenSpec.ofChange springGrowsSpec)

/-- ITS FALSE NEIGHBOUR: 'it returns false'. Refute it at one input. -/
def springGrowsWrong : ChangeSpec := { name := "springGrows", fn := fun _ => fun
  | [d1, d2] => { results := [.lit (.bool false)], args := [d1, d2] }
  | _ => none }
def SpringGrowsWrongFalsely : Prop := springGrowsRow.holds Try.pinned (OpenSpec.ofChange springGrowsWrong)

/-- 'hemiolalaw30.SpringEqual': WHATEVER THE INPUT: true; the input reads as it did. -/
def springEqualSpec : ChangeSpec := { name := "springEqual", fn := fun _ => fun
  | [d1, d2, d3] => { results := [.lit (.bool true)], args := [d1, d2, d3] }
  | _ => none }
def springEqualRow : OpenClaim := { program := "ytcnejnaeahffhaa", sum := "74c01782ef9d44244b79f9add80fecc6b8abaee76ee115627aa9ccab84f97ede", func := "hemiola/hemiolalaw30.SpringEqual", spec := "springEqual", unfollowed := true, recurses := true, apart := false }
def SpringEqualSaid : Prop := springEqualRow.holds Try.pinned (OpenSpec.ofChange springEqualSpec)

/-- ITS FALSE NEIGHBOUR: 'it returns false'. Refute it at one input. -/
def springEqualWrong : ChangeSpec := { name := "springEqual", fn := fun _ => fun
  | [d1, d2, d3] => { results := [.lit (.bool false)], args := [d1, d2, d3] }
  | _ => none }
def SpringEqualWrongFalsely : Prop := springEqualRow.holds Try.pinned (OpenSpec.ofChange springEqualWrong)

/-- 'hemiolalaw30.SpringSums': WHATEVER THE INPUT: true; the input reads as it did. -/
def springSumsSpec : ChangeSpec := { name := "springSums", fn := fun _ => fun
  | [d] => { results := [.lit (.bool true)], args := [d] }
  | _ => none }
def springSumsRow : OpenClaim := { program := "ytcnejnaeahffhaa", sum := "74c01782ef9d44244b79f9add80fecc6b8abaee76ee115627aa9ccab84f97ede", func := "hemiola/hemiolalaw30.SpringSums", spec := "springSums", unfollowed := true, recurses := true, apart := false }
def SpringSumsSaid : Prop := springSumsRow.holds Try.pinned (OpenSpec.ofChange springSumsSpec)

/-- ITS FALSE NEIGHBOUR: 'it returns false'. Refute it at one input. -/
def springSumsWrong : ChangeSpec := { name := "springSums", fn := fun _ => fun
  | [d] => { results := [.lit (.bool false)], args := [d] }
  | _ => none }
def SpringSumsWrongFalsely : Prop := springSumsRow.holds Try.pinned (OpenSpec.ofChange springSumsWrong)

/-- 'hemiolalaw30.SpringSteps': WHATEVER THE INPUT: true; the input reads as it did. -/
def springStepsSpec : ChangeSpec := { name := "springSteps", fn := fun _ => fun
  | [d1, d2, d3] => { results := [.lit (.bool true)], args := [d1, d2, d3] }
  | _ => none }
def springStepsRow : OpenClaim := { program := "ytcnejnaeahffhaa", sum := "74c01782ef9d44244b79f9add80fecc6b8abaee76ee115627aa9ccab84f97ede", func := "hemiola/hemiolalaw30.SpringSteps", spec := "springSteps", unfollowed := true, recurses := true, apart := false }
def SpringStepsSaid : Prop := springStepsRow.holds Try.pinned (OpenSpec.ofChange springStepsSpec)

/-- ITS FALSE NEIGHBOUR: 'it returns false'. Refute it at one input. -/
def springStepsWrong : ChangeSpec := { name := "springSteps", fn := fun _ => fun
  | [d1, d2, d3] => { results := [.lit (.bool false)], args := [d1, d2, d3] }
  | _ => none }
def SpringStepsWrongFalsely : Prop := springStepsRow.holds Try.pinned (OpenSpec.ofChange springStepsWrong)

/-- 'hemiolalaw30.SpringBadness': WHATEVER THE INPUT: true; the input reads as it did. -/
def springBadnessSpec : ChangeSpec := { name := "springBadness", fn := fun _ => fun
  | [d1, d2] => { results := [.lit (.bool true)], args := [d1, d2] }
  | _ => none }
def springBadnessRow : OpenClaim := { program := "ytcnejnaeahffhaa", sum := "74c01782ef9d44244b79f9add80fecc6b8abaee76ee115627aa9ccab84f97ede", func := "hemiola/hemiolalaw30.SpringBadness", spec := "springBadness", unfollowed := true, recurses := true, apart := false }
def SpringBadnessSaid : Prop := springBadnessRow.holds Try.pinned (OpenSpec.ofChange springBadnessSpec)

/-- ITS FALSE NEIGHBOUR: 'it returns false'. Refute it at one input. -/
def springBadnessWrong : ChangeSpec := { name := "springBadness", fn := fun _ => fun
  | [d1, d2] => { results := [.lit (.bool false)], args := [d1, d2] }
  | _ => none }
def SpringBadnessWrongFalsely : Prop := springBadnessRow.holds Try.pinned (OpenSpec.ofChange springBadnessWrong)

/-- 'hemiolalaw30.SpringErrors': WHATEVER THE INPUT: true; the input reads as it did. -/
def springErrorsSpec : ChangeSpec := { name := "springErrors", fn := fun _ => fun
  | [d1, d2] => { results := [.lit (.bool true)], args := [d1, d2] }
  | _ => none }
def springErrorsRow : OpenClaim := { program := "ytcnejnaeahffhaa", sum := "74c01782ef9d44244b79f9add80fecc6b8abaee76ee115627aa9ccab84f97ede", func := "hemiola/hemiolalaw30.SpringErrors", spec := "springErrors", unfollowed := true, recurses := true, apart := false }
def SpringErrorsSaid : Prop := springErrorsRow.holds Try.pinned (OpenSpec.ofChange springErrorsSpec)

/-- ITS FALSE NEIGHBOUR: 'it returns false'. Refute it at one input. -/
def springErrorsWrong : ChangeSpec := { name := "springErrors", fn := fun _ => fun
  | [d1, d2] => { results := [.lit (.bool false)], args := [d1, d2] }
  | _ => none }
def SpringErrorsWrongFalsely : Prop := springErrorsRow.holds Try.pinned (OpenSpec.ofChange springErrorsWrong)

/-- 'hemiolalaw30.SpringPlaces': WHATEVER THE INPUT: true; the input reads as it did. -/
def springPlacesSpec : ChangeSpec := { name := "springPlaces", fn := fun _ => fun
  | [d1, d2] => { results := [.lit (.bool true)], args := [d1, d2] }
  | _ => none }
def springPlacesRow : OpenClaim := { program := "ytcnejnaeahffhaa", sum := "74c01782ef9d44244b79f9add80fecc6b8abaee76ee115627aa9ccab84f97ede", func := "hemiola/hemiolalaw30.SpringPlaces", spec := "springPlaces", unfollowed := true, recurses := true, apart := false }
def SpringPlacesSaid : Prop := springPlacesRow.holds Try.pinned (OpenSpec.ofChange springPlacesSpec)

/-- ITS FALSE NEIGHBOUR: 'it returns false'. Refute it at one input. -/
def springPlacesWrong : ChangeSpec := { name := "springPlaces", fn := fun _ => fun
  | [d1, d2] => { results := [.lit (.bool false)], args := [d1, d2] }
  | _ => none }
def SpringPlacesWrongFalsely : Prop := springPlacesRow.holds Try.pinned (OpenSpec.ofChange springPlacesWrong)

/-- 'hemiolalaw30.SpringTotals': WHATEVER THE INPUT: true; the input reads as it did. -/
def springTotalsSpec : ChangeSpec := { name := "springTotals", fn := fun _ => fun
  | [d1, d2, d3] => { results := [.lit (.bool true)], args := [d1, d2, d3] }
  | _ => none }
def springTotalsRow : OpenClaim := { program := "ytcnejnaeahffhaa", sum := "74c01782ef9d44244b79f9add80fecc6b8abaee76ee115627aa9ccab84f97ede", func := "hemiola/hemiolalaw30.SpringTotals", spec := "springTotals", unfollowed := true, recurses := true, apart := false }
def SpringTotalsSaid : Prop := springTotalsRow.holds Try.pinned (OpenSpec.ofChange springTotalsSpec)

/-- ITS FALSE NEIGHBOUR: 'it returns false'. Refute it at one input. -/
def springTotalsWrong : ChangeSpec := { name := "springTotals", fn := fun _ => fun
  | [d1, d2, d3] => { results := [.lit (.bool false)], args := [d1, d2, d3] }
  | _ => none }
def SpringTotalsWrongFalsely : Prop := springTotalsRow.holds Try.pinned (OpenSpec.ofChange springTotalsWrong)

/- THE SECOND FORM. 'bulk': how many values and letters a reading holds, each counted each time it is reached (what is shared counts as often as it is met; a slice's spare places count too). A statement '..UptoSaid' is the law's where the arguments, and the package variables that the reading takes, are together of bulk at most 1048576: NARROWER than '..Said'. Prove '..Said' where nothing that the law and all that it calls make is longer than what came in: it says more and counts as full. Else prove '..UptoSaid'. A law counts once. -/
mutual
def uptoBulk {H : Type} : DataW H → Nat
  | .lit (.string bytes) => bytes.length + 1
  | .lit _ => 1
  | .nil => 1
  | .ptr d => uptoBulk d + 1
  | .slice elems spare => uptoBulkAll elems + uptoBulkAll spare + 1
  | .agg parts => uptoBulkAll parts + 1
  | .iface _ d => uptoBulk d + 1
  | .map entries => uptoBulkEntries entries + 1
  | .held _ => 1
def uptoBulkAll {H : Type} : List (DataW H) → Nat
  | [] => 0
  | d :: r => uptoBulk d + uptoBulkAll r
def uptoBulkEntries {H : Type} : List (Lit × DataW H) → Nat
  | [] => 0
  | x :: r => uptoBulkEntry x + uptoBulkEntries r
def uptoBulkEntry {H : Type} : Lit × DataW H → Nat
  | (.string bytes, d) => bytes.length + uptoBulk d + 1
  | (_, d) => uptoBulk d + 1
 end
def uptoSmall : (H : Type) → List (DataW H) → Bool := fun _ ds => decide (uptoBulkAll ds ≤ 1048576)
def OpenSpec.upto (s : _root_.Go.ChangeSpec) : _root_.Go.OpenSpec := { _root_.Go.OpenSpec.ofChange s with cond := some uptoSmall }

/-- 'hemiolalaw30.SpringForces', WHERE WHAT IT READS IS OF BULK AT MOST 1048576: true; the input reads as it did. -/
def springForcesUptoRow : OpenClaim := { program := "ytcnejnaeahffhaa", sum := "74c01782ef9d44244b79f9add80fecc6b8abaee76ee115627aa9ccab84f97ede", func := "hemiola/hemiolalaw30.SpringForces", spec := "springForces", unfollowed := true, recurses := true, apart := false, narrowed := true }
def SpringForcesUptoSaid : Prop := springForcesUptoRow.holds Try.pinned (OpenSpec.upto springForcesSpec)

/-- 'hemiolalaw30.SpringSolves', WHERE WHAT IT READS IS OF BULK AT MOST 1048576: true; the input reads as it did. -/
def springSolvesUptoRow : OpenClaim := { program := "ytcnejnaeahffhaa", sum := "74c01782ef9d44244b79f9add80fecc6b8abaee76ee115627aa9ccab84f97ede", func := "hemiola/hemiolalaw30.SpringSolves", spec := "springSolves", unfollowed := true, recurses := true, apart := false, narrowed := true }
def SpringSolvesUptoSaid : Prop := springSolvesUptoRow.holds Try.pinned (OpenSpec.upto springSolvesSpec)

/-- 'hemiolalaw30.SpringGrows', WHERE WHAT IT READS IS OF BULK AT MOST 1048576: true; the input reads as it did. -/
def springGrowsUptoRow : OpenClaim := { program := "ytcnejnaeahffhaa", sum := "74c01782ef9d44244b79f9add80fecc6b8abaee76ee115627aa9ccab84f97ede", func := "hemiola/hemiolalaw30.SpringGrows", spec := "springGrows", unfollowed := true, recurses := true, apart := false, narrowed := true }
def SpringGrowsUptoSaid : Prop := springGrowsUptoRow.holds Try.pinned (OpenSpec.upto springGrowsSpec)

/-- 'hemiolalaw30.SpringEqual', WHERE WHAT IT READS IS OF BULK AT MOST 1048576: true; the input reads as it did. -/
def springEqualUptoRow : OpenClaim := { program := "ytcnejnaeahffhaa", sum := "74c01782ef9d44244b79f9add80fecc6b8abaee76ee115627aa9ccab84f97ede", func := "hemiola/hemiolalaw30.SpringEqual", spec := "springEqual", unfollowed := true, recurses := true, apart := false, narrowed := true }
def SpringEqualUptoSaid : Prop := springEqualUptoRow.holds Try.pinned (OpenSpec.upto springEqualSpec)

/-- 'hemiolalaw30.SpringSums', WHERE WHAT IT READS IS OF BULK AT MOST 1048576: true; the input reads as it did. -/
def springSumsUptoRow : OpenClaim := { program := "ytcnejnaeahffhaa", sum := "74c01782ef9d44244b79f9add80fecc6b8abaee76ee115627aa9ccab84f97ede", func := "hemiola/hemiolalaw30.SpringSums", spec := "springSums", unfollowed := true, recurses := true, apart := false, narrowed := true }
def SpringSumsUptoSaid : Prop := springSumsUptoRow.holds Try.pinned (OpenSpec.upto springSumsSpec)

/-- 'hemiolalaw30.SpringSteps', WHERE WHAT IT READS IS OF BULK AT MOST 1048576: true; the input reads as it did. -/
def springStepsUptoRow : OpenClaim := { program := "ytcnejnaeahffhaa", sum := "74c01782ef9d44244b79f9add80fecc6b8abaee76ee115627aa9ccab84f97ede", func := "hemiola/hemiolalaw30.SpringSteps", spec := "springSteps", unfollowed := true, recurses := true, apart := false, narrowed := true }
def SpringStepsUptoSaid : Prop := springStepsUptoRow.holds Try.pinned (OpenSpec.upto springStepsSpec)

/-- 'hemiolalaw30.SpringBadness', WHERE WHAT IT READS IS OF BULK AT MOST 1048576: true; the input reads as it did. -/
def springBadnessUptoRow : OpenClaim := { program := "ytcnejnaeahffhaa", sum := "74c01782ef9d44244b79f9add80fecc6b8abaee76ee115627aa9ccab84f97ede", func := "hemiola/hemiolalaw30.SpringBadness", spec := "springBadness", unfollowed := true, recurses := true, apart := false, narrowed := true }
def SpringBadnessUptoSaid : Prop := springBadnessUptoRow.holds Try.pinned (OpenSpec.upto springBadnessSpec)

/-- 'hemiolalaw30.SpringErrors', WHERE WHAT IT READS IS OF BULK AT MOST 1048576: true; the input reads as it did. -/
def springErrorsUptoRow : OpenClaim := { program := "ytcnejnaeahffhaa", sum := "74c01782ef9d44244b79f9add80fecc6b8abaee76ee115627aa9ccab84f97ede", func := "hemiola/hemiolalaw30.SpringErrors", spec := "springErrors", unfollowed := true, recurses := true, apart := false, narrowed := true }
def SpringErrorsUptoSaid : Prop := springErrorsUptoRow.holds Try.pinned (OpenSpec.upto springErrorsSpec)

/-- 'hemiolalaw30.SpringPlaces', WHERE WHAT IT READS IS OF BULK AT MOST 1048576: true; the input reads as it did. -/
def springPlacesUptoRow : OpenClaim := { program := "ytcnejnaeahffhaa", sum := "74c01782ef9d44244b79f9add80fecc6b8abaee76ee115627aa9ccab84f97ede", func := "hemiola/hemiolalaw30.SpringPlaces", spec := "springPlaces", unfollowed := true, recurses := true, apart := false, narrowed := true }
def SpringPlacesUptoSaid : Prop := springPlacesUptoRow.holds Try.pinned (OpenSpec.upto springPlacesSpec)

/-- 'hemiolalaw30.SpringTotals', WHERE WHAT IT READS IS OF BULK AT MOST 1048576: true; the input reads as it did. -/
def springTotalsUptoRow : OpenClaim := { program := "ytcnejnaeahffhaa", sum := "74c01782ef9d44244b79f9add80fecc6b8abaee76ee115627aa9ccab84f97ede", func := "hemiola/hemiolalaw30.SpringTotals", spec := "springTotals", unfollowed := true, recurses := true, apart := false, narrowed := true }
def SpringTotalsUptoSaid : Prop := springTotalsUptoRow.holds Try.pinned (OpenSpec.upto springTotalsSpec)

end Rows
end Go.Proofs.Ytcnejnaeahffhaa
