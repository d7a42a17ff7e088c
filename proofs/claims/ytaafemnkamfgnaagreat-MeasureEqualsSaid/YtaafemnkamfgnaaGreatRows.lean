/-
  No cell of these rows narrows 'for every input' (looked for: loops, veiled, ifaces, maps, wideKeys, modest, calm, conditions, laid).
  DERIVED. THE GIVEN ROWS OF THIS SEAT. 11 by the template 'for every input the law returns true; each argument reads behind the call as it read before'; 0 by the template 'total and deterministic' (their statements: YtaafemnkamfgnaaGreatTotals.lean).
  GIVEN WITH THE SEED: the statements are not yours to turn. If you find one false, say at which input.
  Laid BY PROGRAM, IN A SANDBOX (cutbox-rows.mjs): the forced cells as the released guide's own fill.sh prints them over the translation 566d3edc506cdcef… (all of the seat's roots in one cut). By AI agents, Wed Nov 11 2026. No macro, syntax, notation, axiom, sorry.
-/
import Derived.Test.YtaafemnkamfgnaaGreatChecked
import GoSem.Claim
import GoSem.ClaimJoined
import GoSem.ClaimMapViews
import Derived.JoinedTies
import Derived.KernelRfl
namespace Go.Proofs.YtaafemnkamfgnaaGreat
/- THE CELL 'sum', in the pinned program and in every row, IS THE sha256 OF THE DUMP (.gsa) THAT YtaafemnkamfgnaaGreatProg.lean LOADS. Nothing in Lean hashes anything: it is a label: what it is worth is what the hold of that sum in a sandbox is worth. -/
noncomputable def Tryz.pinned : Pinned := { name := "ytaafemnkamfgnaagreat", sum := "566d3edc506cdcef1834fe6cb3ebf6c2e1dd0f8d89cce1a167160f9812784cae", checked := Tryz.checked }
namespace Rows
def none {H : Type} : Left H := { results := [], args := [] }

/-- 'hemiolalaw13.MeasureLengths': WHATEVER THE INPUT: true; the input reads as it did. -/
def measureLengthsSpec : ChangeSpec := { name := "measureLengths", fn := fun _ => fun
  | [d] => { results := [.lit (.bool true)], args := [d] }
  | _ => none }
def measureLengthsRow : OpenClaim := { program := "ytaafemnkamfgnaagreat", sum := "566d3edc506cdcef1834fe6cb3ebf6c2e1dd0f8d89cce1a167160f9812784cae", func := "hemiola/hemiolalaw13.MeasureLengths", spec := "measureLengths", unfollowed := true, recurses := true, apart := false }
def MeasureLengthsSaid : Prop := measureLengthsRow.holds Tryz.pinned (OpenSpec.ofChange measureLengthsSpec)

/-- ITS FALSE NEIGHBOUR: 'it returns false'. Refute it at one input. -/
def measureLengthsWrong : ChangeSpec := { name := "measureLengths", fn := fun _ => fun
  | [d] => { results := [.lit (.bool false)], args := [d] }
  | _ => none }
def MeasureLengthsWrongFalsely : Prop := measureLengthsRow.holds Tryz.pinned (OpenSpec.ofChange measureLengthsWrong)

/-- 'hemiolalaw13.MeasureSlots': WHATEVER THE INPUT: true; the input reads as it did. -/
def measureSlotsSpec : ChangeSpec := { name := "measureSlots", fn := fun _ => fun
  | [d] => { results := [.lit (.bool true)], args := [d] }
  | _ => none }
def measureSlotsRow : OpenClaim := { program := "ytaafemnkamfgnaagreat", sum := "566d3edc506cdcef1834fe6cb3ebf6c2e1dd0f8d89cce1a167160f9812784cae", func := "hemiola/hemiolalaw13.MeasureSlots", spec := "measureSlots", unfollowed := true, recurses := true, apart := false }
def MeasureSlotsSaid : Prop := measureSlotsRow.holds Tryz.pinned (OpenSpec.ofChange measureSlotsSpec)

/-- ITS FALSE NEIGHBOUR: 'it returns false'. Refute it at one input. -/
def measureSlotsWrong : ChangeSpec := { name := "measureSlots", fn := fun _ => fun
  | [d] => { results := [.lit (.bool false)], args := [d] }
  | _ => none }
def MeasureSlotsWrongFalsely : Prop := measureSlotsRow.holds Tryz.pinned (OpenSpec.ofChange measureSlotsWrong)

/-- 'hemiolalaw13.MeasureFinds': WHATEVER THE INPUT: true; the input reads as it did. -/
def measureFindsSpec : ChangeSpec := { name := "measureFinds", fn := fun _ => fun
  | [d1, d2] => { results := [.lit (.bool true)], args := [d1, d2] }
  | _ => none }
def measureFindsRow : OpenClaim := { program := "ytaafemnkamfgnaagreat", sum := "566d3edc506cdcef1834fe6cb3ebf6c2e1dd0f8d89cce1a167160f9812784cae", func := "hemiola/hemiolalaw13.MeasureFinds", spec := "measureFinds", unfollowed := true, recurses := true, apart := false }
def MeasureFindsSaid : Prop := measureFindsRow.holds Tryz.pinned (OpenSpec.ofChange measureFindsSpec)

/-- ITS FALSE NEIGHBOUR: 'it returns false'. Refute it at one input. -/
def measureFindsWrong : ChangeSpec := { name := "measureFinds", fn := fun _ => fun
  | [d1, d2] => { results := [.lit (.bool false)], args := [d1, d2] }
  | _ => none }
def MeasureFindsWrongFalsely : Prop := measureFindsRow.holds Tryz.pinned (OpenSpec.ofChange measureFindsWrong)

/-- 'hemiolalaw13.MeasureAt': WHATEVER THE INPUT: true; the input reads as it did. -/
def measureAtSpec : ChangeSpec := { name := "measureAt", fn := fun _ => fun
  | [d1, d2] => { results := [.lit (.bool true)], args := [d1, d2] }
  | _ => none }
def measureAtRow : OpenClaim := { program := "ytaafemnkamfgnaagreat", sum := "566d3edc506cdcef1834fe6cb3ebf6c2e1dd0f8d89cce1a167160f9812784cae", func := "hemiola/hemiolalaw13.MeasureAt", spec := "measureAt", unfollowed := true, recurses := true, apart := false }
def MeasureAtSaid : Prop := measureAtRow.holds Tryz.pinned (OpenSpec.ofChange measureAtSpec)

/-- ITS FALSE NEIGHBOUR: 'it returns false'. Refute it at one input. -/
def measureAtWrong : ChangeSpec := { name := "measureAt", fn := fun _ => fun
  | [d1, d2] => { results := [.lit (.bool false)], args := [d1, d2] }
  | _ => none }
def MeasureAtWrongFalsely : Prop := measureAtRow.holds Tryz.pinned (OpenSpec.ofChange measureAtWrong)

/-- 'hemiolalaw13.MeasureFits': WHATEVER THE INPUT: true; the input reads as it did. -/
def measureFitsSpec : ChangeSpec := { name := "measureFits", fn := fun _ => fun
  | [d1, d2, d3] => { results := [.lit (.bool true)], args := [d1, d2, d3] }
  | _ => none }
def measureFitsRow : OpenClaim := { program := "ytaafemnkamfgnaagreat", sum := "566d3edc506cdcef1834fe6cb3ebf6c2e1dd0f8d89cce1a167160f9812784cae", func := "hemiola/hemiolalaw13.MeasureFits", spec := "measureFits", unfollowed := true, recurses := true, apart := false }
def MeasureFitsSaid : Prop := measureFitsRow.holds Tryz.pinned (OpenSpec.ofChange measureFitsSpec)

/-- ITS FALSE NEIGHBOUR: 'it returns false'. Refute it at one input. -/
def measureFitsWrong : ChangeSpec := { name := "measureFits", fn := fun _ => fun
  | [d1, d2, d3] => { results := [.lit (.bool false)], args := [d1, d2, d3] }
  | _ => none }
def MeasureFitsWrongFalsely : Prop := measureFitsRow.holds Tryz.pinned (OpenSpec.ofChange measureFitsWrong)

/-- 'hemiolalaw13.MeasureClefs': WHATEVER THE INPUT: true; the input reads as it did. -/
def measureClefsSpec : ChangeSpec := { name := "measureClefs", fn := fun _ => fun
  | [d1, d2, d3] => { results := [.lit (.bool true)], args := [d1, d2, d3] }
  | _ => none }
def measureClefsRow : OpenClaim := { program := "ytaafemnkamfgnaagreat", sum := "566d3edc506cdcef1834fe6cb3ebf6c2e1dd0f8d89cce1a167160f9812784cae", func := "hemiola/hemiolalaw13.MeasureClefs", spec := "measureClefs", unfollowed := true, recurses := true, apart := false }
def MeasureClefsSaid : Prop := measureClefsRow.holds Tryz.pinned (OpenSpec.ofChange measureClefsSpec)

/-- ITS FALSE NEIGHBOUR: 'it returns false'. Refute it at one input. -/
def measureClefsWrong : ChangeSpec := { name := "measureClefs", fn := fun _ => fun
  | [d1, d2, d3] => { results := [.lit (.bool false)], args := [d1, d2, d3] }
  | _ => none }
def MeasureClefsWrongFalsely : Prop := measureClefsRow.holds Tryz.pinned (OpenSpec.ofChange measureClefsWrong)

/-- 'hemiolalaw13.MeasureEquals': WHATEVER THE INPUT: true; the input reads as it did. -/
def measureEqualsSpec : ChangeSpec := { name := "measureEquals", fn := fun _ => fun
  | [d1, d2, d3] => { results := [.lit (.bool true)], args := [d1, d2, d3] }
  | _ => none }
def measureEqualsRow : OpenClaim := { program := "ytaafemnkamfgnaagreat", sum := "566d3edc506cdcef1834fe6cb3ebf6c2e1dd0f8d89cce1a167160f9812784cae", func := "hemiola/hemiolalaw13.MeasureEquals", spec := "measureEquals", unfollowed := true, recurses := true, apart := false }
def MeasureEqualsSaid : Prop := measureEqualsRow.holds Tryz.pinned (OpenSpec.ofChange measureEqualsSpec)

/-- ITS FALSE NEIGHBOUR: 'it returns false'. Refute it at one input. -/
def measureEqualsWrong : ChangeSpec := { name := "measureEquals", fn := fun _ => fun
  | [d1, d2, d3] => { results := [.lit (.bool false)], args := [d1, d2, d3] }
  | _ => none }
def MeasureEqualsWrongFalsely : Prop := measureEqualsRow.holds Tryz.pinned (OpenSpec.ofChange measureEqualsWrong)

/-- 'hemiolalaw13.MeasureVoices': WHATEVER THE INPUT: true; the input reads as it did. -/
def measureVoicesSpec : ChangeSpec := { name := "measureVoices", fn := fun _ => fun
  | [d1, d2, d3] => { results := [.lit (.bool true)], args := [d1, d2, d3] }
  | _ => none }
def measureVoicesRow : OpenClaim := { program := "ytaafemnkamfgnaagreat", sum := "566d3edc506cdcef1834fe6cb3ebf6c2e1dd0f8d89cce1a167160f9812784cae", func := "hemiola/hemiolalaw13.MeasureVoices", spec := "measureVoices", unfollowed := true, recurses := true, apart := false }
def MeasureVoicesSaid : Prop := measureVoicesRow.holds Tryz.pinned (OpenSpec.ofChange measureVoicesSpec)

/-- ITS FALSE NEIGHBOUR: 'it returns false'. Refute it at one input. -/
def measureVoicesWrong : ChangeSpec := { name := "measureVoices", fn := fun _ => fun
  | [d1, d2, d3] => { results := [.lit (.bool false)], args := [d1, d2, d3] }
  | _ => none }
def MeasureVoicesWrongFalsely : Prop := measureVoicesRow.holds Tryz.pinned (OpenSpec.ofChange measureVoicesWrong)

/-- 'hemiolalaw13.MeasureNumbers': WHATEVER THE INPUT: true; the input reads as it did. -/
def measureNumbersSpec : ChangeSpec := { name := "measureNumbers", fn := fun _ => fun
  | [d1, d2, d3] => { results := [.lit (.bool true)], args := [d1, d2, d3] }
  | _ => none }
def measureNumbersRow : OpenClaim := { program := "ytaafemnkamfgnaagreat", sum := "566d3edc506cdcef1834fe6cb3ebf6c2e1dd0f8d89cce1a167160f9812784cae", func := "hemiola/hemiolalaw13.MeasureNumbers", spec := "measureNumbers", unfollowed := true, recurses := true, apart := false }
def MeasureNumbersSaid : Prop := measureNumbersRow.holds Tryz.pinned (OpenSpec.ofChange measureNumbersSpec)

/-- ITS FALSE NEIGHBOUR: 'it returns false'. Refute it at one input. -/
def measureNumbersWrong : ChangeSpec := { name := "measureNumbers", fn := fun _ => fun
  | [d1, d2, d3] => { results := [.lit (.bool false)], args := [d1, d2, d3] }
  | _ => none }
def MeasureNumbersWrongFalsely : Prop := measureNumbersRow.holds Tryz.pinned (OpenSpec.ofChange measureNumbersWrong)

/-- 'hemiolalaw13.MeasureBlanks': WHATEVER THE INPUT: true; the input reads as it did. -/
def measureBlanksSpec : ChangeSpec := { name := "measureBlanks", fn := fun _ => fun
  | [d1, d2] => { results := [.lit (.bool true)], args := [d1, d2] }
  | _ => none }
def measureBlanksRow : OpenClaim := { program := "ytaafemnkamfgnaagreat", sum := "566d3edc506cdcef1834fe6cb3ebf6c2e1dd0f8d89cce1a167160f9812784cae", func := "hemiola/hemiolalaw13.MeasureBlanks", spec := "measureBlanks", unfollowed := true, recurses := true, apart := false }
def MeasureBlanksSaid : Prop := measureBlanksRow.holds Tryz.pinned (OpenSpec.ofChange measureBlanksSpec)

/-- ITS FALSE NEIGHBOUR: 'it returns false'. Refute it at one input. -/
def measureBlanksWrong : ChangeSpec := { name := "measureBlanks", fn := fun _ => fun
  | [d1, d2] => { results := [.lit (.bool false)], args := [d1, d2] }
  | _ => none }
def MeasureBlanksWrongFalsely : Prop := measureBlanksRow.holds Tryz.pinned (OpenSpec.ofChange measureBlanksWrong)

/-- 'hemiolalaw13.MeasureChecks': WHATEVER THE INPUT: true; the input reads as it did. -/
def measureChecksSpec : ChangeSpec := { name := "measureChecks", fn := fun _ => fun
  | [d1, d2] => { results := [.lit (.bool true)], args := [d1, d2] }
  | _ => none }
def measureChecksRow : OpenClaim := { program := "ytaafemnkamfgnaagreat", sum := "566d3edc506cdcef1834fe6cb3ebf6c2e1dd0f8d89cce1a167160f9812784cae", func := "hemiola/hemiolalaw13.MeasureChecks", spec := "measureChecks", unfollowed := true, recurses := true, apart := false }
def MeasureChecksSaid : Prop := measureChecksRow.holds Tryz.pinned (OpenSpec.ofChange measureChecksSpec)

/-- ITS FALSE NEIGHBOUR: 'it returns false'. Refute it at one input. -/
def measureChecksWrong : ChangeSpec := { name := "measureChecks", fn := fun _ => fun
  | [d1, d2] => { results := [.lit (.bool false)], args := [d1, d2] }
  | _ => none }
def MeasureChecksWrongFalsely : Prop := measureChecksRow.holds Tryz.pinned (OpenSpec.ofChange measureChecksWrong)

/- THE SECOND FORM. 'bulk': how many values and letters a reading holds, each counted each time it is reached (what is shared counts as often as it is met; a slice's spare places count too). A statement '..UptoSaid' is the law's where the arguments, and the package variables that the reading takes, are together of bulk at most 1048576: NARROWER than '..Said'. Prove '..Said' where nothing that the law and all that it calls make is longer than what came in: it says more and counts as full. Else prove '..UptoSaid'. A law counts once. -/
mutual
def uptoBulk {H : Type} : DataW H → Nat
  | .lit (.string bytes) => bytes.length + 1
  | .lit _ => 1
  | .nil => 1
  | .ptr d => uptoBulk d + 1
  | .slice elems spare => uptoBulkAll elems + uptoBulkAll spare + 1
  | .agg parts => uptoBulkAll parts + 1
  | .iface _ d => uptoBulk d + 1
  | .map entries => uptoBulkEntries entries + 1
  | .held _ => 1
def uptoBulkAll {H : Type} : List (DataW H) → Nat
  | [] => 0
  | d :: r => uptoBulk d + uptoBulkAll r
def uptoBulkEntries {H : Type} : List (Lit × DataW H) → Nat
  | [] => 0
  | x :: r => uptoBulkEntry x + uptoBulkEntries r
def uptoBulkEntry {H : Type} : Lit × DataW H → Nat
  | (.string bytes, d) => bytes.length + uptoBulk d + 1
  | (_, d) => uptoBulk d + 1
 end
def uptoSmall : (H : Type) → List (DataW H) → Bool := fun _ ds => decide (uptoBulkAll ds ≤ 1048576)
def OpenSpec.upto (s : _root_.Go.ChangeSpec) : _root_.Go.OpenSpec := { _root_.Go.OpenSpec.ofChange s with cond := some uptoSmall }

/-- 'hemiolalaw13.MeasureLengths', WHERE WHAT IT READS IS OF BULK AT MOST 1048576: true; the input reads as it did. -/
def measureLengthsUptoRow : OpenClaim := { program := "ytaafemnkamfgnaagreat", sum := "566d3edc506cdcef1834fe6cb3ebf6c2e1dd0f8d89cce1a167160f9812784cae", func := "hemiola/hemiolalaw13.MeasureLengths", spec := "measureLengths", unfollowed := true, recurses := true, apart := false, narrowed := true }
def MeasureLengthsUptoSaid : Prop := measureLengthsUptoRow.holds Tryz.pinned (OpenSpec.upto measureLengthsSpec)

/-- 'hemiolalaw13.MeasureSlots', WHERE WHAT IT READS IS OF BULK AT MOST 1048576: true; the input reads as it did. -/
def measureSlotsUptoRow : OpenClaim := { program := "ytaafemnkamfgnaagreat", sum := "566d3edc506cdcef1834fe6cb3ebf6c2e1dd0f8d89cce1a167160f9812784cae", func := "hemiola/hemiolalaw13.MeasureSlots", spec := "measureSlots", unfollowed := true, recurses := true, apart := false, narrowed := true }
def MeasureSlotsUptoSaid : Prop := measureSlotsUptoRow.holds Tryz.pinned (OpenSpec.upto measureSlotsSpec)

/-- 'hemiolalaw13.MeasureFinds', WHERE WHAT IT READS IS OF BULK AT MOST 1048576: true; the input reads as it did. -/
def measureFindsUptoRow : OpenClaim := { program := "ytaafemnkamfgnaagreat", sum := "566d3edc506cdcef1834fe6cb3ebf6c2e1dd0f8d89cce1a167160f9812784cae", func := "hemiola/hemiolalaw13.MeasureFinds", spec := "measureFinds", unfollowed := true, recurses := true, apart := false, narrowed := true }
def MeasureFindsUptoSaid : Prop := measureFindsUptoRow.holds Tryz.pinned (OpenSpec.upto measureFindsSpec)

/-- 'hemiolalaw13.MeasureAt', WHERE WHAT IT READS IS OF BULK AT MOST 1048576: true; the input reads as it did. -/
def measureAtUptoRow : OpenClaim := { program := "ytaafemnkamfgnaagreat", sum := "566d3edc506cdcef1834fe6cb3ebf6c2e1dd0f8d89cce1a167160f9812784cae", func := "hemiola/hemiolalaw13.MeasureAt", spec := "measureAt", unfollowed := true, recurses := true, apart := false, narrowed := true }
def MeasureAtUptoSaid : Prop := measureAtUptoRow.holds Tryz.pinned (OpenSpec.upto measureAtSpec)

/-- 'hemiolalaw13.MeasureFits', WHERE WHAT IT READS IS OF BULK AT MOST 1048576: true; the input reads as it did. -/
def measureFitsUptoRow : OpenClaim := { program := "ytaafemnkamfgnaagreat", sum := "566d3edc506cdcef1834fe6cb3ebf6c2e1dd0f8d89cce1a167160f9812784cae", func := "hemiola/hemiolalaw13.MeasureFits", spec := "measureFits", unfollowed := true, recurses := true, apart := false, narrowed := true }
def MeasureFitsUptoSaid : Prop := measureFitsUptoRow.holds Tryz.pinned (OpenSpec.upto measureFitsSpec)

/-- 'hemiolalaw13.MeasureClefs', WHERE WHAT IT READS IS OF BULK AT MOST 1048576: true; the input reads as it did. -/
def measureClefsUptoRow : OpenClaim := { program := "ytaafemnkamfgnaagreat", sum := "566d3edc506cdcef1834fe6cb3ebf6c2e1dd0f8d89cce1a167160f9812784cae", func := "hemiola/hemiolalaw13.MeasureClefs", spec := "measureClefs", unfollowed := true, recurses := true, apart := false, narrowed := true }
def MeasureClefsUptoSaid : Prop := measureClefsUptoRow.holds Tryz.pinned (OpenSpec.upto measureClefsSpec)

/-- 'hemiolalaw13.MeasureEquals', WHERE WHAT IT READS IS OF BULK AT MOST 1048576: true; the input reads as it did. -/
def measureEqualsUptoRow : OpenClaim := { program := "ytaafemnkamfgnaagreat", sum := "566d3edc506cdcef1834fe6cb3ebf6c2e1dd0f8d89cce1a167160f9812784cae", func := "hemiola/hemiolalaw13.MeasureEquals", spec := "measureEquals", unfollowed := true, recurses := true, apart := false, narrowed := true }
def MeasureEqualsUptoSaid : Prop := measureEqualsUptoRow.holds Tryz.pinned (OpenSpec.upto measureEqualsSpec)

/-- 'hemiolalaw13.MeasureVoices', WHERE WHAT IT READS IS OF BULK AT MOST 1048576: true; the input reads as it did. -/
def measureVoicesUptoRow : OpenClaim := { program := "ytaafemnkamfgnaagreat", sum := "566d3edc506cdcef1834fe6cb3ebf6c2e1dd0f8d89cce1a167160f9812784cae", func := "hemiola/hemiolalaw13.MeasureVoices", spec := "measureVoices", unfollowed := true, recurses := true, apart := false, narrowed := true }
def MeasureVoicesUptoSaid : Prop := measureVoicesUptoRow.holds Tryz.pinned (OpenSpec.upto measureVoicesSpec)

/-- 'hemiolalaw13.MeasureNumbers', WHERE WHAT IT READS IS OF BULK AT MOST 1048576: true; the input reads as it did. -/
def measureNumbersUptoRow : OpenClaim := { program := "ytaafemnkamfgnaagreat", sum := "566d3edc506cdcef1834fe6cb3ebf6c2e1dd0f8d89cce1a167160f9812784cae", func := "hemiola/hemiolalaw13.MeasureNumbers", spec := "measureNumbers", unfollowed := true, recurses := true, apart := false, narrowed := true }
def MeasureNumbersUptoSaid : Prop := measureNumbersUptoRow.holds Tryz.pinned (OpenSpec.upto measureNumbersSpec)

/-- 'hemiolalaw13.MeasureBlanks', WHERE WHAT IT READS IS OF BULK AT MOST 1048576: true; the input reads as it did. -/
def measureBlanksUptoRow : OpenClaim := { program := "ytaafemnkamfgnaagreat", sum := "566d3edc506cdcef1834fe6cb3ebf6c2e1dd0f8d89cce1a167160f9812784cae", func := "hemiola/hemiolalaw13.MeasureBlanks", spec := "measureBlanks", unfollowed := true, recurses := true, apart := false, narrowed := true }
def MeasureBlanksUptoSaid : Prop := measureBlanksUptoRow.holds Tryz.pinned (OpenSpec.upto measureBlanksSpec)

/-- 'hemiolalaw13.MeasureChecks', WHERE WHAT IT READS IS OF BULK AT MOST 1048576: true; the input reads as it did. -/
def measureChecksUptoRow : OpenClaim := { program := "ytaafemnkamfgnaagreat", sum := "566d3edc506cdcef1834fe6cb3ebf6c2e1dd0f8d89cce1a167160f9812784cae", func := "hemiola/hemiolalaw13.MeasureChecks", spec := "measureChecks", unfollowed := true, recurses := true, apart := false, narrowed := true }
def MeasureChecksUptoSaid : Prop := measureChecksUptoRow.holds Tryz.pinned (OpenSpec.upto measureChecksSpec)

end Rows
end Go.Proofs.YtaafemnkamfgnaaGreat
