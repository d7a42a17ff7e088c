/-
  No cell of these rows narrows 'for every input' (looked for: loops, veiled, ifaces, maps, wideKeys, modest, calm, conditions, laid).
  DERIVED. THE GIVEN ROWS OF THIS SEAT. 10 by the template 'for every input the law returns true; each argument reads behind the call as it read before'; 0 by the template 'total and deterministic' (their statements: YtcihalbakenleaaGreatTotals.lean).
  GIVEN WITH THE SEED: the statements are not yours to turn. If you find one false, say at which input.
  Laid BY PROGRAM, IN A SANDBOX (cutbox-rows.mjs): the forced cells as the released guide's own fill.sh prints them over the translation 23625d4d00c91c6c… (all of the seat's roots in one cut). By AI agents, Wed Nov 11 2026. No macro, syntax, notation, axiom, sorry.
-/
import Derived.Test.YtcihalbakenleaaGreatChecked
import GoSem.Claim
import GoSem.ClaimJoined
import GoSem.ClaimMapViews
import Derived.JoinedTies
import Derived.KernelRfl
namespace Go.Proofs.YtcihalbakenleaaGreat
/- THE CELL 'sum', in the pinned program and in every row, IS THE sha256 OF THE DUMP (.gsa) THAT YtcihalbakenleaaGreatProg.lean LOADS. Nothing in Lean hashes anything: it is a label: what it is worth is what the hold of that sum in a sandbox is worth. -/
noncomputable def Tryz.pinned : Pinned := { name := "ytcihalbakenleaagreat", sum := "23625d4d00c91c6c881249256d04f536ea6eaeb34ece44989dba78c4b476f9ae", checked := Tryz.checked }
namespace Rows
def none {H : Type} : Left H := { results := [], args := [] }

/-- 'hemiolalaw12.VoiceDivides': WHATEVER THE INPUT: true; the input reads as it did. -/
def voiceDividesSpec : ChangeSpec := { name := "voiceDivides", fn := fun _ => fun
  | [d1, d2, d3] => { results := [.lit (.bool true)], args := [d1, d2, d3] }
  | _ => none }
def voiceDividesRow : OpenClaim := { program := "ytcihalbakenleaagreat", sum := "23625d4d00c91c6c881249256d04f536ea6eaeb34ece44989dba78c4b476f9ae", func := "hemiola/hemiolalaw12.VoiceDivides", spec := "voiceDivides", unfollowed := true, recurses := true, apart := false }
def VoiceDividesSaid : Prop := voiceDividesRow.holds Tryz.pinned (OpenSpec.ofChange voiceDividesSpec)

/-- ITS FALSE NEIGHBOUR: 'it returns false'. Refute it at one input. -/
def voiceDividesWrong : ChangeSpec := { name := "voiceDivides", fn := fun _ => fun
  | [d1, d2, d3] => { results := [.lit (.bool false)], args := [d1, d2, d3] }
  | _ => none }
def VoiceDividesWrongFalsely : Prop := voiceDividesRow.holds Tryz.pinned (OpenSpec.ofChange voiceDividesWrong)

/-- 'hemiolalaw12.VoiceSimplifies': WHATEVER THE INPUT: true; the input reads as it did. -/
def voiceSimplifiesSpec : ChangeSpec := { name := "voiceSimplifies", fn := fun _ => fun
  | [d1, d2] => { results := [.lit (.bool true)], args := [d1, d2] }
  | _ => none }
def voiceSimplifiesRow : OpenClaim := { program := "ytcihalbakenleaagreat", sum := "23625d4d00c91c6c881249256d04f536ea6eaeb34ece44989dba78c4b476f9ae", func := "hemiola/hemiolalaw12.VoiceSimplifies", spec := "voiceSimplifies", unfollowed := true, recurses := true, apart := false }
def VoiceSimplifiesSaid : Prop := voiceSimplifiesRow.holds Tryz.pinned (OpenSpec.ofChange voiceSimplifiesSpec)

/-- ITS FALSE NEIGHBOUR: 'it returns false'. Refute it at one input. -/
def voiceSimplifiesWrong : ChangeSpec := { name := "voiceSimplifies", fn := fun _ => fun
  | [d1, d2] => { results := [.lit (.bool false)], args := [d1, d2] }
  | _ => none }
def VoiceSimplifiesWrongFalsely : Prop := voiceSimplifiesRow.holds Tryz.pinned (OpenSpec.ofChange voiceSimplifiesWrong)

/-- 'hemiolalaw12.VoiceAt': WHATEVER THE INPUT: true; the input reads as it did. -/
def voiceAtSpec : ChangeSpec := { name := "voiceAt", fn := fun _ => fun
  | [d1, d2, d3] => { results := [.lit (.bool true)], args := [d1, d2, d3] }
  | _ => none }
def voiceAtRow : OpenClaim := { program := "ytcihalbakenleaagreat", sum := "23625d4d00c91c6c881249256d04f536ea6eaeb34ece44989dba78c4b476f9ae", func := "hemiola/hemiolalaw12.VoiceAt", spec := "voiceAt", unfollowed := true, recurses := true, apart := false }
def VoiceAtSaid : Prop := voiceAtRow.holds Tryz.pinned (OpenSpec.ofChange voiceAtSpec)

/-- ITS FALSE NEIGHBOUR: 'it returns false'. Refute it at one input. -/
def voiceAtWrong : ChangeSpec := { name := "voiceAt", fn := fun _ => fun
  | [d1, d2, d3] => { results := [.lit (.bool false)], args := [d1, d2, d3] }
  | _ => none }
def VoiceAtWrongFalsely : Prop := voiceAtRow.holds Tryz.pinned (OpenSpec.ofChange voiceAtWrong)

/-- 'hemiolalaw12.VoiceSounds': WHATEVER THE INPUT: true; the input reads as it did. -/
def voiceSoundsSpec : ChangeSpec := { name := "voiceSounds", fn := fun _ => fun
  | [d1, d2, d3] => { results := [.lit (.bool true)], args := [d1, d2, d3] }
  | _ => none }
def voiceSoundsRow : OpenClaim := { program := "ytcihalbakenleaagreat", sum := "23625d4d00c91c6c881249256d04f536ea6eaeb34ece44989dba78c4b476f9ae", func := "hemiola/hemiolalaw12.VoiceSounds", spec := "voiceSounds", unfollowed := true, recurses := true, apart := false }
def VoiceSoundsSaid : Prop := voiceSoundsRow.holds Tryz.pinned (OpenSpec.ofChange voiceSoundsSpec)

/-- ITS FALSE NEIGHBOUR: 'it returns false'. Refute it at one input. -/
def voiceSoundsWrong : ChangeSpec := { name := "voiceSounds", fn := fun _ => fun
  | [d1, d2, d3] => { results := [.lit (.bool false)], args := [d1, d2, d3] }
  | _ => none }
def VoiceSoundsWrongFalsely : Prop := voiceSoundsRow.holds Tryz.pinned (OpenSpec.ofChange voiceSoundsWrong)

/-- 'hemiolalaw12.VoiceChecks': WHATEVER THE INPUT: true; the input reads as it did. -/
def voiceChecksSpec : ChangeSpec := { name := "voiceChecks", fn := fun _ => fun
  | [d1, d2] => { results := [.lit (.bool true)], args := [d1, d2] }
  | _ => none }
def voiceChecksRow : OpenClaim := { program := "ytcihalbakenleaagreat", sum := "23625d4d00c91c6c881249256d04f536ea6eaeb34ece44989dba78c4b476f9ae", func := "hemiola/hemiolalaw12.VoiceChecks", spec := "voiceChecks", unfollowed := true, recurses := true, apart := false }
def VoiceChecksSaid : Prop := voiceChecksRow.holds Tryz.pinned (OpenSpec.ofChange voiceChecksSpec)

/-- ITS FALSE NEIGHBOUR: 'it returns false'. Refute it at one input. -/
def voiceChecksWrong : ChangeSpec := { name := "voiceChecks", fn := fun _ => fun
  | [d1, d2] => { results := [.lit (.bool false)], args := [d1, d2] }
  | _ => none }
def VoiceChecksWrongFalsely : Prop := voiceChecksRow.holds Tryz.pinned (OpenSpec.ofChange voiceChecksWrong)

/-- 'hemiolalaw12.VoiceNotes': WHATEVER THE INPUT: true; the input reads as it did. -/
def voiceNotesSpec : ChangeSpec := { name := "voiceNotes", fn := fun _ => fun
  | [d1, d2, d3] => { results := [.lit (.bool true)], args := [d1, d2, d3] }
  | _ => none }
def voiceNotesRow : OpenClaim := { program := "ytcihalbakenleaagreat", sum := "23625d4d00c91c6c881249256d04f536ea6eaeb34ece44989dba78c4b476f9ae", func := "hemiola/hemiolalaw12.VoiceNotes", spec := "voiceNotes", unfollowed := true, recurses := true, apart := false }
def VoiceNotesSaid : Prop := voiceNotesRow.holds Tryz.pinned (OpenSpec.ofChange voiceNotesSpec)

/-- ITS FALSE NEIGHBOUR: 'it returns false'. Refute it at one input. -/
def voiceNotesWrong : ChangeSpec := { name := "voiceNotes", fn := fun _ => fun
  | [d1, d2, d3] => { results := [.lit (.bool false)], args := [d1, d2, d3] }
  | _ => none }
def VoiceNotesWrongFalsely : Prop := voiceNotesRow.holds Tryz.pinned (OpenSpec.ofChange voiceNotesWrong)

/-- 'hemiolalaw12.VoiceCuts': WHATEVER THE INPUT: true; the input reads as it did. -/
def voiceCutsSpec : ChangeSpec := { name := "voiceCuts", fn := fun _ => fun
  | [d1, d2, d3] => { results := [.lit (.bool true)], args := [d1, d2, d3] }
  | _ => none }
def voiceCutsRow : OpenClaim := { program := "ytcihalbakenleaagreat", sum := "23625d4d00c91c6c881249256d04f536ea6eaeb34ece44989dba78c4b476f9ae", func := "hemiola/hemiolalaw12.VoiceCuts", spec := "voiceCuts", unfollowed := true, recurses := true, apart := false }
def VoiceCutsSaid : Prop := voiceCutsRow.holds Tryz.pinned (OpenSpec.ofChange voiceCutsSpec)

/-- ITS FALSE NEIGHBOUR: 'it returns false'. Refute it at one input. -/
def voiceCutsWrong : ChangeSpec := { name := "voiceCuts", fn := fun _ => fun
  | [d1, d2, d3] => { results := [.lit (.bool false)], args := [d1, d2, d3] }
  | _ => none }
def VoiceCutsWrongFalsely : Prop := voiceCutsRow.holds Tryz.pinned (OpenSpec.ofChange voiceCutsWrong)

/-- 'hemiolalaw12.VoicePuts': WHATEVER THE INPUT: true; the input reads as it did. -/
def voicePutsSpec : ChangeSpec := { name := "voicePuts", fn := fun _ => fun
  | [d1, d2, d3] => { results := [.lit (.bool true)], args := [d1, d2, d3] }
  | _ => none }
def voicePutsRow : OpenClaim := { program := "ytcihalbakenleaagreat", sum := "23625d4d00c91c6c881249256d04f536ea6eaeb34ece44989dba78c4b476f9ae", func := "hemiola/hemiolalaw12.VoicePuts", spec := "voicePuts", unfollowed := true, recurses := true, apart := false }
def VoicePutsSaid : Prop := voicePutsRow.holds Tryz.pinned (OpenSpec.ofChange voicePutsSpec)

/-- ITS FALSE NEIGHBOUR: 'it returns false'. Refute it at one input. -/
def voicePutsWrong : ChangeSpec := { name := "voicePuts", fn := fun _ => fun
  | [d1, d2, d3] => { results := [.lit (.bool false)], args := [d1, d2, d3] }
  | _ => none }
def VoicePutsWrongFalsely : Prop := voicePutsRow.holds Tryz.pinned (OpenSpec.ofChange voicePutsWrong)

/-- 'hemiolalaw12.VoiceRestores': WHATEVER THE INPUT: true; the input reads as it did. -/
def voiceRestoresSpec : ChangeSpec := { name := "voiceRestores", fn := fun _ => fun
  | [d1, d2, d3] => { results := [.lit (.bool true)], args := [d1, d2, d3] }
  | _ => none }
def voiceRestoresRow : OpenClaim := { program := "ytcihalbakenleaagreat", sum := "23625d4d00c91c6c881249256d04f536ea6eaeb34ece44989dba78c4b476f9ae", func := "hemiola/hemiolalaw12.VoiceRestores", spec := "voiceRestores", unfollowed := true, recurses := true, apart := false }
def VoiceRestoresSaid : Prop := voiceRestoresRow.holds Tryz.pinned (OpenSpec.ofChange voiceRestoresSpec)

/-- ITS FALSE NEIGHBOUR: 'it returns false'. Refute it at one input. -/
def voiceRestoresWrong : ChangeSpec := { name := "voiceRestores", fn := fun _ => fun
  | [d1, d2, d3] => { results := [.lit (.bool false)], args := [d1, d2, d3] }
  | _ => none }
def VoiceRestoresWrongFalsely : Prop := voiceRestoresRow.holds Tryz.pinned (OpenSpec.ofChange voiceRestoresWrong)

/-- 'hemiolalaw12.VoiceErases': WHATEVER THE INPUT: true; the input reads as it did. -/
def voiceErasesSpec : ChangeSpec := { name := "voiceErases", fn := fun _ => fun
  | [d1, d2, d3] => { results := [.lit (.bool true)], args := [d1, d2, d3] }
  | _ => none }
def voiceErasesRow : OpenClaim := { program := "ytcihalbakenleaagreat", sum := "23625d4d00c91c6c881249256d04f536ea6eaeb34ece44989dba78c4b476f9ae", func := "hemiola/hemiolalaw12.VoiceErases", spec := "voiceErases", unfollowed := true, recurses := true, apart := false }
def VoiceErasesSaid : Prop := voiceErasesRow.holds Tryz.pinned (OpenSpec.ofChange voiceErasesSpec)

/-- ITS FALSE NEIGHBOUR: 'it returns false'. Refute it at one input. -/
def voiceErasesWrong : ChangeSpec := { name := "voiceErases", fn := fun _ => fun
  | [d1, d2, d3] => { results := [.lit (.bool false)], args := [d1, d2, d3] }
  | _ => none }
def VoiceErasesWrongFalsely : Prop := voiceErasesRow.holds Tryz.pinned (OpenSpec.ofChange voiceErasesWrong)

/- THE SECOND FORM. 'bulk': how many values and letters a reading holds, each counted each time it is reached (what is shared counts as often as it is met; a slice's spare places count too). A statement '..UptoSaid' is the law's where the arguments, and the package variables that the reading takes, are together of bulk at most 1048576: NARROWER than '..Said'. Prove '..Said' where nothing that the law and all that it calls make is longer than what came in: it says more and counts as full. Else prove '..UptoSaid'. A law counts once. -/
mutual
def uptoBulk {H : Type} : DataW H → Nat
  | .lit (.string bytes) => bytes.length + 1
  | .lit _ => 1
  | .nil => 1
  | .ptr d => uptoBulk d + 1
  | .slice elems spare => uptoBulkAll elems + uptoBulkAll spare + 1
  | .agg parts => uptoBulkAll parts + 1
  | .iface _ d => uptoBulk d + 1
  | .map entries => uptoBulkEntries entries + 1
  | .held _ => 1
def uptoBulkAll {H : Type} : List (DataW H) → Nat
  | [] => 0
  | d :: r => uptoBulk d + uptoBulkAll r
def uptoBulkEntries {H : Type} : List (Lit × DataW H) → Nat
  | [] => 0
  | x :: r => uptoBulkEntry x + uptoBulkEntries r
def uptoBulkEntry {H : Type} : Lit × DataW H → Nat
  | (.string bytes, d) => bytes.length + uptoBulk d + 1
  | (_, d) => uptoBulk d + 1
 end
def uptoSmall : (H : Type) → List (DataW H) → Bool := fun _ ds => decide (uptoBulkAll ds ≤ 1048576)
def OpenSpec.upto (s : _root_.Go.ChangeSpec) : _root_.Go.OpenSpec := { _root_.Go.OpenSpec.ofChange s with cond := some uptoSmall }

/-- 'hemiolalaw12.VoiceDivides', WHERE WHAT IT READS IS OF BULK AT MOST 1048576: true; the input reads as it did. -/
def voiceDividesUptoRow : OpenClaim := { program := "ytcihalbakenleaagreat", sum := "23625d4d00c91c6c881249256d04f536ea6eaeb34ece44989dba78c4b476f9ae", func := "hemiola/hemiolalaw12.VoiceDivides", spec := "voiceDivides", unfollowed := true, recurses := true, apart := false, narrowed := true }
def VoiceDividesUptoSaid : Prop := voiceDividesUptoRow.holds Tryz.pinned (OpenSpec.upto voiceDividesSpec)

/-- 'hemiolalaw12.VoiceSimplifies', WHERE WHAT IT READS IS OF BULK AT MOST 1048576: true; the input reads as it did. -/
def voiceSimplifiesUptoRow : OpenClaim := { program := "ytcihalbakenleaagreat", sum := "23625d4d00c91c6c881249256d04f536ea6eaeb34ece44989dba78c4b476f9ae", func := "hemiola/hemiolalaw12.VoiceSimplifies", spec := "voiceSimplifies", unfollowed := true, recurses := true, apart := false, narrowed := true }
def VoiceSimplifiesUptoSaid : Prop := voiceSimplifiesUptoRow.holds Tryz.pinned (OpenSpec.upto voiceSimplifiesSpec)

/-- 'hemiolalaw12.VoiceAt', WHERE WHAT IT READS IS OF BULK AT MOST 1048576: true; the input reads as it did. -/
def voiceAtUptoRow : OpenClaim := { program := "ytcihalbakenleaagreat", sum := "23625d4d00c91c6c881249256d04f536ea6eaeb34ece44989dba78c4b476f9ae", func := "hemiola/hemiolalaw12.VoiceAt", spec := "voiceAt", unfollowed := true, recurses := true, apart := false, narrowed := true }
def VoiceAtUptoSaid : Prop := voiceAtUptoRow.holds Tryz.pinned (OpenSpec.upto voiceAtSpec)

/-- 'hemiolalaw12.VoiceSounds', WHERE WHAT IT READS IS OF BULK AT MOST 1048576: true; the input reads as it did. -/
def voiceSoundsUptoRow : OpenClaim := { program := "ytcihalbakenleaagreat", sum := "23625d4d00c91c6c881249256d04f536ea6eaeb34ece44989dba78c4b476f9ae", func := "hemiola/hemiolalaw12.VoiceSounds", spec := "voiceSounds", unfollowed := true, recurses := true, apart := false, narrowed := true }
def VoiceSoundsUptoSaid : Prop := voiceSoundsUptoRow.holds Tryz.pinned (OpenSpec.upto voiceSoundsSpec)

/-- 'hemiolalaw12.VoiceChecks', WHERE WHAT IT READS IS OF BULK AT MOST 1048576: true; the input reads as it did. -/
def voiceChecksUptoRow : OpenClaim := { program := "ytcihalbakenleaagreat", sum := "23625d4d00c91c6c881249256d04f536ea6eaeb34ece44989dba78c4b476f9ae", func := "hemiola/hemiolalaw12.VoiceChecks", spec := "voiceChecks", unfollowed := true, recurses := true, apart := false, narrowed := true }
def VoiceChecksUptoSaid : Prop := voiceChecksUptoRow.holds Tryz.pinned (OpenSpec.upto voiceChecksSpec)

/-- 'hemiolalaw12.VoiceNotes', WHERE WHAT IT READS IS OF BULK AT MOST 1048576: true; the input reads as it did. -/
def voiceNotesUptoRow : OpenClaim := { program := "ytcihalbakenleaagreat", sum := "23625d4d00c91c6c881249256d04f536ea6eaeb34ece44989dba78c4b476f9ae", func := "hemiola/hemiolalaw12.VoiceNotes", spec := "voiceNotes", unfollowed := true, recurses := true, apart := false, narrowed := true }
def VoiceNotesUptoSaid : Prop := voiceNotesUptoRow.holds Tryz.pinned (OpenSpec.upto voiceNotesSpec)

/-- 'hemiolalaw12.VoiceCuts', WHERE WHAT IT READS IS OF BULK AT MOST 1048576: true; the input reads as it did. -/
def voiceCutsUptoRow : OpenClaim := { program := "ytcihalbakenleaagreat", sum := "23625d4d00c91c6c881249256d04f536ea6eaeb34ece44989dba78c4b476f9ae", func := "hemiola/hemiolalaw12.VoiceCuts", spec := "voiceCuts", unfollowed := true, recurses := true, apart := false, narrowed := true }
def VoiceCutsUptoSaid : Prop := voiceCutsUptoRow.holds Tryz.pinned (OpenSpec.upto voiceCutsSpec)

/-- 'hemiolalaw12.VoicePuts', WHERE WHAT IT READS IS OF BULK AT MOST 1048576: true; the input reads as it did. -/
def voicePutsUptoRow : OpenClaim := { program := "ytcihalbakenleaagreat", sum := "23625d4d00c91c6c881249256d04f536ea6eaeb34ece44989dba78c4b476f9ae", func := "hemiola/hemiolalaw12.VoicePuts", spec := "voicePuts", unfollowed := true, recurses := true, apart := false, narrowed := true }
def VoicePutsUptoSaid : Prop := voicePutsUptoRow.holds Tryz.pinned (OpenSpec.upto voicePutsSpec)

/-- 'hemiolalaw12.VoiceRestores', WHERE WHAT IT READS IS OF BULK AT MOST 1048576: true; the input reads as it did. -/
def voiceRestoresUptoRow : OpenClaim := { program := "ytcihalbakenleaagreat", sum := "23625d4d00c91c6c881249256d04f536ea6eaeb34ece44989dba78c4b476f9ae", func := "hemiola/hemiolalaw12.VoiceRestores", spec := "voiceRestores", unfollowed := true, recurses := true, apart := false, narrowed := true }
def VoiceRestoresUptoSaid : Prop := voiceRestoresUptoRow.holds Tryz.pinned (OpenSpec.upto voiceRestoresSpec)

/-- 'hemiolalaw12.VoiceErases', WHERE WHAT IT READS IS OF BULK AT MOST 1048576: true; the input reads as it did. -/
def voiceErasesUptoRow : OpenClaim := { program := "ytcihalbakenleaagreat", sum := "23625d4d00c91c6c881249256d04f536ea6eaeb34ece44989dba78c4b476f9ae", func := "hemiola/hemiolalaw12.VoiceErases", spec := "voiceErases", unfollowed := true, recurses := true, apart := false, narrowed := true }
def VoiceErasesUptoSaid : Prop := voiceErasesUptoRow.holds Tryz.pinned (OpenSpec.upto voiceErasesSpec)

end Rows
end Go.Proofs.YtcihalbakenleaaGreat
