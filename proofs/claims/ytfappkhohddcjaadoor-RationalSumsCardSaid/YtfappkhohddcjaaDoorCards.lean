/-
  DERIVED. GIVEN WITH THE SEED: THE CARDS: each row of YtfappkhohddcjaaDoorRows.lean that lists a variable, with what it lists TIED to the program's text (the seventh form; the later family's looks); each row that meets fmt, with fmt's text TOLD by the authors' own Lean function (tested against real Go, not proved from fmt's source: count such statements apart). THE CARD IS WHAT COUNTS. Prove the row's statement (the work); the ties are given (YtfappkhohddcjaaDoorTie.lean); close each card by the builder's one call (the guide's Derived/Test/ToyasCard.lean, 'card_holds'). Laid BY PROGRAM, IN A SANDBOX (cutbox-door.mjs). By AI agents, Wed Nov 11 2026. No macro, syntax, notation, axiom, sorry.
-/
import Derived.Test.YtfappkhohddcjaaDoorRows
import GoSem.ClaimSeven
namespace Go.Proofs.YtfappkhohddcjaaDoor
namespace Rows

/-- THE TIED CARD OF 'hemiolalaw01.RationalRounds'. -/
def rationalRoundsCard : Claim7 := { stood := { row := rationalRoundsRow, standIns := [], harness := (true, "beb35ecceb74782c93fa588fd61842e919cc20dadde89336c8eee9054c6b8bf9"), looks := false }, kinds := [], alts := [], laidByText := true, laidKinds := [.data, .data, .data], laidTests := true, laidLooks := .later }
def RationalRoundsCardSaid : Prop := Claim7.holds Tryd.pinned (.plain (OpenSpec.ofChange rationalRoundsSpec)) rationalRoundsCard

/-- THE TIED CARD OF 'hemiolalaw01.RationalBest'. -/
def rationalBestCard : Claim7 := { stood := { row := rationalBestRow, standIns := [], harness := (true, "beb35ecceb74782c93fa588fd61842e919cc20dadde89336c8eee9054c6b8bf9"), looks := false }, kinds := [], alts := [], laidByText := true, laidKinds := [.data, .data, .data], laidTests := true, laidLooks := .later }
def RationalBestCardSaid : Prop := Claim7.holds Tryd.pinned (.plain (OpenSpec.ofChange rationalBestSpec)) rationalBestCard

/-- THE TIED CARD OF 'hemiolalaw01.RationalTexts'. -/
def rationalTextsCard : Claim7 := { stood := { row := rationalTextsRow, standIns := [], harness := (true, "beb35ecceb74782c93fa588fd61842e919cc20dadde89336c8eee9054c6b8bf9"), looks := false }, kinds := [], alts := [], laidByText := true, laidKinds := [.data, .data, .data], laidTests := true, laidLooks := .later }
def RationalTextsCardSaid : Prop := Claim7.holds Tryd.pinned (.plain (OpenSpec.ofChange rationalTextsSpec)) rationalTextsCard

/-- THE TIED CARD OF 'hemiolalaw01.RationalParses'. -/
def rationalParsesCard : Claim7 := { stood := { row := rationalParsesRow, standIns := [], harness := (true, "beb35ecceb74782c93fa588fd61842e919cc20dadde89336c8eee9054c6b8bf9"), looks := false }, kinds := [], alts := [], laidByText := true, laidKinds := [.data, .data, .data], laidTests := true, laidLooks := .later }
def RationalParsesCardSaid : Prop := Claim7.holds Tryd.pinned (.plain (OpenSpec.ofChange rationalParsesSpec)) rationalParsesCard

/-- THE TIED CARD OF 'hemiolalaw01.RationalOf'. -/
def rationalOfCard : Claim7 := { stood := { row := rationalOfRow, standIns := [], harness := (true, "beb35ecceb74782c93fa588fd61842e919cc20dadde89336c8eee9054c6b8bf9"), looks := false }, kinds := [], alts := [], laidByText := true, laidKinds := [.data, .data, .data], laidTests := true, laidLooks := .later }
def RationalOfCardSaid : Prop := Claim7.holds Tryd.pinned (.plain (OpenSpec.ofChange rationalOfSpec)) rationalOfCard

/-- THE TIED CARD OF 'hemiolalaw01.RationalField'. -/
def rationalFieldCard : Claim7 := { stood := { row := rationalFieldRow, standIns := [], harness := (true, "beb35ecceb74782c93fa588fd61842e919cc20dadde89336c8eee9054c6b8bf9"), looks := false }, kinds := [], alts := [], laidByText := true, laidKinds := [.data, .data, .data], laidTests := true, laidLooks := .later }
def RationalFieldCardSaid : Prop := Claim7.holds Tryd.pinned (.plain (OpenSpec.ofChange rationalFieldSpec)) rationalFieldCard

/-- THE TIED CARD OF 'hemiolalaw01.RationalArithmetic'. -/
def rationalArithmeticCard : Claim7 := { stood := { row := rationalArithmeticRow, standIns := [], harness := (true, "beb35ecceb74782c93fa588fd61842e919cc20dadde89336c8eee9054c6b8bf9"), looks := false }, kinds := [], alts := [], laidByText := true, laidKinds := [.data, .data, .data], laidTests := true, laidLooks := .later }
def RationalArithmeticCardSaid : Prop := Claim7.holds Tryd.pinned (.plain (OpenSpec.ofChange rationalArithmeticSpec)) rationalArithmeticCard

/-- THE TIED CARD OF 'hemiolalaw01.RationalZero'. -/
def rationalZeroCard : Claim7 := { stood := { row := rationalZeroRow, standIns := [], harness := (true, "beb35ecceb74782c93fa588fd61842e919cc20dadde89336c8eee9054c6b8bf9"), looks := false }, kinds := [], alts := [], laidByText := true, laidKinds := [.data, .data, .data], laidTests := true, laidLooks := .later }
def RationalZeroCardSaid : Prop := Claim7.holds Tryd.pinned (.plain (OpenSpec.ofChange rationalZeroSpec)) rationalZeroCard

/-- THE TIED CARD OF 'hemiolalaw01.RationalOrders'. -/
def rationalOrdersCard : Claim7 := { stood := { row := rationalOrdersRow, standIns := [], harness := (true, "beb35ecceb74782c93fa588fd61842e919cc20dadde89336c8eee9054c6b8bf9"), looks := false }, kinds := [], alts := [], laidByText := true, laidKinds := [.data, .data, .data], laidTests := true, laidLooks := .later }
def RationalOrdersCardSaid : Prop := Claim7.holds Tryd.pinned (.plain (OpenSpec.ofChange rationalOrdersSpec)) rationalOrdersCard

/-- THE TIED CARD OF 'hemiolalaw01.RationalSums'. -/
def rationalSumsCard : Claim7 := { stood := { row := rationalSumsRow, standIns := [], harness := (true, "beb35ecceb74782c93fa588fd61842e919cc20dadde89336c8eee9054c6b8bf9"), looks := false }, kinds := [], alts := [], laidByText := true, laidKinds := [.data, .data, .data], laidTests := true, laidLooks := .later }
def RationalSumsCardSaid : Prop := Claim7.holds Tryd.pinned (.plain (OpenSpec.ofChange rationalSumsSpec)) rationalSumsCard

/-- THE TIED CARD OF 'hemiolalaw01.RationalBack'. -/
def rationalBackCard : Claim7 := { stood := { row := rationalBackRow, standIns := [], harness := (true, "beb35ecceb74782c93fa588fd61842e919cc20dadde89336c8eee9054c6b8bf9"), looks := false }, kinds := [], alts := [], laidByText := true, laidKinds := [.data, .data, .data], laidTests := true, laidLooks := .later }
def RationalBackCardSaid : Prop := Claim7.holds Tryd.pinned (.plain (OpenSpec.ofChange rationalBackSpec)) rationalBackCard

/-- THE SECOND FORM's CARD OF 'hemiolalaw01.RationalRounds'. -/
def rationalRoundsUptoCard : Claim7 := { stood := { row := rationalRoundsUptoRow, standIns := [], harness := (true, "beb35ecceb74782c93fa588fd61842e919cc20dadde89336c8eee9054c6b8bf9"), looks := false }, kinds := [], alts := [], laidByText := true, laidKinds := [.data, .data, .data], laidTests := true, laidLooks := .later }
def RationalRoundsUptoCardSaid : Prop := Claim7.holds Tryd.pinned (.plain (OpenSpec.upto rationalRoundsSpec)) rationalRoundsUptoCard

/-- THE SECOND FORM's CARD OF 'hemiolalaw01.RationalBest'. -/
def rationalBestUptoCard : Claim7 := { stood := { row := rationalBestUptoRow, standIns := [], harness := (true, "beb35ecceb74782c93fa588fd61842e919cc20dadde89336c8eee9054c6b8bf9"), looks := false }, kinds := [], alts := [], laidByText := true, laidKinds := [.data, .data, .data], laidTests := true, laidLooks := .later }
def RationalBestUptoCardSaid : Prop := Claim7.holds Tryd.pinned (.plain (OpenSpec.upto rationalBestSpec)) rationalBestUptoCard

/-- THE SECOND FORM's CARD OF 'hemiolalaw01.RationalTexts'. -/
def rationalTextsUptoCard : Claim7 := { stood := { row := rationalTextsUptoRow, standIns := [], harness := (true, "beb35ecceb74782c93fa588fd61842e919cc20dadde89336c8eee9054c6b8bf9"), looks := false }, kinds := [], alts := [], laidByText := true, laidKinds := [.data, .data, .data], laidTests := true, laidLooks := .later }
def RationalTextsUptoCardSaid : Prop := Claim7.holds Tryd.pinned (.plain (OpenSpec.upto rationalTextsSpec)) rationalTextsUptoCard

/-- THE SECOND FORM's CARD OF 'hemiolalaw01.RationalParses'. -/
def rationalParsesUptoCard : Claim7 := { stood := { row := rationalParsesUptoRow, standIns := [], harness := (true, "beb35ecceb74782c93fa588fd61842e919cc20dadde89336c8eee9054c6b8bf9"), looks := false }, kinds := [], alts := [], laidByText := true, laidKinds := [.data, .data, .data], laidTests := true, laidLooks := .later }
def RationalParsesUptoCardSaid : Prop := Claim7.holds Tryd.pinned (.plain (OpenSpec.upto rationalParsesSpec)) rationalParsesUptoCard

/-- THE SECOND FORM's CARD OF 'hemiolalaw01.RationalOf'. -/
def rationalOfUptoCard : Claim7 := { stood := { row := rationalOfUptoRow, standIns := [], harness := (true, "beb35ecceb74782c93fa588fd61842e919cc20dadde89336c8eee9054c6b8bf9"), looks := false }, kinds := [], alts := [], laidByText := true, laidKinds := [.data, .data, .data], laidTests := true, laidLooks := .later }
def RationalOfUptoCardSaid : Prop := Claim7.holds Tryd.pinned (.plain (OpenSpec.upto rationalOfSpec)) rationalOfUptoCard

/-- THE SECOND FORM's CARD OF 'hemiolalaw01.RationalField'. -/
def rationalFieldUptoCard : Claim7 := { stood := { row := rationalFieldUptoRow, standIns := [], harness := (true, "beb35ecceb74782c93fa588fd61842e919cc20dadde89336c8eee9054c6b8bf9"), looks := false }, kinds := [], alts := [], laidByText := true, laidKinds := [.data, .data, .data], laidTests := true, laidLooks := .later }
def RationalFieldUptoCardSaid : Prop := Claim7.holds Tryd.pinned (.plain (OpenSpec.upto rationalFieldSpec)) rationalFieldUptoCard

/-- THE SECOND FORM's CARD OF 'hemiolalaw01.RationalArithmetic'. -/
def rationalArithmeticUptoCard : Claim7 := { stood := { row := rationalArithmeticUptoRow, standIns := [], harness := (true, "beb35ecceb74782c93fa588fd61842e919cc20dadde89336c8eee9054c6b8bf9"), looks := false }, kinds := [], alts := [], laidByText := true, laidKinds := [.data, .data, .data], laidTests := true, laidLooks := .later }
def RationalArithmeticUptoCardSaid : Prop := Claim7.holds Tryd.pinned (.plain (OpenSpec.upto rationalArithmeticSpec)) rationalArithmeticUptoCard

/-- THE SECOND FORM's CARD OF 'hemiolalaw01.RationalZero'. -/
def rationalZeroUptoCard : Claim7 := { stood := { row := rationalZeroUptoRow, standIns := [], harness := (true, "beb35ecceb74782c93fa588fd61842e919cc20dadde89336c8eee9054c6b8bf9"), looks := false }, kinds := [], alts := [], laidByText := true, laidKinds := [.data, .data, .data], laidTests := true, laidLooks := .later }
def RationalZeroUptoCardSaid : Prop := Claim7.holds Tryd.pinned (.plain (OpenSpec.upto rationalZeroSpec)) rationalZeroUptoCard

/-- THE SECOND FORM's CARD OF 'hemiolalaw01.RationalOrders'. -/
def rationalOrdersUptoCard : Claim7 := { stood := { row := rationalOrdersUptoRow, standIns := [], harness := (true, "beb35ecceb74782c93fa588fd61842e919cc20dadde89336c8eee9054c6b8bf9"), looks := false }, kinds := [], alts := [], laidByText := true, laidKinds := [.data, .data, .data], laidTests := true, laidLooks := .later }
def RationalOrdersUptoCardSaid : Prop := Claim7.holds Tryd.pinned (.plain (OpenSpec.upto rationalOrdersSpec)) rationalOrdersUptoCard

/-- THE SECOND FORM's CARD OF 'hemiolalaw01.RationalSums'. -/
def rationalSumsUptoCard : Claim7 := { stood := { row := rationalSumsUptoRow, standIns := [], harness := (true, "beb35ecceb74782c93fa588fd61842e919cc20dadde89336c8eee9054c6b8bf9"), looks := false }, kinds := [], alts := [], laidByText := true, laidKinds := [.data, .data, .data], laidTests := true, laidLooks := .later }
def RationalSumsUptoCardSaid : Prop := Claim7.holds Tryd.pinned (.plain (OpenSpec.upto rationalSumsSpec)) rationalSumsUptoCard

/-- THE SECOND FORM's CARD OF 'hemiolalaw01.RationalBack'. -/
def rationalBackUptoCard : Claim7 := { stood := { row := rationalBackUptoRow, standIns := [], harness := (true, "beb35ecceb74782c93fa588fd61842e919cc20dadde89336c8eee9054c6b8bf9"), looks := false }, kinds := [], alts := [], laidByText := true, laidKinds := [.data, .data, .data], laidTests := true, laidLooks := .later }
def RationalBackUptoCardSaid : Prop := Claim7.holds Tryd.pinned (.plain (OpenSpec.upto rationalBackSpec)) rationalBackUptoCard
end Rows
end Go.Proofs.YtfappkhohddcjaaDoor
