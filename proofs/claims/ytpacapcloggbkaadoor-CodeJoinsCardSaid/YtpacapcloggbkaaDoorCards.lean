/-
  DERIVED. GIVEN WITH THE SEED: THE CARDS: each row of YtpacapcloggbkaaDoorRows.lean that lists a variable, with what it lists TIED to the program's text (the seventh form; the later family's looks); each row that meets fmt, with fmt's text TOLD by the authors' own Lean function (tested against real Go, not proved from fmt's source: count such statements apart). THE CARD IS WHAT COUNTS. Prove the row's statement (the work); the ties are given (YtpacapcloggbkaaDoorTie.lean); close each card by the builder's one call (the guide's Derived/Test/ToyasCard.lean, 'card_holds'). Laid BY PROGRAM, IN A SANDBOX (cutbox-door.mjs). By AI agents, Wed Nov 11 2026. No macro, syntax, notation, axiom, sorry.
-/
import Derived.Test.YtpacapcloggbkaaDoorRows
import GoSem.ClaimSeven
namespace Go.Proofs.YtpacapcloggbkaaDoor
namespace Rows

/-- THE TIED CARD OF 'waystationlaw02.CodeEncodes'. -/
def codeEncodesCard : Claim7 := { stood := { row := codeEncodesRow, standIns := [], harness := (true, "0b46acb913cc280bb929dad3172701a1c63762c620bf87b14b221b9c0093479c"), looks := false }, kinds := [], alts := [], laidByText := true, laidKinds := [.data, .pinned], laidTests := true, laidLooks := .later }
def CodeEncodesCardSaid : Prop := Claim7.holds Tryd.pinned (.plain (OpenSpec.ofChange codeEncodesSpec)) codeEncodesCard

/-- THE TIED CARD OF 'waystationlaw02.CodeDecodes'. -/
def codeDecodesCard : Claim7 := { stood := { row := codeDecodesRow, standIns := [], harness := (true, "0b46acb913cc280bb929dad3172701a1c63762c620bf87b14b221b9c0093479c"), looks := false }, kinds := [], alts := [], laidByText := true, laidKinds := [.data, .pinned], laidTests := true, laidLooks := .later }
def CodeDecodesCardSaid : Prop := Claim7.holds Tryd.pinned (.plain (OpenSpec.ofChange codeDecodesSpec)) codeDecodesCard

/-- THE TIED CARD OF 'waystationlaw02.CodeSigns'. -/
def codeSignsCard : Claim7 := { stood := { row := codeSignsRow, standIns := [], harness := (true, "0b46acb913cc280bb929dad3172701a1c63762c620bf87b14b221b9c0093479c"), looks := false }, kinds := [], alts := [], laidByText := true, laidKinds := [.data, .pinned], laidTests := true, laidLooks := .later }
def CodeSignsCardSaid : Prop := Claim7.holds Tryd.pinned (.plain (OpenSpec.ofChange codeSignsSpec)) codeSignsCard

/-- THE TIED CARD OF 'waystationlaw02.CodeBack'. -/
def codeBackCard : Claim7 := { stood := { row := codeBackRow, standIns := [], harness := (true, "0b46acb913cc280bb929dad3172701a1c63762c620bf87b14b221b9c0093479c"), looks := false }, kinds := [], alts := [], laidByText := true, laidKinds := [.data, .pinned], laidTests := true, laidLooks := .later }
def CodeBackCardSaid : Prop := Claim7.holds Tryd.pinned (.plain (OpenSpec.ofChange codeBackSpec)) codeBackCard

/-- THE TIED CARD OF 'waystationlaw02.CodeRising'. -/
def codeRisingCard : Claim7 := { stood := { row := codeRisingRow, standIns := [], harness := (true, "0b46acb913cc280bb929dad3172701a1c63762c620bf87b14b221b9c0093479c"), looks := false }, kinds := [], alts := [], laidByText := true, laidKinds := [.data, .pinned], laidTests := true, laidLooks := .later }
def CodeRisingCardSaid : Prop := Claim7.holds Tryd.pinned (.plain (OpenSpec.ofChange codeRisingSpec)) codeRisingCard

/-- THE TIED CARD OF 'waystationlaw02.CodeSizes'. -/
def codeSizesCard : Claim7 := { stood := { row := codeSizesRow, standIns := [], harness := (true, "0b46acb913cc280bb929dad3172701a1c63762c620bf87b14b221b9c0093479c"), looks := false }, kinds := [], alts := [], laidByText := true, laidKinds := [.data, .pinned], laidTests := true, laidLooks := .later }
def CodeSizesCardSaid : Prop := Claim7.holds Tryd.pinned (.plain (OpenSpec.ofChange codeSizesSpec)) codeSizesCard

/-- THE TIED CARD OF 'waystationlaw02.CodeJoins'. -/
def codeJoinsCard : Claim7 := { stood := { row := codeJoinsRow, standIns := [], harness := (true, "0b46acb913cc280bb929dad3172701a1c63762c620bf87b14b221b9c0093479c"), looks := false }, kinds := [], alts := [], laidByText := true, laidKinds := [.data, .pinned], laidTests := true, laidLooks := .later }
def CodeJoinsCardSaid : Prop := Claim7.holds Tryd.pinned (.plain (OpenSpec.ofChange codeJoinsSpec)) codeJoinsCard

/-- THE SECOND FORM's CARD OF 'waystationlaw02.CodeEncodes'. -/
def codeEncodesUptoCard : Claim7 := { stood := { row := codeEncodesUptoRow, standIns := [], harness := (true, "0b46acb913cc280bb929dad3172701a1c63762c620bf87b14b221b9c0093479c"), looks := false }, kinds := [], alts := [], laidByText := true, laidKinds := [.data, .pinned], laidTests := true, laidLooks := .later }
def CodeEncodesUptoCardSaid : Prop := Claim7.holds Tryd.pinned (.plain (OpenSpec.upto codeEncodesSpec)) codeEncodesUptoCard

/-- THE SECOND FORM's CARD OF 'waystationlaw02.CodeDecodes'. -/
def codeDecodesUptoCard : Claim7 := { stood := { row := codeDecodesUptoRow, standIns := [], harness := (true, "0b46acb913cc280bb929dad3172701a1c63762c620bf87b14b221b9c0093479c"), looks := false }, kinds := [], alts := [], laidByText := true, laidKinds := [.data, .pinned], laidTests := true, laidLooks := .later }
def CodeDecodesUptoCardSaid : Prop := Claim7.holds Tryd.pinned (.plain (OpenSpec.upto codeDecodesSpec)) codeDecodesUptoCard

/-- THE SECOND FORM's CARD OF 'waystationlaw02.CodeSigns'. -/
def codeSignsUptoCard : Claim7 := { stood := { row := codeSignsUptoRow, standIns := [], harness := (true, "0b46acb913cc280bb929dad3172701a1c63762c620bf87b14b221b9c0093479c"), looks := false }, kinds := [], alts := [], laidByText := true, laidKinds := [.data, .pinned], laidTests := true, laidLooks := .later }
def CodeSignsUptoCardSaid : Prop := Claim7.holds Tryd.pinned (.plain (OpenSpec.upto codeSignsSpec)) codeSignsUptoCard

/-- THE SECOND FORM's CARD OF 'waystationlaw02.CodeBack'. -/
def codeBackUptoCard : Claim7 := { stood := { row := codeBackUptoRow, standIns := [], harness := (true, "0b46acb913cc280bb929dad3172701a1c63762c620bf87b14b221b9c0093479c"), looks := false }, kinds := [], alts := [], laidByText := true, laidKinds := [.data, .pinned], laidTests := true, laidLooks := .later }
def CodeBackUptoCardSaid : Prop := Claim7.holds Tryd.pinned (.plain (OpenSpec.upto codeBackSpec)) codeBackUptoCard

/-- THE SECOND FORM's CARD OF 'waystationlaw02.CodeRising'. -/
def codeRisingUptoCard : Claim7 := { stood := { row := codeRisingUptoRow, standIns := [], harness := (true, "0b46acb913cc280bb929dad3172701a1c63762c620bf87b14b221b9c0093479c"), looks := false }, kinds := [], alts := [], laidByText := true, laidKinds := [.data, .pinned], laidTests := true, laidLooks := .later }
def CodeRisingUptoCardSaid : Prop := Claim7.holds Tryd.pinned (.plain (OpenSpec.upto codeRisingSpec)) codeRisingUptoCard

/-- THE SECOND FORM's CARD OF 'waystationlaw02.CodeSizes'. -/
def codeSizesUptoCard : Claim7 := { stood := { row := codeSizesUptoRow, standIns := [], harness := (true, "0b46acb913cc280bb929dad3172701a1c63762c620bf87b14b221b9c0093479c"), looks := false }, kinds := [], alts := [], laidByText := true, laidKinds := [.data, .pinned], laidTests := true, laidLooks := .later }
def CodeSizesUptoCardSaid : Prop := Claim7.holds Tryd.pinned (.plain (OpenSpec.upto codeSizesSpec)) codeSizesUptoCard

/-- THE SECOND FORM's CARD OF 'waystationlaw02.CodeJoins'. -/
def codeJoinsUptoCard : Claim7 := { stood := { row := codeJoinsUptoRow, standIns := [], harness := (true, "0b46acb913cc280bb929dad3172701a1c63762c620bf87b14b221b9c0093479c"), looks := false }, kinds := [], alts := [], laidByText := true, laidKinds := [.data, .pinned], laidTests := true, laidLooks := .later }
def CodeJoinsUptoCardSaid : Prop := Claim7.holds Tryd.pinned (.plain (OpenSpec.upto codeJoinsSpec)) codeJoinsUptoCard
end Rows
end Go.Proofs.YtpacapcloggbkaaDoor
