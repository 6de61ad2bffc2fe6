/-
  DERIVED. GIVEN WITH THE SEED: THE CARDS: each row of YtebdjaagdfbbgaaDoorRows.lean that lists a variable, with what it lists TIED to the program's text (the seventh form; the later family's looks); each row that meets fmt, with fmt's text TOLD by the authors' own Lean function (tested against real Go, not proved from fmt's source: count such statements apart). THE CARD IS WHAT COUNTS. Prove the row's statement (the work); the ties are given (YtebdjaagdfbbgaaDoorTie.lean); close each card by the builder's one call (the guide's Derived/Test/ToyasCard.lean, 'card_holds'). Laid BY PROGRAM, IN A SANDBOX (cutbox-door.mjs). By AI agents, Wed Nov 11 2026. No macro, syntax, notation, axiom, sorry.
-/
import Derived.Test.YtebdjaagdfbbgaaDoorRows
import GoSem.ClaimSeven
namespace Go.Proofs.YtebdjaagdfbbgaaDoor
namespace Rows

/-- THE TIED CARD OF 'waystationlaw11.LeaseBytes'. -/
def leaseBytesCard : Claim7 := { stood := { row := leaseBytesRow, standIns := [], harness := (true, "500b9481f0e170ed2a72c89f7592eaf6cf60a77abedb9a93709e20cbfba30d12"), looks := false }, kinds := [], alts := [], laidByText := true, laidKinds := [.data, .pinned], laidTests := true, laidLooks := .later }
def LeaseBytesCardSaid : Prop := Claim7.holds Tryd.pinned (.plain (OpenSpec.ofChange leaseBytesSpec)) leaseBytesCard

/-- THE SECOND FORM's CARD OF 'waystationlaw11.LeaseBytes'. -/
def leaseBytesUptoCard : Claim7 := { stood := { row := leaseBytesUptoRow, standIns := [], harness := (true, "500b9481f0e170ed2a72c89f7592eaf6cf60a77abedb9a93709e20cbfba30d12"), looks := false }, kinds := [], alts := [], laidByText := true, laidKinds := [.data, .pinned], laidTests := true, laidLooks := .later }
def LeaseBytesUptoCardSaid : Prop := Claim7.holds Tryd.pinned (.plain (OpenSpec.upto leaseBytesSpec)) leaseBytesUptoCard
end Rows
end Go.Proofs.YtebdjaagdfbbgaaDoor
