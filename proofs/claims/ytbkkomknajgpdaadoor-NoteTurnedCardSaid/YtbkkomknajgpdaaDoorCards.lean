/-
  DERIVED. GIVEN WITH THE SEED: THE CARDS: each row of YtbkkomknajgpdaaDoorRows.lean that lists a variable, with what it lists TIED to the program's text (the seventh form; the later family's looks); each row that meets fmt, with fmt's text TOLD by the authors' own Lean function (tested against real Go, not proved from fmt's source: count such statements apart). THE CARD IS WHAT COUNTS. Prove the row's statement (the work); the ties are given (YtbkkomknajgpdaaDoorTie.lean); close each card by the builder's one call (the guide's Derived/Test/ToyasCard.lean, 'card_holds'). Laid BY PROGRAM, IN A SANDBOX (cutbox-door.mjs). By AI agents, Wed Nov 11 2026. No macro, syntax, notation, axiom, sorry.
-/
import Derived.Test.YtbkkomknajgpdaaDoorRows
import GoSem.ClaimSeven
namespace Go.Proofs.YtbkkomknajgpdaaDoor
namespace Rows

/-- THE TIED CARD OF 'waystationlaw17.NoteBytes'. -/
def noteBytesCard : Claim7 := { stood := { row := noteBytesRow, standIns := [], harness := (true, "abdcfb98a9f789ee155fe4a91a936ef9a2d62eaae9ae35d732a5cc9db8d23094"), looks := false }, kinds := [], alts := [], laidByText := true, laidKinds := [.data, .pinned], laidTests := true, laidLooks := .later }
def NoteBytesCardSaid : Prop := Claim7.holds Tryd.pinned (.plain (OpenSpec.ofChange noteBytesSpec)) noteBytesCard

/-- THE TIED CARD OF 'waystationlaw17.NoteBack'. -/
def noteBackCard : Claim7 := { stood := { row := noteBackRow, standIns := [], harness := (true, "abdcfb98a9f789ee155fe4a91a936ef9a2d62eaae9ae35d732a5cc9db8d23094"), looks := false }, kinds := [], alts := [], laidByText := true, laidKinds := [.data, .pinned], laidTests := true, laidLooks := .later }
def NoteBackCardSaid : Prop := Claim7.holds Tryd.pinned (.plain (OpenSpec.ofChange noteBackSpec)) noteBackCard

/-- THE TIED CARD OF 'waystationlaw17.NoteTurned'. -/
def noteTurnedCard : Claim7 := { stood := { row := noteTurnedRow, standIns := [], harness := (true, "abdcfb98a9f789ee155fe4a91a936ef9a2d62eaae9ae35d732a5cc9db8d23094"), looks := false }, kinds := [], alts := [], laidByText := true, laidKinds := [.data, .pinned], laidTests := true, laidLooks := .later }
def NoteTurnedCardSaid : Prop := Claim7.holds Tryd.pinned (.plain (OpenSpec.ofChange noteTurnedSpec)) noteTurnedCard

/-- THE TIED CARD OF 'waystationlaw17.NoteKinds'. -/
def noteKindsCard : Claim7 := { stood := { row := noteKindsRow, standIns := [], harness := (true, "abdcfb98a9f789ee155fe4a91a936ef9a2d62eaae9ae35d732a5cc9db8d23094"), looks := false }, kinds := [], alts := [], laidByText := true, laidKinds := [.data, .pinned], laidTests := true, laidLooks := .later }
def NoteKindsCardSaid : Prop := Claim7.holds Tryd.pinned (.plain (OpenSpec.ofChange noteKindsSpec)) noteKindsCard

/-- THE TIED CARD OF 'waystationlaw17.NoteHands'. -/
def noteHandsCard : Claim7 := { stood := { row := noteHandsRow, standIns := [], harness := (true, "abdcfb98a9f789ee155fe4a91a936ef9a2d62eaae9ae35d732a5cc9db8d23094"), looks := false }, kinds := [], alts := [], laidByText := true, laidKinds := [.data, .pinned], laidTests := true, laidLooks := .later }
def NoteHandsCardSaid : Prop := Claim7.holds Tryd.pinned (.plain (OpenSpec.ofChange noteHandsSpec)) noteHandsCard

/-- THE SECOND FORM's CARD OF 'waystationlaw17.NoteBytes'. -/
def noteBytesUptoCard : Claim7 := { stood := { row := noteBytesUptoRow, standIns := [], harness := (true, "abdcfb98a9f789ee155fe4a91a936ef9a2d62eaae9ae35d732a5cc9db8d23094"), looks := false }, kinds := [], alts := [], laidByText := true, laidKinds := [.data, .pinned], laidTests := true, laidLooks := .later }
def NoteBytesUptoCardSaid : Prop := Claim7.holds Tryd.pinned (.plain (OpenSpec.upto noteBytesSpec)) noteBytesUptoCard

/-- THE SECOND FORM's CARD OF 'waystationlaw17.NoteBack'. -/
def noteBackUptoCard : Claim7 := { stood := { row := noteBackUptoRow, standIns := [], harness := (true, "abdcfb98a9f789ee155fe4a91a936ef9a2d62eaae9ae35d732a5cc9db8d23094"), looks := false }, kinds := [], alts := [], laidByText := true, laidKinds := [.data, .pinned], laidTests := true, laidLooks := .later }
def NoteBackUptoCardSaid : Prop := Claim7.holds Tryd.pinned (.plain (OpenSpec.upto noteBackSpec)) noteBackUptoCard

/-- THE SECOND FORM's CARD OF 'waystationlaw17.NoteTurned'. -/
def noteTurnedUptoCard : Claim7 := { stood := { row := noteTurnedUptoRow, standIns := [], harness := (true, "abdcfb98a9f789ee155fe4a91a936ef9a2d62eaae9ae35d732a5cc9db8d23094"), looks := false }, kinds := [], alts := [], laidByText := true, laidKinds := [.data, .pinned], laidTests := true, laidLooks := .later }
def NoteTurnedUptoCardSaid : Prop := Claim7.holds Tryd.pinned (.plain (OpenSpec.upto noteTurnedSpec)) noteTurnedUptoCard

/-- THE SECOND FORM's CARD OF 'waystationlaw17.NoteKinds'. -/
def noteKindsUptoCard : Claim7 := { stood := { row := noteKindsUptoRow, standIns := [], harness := (true, "abdcfb98a9f789ee155fe4a91a936ef9a2d62eaae9ae35d732a5cc9db8d23094"), looks := false }, kinds := [], alts := [], laidByText := true, laidKinds := [.data, .pinned], laidTests := true, laidLooks := .later }
def NoteKindsUptoCardSaid : Prop := Claim7.holds Tryd.pinned (.plain (OpenSpec.upto noteKindsSpec)) noteKindsUptoCard

/-- THE SECOND FORM's CARD OF 'waystationlaw17.NoteHands'. -/
def noteHandsUptoCard : Claim7 := { stood := { row := noteHandsUptoRow, standIns := [], harness := (true, "abdcfb98a9f789ee155fe4a91a936ef9a2d62eaae9ae35d732a5cc9db8d23094"), looks := false }, kinds := [], alts := [], laidByText := true, laidKinds := [.data, .pinned], laidTests := true, laidLooks := .later }
def NoteHandsUptoCardSaid : Prop := Claim7.holds Tryd.pinned (.plain (OpenSpec.upto noteHandsSpec)) noteHandsUptoCard
end Rows
end Go.Proofs.YtbkkomknajgpdaaDoor
