/-
  DERIVED. GIVEN WITH THE SEED: THE CARDS: each row of YtajnaiofagppeaaDoorRows.lean that lists a variable, with what it lists TIED to the program's text (the seventh form; the later family's looks); each row that meets fmt, with fmt's text TOLD by the authors' own Lean function (tested against real Go, not proved from fmt's source: count such statements apart). THE CARD IS WHAT COUNTS. Prove the row's statement (the work); the ties are given (YtajnaiofagppeaaDoorTie.lean); close each card by the builder's one call (the guide's Derived/Test/ToyasCard.lean, 'card_holds'). Laid BY PROGRAM, IN A SANDBOX (cutbox-door.mjs). By AI agents, Wed Nov 11 2026. No macro, syntax, notation, axiom, sorry.
-/
import Derived.Test.YtajnaiofagppeaaDoorRows
import GoSem.ClaimSeven
namespace Go.Proofs.YtajnaiofagppeaaDoor
namespace Rows

/-- THE TIED CARD OF 'waystationlaw19.AgentPacks'. -/
def agentPacksCard : Claim7 := { stood := { row := agentPacksRow, standIns := [], harness := (true, "aa3b384e2ba366b5ededd29170ec64b6309f79ebe4cb7f188b126ad45decd8e4"), looks := false }, kinds := [], alts := [], laidByText := true, laidKinds := [.data, .pinned], laidTests := true, laidLooks := .later }
def AgentPacksCardSaid : Prop := Claim7.holds Tryd.pinned (.plain (OpenSpec.ofChange agentPacksSpec)) agentPacksCard

/-- THE TIED CARD OF 'waystationlaw19.AgentShips'. -/
def agentShipsCard : Claim7 := { stood := { row := agentShipsRow, standIns := [], harness := (true, "aa3b384e2ba366b5ededd29170ec64b6309f79ebe4cb7f188b126ad45decd8e4"), looks := false }, kinds := [], alts := [], laidByText := true, laidKinds := [.data, .pinned], laidTests := true, laidLooks := .later }
def AgentShipsCardSaid : Prop := Claim7.holds Tryd.pinned (.plain (OpenSpec.ofChange agentShipsSpec)) agentShipsCard

/-- THE TIED CARD OF 'waystationlaw19.AgentFirst'. -/
def agentFirstCard : Claim7 := { stood := { row := agentFirstRow, standIns := [], harness := (true, "aa3b384e2ba366b5ededd29170ec64b6309f79ebe4cb7f188b126ad45decd8e4"), looks := false }, kinds := [], alts := [], laidByText := true, laidKinds := [.data, .pinned], laidTests := true, laidLooks := .later }
def AgentFirstCardSaid : Prop := Claim7.holds Tryd.pinned (.plain (OpenSpec.ofChange agentFirstSpec)) agentFirstCard

/-- THE TIED CARD OF 'waystationlaw19.AgentAny'. -/
def agentAnyCard : Claim7 := { stood := { row := agentAnyRow, standIns := [], harness := (true, "aa3b384e2ba366b5ededd29170ec64b6309f79ebe4cb7f188b126ad45decd8e4"), looks := false }, kinds := [], alts := [], laidByText := true, laidKinds := [.data, .pinned], laidTests := true, laidLooks := .later }
def AgentAnyCardSaid : Prop := Claim7.holds Tryd.pinned (.plain (OpenSpec.ofChange agentAnySpec)) agentAnyCard

/-- THE TIED CARD OF 'waystationlaw19.AgentAlone'. -/
def agentAloneCard : Claim7 := { stood := { row := agentAloneRow, standIns := [], harness := (true, "aa3b384e2ba366b5ededd29170ec64b6309f79ebe4cb7f188b126ad45decd8e4"), looks := false }, kinds := [], alts := [], laidByText := true, laidKinds := [.data, .pinned], laidTests := true, laidLooks := .later }
def AgentAloneCardSaid : Prop := Claim7.holds Tryd.pinned (.plain (OpenSpec.ofChange agentAloneSpec)) agentAloneCard

/-- THE TIED CARD OF 'waystationlaw19.AgentKept'. -/
def agentKeptCard : Claim7 := { stood := { row := agentKeptRow, standIns := [], harness := (true, "aa3b384e2ba366b5ededd29170ec64b6309f79ebe4cb7f188b126ad45decd8e4"), looks := false }, kinds := [], alts := [], laidByText := true, laidKinds := [.data, .pinned], laidTests := true, laidLooks := .later }
def AgentKeptCardSaid : Prop := Claim7.holds Tryd.pinned (.plain (OpenSpec.ofChange agentKeptSpec)) agentKeptCard

/-- THE SECOND FORM's CARD OF 'waystationlaw19.AgentPacks'. -/
def agentPacksUptoCard : Claim7 := { stood := { row := agentPacksUptoRow, standIns := [], harness := (true, "aa3b384e2ba366b5ededd29170ec64b6309f79ebe4cb7f188b126ad45decd8e4"), looks := false }, kinds := [], alts := [], laidByText := true, laidKinds := [.data, .pinned], laidTests := true, laidLooks := .later }
def AgentPacksUptoCardSaid : Prop := Claim7.holds Tryd.pinned (.plain (OpenSpec.upto agentPacksSpec)) agentPacksUptoCard

/-- THE SECOND FORM's CARD OF 'waystationlaw19.AgentShips'. -/
def agentShipsUptoCard : Claim7 := { stood := { row := agentShipsUptoRow, standIns := [], harness := (true, "aa3b384e2ba366b5ededd29170ec64b6309f79ebe4cb7f188b126ad45decd8e4"), looks := false }, kinds := [], alts := [], laidByText := true, laidKinds := [.data, .pinned], laidTests := true, laidLooks := .later }
def AgentShipsUptoCardSaid : Prop := Claim7.holds Tryd.pinned (.plain (OpenSpec.upto agentShipsSpec)) agentShipsUptoCard

/-- THE SECOND FORM's CARD OF 'waystationlaw19.AgentFirst'. -/
def agentFirstUptoCard : Claim7 := { stood := { row := agentFirstUptoRow, standIns := [], harness := (true, "aa3b384e2ba366b5ededd29170ec64b6309f79ebe4cb7f188b126ad45decd8e4"), looks := false }, kinds := [], alts := [], laidByText := true, laidKinds := [.data, .pinned], laidTests := true, laidLooks := .later }
def AgentFirstUptoCardSaid : Prop := Claim7.holds Tryd.pinned (.plain (OpenSpec.upto agentFirstSpec)) agentFirstUptoCard

/-- THE SECOND FORM's CARD OF 'waystationlaw19.AgentAny'. -/
def agentAnyUptoCard : Claim7 := { stood := { row := agentAnyUptoRow, standIns := [], harness := (true, "aa3b384e2ba366b5ededd29170ec64b6309f79ebe4cb7f188b126ad45decd8e4"), looks := false }, kinds := [], alts := [], laidByText := true, laidKinds := [.data, .pinned], laidTests := true, laidLooks := .later }
def AgentAnyUptoCardSaid : Prop := Claim7.holds Tryd.pinned (.plain (OpenSpec.upto agentAnySpec)) agentAnyUptoCard

/-- THE SECOND FORM's CARD OF 'waystationlaw19.AgentAlone'. -/
def agentAloneUptoCard : Claim7 := { stood := { row := agentAloneUptoRow, standIns := [], harness := (true, "aa3b384e2ba366b5ededd29170ec64b6309f79ebe4cb7f188b126ad45decd8e4"), looks := false }, kinds := [], alts := [], laidByText := true, laidKinds := [.data, .pinned], laidTests := true, laidLooks := .later }
def AgentAloneUptoCardSaid : Prop := Claim7.holds Tryd.pinned (.plain (OpenSpec.upto agentAloneSpec)) agentAloneUptoCard

/-- THE SECOND FORM's CARD OF 'waystationlaw19.AgentKept'. -/
def agentKeptUptoCard : Claim7 := { stood := { row := agentKeptUptoRow, standIns := [], harness := (true, "aa3b384e2ba366b5ededd29170ec64b6309f79ebe4cb7f188b126ad45decd8e4"), looks := false }, kinds := [], alts := [], laidByText := true, laidKinds := [.data, .pinned], laidTests := true, laidLooks := .later }
def AgentKeptUptoCardSaid : Prop := Claim7.holds Tryd.pinned (.plain (OpenSpec.upto agentKeptSpec)) agentKeptUptoCard
end Rows
end Go.Proofs.YtajnaiofagppeaaDoor
