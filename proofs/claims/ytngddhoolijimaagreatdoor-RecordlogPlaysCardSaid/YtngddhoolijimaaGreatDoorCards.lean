/-
  DERIVED. GIVEN WITH THE SEED: THE CARDS: each row of YtngddhoolijimaaGreatDoorRows.lean that lists a variable, with what it lists TIED to the program's text (the seventh form; the later family's looks); each row that meets fmt, with fmt's text TOLD by the authors' own Lean function (tested against real Go, not proved from fmt's source: count such statements apart). THE CARD IS WHAT COUNTS. Prove the row's statement (the work); the ties are given (YtngddhoolijimaaGreatDoorTie.lean); close each card by the builder's one call (the guide's Derived/Test/ToyasCard.lean, 'card_holds'). Laid BY PROGRAM, IN A SANDBOX (cutbox-door.mjs). By AI agents, Wed Nov 11 2026. No macro, syntax, notation, axiom, sorry.
-/
import Derived.Test.YtngddhoolijimaaGreatDoorRows
import GoSem.ClaimSeven
namespace Go.Proofs.YtngddhoolijimaaGreatDoor
namespace Rows

/-- THE TIED CARD OF 'annalistlaw37.RecordlogPlays'. -/
def recordlogPlaysCard : Claim7 := { stood := { row := recordlogPlaysRow, standIns := [], harness := (true, "6520af6fd4f00734b9cc8abe425f93319f452c8e58b2bb031659e1eb9b6eb664"), looks := false }, kinds := [], alts := [], laidByText := true, laidKinds := [.data, .pinned], laidTests := true, laidLooks := .later }
def RecordlogPlaysCardSaid : Prop := Claim7.holds Tryz.pinned (.plain (OpenSpec.ofChange recordlogPlaysSpec)) recordlogPlaysCard

/-- THE SECOND FORM's CARD OF 'annalistlaw37.RecordlogPlays'. -/
def recordlogPlaysUptoCard : Claim7 := { stood := { row := recordlogPlaysUptoRow, standIns := [], harness := (true, "6520af6fd4f00734b9cc8abe425f93319f452c8e58b2bb031659e1eb9b6eb664"), looks := false }, kinds := [], alts := [], laidByText := true, laidKinds := [.data, .pinned], laidTests := true, laidLooks := .later }
def RecordlogPlaysUptoCardSaid : Prop := Claim7.holds Tryz.pinned (.plain (OpenSpec.upto recordlogPlaysSpec)) recordlogPlaysUptoCard
end Rows
end Go.Proofs.YtngddhoolijimaaGreatDoor
