/-
  DERIVED. GIVEN WITH THE SEED: THE CARDS: each row of YtngddhoolijimaaDoorRows.lean that lists a variable, with what it lists TIED to the program's text (the seventh form; the later family's looks); each row that meets fmt, with fmt's text TOLD by the authors' own Lean function (tested against real Go, not proved from fmt's source: count such statements apart). THE CARD IS WHAT COUNTS. Prove the row's statement (the work); the ties are given (YtngddhoolijimaaDoorTie.lean); close each card by the builder's one call (the guide's Derived/Test/ToyasCard.lean, 'card_holds'). Laid BY PROGRAM, IN A SANDBOX (cutbox-door.mjs). By AI agents, Wed Nov 11 2026. No macro, syntax, notation, axiom, sorry.
-/
import Derived.Test.YtngddhoolijimaaDoorRows
import GoSem.ClaimSeven
namespace Go.Proofs.YtngddhoolijimaaDoor
namespace Rows

/-- THE TIED CARD OF 'annalistlaw36.PagefileCapacity'. -/
def pagefileCapacityCard : Claim7 := { stood := { row := pagefileCapacityRow, standIns := [], harness := (true, "85840607ef5f3906f005029c1922881af73b75f4a980d05c6f1a91f62ced5eee"), looks := false }, kinds := [], alts := [], laidByText := true, laidKinds := [.data, .pinned], laidTests := true, laidLooks := .later }
def PagefileCapacityCardSaid : Prop := Claim7.holds Tryd.pinned (.plain (OpenSpec.ofChange pagefileCapacitySpec)) pagefileCapacityCard

/-- THE TIED CARD OF 'annalistlaw36.PagefileErrors'. -/
def pagefileErrorsCard : Claim7 := { stood := { row := pagefileErrorsRow, standIns := [], harness := (true, "85840607ef5f3906f005029c1922881af73b75f4a980d05c6f1a91f62ced5eee"), looks := false }, kinds := [], alts := [], laidByText := true, laidKinds := [.data, .pinned], laidTests := true, laidLooks := .later }
def PagefileErrorsCardSaid : Prop := Claim7.holds Tryd.pinned (.plain (OpenSpec.ofChange pagefileErrorsSpec)) pagefileErrorsCard

/-- THE TIED CARD OF 'annalistlaw36.PagefilePlays'. -/
def pagefilePlaysCard : Claim7 := { stood := { row := pagefilePlaysRow, standIns := [], harness := (true, "85840607ef5f3906f005029c1922881af73b75f4a980d05c6f1a91f62ced5eee"), looks := false }, kinds := [], alts := [], laidByText := true, laidKinds := [.data, .pinned], laidTests := true, laidLooks := .later }
def PagefilePlaysCardSaid : Prop := Claim7.holds Tryd.pinned (.plain (OpenSpec.ofChange pagefilePlaysSpec)) pagefilePlaysCard

/-- THE TIED CARD OF 'annalistlaw36.PagefileAtomic'. -/
def pagefileAtomicCard : Claim7 := { stood := { row := pagefileAtomicRow, standIns := [], harness := (true, "85840607ef5f3906f005029c1922881af73b75f4a980d05c6f1a91f62ced5eee"), looks := false }, kinds := [], alts := [], laidByText := true, laidKinds := [.data, .pinned], laidTests := true, laidLooks := .later }
def PagefileAtomicCardSaid : Prop := Claim7.holds Tryd.pinned (.plain (OpenSpec.ofChange pagefileAtomicSpec)) pagefileAtomicCard

/-- THE TIED CARD OF 'annalistlaw36.PagefileErases'. -/
def pagefileErasesCard : Claim7 := { stood := { row := pagefileErasesRow, standIns := [], harness := (true, "85840607ef5f3906f005029c1922881af73b75f4a980d05c6f1a91f62ced5eee"), looks := false }, kinds := [], alts := [], laidByText := true, laidKinds := [.data, .pinned], laidTests := true, laidLooks := .later }
def PagefileErasesCardSaid : Prop := Claim7.holds Tryd.pinned (.plain (OpenSpec.ofChange pagefileErasesSpec)) pagefileErasesCard

/-- THE TIED CARD OF 'annalistlaw37.RecordlogChecksum'. -/
def recordlogChecksumCard : Claim7 := { stood := { row := recordlogChecksumRow, standIns := [], harness := (true, "85840607ef5f3906f005029c1922881af73b75f4a980d05c6f1a91f62ced5eee"), looks := false }, kinds := [], alts := [], laidByText := true, laidKinds := [.data, .pinned], laidTests := true, laidLooks := .later }
def RecordlogChecksumCardSaid : Prop := Claim7.holds Tryd.pinned (.plain (OpenSpec.ofChange recordlogChecksumSpec)) recordlogChecksumCard

/-- THE TIED CARD OF 'annalistlaw37.RecordlogEncodes'. -/
def recordlogEncodesCard : Claim7 := { stood := { row := recordlogEncodesRow, standIns := [], harness := (true, "85840607ef5f3906f005029c1922881af73b75f4a980d05c6f1a91f62ced5eee"), looks := false }, kinds := [], alts := [], laidByText := true, laidKinds := [.data, .pinned], laidTests := true, laidLooks := .later }
def RecordlogEncodesCardSaid : Prop := Claim7.holds Tryd.pinned (.plain (OpenSpec.ofChange recordlogEncodesSpec)) recordlogEncodesCard

/-- THE TIED CARD OF 'annalistlaw37.RecordlogDecodes'. -/
def recordlogDecodesCard : Claim7 := { stood := { row := recordlogDecodesRow, standIns := [], harness := (true, "85840607ef5f3906f005029c1922881af73b75f4a980d05c6f1a91f62ced5eee"), looks := false }, kinds := [], alts := [], laidByText := true, laidKinds := [.data, .pinned], laidTests := true, laidLooks := .later }
def RecordlogDecodesCardSaid : Prop := Claim7.holds Tryd.pinned (.plain (OpenSpec.ofChange recordlogDecodesSpec)) recordlogDecodesCard

/-- THE TIED CARD OF 'annalistlaw37.RecordlogDamaged'. -/
def recordlogDamagedCard : Claim7 := { stood := { row := recordlogDamagedRow, standIns := [], harness := (true, "85840607ef5f3906f005029c1922881af73b75f4a980d05c6f1a91f62ced5eee"), looks := false }, kinds := [], alts := [], laidByText := true, laidKinds := [.data, .pinned], laidTests := true, laidLooks := .later }
def RecordlogDamagedCardSaid : Prop := Claim7.holds Tryd.pinned (.plain (OpenSpec.ofChange recordlogDamagedSpec)) recordlogDamagedCard

/-- THE TIED CARD OF 'annalistlaw37.RecordlogForeign'. -/
def recordlogForeignCard : Claim7 := { stood := { row := recordlogForeignRow, standIns := [], harness := (true, "85840607ef5f3906f005029c1922881af73b75f4a980d05c6f1a91f62ced5eee"), looks := false }, kinds := [], alts := [], laidByText := true, laidKinds := [.data, .pinned], laidTests := true, laidLooks := .later }
def RecordlogForeignCardSaid : Prop := Claim7.holds Tryd.pinned (.plain (OpenSpec.ofChange recordlogForeignSpec)) recordlogForeignCard

/-- THE TIED CARD OF 'annalistlaw37.RecordlogErrors'. -/
def recordlogErrorsCard : Claim7 := { stood := { row := recordlogErrorsRow, standIns := [], harness := (true, "85840607ef5f3906f005029c1922881af73b75f4a980d05c6f1a91f62ced5eee"), looks := false }, kinds := [], alts := [], laidByText := true, laidKinds := [.data, .pinned], laidTests := true, laidLooks := .later }
def RecordlogErrorsCardSaid : Prop := Claim7.holds Tryd.pinned (.plain (OpenSpec.ofChange recordlogErrorsSpec)) recordlogErrorsCard

/-- THE SECOND FORM's CARD OF 'annalistlaw36.PagefileCapacity'. -/
def pagefileCapacityUptoCard : Claim7 := { stood := { row := pagefileCapacityUptoRow, standIns := [], harness := (true, "85840607ef5f3906f005029c1922881af73b75f4a980d05c6f1a91f62ced5eee"), looks := false }, kinds := [], alts := [], laidByText := true, laidKinds := [.data, .pinned], laidTests := true, laidLooks := .later }
def PagefileCapacityUptoCardSaid : Prop := Claim7.holds Tryd.pinned (.plain (OpenSpec.upto pagefileCapacitySpec)) pagefileCapacityUptoCard

/-- THE SECOND FORM's CARD OF 'annalistlaw36.PagefileErrors'. -/
def pagefileErrorsUptoCard : Claim7 := { stood := { row := pagefileErrorsUptoRow, standIns := [], harness := (true, "85840607ef5f3906f005029c1922881af73b75f4a980d05c6f1a91f62ced5eee"), looks := false }, kinds := [], alts := [], laidByText := true, laidKinds := [.data, .pinned], laidTests := true, laidLooks := .later }
def PagefileErrorsUptoCardSaid : Prop := Claim7.holds Tryd.pinned (.plain (OpenSpec.upto pagefileErrorsSpec)) pagefileErrorsUptoCard

/-- THE SECOND FORM's CARD OF 'annalistlaw36.PagefilePlays'. -/
def pagefilePlaysUptoCard : Claim7 := { stood := { row := pagefilePlaysUptoRow, standIns := [], harness := (true, "85840607ef5f3906f005029c1922881af73b75f4a980d05c6f1a91f62ced5eee"), looks := false }, kinds := [], alts := [], laidByText := true, laidKinds := [.data, .pinned], laidTests := true, laidLooks := .later }
def PagefilePlaysUptoCardSaid : Prop := Claim7.holds Tryd.pinned (.plain (OpenSpec.upto pagefilePlaysSpec)) pagefilePlaysUptoCard

/-- THE SECOND FORM's CARD OF 'annalistlaw36.PagefileAtomic'. -/
def pagefileAtomicUptoCard : Claim7 := { stood := { row := pagefileAtomicUptoRow, standIns := [], harness := (true, "85840607ef5f3906f005029c1922881af73b75f4a980d05c6f1a91f62ced5eee"), looks := false }, kinds := [], alts := [], laidByText := true, laidKinds := [.data, .pinned], laidTests := true, laidLooks := .later }
def PagefileAtomicUptoCardSaid : Prop := Claim7.holds Tryd.pinned (.plain (OpenSpec.upto pagefileAtomicSpec)) pagefileAtomicUptoCard

/-- THE SECOND FORM's CARD OF 'annalistlaw36.PagefileErases'. -/
def pagefileErasesUptoCard : Claim7 := { stood := { row := pagefileErasesUptoRow, standIns := [], harness := (true, "85840607ef5f3906f005029c1922881af73b75f4a980d05c6f1a91f62ced5eee"), looks := false }, kinds := [], alts := [], laidByText := true, laidKinds := [.data, .pinned], laidTests := true, laidLooks := .later }
def PagefileErasesUptoCardSaid : Prop := Claim7.holds Tryd.pinned (.plain (OpenSpec.upto pagefileErasesSpec)) pagefileErasesUptoCard

/-- THE SECOND FORM's CARD OF 'annalistlaw37.RecordlogChecksum'. -/
def recordlogChecksumUptoCard : Claim7 := { stood := { row := recordlogChecksumUptoRow, standIns := [], harness := (true, "85840607ef5f3906f005029c1922881af73b75f4a980d05c6f1a91f62ced5eee"), looks := false }, kinds := [], alts := [], laidByText := true, laidKinds := [.data, .pinned], laidTests := true, laidLooks := .later }
def RecordlogChecksumUptoCardSaid : Prop := Claim7.holds Tryd.pinned (.plain (OpenSpec.upto recordlogChecksumSpec)) recordlogChecksumUptoCard

/-- THE SECOND FORM's CARD OF 'annalistlaw37.RecordlogEncodes'. -/
def recordlogEncodesUptoCard : Claim7 := { stood := { row := recordlogEncodesUptoRow, standIns := [], harness := (true, "85840607ef5f3906f005029c1922881af73b75f4a980d05c6f1a91f62ced5eee"), looks := false }, kinds := [], alts := [], laidByText := true, laidKinds := [.data, .pinned], laidTests := true, laidLooks := .later }
def RecordlogEncodesUptoCardSaid : Prop := Claim7.holds Tryd.pinned (.plain (OpenSpec.upto recordlogEncodesSpec)) recordlogEncodesUptoCard

/-- THE SECOND FORM's CARD OF 'annalistlaw37.RecordlogDecodes'. -/
def recordlogDecodesUptoCard : Claim7 := { stood := { row := recordlogDecodesUptoRow, standIns := [], harness := (true, "85840607ef5f3906f005029c1922881af73b75f4a980d05c6f1a91f62ced5eee"), looks := false }, kinds := [], alts := [], laidByText := true, laidKinds := [.data, .pinned], laidTests := true, laidLooks := .later }
def RecordlogDecodesUptoCardSaid : Prop := Claim7.holds Tryd.pinned (.plain (OpenSpec.upto recordlogDecodesSpec)) recordlogDecodesUptoCard

/-- THE SECOND FORM's CARD OF 'annalistlaw37.RecordlogDamaged'. -/
def recordlogDamagedUptoCard : Claim7 := { stood := { row := recordlogDamagedUptoRow, standIns := [], harness := (true, "85840607ef5f3906f005029c1922881af73b75f4a980d05c6f1a91f62ced5eee"), looks := false }, kinds := [], alts := [], laidByText := true, laidKinds := [.data, .pinned], laidTests := true, laidLooks := .later }
def RecordlogDamagedUptoCardSaid : Prop := Claim7.holds Tryd.pinned (.plain (OpenSpec.upto recordlogDamagedSpec)) recordlogDamagedUptoCard

/-- THE SECOND FORM's CARD OF 'annalistlaw37.RecordlogForeign'. -/
def recordlogForeignUptoCard : Claim7 := { stood := { row := recordlogForeignUptoRow, standIns := [], harness := (true, "85840607ef5f3906f005029c1922881af73b75f4a980d05c6f1a91f62ced5eee"), looks := false }, kinds := [], alts := [], laidByText := true, laidKinds := [.data, .pinned], laidTests := true, laidLooks := .later }
def RecordlogForeignUptoCardSaid : Prop := Claim7.holds Tryd.pinned (.plain (OpenSpec.upto recordlogForeignSpec)) recordlogForeignUptoCard

/-- THE SECOND FORM's CARD OF 'annalistlaw37.RecordlogErrors'. -/
def recordlogErrorsUptoCard : Claim7 := { stood := { row := recordlogErrorsUptoRow, standIns := [], harness := (true, "85840607ef5f3906f005029c1922881af73b75f4a980d05c6f1a91f62ced5eee"), looks := false }, kinds := [], alts := [], laidByText := true, laidKinds := [.data, .pinned], laidTests := true, laidLooks := .later }
def RecordlogErrorsUptoCardSaid : Prop := Claim7.holds Tryd.pinned (.plain (OpenSpec.upto recordlogErrorsSpec)) recordlogErrorsUptoCard
end Rows
end Go.Proofs.YtngddhoolijimaaDoor
