/-
  NARROWER THAN 'FOR EVERY INPUT', by the rows' own cells (each row's printed sentence says how): PagefileCapacity: laid · PagefileErrors: laid · PagefilePlays: laid · PagefileAtomic: laid · PagefileErases: laid · RecordlogChecksum: laid · RecordlogEncodes: laid · RecordlogDecodes: laid · RecordlogDamaged: laid · RecordlogForeign: laid · RecordlogErrors: laid.
  DERIVED. THE GIVEN ROWS OF THIS SEAT. 11 by the template 'for every input the law returns true; each argument reads behind the call as it read before'; 0 by the template 'total and deterministic' (their statements: YtngddhoolijimaaDoorTotals.lean).
  GIVEN WITH THE SEED: the statements are not yours to turn. If you find one false, say at which input.
  Laid BY PROGRAM, IN A SANDBOX (cutbox-rows.mjs): the forced cells as the released guide's own fill.sh prints them over the translation 204ad0e77b08f5ed… (all of the seat's roots in one cut). By AI agents, Wed Nov 11 2026. No macro, syntax, notation, axiom, sorry.
-/
import Derived.Test.YtngddhoolijimaaDoorChecked
import GoSem.PinnedTables
import GoSem.Claim
import GoSem.ClaimJoined
import GoSem.ClaimMapViews
import Derived.JoinedTies
import Derived.KernelRfl
namespace Go.Proofs.YtngddhoolijimaaDoor
/- THE CELL 'sum', in the pinned program and in every row, IS THE sha256 OF THE DUMP (.gsa) THAT YtngddhoolijimaaDoorProg.lean LOADS. Nothing in Lean hashes anything: it is a label: what it is worth is what the hold of that sum in a sandbox is worth. -/
noncomputable def Tryd.pinned : Pinned := { name := "ytngddhoolijimaadoor", sum := "204ad0e77b08f5ed030c8e375099897102f83bb7815623026b7718d97e364c9b", checked := Tryd.checked }
namespace Rows
def none {H : Type} : Left H := { results := [], args := [] }

/- WHAT THE LISTED PACKAGE-LEVEL VARIABLES READ AS WHEN THE CALL BEGINS. Each datum BY PROGRAM (the guide's laid-datum.mjs) off the statement by which the dump's own 'gosem.cut.vars' lays the variable. In a bare row this is a premise. The card (YtngddhoolijimaaDoorCards.lean) ties it to the program's text. -/
def laid_unicode_utf8_acceptRanges {H : Type} : DataW H := .agg [.agg [.lit (.int .u8 128), .lit (.int .u8 191)], .agg [.lit (.int .u8 160), .lit (.int .u8 191)], .agg [.lit (.int .u8 128), .lit (.int .u8 159)], .agg [.lit (.int .u8 144), .lit (.int .u8 191)], .agg [.lit (.int .u8 128), .lit (.int .u8 143)], .agg [.lit (.int .u8 0), .lit (.int .u8 0)], .agg [.lit (.int .u8 0), .lit (.int .u8 0)], .agg [.lit (.int .u8 0), .lit (.int .u8 0)], .agg [.lit (.int .u8 0), .lit (.int .u8 0)], .agg [.lit (.int .u8 0), .lit (.int .u8 0)], .agg [.lit (.int .u8 0), .lit (.int .u8 0)], .agg [.lit (.int .u8 0), .lit (.int .u8 0)], .agg [.lit (.int .u8 0), .lit (.int .u8 0)], .agg [.lit (.int .u8 0), .lit (.int .u8 0)], .agg [.lit (.int .u8 0), .lit (.int .u8 0)], .agg [.lit (.int .u8 0), .lit (.int .u8 0)]]
/-- One of Go's own tables, pinned by name: the form's constant. -/
def laid_unicode_utf8_first : DataW Unit := Go.Pinned.utf8First

/-- 'annalistlaw36.PagefileCapacity': WHATEVER THE INPUT: true; the input reads as it did. -/
def pagefileCapacitySpec : ChangeSpec := { name := "pagefileCapacity", fn := fun _ => fun
  | [d] => { results := [.lit (.bool true)], args := [d] }
  | _ => none }
def pagefileCapacityRow : OpenClaim := { program := "ytngddhoolijimaadoor", sum := "204ad0e77b08f5ed030c8e375099897102f83bb7815623026b7718d97e364c9b", func := "annalist/annalistlaw36.PagefileCapacity", spec := "pagefileCapacity", recurses := true, named := ["unicode/utf8.first", "unicode/utf8.acceptRanges"], apart := false, laid := [("unicode/utf8.acceptRanges", laid_unicode_utf8_acceptRanges), ("unicode/utf8.first", laid_unicode_utf8_first)] }
def PagefileCapacitySaid : Prop := pagefileCapacityRow.holds Tryd.pinned (OpenSpec.ofChange pagefileCapacitySpec)

/-- ITS FALSE NEIGHBOUR: 'it returns false'. Refute it at one input. -/
def pagefileCapacityWrong : ChangeSpec := { name := "pagefileCapacity", fn := fun _ => fun
  | [d] => { results := [.lit (.bool false)], args := [d] }
  | _ => none }
def PagefileCapacityWrongFalsely : Prop := pagefileCapacityRow.holds Tryd.pinned (OpenSpec.ofChange pagefileCapacityWrong)

/-- 'annalistlaw36.PagefileErrors': WHATEVER THE INPUT: true; the input reads as it did. -/
def pagefileErrorsSpec : ChangeSpec := { name := "pagefileErrors", fn := fun _ => fun
  | [d1, d2, d3] => { results := [.lit (.bool true)], args := [d1, d2, d3] }
  | _ => none }
def pagefileErrorsRow : OpenClaim := { program := "ytngddhoolijimaadoor", sum := "204ad0e77b08f5ed030c8e375099897102f83bb7815623026b7718d97e364c9b", func := "annalist/annalistlaw36.PagefileErrors", spec := "pagefileErrors", unfollowed := true, recurses := true, named := ["unicode/utf8.first", "unicode/utf8.acceptRanges"], apart := false, laid := [("unicode/utf8.acceptRanges", laid_unicode_utf8_acceptRanges), ("unicode/utf8.first", laid_unicode_utf8_first)] }
def PagefileErrorsSaid : Prop := pagefileErrorsRow.holds Tryd.pinned (OpenSpec.ofChange pagefileErrorsSpec)

/-- ITS FALSE NEIGHBOUR: 'it returns false'. Refute it at one input. -/
def pagefileErrorsWrong : ChangeSpec := { name := "pagefileErrors", fn := fun _ => fun
  | [d1, d2, d3] => { results := [.lit (.bool false)], args := [d1, d2, d3] }
  | _ => none }
def PagefileErrorsWrongFalsely : Prop := pagefileErrorsRow.holds Tryd.pinned (OpenSpec.ofChange pagefileErrorsWrong)

/-- 'annalistlaw36.PagefilePlays': WHATEVER THE INPUT: true; the input reads as it did. -/
def pagefilePlaysSpec : ChangeSpec := { name := "pagefilePlays", fn := fun _ => fun
  | [d1, d2] => { results := [.lit (.bool true)], args := [d1, d2] }
  | _ => none }
def pagefilePlaysRow : OpenClaim := { program := "ytngddhoolijimaadoor", sum := "204ad0e77b08f5ed030c8e375099897102f83bb7815623026b7718d97e364c9b", func := "annalist/annalistlaw36.PagefilePlays", spec := "pagefilePlays", unfollowed := true, recurses := true, named := ["unicode/utf8.first", "unicode/utf8.acceptRanges"], apart := false, laid := [("unicode/utf8.acceptRanges", laid_unicode_utf8_acceptRanges), ("unicode/utf8.first", laid_unicode_utf8_first)] }
def PagefilePlaysSaid : Prop := pagefilePlaysRow.holds Tryd.pinned (OpenSpec.ofChange pagefilePlaysSpec)

/-- ITS FALSE NEIGHBOUR: 'it returns false'. Refute it at one input. -/
def pagefilePlaysWrong : ChangeSpec := { name := "pagefilePlays", fn := fun _ => fun
  | [d1, d2] => { results := [.lit (.bool false)], args := [d1, d2] }
  | _ => none }
def PagefilePlaysWrongFalsely : Prop := pagefilePlaysRow.holds Tryd.pinned (OpenSpec.ofChange pagefilePlaysWrong)

/-- 'annalistlaw36.PagefileAtomic': WHATEVER THE INPUT: true; the input reads as it did. -/
def pagefileAtomicSpec : ChangeSpec := { name := "pagefileAtomic", fn := fun _ => fun
  | [d1, d2, d3, d4, d5, d6] => { results := [.lit (.bool true)], args := [d1, d2, d3, d4, d5, d6] }
  | _ => none }
def pagefileAtomicRow : OpenClaim := { program := "ytngddhoolijimaadoor", sum := "204ad0e77b08f5ed030c8e375099897102f83bb7815623026b7718d97e364c9b", func := "annalist/annalistlaw36.PagefileAtomic", spec := "pagefileAtomic", unfollowed := true, recurses := true, named := ["unicode/utf8.first", "unicode/utf8.acceptRanges"], apart := false, laid := [("unicode/utf8.acceptRanges", laid_unicode_utf8_acceptRanges), ("unicode/utf8.first", laid_unicode_utf8_first)] }
def PagefileAtomicSaid : Prop := pagefileAtomicRow.holds Tryd.pinned (OpenSpec.ofChange pagefileAtomicSpec)

/-- ITS FALSE NEIGHBOUR: 'it returns false'. Refute it at one input. -/
def pagefileAtomicWrong : ChangeSpec := { name := "pagefileAtomic", fn := fun _ => fun
  | [d1, d2, d3, d4, d5, d6] => { results := [.lit (.bool false)], args := [d1, d2, d3, d4, d5, d6] }
  | _ => none }
def PagefileAtomicWrongFalsely : Prop := pagefileAtomicRow.holds Tryd.pinned (OpenSpec.ofChange pagefileAtomicWrong)

/-- 'annalistlaw36.PagefileErases': WHATEVER THE INPUT: true; the input reads as it did. -/
def pagefileErasesSpec : ChangeSpec := { name := "pagefileErases", fn := fun _ => fun
  | [d1, d2, d3, d4, d5, d6, d7] => { results := [.lit (.bool true)], args := [d1, d2, d3, d4, d5, d6, d7] }
  | _ => none }
def pagefileErasesRow : OpenClaim := { program := "ytngddhoolijimaadoor", sum := "204ad0e77b08f5ed030c8e375099897102f83bb7815623026b7718d97e364c9b", func := "annalist/annalistlaw36.PagefileErases", spec := "pagefileErases", unfollowed := true, recurses := true, named := ["unicode/utf8.first", "unicode/utf8.acceptRanges"], apart := false, laid := [("unicode/utf8.acceptRanges", laid_unicode_utf8_acceptRanges), ("unicode/utf8.first", laid_unicode_utf8_first)] }
def PagefileErasesSaid : Prop := pagefileErasesRow.holds Tryd.pinned (OpenSpec.ofChange pagefileErasesSpec)

/-- ITS FALSE NEIGHBOUR: 'it returns false'. Refute it at one input. -/
def pagefileErasesWrong : ChangeSpec := { name := "pagefileErases", fn := fun _ => fun
  | [d1, d2, d3, d4, d5, d6, d7] => { results := [.lit (.bool false)], args := [d1, d2, d3, d4, d5, d6, d7] }
  | _ => none }
def PagefileErasesWrongFalsely : Prop := pagefileErasesRow.holds Tryd.pinned (OpenSpec.ofChange pagefileErasesWrong)

/-- 'annalistlaw37.RecordlogChecksum': WHATEVER THE INPUT: true; the input reads as it did. -/
def recordlogChecksumSpec : ChangeSpec := { name := "recordlogChecksum", fn := fun _ => fun
  | [d] => { results := [.lit (.bool true)], args := [d] }
  | _ => none }
def recordlogChecksumRow : OpenClaim := { program := "ytngddhoolijimaadoor", sum := "204ad0e77b08f5ed030c8e375099897102f83bb7815623026b7718d97e364c9b", func := "annalist/annalistlaw37.RecordlogChecksum", spec := "recordlogChecksum", recurses := true, named := ["unicode/utf8.first", "unicode/utf8.acceptRanges"], apart := false, laid := [("unicode/utf8.acceptRanges", laid_unicode_utf8_acceptRanges), ("unicode/utf8.first", laid_unicode_utf8_first)] }
def RecordlogChecksumSaid : Prop := recordlogChecksumRow.holds Tryd.pinned (OpenSpec.ofChange recordlogChecksumSpec)

/-- ITS FALSE NEIGHBOUR: 'it returns false'. Refute it at one input. -/
def recordlogChecksumWrong : ChangeSpec := { name := "recordlogChecksum", fn := fun _ => fun
  | [d] => { results := [.lit (.bool false)], args := [d] }
  | _ => none }
def RecordlogChecksumWrongFalsely : Prop := recordlogChecksumRow.holds Tryd.pinned (OpenSpec.ofChange recordlogChecksumWrong)

/-- 'annalistlaw37.RecordlogEncodes': WHATEVER THE INPUT: true; the input reads as it did. -/
def recordlogEncodesSpec : ChangeSpec := { name := "recordlogEncodes", fn := fun _ => fun
  | [d1, d2] => { results := [.lit (.bool true)], args := [d1, d2] }
  | _ => none }
def recordlogEncodesRow : OpenClaim := { program := "ytngddhoolijimaadoor", sum := "204ad0e77b08f5ed030c8e375099897102f83bb7815623026b7718d97e364c9b", func := "annalist/annalistlaw37.RecordlogEncodes", spec := "recordlogEncodes", recurses := true, named := ["unicode/utf8.first", "unicode/utf8.acceptRanges"], apart := false, laid := [("unicode/utf8.acceptRanges", laid_unicode_utf8_acceptRanges), ("unicode/utf8.first", laid_unicode_utf8_first)] }
def RecordlogEncodesSaid : Prop := recordlogEncodesRow.holds Tryd.pinned (OpenSpec.ofChange recordlogEncodesSpec)

/-- ITS FALSE NEIGHBOUR: 'it returns false'. Refute it at one input. -/
def recordlogEncodesWrong : ChangeSpec := { name := "recordlogEncodes", fn := fun _ => fun
  | [d1, d2] => { results := [.lit (.bool false)], args := [d1, d2] }
  | _ => none }
def RecordlogEncodesWrongFalsely : Prop := recordlogEncodesRow.holds Tryd.pinned (OpenSpec.ofChange recordlogEncodesWrong)

/-- 'annalistlaw37.RecordlogDecodes': WHATEVER THE INPUT: true; the input reads as it did. -/
def recordlogDecodesSpec : ChangeSpec := { name := "recordlogDecodes", fn := fun _ => fun
  | [d1, d2] => { results := [.lit (.bool true)], args := [d1, d2] }
  | _ => none }
def recordlogDecodesRow : OpenClaim := { program := "ytngddhoolijimaadoor", sum := "204ad0e77b08f5ed030c8e375099897102f83bb7815623026b7718d97e364c9b", func := "annalist/annalistlaw37.RecordlogDecodes", spec := "recordlogDecodes", recurses := true, named := ["unicode/utf8.first", "unicode/utf8.acceptRanges"], apart := false, laid := [("unicode/utf8.acceptRanges", laid_unicode_utf8_acceptRanges), ("unicode/utf8.first", laid_unicode_utf8_first)] }
def RecordlogDecodesSaid : Prop := recordlogDecodesRow.holds Tryd.pinned (OpenSpec.ofChange recordlogDecodesSpec)

/-- ITS FALSE NEIGHBOUR: 'it returns false'. Refute it at one input. -/
def recordlogDecodesWrong : ChangeSpec := { name := "recordlogDecodes", fn := fun _ => fun
  | [d1, d2] => { results := [.lit (.bool false)], args := [d1, d2] }
  | _ => none }
def RecordlogDecodesWrongFalsely : Prop := recordlogDecodesRow.holds Tryd.pinned (OpenSpec.ofChange recordlogDecodesWrong)

/-- 'annalistlaw37.RecordlogDamaged': WHATEVER THE INPUT: true; the input reads as it did. -/
def recordlogDamagedSpec : ChangeSpec := { name := "recordlogDamaged", fn := fun _ => fun
  | [d1, d2, d3, d4, d5] => { results := [.lit (.bool true)], args := [d1, d2, d3, d4, d5] }
  | _ => none }
def recordlogDamagedRow : OpenClaim := { program := "ytngddhoolijimaadoor", sum := "204ad0e77b08f5ed030c8e375099897102f83bb7815623026b7718d97e364c9b", func := "annalist/annalistlaw37.RecordlogDamaged", spec := "recordlogDamaged", recurses := true, named := ["unicode/utf8.first", "unicode/utf8.acceptRanges"], apart := false, laid := [("unicode/utf8.acceptRanges", laid_unicode_utf8_acceptRanges), ("unicode/utf8.first", laid_unicode_utf8_first)] }
def RecordlogDamagedSaid : Prop := recordlogDamagedRow.holds Tryd.pinned (OpenSpec.ofChange recordlogDamagedSpec)

/-- ITS FALSE NEIGHBOUR: 'it returns false'. Refute it at one input. -/
def recordlogDamagedWrong : ChangeSpec := { name := "recordlogDamaged", fn := fun _ => fun
  | [d1, d2, d3, d4, d5] => { results := [.lit (.bool false)], args := [d1, d2, d3, d4, d5] }
  | _ => none }
def RecordlogDamagedWrongFalsely : Prop := recordlogDamagedRow.holds Tryd.pinned (OpenSpec.ofChange recordlogDamagedWrong)

/-- 'annalistlaw37.RecordlogForeign': WHATEVER THE INPUT: true; the input reads as it did. -/
def recordlogForeignSpec : ChangeSpec := { name := "recordlogForeign", fn := fun _ => fun
  | [d1, d2, d3] => { results := [.lit (.bool true)], args := [d1, d2, d3] }
  | _ => none }
def recordlogForeignRow : OpenClaim := { program := "ytngddhoolijimaadoor", sum := "204ad0e77b08f5ed030c8e375099897102f83bb7815623026b7718d97e364c9b", func := "annalist/annalistlaw37.RecordlogForeign", spec := "recordlogForeign", unfollowed := true, recurses := true, named := ["unicode/utf8.first", "unicode/utf8.acceptRanges"], apart := false, laid := [("unicode/utf8.acceptRanges", laid_unicode_utf8_acceptRanges), ("unicode/utf8.first", laid_unicode_utf8_first)] }
def RecordlogForeignSaid : Prop := recordlogForeignRow.holds Tryd.pinned (OpenSpec.ofChange recordlogForeignSpec)

/-- ITS FALSE NEIGHBOUR: 'it returns false'. Refute it at one input. -/
def recordlogForeignWrong : ChangeSpec := { name := "recordlogForeign", fn := fun _ => fun
  | [d1, d2, d3] => { results := [.lit (.bool false)], args := [d1, d2, d3] }
  | _ => none }
def RecordlogForeignWrongFalsely : Prop := recordlogForeignRow.holds Tryd.pinned (OpenSpec.ofChange recordlogForeignWrong)

/-- 'annalistlaw37.RecordlogErrors': WHATEVER THE INPUT: true; the input reads as it did. -/
def recordlogErrorsSpec : ChangeSpec := { name := "recordlogErrors", fn := fun _ => fun
  | [d1, d2] => { results := [.lit (.bool true)], args := [d1, d2] }
  | _ => none }
def recordlogErrorsRow : OpenClaim := { program := "ytngddhoolijimaadoor", sum := "204ad0e77b08f5ed030c8e375099897102f83bb7815623026b7718d97e364c9b", func := "annalist/annalistlaw37.RecordlogErrors", spec := "recordlogErrors", unfollowed := true, recurses := true, named := ["unicode/utf8.first", "unicode/utf8.acceptRanges"], apart := false, laid := [("unicode/utf8.acceptRanges", laid_unicode_utf8_acceptRanges), ("unicode/utf8.first", laid_unicode_utf8_first)] }
def RecordlogErrorsSaid : Prop := recordlogErrorsRow.holds Tryd.pinned (OpenSpec.ofChange recordlogErrorsSpec)

/-- ITS FALSE NEIGHBOUR: 'it returns false'. Refute it at one input. -/
def recordlogErrorsWrong : ChangeSpec := { name := "recordlogErrors", fn := fun _ => fun
  | [d1, d2] => { results := [.lit (.bool false)], args := [d1, d2] }
  | _ => none }
def RecordlogErrorsWrongFalsely : Prop := recordlogErrorsRow.holds Tryd.pinned (OpenSpec.ofChange recordlogErrorsWrong)

/- THE SECOND FORM. 'bulk': how many values and letters a reading holds, each counted each time it is reached (what is shared counts as often as it is met; a slice's spare places count too). A statement '..UptoSaid' is the law's where the arguments, and the package variables that the reading takes, are together of bulk at most 1048576: NARROWER than '..Said'. Prove '..Said' where nothing that the law and all that it calls make is longer than what came in: it says more and counts as full. Else prove '..UptoSaid'. A law counts once. -/
mutual
def uptoBulk {H : Type} : DataW H → Nat
  | .lit (.string bytes) => bytes.length + 1
  | .lit _ => 1
  | .nil => 1
  | .ptr d => uptoBulk d + 1
  | .slice elems spare => uptoBulkAll elems + uptoBulkAll spare + 1
  | .agg parts => uptoBulkAll parts + 1
  | .iface _ d => uptoBulk d + 1
  | .map entries => uptoBulkEntries entries + 1
  | .held _ => 1
def uptoBulkAll {H : Type} : List (DataW H) → Nat
  | [] => 0
  | d :: r => uptoBulk d + uptoBulkAll r
def uptoBulkEntries {H : Type} : List (Lit × DataW H) → Nat
  | [] => 0
  | x :: r => uptoBulkEntry x + uptoBulkEntries r
def uptoBulkEntry {H : Type} : Lit × DataW H → Nat
  | (.string bytes, d) => bytes.length + uptoBulk d + 1
  | (_, d) => uptoBulk d + 1
 end
def uptoSmall : (H : Type) → List (DataW H) → Bool := fun _ ds => decide (uptoBulkAll ds ≤ 1048576)
def OpenSpec.upto (s : _root_.Go.ChangeSpec) : _root_.Go.OpenSpec := { _root_.Go.OpenSpec.ofChange s with cond := some uptoSmall }

/-- 'annalistlaw36.PagefileCapacity', WHERE WHAT IT READS IS OF BULK AT MOST 1048576: true; the input reads as it did. -/
def pagefileCapacityUptoRow : OpenClaim := { program := "ytngddhoolijimaadoor", sum := "204ad0e77b08f5ed030c8e375099897102f83bb7815623026b7718d97e364c9b", func := "annalist/annalistlaw36.PagefileCapacity", spec := "pagefileCapacity", recurses := true, named := ["unicode/utf8.first", "unicode/utf8.acceptRanges"], apart := false, laid := [("unicode/utf8.acceptRanges", laid_unicode_utf8_acceptRanges), ("unicode/utf8.first", laid_unicode_utf8_first)], narrowed := true }
def PagefileCapacityUptoSaid : Prop := pagefileCapacityUptoRow.holds Tryd.pinned (OpenSpec.upto pagefileCapacitySpec)

/-- 'annalistlaw36.PagefileErrors', WHERE WHAT IT READS IS OF BULK AT MOST 1048576: true; the input reads as it did. -/
def pagefileErrorsUptoRow : OpenClaim := { program := "ytngddhoolijimaadoor", sum := "204ad0e77b08f5ed030c8e375099897102f83bb7815623026b7718d97e364c9b", func := "annalist/annalistlaw36.PagefileErrors", spec := "pagefileErrors", unfollowed := true, recurses := true, named := ["unicode/utf8.first", "unicode/utf8.acceptRanges"], apart := false, laid := [("unicode/utf8.acceptRanges", laid_unicode_utf8_acceptRanges), ("unicode/utf8.first", laid_unicode_utf8_first)], narrowed := true }
def PagefileErrorsUptoSaid : Prop := pagefileErrorsUptoRow.holds Tryd.pinned (OpenSpec.upto pagefileErrorsSpec)

/-- 'annalistlaw36.PagefilePlays', WHERE WHAT IT READS IS OF BULK AT MOST 1048576: true; the input reads as it did. -/
def pagefilePlaysUptoRow : OpenClaim := { program := "ytngddhoolijimaadoor", sum := "204ad0e77b08f5ed030c8e375099897102f83bb7815623026b7718d97e364c9b", func := "annalist/annalistlaw36.PagefilePlays", spec := "pagefilePlays", unfollowed := true, recurses := true, named := ["unicode/utf8.first", "unicode/utf8.acceptRanges"], apart := false, laid := [("unicode/utf8.acceptRanges", laid_unicode_utf8_acceptRanges), ("unicode/utf8.first", laid_unicode_utf8_first)], narrowed := true }
def PagefilePlaysUptoSaid : Prop := pagefilePlaysUptoRow.holds Tryd.pinned (OpenSpec.upto pagefilePlaysSpec)

/-- 'annalistlaw36.PagefileAtomic', WHERE WHAT IT READS IS OF BULK AT MOST 1048576: true; the input reads as it did. -/
def pagefileAtomicUptoRow : OpenClaim := { program := "ytngddhoolijimaadoor", sum := "204ad0e77b08f5ed030c8e375099897102f83bb7815623026b7718d97e364c9b", func := "annalist/annalistlaw36.PagefileAtomic", spec := "pagefileAtomic", unfollowed := true, recurses := true, named := ["unicode/utf8.first", "unicode/utf8.acceptRanges"], apart := false, laid := [("unicode/utf8.acceptRanges", laid_unicode_utf8_acceptRanges), ("unicode/utf8.first", laid_unicode_utf8_first)], narrowed := true }
def PagefileAtomicUptoSaid : Prop := pagefileAtomicUptoRow.holds Tryd.pinned (OpenSpec.upto pagefileAtomicSpec)

/-- 'annalistlaw36.PagefileErases', WHERE WHAT IT READS IS OF BULK AT MOST 1048576: true; the input reads as it did. -/
def pagefileErasesUptoRow : OpenClaim := { program := "ytngddhoolijimaadoor", sum := "204ad0e77b08f5ed030c8e375099897102f83bb7815623026b7718d97e364c9b", func := "annalist/annalistlaw36.PagefileErases", spec := "pagefileErases", unfollowed := true, recurses := true, named := ["unicode/utf8.first", "unicode/utf8.acceptRanges"], apart := false, laid := [("unicode/utf8.acceptRanges", laid_unicode_utf8_acceptRanges), ("unicode/utf8.first", laid_unicode_utf8_first)], narrowed := true }
def PagefileErasesUptoSaid : Prop := pagefileErasesUptoRow.holds Tryd.pinned (OpenSpec.upto pagefileErasesSpec)

/-- 'annalistlaw37.RecordlogChecksum', WHERE WHAT IT READS IS OF BULK AT MOST 1048576: true; the input reads as it did. -/
def recordlogChecksumUptoRow : OpenClaim := { program := "ytngddhoolijimaadoor", sum := "204ad0e77b08f5ed030c8e375099897102f83bb7815623026b7718d97e364c9b", func := "annalist/annalistlaw37.RecordlogChecksum", spec := "recordlogChecksum", recurses := true, named := ["unicode/utf8.first", "unicode/utf8.acceptRanges"], apart := false, laid := [("unicode/utf8.acceptRanges", laid_unicode_utf8_acceptRanges), ("unicode/utf8.first", laid_unicode_utf8_first)], narrowed := true }
def RecordlogChecksumUptoSaid : Prop := recordlogChecksumUptoRow.holds Tryd.pinned (OpenSpec.upto recordlogChecksumSpec)

/-- 'annalistlaw37.RecordlogEncodes', WHERE WHAT IT READS IS OF BULK AT MOST 1048576: true; the input reads as it did. -/
def recordlogEncodesUptoRow : OpenClaim := { program := "ytngddhoolijimaadoor", sum := "204ad0e77b08f5ed030c8e375099897102f83bb7815623026b7718d97e364c9b", func := "annalist/annalistlaw37.RecordlogEncodes", spec := "recordlogEncodes", recurses := true, named := ["unicode/utf8.first", "unicode/utf8.acceptRanges"], apart := false, laid := [("unicode/utf8.acceptRanges", laid_unicode_utf8_acceptRanges), ("unicode/utf8.first", laid_unicode_utf8_first)], narrowed := true }
def RecordlogEncodesUptoSaid : Prop := recordlogEncodesUptoRow.holds Tryd.pinned (OpenSpec.upto recordlogEncodesSpec)

/-- 'annalistlaw37.RecordlogDecodes', WHERE WHAT IT READS IS OF BULK AT MOST 1048576: true; the input reads as it did. -/
def recordlogDecodesUptoRow : OpenClaim := { program := "ytngddhoolijimaadoor", sum := "204ad0e77b08f5ed030c8e375099897102f83bb7815623026b7718d97e364c9b", func := "annalist/annalistlaw37.RecordlogDecodes", spec := "recordlogDecodes", recurses := true, named := ["unicode/utf8.first", "unicode/utf8.acceptRanges"], apart := false, laid := [("unicode/utf8.acceptRanges", laid_unicode_utf8_acceptRanges), ("unicode/utf8.first", laid_unicode_utf8_first)], narrowed := true }
def RecordlogDecodesUptoSaid : Prop := recordlogDecodesUptoRow.holds Tryd.pinned (OpenSpec.upto recordlogDecodesSpec)

/-- 'annalistlaw37.RecordlogDamaged', WHERE WHAT IT READS IS OF BULK AT MOST 1048576: true; the input reads as it did. -/
def recordlogDamagedUptoRow : OpenClaim := { program := "ytngddhoolijimaadoor", sum := "204ad0e77b08f5ed030c8e375099897102f83bb7815623026b7718d97e364c9b", func := "annalist/annalistlaw37.RecordlogDamaged", spec := "recordlogDamaged", recurses := true, named := ["unicode/utf8.first", "unicode/utf8.acceptRanges"], apart := false, laid := [("unicode/utf8.acceptRanges", laid_unicode_utf8_acceptRanges), ("unicode/utf8.first", laid_unicode_utf8_first)], narrowed := true }
def RecordlogDamagedUptoSaid : Prop := recordlogDamagedUptoRow.holds Tryd.pinned (OpenSpec.upto recordlogDamagedSpec)

/-- 'annalistlaw37.RecordlogForeign', WHERE WHAT IT READS IS OF BULK AT MOST 1048576: true; the input reads as it did. -/
def recordlogForeignUptoRow : OpenClaim := { program := "ytngddhoolijimaadoor", sum := "204ad0e77b08f5ed030c8e375099897102f83bb7815623026b7718d97e364c9b", func := "annalist/annalistlaw37.RecordlogForeign", spec := "recordlogForeign", unfollowed := true, recurses := true, named := ["unicode/utf8.first", "unicode/utf8.acceptRanges"], apart := false, laid := [("unicode/utf8.acceptRanges", laid_unicode_utf8_acceptRanges), ("unicode/utf8.first", laid_unicode_utf8_first)], narrowed := true }
def RecordlogForeignUptoSaid : Prop := recordlogForeignUptoRow.holds Tryd.pinned (OpenSpec.upto recordlogForeignSpec)

/-- 'annalistlaw37.RecordlogErrors', WHERE WHAT IT READS IS OF BULK AT MOST 1048576: true; the input reads as it did. -/
def recordlogErrorsUptoRow : OpenClaim := { program := "ytngddhoolijimaadoor", sum := "204ad0e77b08f5ed030c8e375099897102f83bb7815623026b7718d97e364c9b", func := "annalist/annalistlaw37.RecordlogErrors", spec := "recordlogErrors", unfollowed := true, recurses := true, named := ["unicode/utf8.first", "unicode/utf8.acceptRanges"], apart := false, laid := [("unicode/utf8.acceptRanges", laid_unicode_utf8_acceptRanges), ("unicode/utf8.first", laid_unicode_utf8_first)], narrowed := true }
def RecordlogErrorsUptoSaid : Prop := recordlogErrorsUptoRow.holds Tryd.pinned (OpenSpec.upto recordlogErrorsSpec)

end Rows
end Go.Proofs.YtngddhoolijimaaDoor
