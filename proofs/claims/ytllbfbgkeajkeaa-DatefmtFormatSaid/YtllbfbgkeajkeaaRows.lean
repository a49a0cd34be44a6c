/-
  No cell of these rows narrows 'for every input' (looked for: loops, veiled, ifaces, maps, wideKeys, modest, calm, conditions, laid).
  DERIVED. THE GIVEN ROWS OF THIS SEAT. 6 by the template 'for every input the law returns true; each argument reads behind the call as it read before'; 0 by the template 'total and deterministic' (their statements: YtllbfbgkeajkeaaTotals.lean).
  GIVEN WITH THE SEED: the statements are not yours to turn. If you find one false, say at which input.
  Laid BY PROGRAM, IN A SANDBOX (cutbox-rows.mjs): the forced cells as the released guide's own fill.sh prints them over the translation 4a360251bed68814… (all of the seat's roots in one cut). By AI agents, Wed Nov 11 2026. No macro, syntax, notation, axiom, sorry.
-/
import Derived.Test.YtllbfbgkeajkeaaChecked
import GoSem.Claim
import GoSem.ClaimJoined
import GoSem.ClaimMapViews
import Derived.JoinedTies
import Derived.KernelRfl
namespace Go.Proofs.Ytllbfbgkeajkeaa
/- THE CELL 'sum', in the pinned program and in every row, IS THE sha256 OF THE DUMP (.gsa) THAT YtllbfbgkeajkeaaProg.lean LOADS. Nothing in Lean hashes anything: it is a label: what it is worth is what the hold of that sum in a sandbox is worth. -/
noncomputable def Try.pinned : Pinned := { name := "ytllbfbgkeajkeaa", sum := "4a360251bed688142f99e4dc56be276b673dec80880f7c8251f45838c1bba90e", checked := Try.checked }
namespace Rows
def none {H : Type} : Left H := { results := [], args := [] }

/-- 'annalistlaw3.DatefmtParseDay': WHATEVER THE INPUT: true; the input reads as it did. -/
def datefmtParseDaySpec : ChangeSpec := { name := "datefmtParseDay", fn := fun _ => fun
  | [d] => { results := [.lit (.bool true)], args := [d] }
  | _ => none }
def datefmtParseDayRow : OpenClaim := { program := "ytllbfbgkeajkeaa", sum := "4a360251bed688142f99e4dc56be276b673dec80880f7c8251f45838c1bba90e", func := "annalist/annalistlaw3.DatefmtParseDay", spec := "datefmtParseDay", inPlace := ["internal/bytealg.IndexByteString", "internal/bytealg.IndexString"], named := ["internal/bytealg.MaxLen"], apart := false }
def DatefmtParseDaySaid : Prop := datefmtParseDayRow.holds Try.pinned (OpenSpec.ofChange datefmtParseDaySpec)

/-- ITS FALSE NEIGHBOUR: 'it returns false'. Refute it at one input. -/
def datefmtParseDayWrong : ChangeSpec := { name := "datefmtParseDay", fn := fun _ => fun
  | [d] => { results := [.lit (.bool false)], args := [d] }
  | _ => none }
def DatefmtParseDayWrongFalsely : Prop := datefmtParseDayRow.holds Try.pinned (OpenSpec.ofChange datefmtParseDayWrong)

/-- 'annalistlaw3.DatefmtParsePeriod': WHATEVER THE INPUT: true; the input reads as it did. -/
def datefmtParsePeriodSpec : ChangeSpec := { name := "datefmtParsePeriod", fn := fun _ => fun
  | [d] => { results := [.lit (.bool true)], args := [d] }
  | _ => none }
def datefmtParsePeriodRow : OpenClaim := { program := "ytllbfbgkeajkeaa", sum := "4a360251bed688142f99e4dc56be276b673dec80880f7c8251f45838c1bba90e", func := "annalist/annalistlaw3.DatefmtParsePeriod", spec := "datefmtParsePeriod", inPlace := ["internal/bytealg.IndexByteString", "internal/bytealg.IndexString"], named := ["internal/bytealg.MaxLen"], apart := false }
def DatefmtParsePeriodSaid : Prop := datefmtParsePeriodRow.holds Try.pinned (OpenSpec.ofChange datefmtParsePeriodSpec)

/-- ITS FALSE NEIGHBOUR: 'it returns false'. Refute it at one input. -/
def datefmtParsePeriodWrong : ChangeSpec := { name := "datefmtParsePeriod", fn := fun _ => fun
  | [d] => { results := [.lit (.bool false)], args := [d] }
  | _ => none }
def DatefmtParsePeriodWrongFalsely : Prop := datefmtParsePeriodRow.holds Try.pinned (OpenSpec.ofChange datefmtParsePeriodWrong)

/-- 'annalistlaw3.DatefmtOrder': WHATEVER THE INPUT: true; the input reads as it did. -/
def datefmtOrderSpec : ChangeSpec := { name := "datefmtOrder", fn := fun _ => fun
  | [d1, d2] => { results := [.lit (.bool true)], args := [d1, d2] }
  | _ => none }
def datefmtOrderRow : OpenClaim := { program := "ytllbfbgkeajkeaa", sum := "4a360251bed688142f99e4dc56be276b673dec80880f7c8251f45838c1bba90e", func := "annalist/annalistlaw3.DatefmtOrder", spec := "datefmtOrder", inPlace := ["internal/bytealg.IndexByteString", "internal/bytealg.IndexString"], named := ["internal/bytealg.MaxLen"], apart := false }
def DatefmtOrderSaid : Prop := datefmtOrderRow.holds Try.pinned (OpenSpec.ofChange datefmtOrderSpec)

/-- ITS FALSE NEIGHBOUR: 'it returns false'. Refute it at one input. -/
def datefmtOrderWrong : ChangeSpec := { name := "datefmtOrder", fn := fun _ => fun
  | [d1, d2] => { results := [.lit (.bool false)], args := [d1, d2] }
  | _ => none }
def DatefmtOrderWrongFalsely : Prop := datefmtOrderRow.holds Try.pinned (OpenSpec.ofChange datefmtOrderWrong)

/-- 'annalistlaw3.DatefmtFormat': WHATEVER THE INPUT: true; the input reads as it did. -/
def datefmtFormatSpec : ChangeSpec := { name := "datefmtFormat", fn := fun _ => fun
  | [d1, d2] => { results := [.lit (.bool true)], args := [d1, d2] }
  | _ => none }
def datefmtFormatRow : OpenClaim := { program := "ytllbfbgkeajkeaa", sum := "4a360251bed688142f99e4dc56be276b673dec80880f7c8251f45838c1bba90e", func := "annalist/annalistlaw3.DatefmtFormat", spec := "datefmtFormat", inPlace := ["internal/bytealg.IndexByteString", "internal/bytealg.IndexString"], named := ["internal/bytealg.MaxLen"], apart := false }
def DatefmtFormatSaid : Prop := datefmtFormatRow.holds Try.pinned (OpenSpec.ofChange datefmtFormatSpec)

/-- ITS FALSE NEIGHBOUR: 'it returns false'. Refute it at one input. -/
def datefmtFormatWrong : ChangeSpec := { name := "datefmtFormat", fn := fun _ => fun
  | [d1, d2] => { results := [.lit (.bool false)], args := [d1, d2] }
  | _ => none }
def DatefmtFormatWrongFalsely : Prop := datefmtFormatRow.holds Try.pinned (OpenSpec.ofChange datefmtFormatWrong)

/-- 'annalistlaw3.DatefmtRoundTrip': WHATEVER THE INPUT: true; the input reads as it did. -/
def datefmtRoundTripSpec : ChangeSpec := { name := "datefmtRoundTrip", fn := fun _ => fun
  | [d] => { results := [.lit (.bool true)], args := [d] }
  | _ => none }
def datefmtRoundTripRow : OpenClaim := { program := "ytllbfbgkeajkeaa", sum := "4a360251bed688142f99e4dc56be276b673dec80880f7c8251f45838c1bba90e", func := "annalist/annalistlaw3.DatefmtRoundTrip", spec := "datefmtRoundTrip", inPlace := ["internal/bytealg.IndexByteString", "internal/bytealg.IndexString"], named := ["internal/bytealg.MaxLen"], apart := false }
def DatefmtRoundTripSaid : Prop := datefmtRoundTripRow.holds Try.pinned (OpenSpec.ofChange datefmtRoundTripSpec)

/-- ITS FALSE NEIGHBOUR: 'it returns false'. Refute it at one input. -/
def datefmtRoundTripWrong : ChangeSpec := { name := "datefmtRoundTrip", fn := fun _ => fun
  | [d] => { results := [.lit (.bool false)], args := [d] }
  | _ => none }
def DatefmtRoundTripWrongFalsely : Prop := datefmtRoundTripRow.holds Try.pinned (OpenSpec.ofChange datefmtRoundTripWrong)

/-- 'annalistlaw3.DatefmtUnique': WHATEVER THE INPUT: true; the input reads as it did. -/
def datefmtUniqueSpec : ChangeSpec := { name := "datefmtUnique", fn := fun _ => fun
  | [d] => { results := [.lit (.bool true)], args := [d] }
  | _ => none }
def datefmtUniqueRow : OpenClaim := { program := "ytllbfbgkeajkeaa", sum := "4a360251bed688142f99e4dc56be276b673dec80880f7c8251f45838c1bba90e", func := "annalist/annalistlaw3.DatefmtUnique", spec := "datefmtUnique", inPlace := ["internal/bytealg.IndexByteString", "internal/bytealg.IndexString"], named := ["internal/bytealg.MaxLen"], apart := false }
def DatefmtUniqueSaid : Prop := datefmtUniqueRow.holds Try.pinned (OpenSpec.ofChange datefmtUniqueSpec)

/-- ITS FALSE NEIGHBOUR: 'it returns false'. Refute it at one input. -/
def datefmtUniqueWrong : ChangeSpec := { name := "datefmtUnique", fn := fun _ => fun
  | [d] => { results := [.lit (.bool false)], args := [d] }
  | _ => none }
def DatefmtUniqueWrongFalsely : Prop := datefmtUniqueRow.holds Try.pinned (OpenSpec.ofChange datefmtUniqueWrong)

/- THE SECOND FORM. 'bulk': how many values and letters a reading holds, each counted each time it is reached (what is shared counts as often as it is met; a slice's spare places count too). A statement '..UptoSaid' is the law's where the arguments, and the package variables that the reading takes, are together of bulk at most 1048576: NARROWER than '..Said'. Prove '..Said' where nothing that the law and all that it calls make is longer than what came in: it says more and counts as full. Else prove '..UptoSaid'. A law counts once. -/
mutual
def uptoBulk {H : Type} : DataW H → Nat
  | .lit (.string bytes) => bytes.length + 1
  | .lit _ => 1
  | .nil => 1
  | .ptr d => uptoBulk d + 1
  | .slice elems spare => uptoBulkAll elems + uptoBulkAll spare + 1
  | .agg parts => uptoBulkAll parts + 1
  | .iface _ d => uptoBulk d + 1
  | .map entries => uptoBulkEntries entries + 1
  | .held _ => 1
def uptoBulkAll {H : Type} : List (DataW H) → Nat
  | [] => 0
  | d :: r => uptoBulk d + uptoBulkAll r
def uptoBulkEntries {H : Type} : List (Lit × DataW H) → Nat
  | [] => 0
  | x :: r => uptoBulkEntry x + uptoBulkEntries r
def uptoBulkEntry {H : Type} : Lit × DataW H → Nat
  | (.string bytes, d) => bytes.length + uptoBulk d + 1
  | (_, d) => uptoBulk d + 1
 end
def uptoSmall : (H : Type) → List (DataW H) → Bool := fun _ ds => decide (uptoBulkAll ds ≤ 1048576)
def OpenSpec.upto (s : _root_.Go.ChangeSpec) : _root_.Go.OpenSpec := { _root_.Go.OpenSpec.ofChange s with cond := some uptoSmall }

/-- 'annalistlaw3.DatefmtParseDay', WHERE WHAT IT READS IS OF BULK AT MOST 1048576: true; the input reads as it did. -/
def datefmtParseDayUptoRow : OpenClaim := { program := "ytllbfbgkeajkeaa", sum := "4a360251bed688142f99e4dc56be276b673dec80880f7c8251f45838c1bba90e", func := "annalist/annalistlaw3.DatefmtParseDay", spec := "datefmtParseDay", inPlace := ["internal/bytealg.IndexByteString", "internal/bytealg.IndexString"], named := ["internal/bytealg.MaxLen"], apart := false, narrowed := true }
def DatefmtParseDayUptoSaid : Prop := datefmtParseDayUptoRow.holds Try.pinned (OpenSpec.upto datefmtParseDaySpec)

/-- 'annalistlaw3.DatefmtParsePeriod', WHERE WHAT IT READS IS OF BULK AT MOST 1048576: true; the input reads as it did. -/
def datefmtParsePeriodUptoRow : OpenClaim := { program := "ytllbfbgkeajkeaa", sum := "4a360251bed688142f99e4dc56be276b673dec80880f7c8251f45838c1bba90e", func := "annalist/annalistlaw3.DatefmtParsePeriod", spec := "datefmtParsePeriod", inPlace := ["internal/bytealg.IndexByteString", "internal/bytealg.IndexString"], named := ["internal/bytealg.MaxLen"], apart := false, narrowed := true }
def DatefmtParsePeriodUptoSaid : Prop := datefmtParsePeriodUptoRow.holds Try.pinned (OpenSpec.upto datefmtParsePeriodSpec)

/-- 'annalistlaw3.DatefmtOrder', WHERE WHAT IT READS IS OF BULK AT MOST 1048576: true; the input reads as it did. -/
def datefmtOrderUptoRow : OpenClaim := { program := "ytllbfbgkeajkeaa", sum := "4a360251bed688142f99e4dc56be276b673dec80880f7c8251f45838c1bba90e", func := "annalist/annalistlaw3.DatefmtOrder", spec := "datefmtOrder", inPlace := ["internal/bytealg.IndexByteString", "internal/bytealg.IndexString"], named := ["internal/bytealg.MaxLen"], apart := false, narrowed := true }
def DatefmtOrderUptoSaid : Prop := datefmtOrderUptoRow.holds Try.pinned (OpenSpec.upto datefmtOrderSpec)

/-- 'annalistlaw3.DatefmtFormat', WHERE WHAT IT READS IS OF BULK AT MOST 1048576: true; the input reads as it did. -/
def datefmtFormatUptoRow : OpenClaim := { program := "ytllbfbgkeajkeaa", sum := "4a360251bed688142f99e4dc56be276b673dec80880f7c8251f45838c1bba90e", func := "annalist/annalistlaw3.DatefmtFormat", spec := "datefmtFormat", inPlace := ["internal/bytealg.IndexByteString", "internal/bytealg.IndexString"], named := ["internal/bytealg.MaxLen"], apart := false, narrowed := true }
def DatefmtFormatUptoSaid : Prop := datefmtFormatUptoRow.holds Try.pinned (OpenSpec.upto datefmtFormatSpec)

/-- 'annalistlaw3.DatefmtRoundTrip', WHERE WHAT IT READS IS OF BULK AT MOST 1048576: true; the input reads as it did. -/
def datefmtRoundTripUptoRow : OpenClaim := { program := "ytllbfbgkeajkeaa", sum := "4a360251bed688142f99e4dc56be276b673dec80880f7c8251f45838c1bba90e", func := "annalist/annalistlaw3.DatefmtRoundTrip", spec := "datefmtRoundTrip", inPlace := ["internal/bytealg.IndexByteString", "internal/bytealg.IndexString"], named := ["internal/bytealg.MaxLen"], apart := false, narrowed := true }
def DatefmtRoundTripUptoSaid : Prop := datefmtRoundTripUptoRow.holds Try.pinned (OpenSpec.upto datefmtRoundTripSpec)

/-- 'annalistlaw3.DatefmtUnique', WHERE WHAT IT READS IS OF BULK AT MOST 1048576: true; the input reads as it did. -/
def datefmtUniqueUptoRow : OpenClaim := { program := "ytllbfbgkeajkeaa", sum := "4a360251bed688142f99e4dc56be276b673dec80880f7c8251f45838c1bba90e", func := "annalist/annalistlaw3.DatefmtUnique", spec := "datefmtUnique", inPlace := ["internal/bytealg.IndexByteString", "internal/bytealg.IndexString"], named := ["internal/bytealg.MaxLen"], apart := false, narrowed := true }
def DatefmtUniqueUptoSaid : Prop := datefmtUniqueUptoRow.holds Try.pinned (OpenSpec.upto datefmtUniqueSpec)

end Rows
end Go.Proofs.Ytllbfbgkeajkeaa
