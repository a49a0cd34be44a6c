/-
  No cell of these rows narrows 'for every input' (looked for: loops, veiled, ifaces, maps, wideKeys, modest, calm, conditions, laid).
  DERIVED. THE GIVEN ROWS OF THIS SEAT. 8 by the template 'for every input the law returns true; each argument reads behind the call as it read before'; 0 by the template 'total and deterministic' (their statements: YtgimfajanmmkfaaTotals.lean).
  GIVEN WITH THE SEED: the statements are not yours to turn. If you find one false, say at which input.
  Laid BY PROGRAM, IN A SANDBOX (cutbox-rows.mjs): the forced cells as the released guide's own fill.sh prints them over the translation e993930ee1eb22be… (all of the seat's roots in one cut). By AI agents, Wed Nov 11 2026. No macro, syntax, notation, axiom, sorry.
-/
import Derived.Test.YtgimfajanmmkfaaChecked
import GoSem.Claim
import GoSem.ClaimJoined
import GoSem.ClaimMapViews
import Derived.JoinedTies
import Derived.KernelRfl
namespace Go.Proofs.Ytgimfajanmmkfaa
/- THE CELL 'sum', in the pinned program and in every row, IS THE sha256 OF THE DUMP (.gsa) THAT YtgimfajanmmkfaaProg.lean LOADS. Nothing in Lean hashes anything: it is a label: what it is worth is what the hold of that sum in a sandbox is worth. -/
noncomputable def Try.pinned : Pinned := { name := "ytgimfajanmmkfaa", sum := "e993930ee1eb22be887a89dba18cdaa99f029c30905e1e80493008ac9aabbfd4", checked := Try.checked }
namespace Rows
def none {H : Type} : Left H := { results := [], args := [] }

/-- 'annalistlaw2.GranuleIndex': WHATEVER THE INPUT: true; the input reads as it did. -/
def granuleIndexSpec : ChangeSpec := { name := "granuleIndex", fn := fun _ => fun
  | [d1, d2] => { results := [.lit (.bool true)], args := [d1, d2] }
  | _ => none }
def granuleIndexRow : OpenClaim := { program := "ytgimfajanmmkfaa", sum := "e993930ee1eb22be887a89dba18cdaa99f029c30905e1e80493008ac9aabbfd4", func := "annalist/annalistlaw2.GranuleIndex", spec := "granuleIndex", unfollowed := true, recurses := true, apart := false }
def GranuleIndexSaid : Prop := granuleIndexRow.holds Try.pinned (OpenSpec.ofChange granuleIndexSpec)

/-- ITS FALSE NEIGHBOUR: 'it returns false'. Refute it at one input. -/
def granuleIndexWrong : ChangeSpec := { name := "granuleIndex", fn := fun _ => fun
  | [d1, d2] => { results := [.lit (.bool false)], args := [d1, d2] }
  | _ => none }
def GranuleIndexWrongFalsely : Prop := granuleIndexRow.holds Try.pinned (OpenSpec.ofChange granuleIndexWrong)

/-- 'annalistlaw2.GranuleSpan': WHATEVER THE INPUT: true; the input reads as it did. -/
def granuleSpanSpec : ChangeSpec := { name := "granuleSpan", fn := fun _ => fun
  | [d1, d2] => { results := [.lit (.bool true)], args := [d1, d2] }
  | _ => none }
def granuleSpanRow : OpenClaim := { program := "ytgimfajanmmkfaa", sum := "e993930ee1eb22be887a89dba18cdaa99f029c30905e1e80493008ac9aabbfd4", func := "annalist/annalistlaw2.GranuleSpan", spec := "granuleSpan", unfollowed := true, recurses := true, apart := false }
def GranuleSpanSaid : Prop := granuleSpanRow.holds Try.pinned (OpenSpec.ofChange granuleSpanSpec)

/-- ITS FALSE NEIGHBOUR: 'it returns false'. Refute it at one input. -/
def granuleSpanWrong : ChangeSpec := { name := "granuleSpan", fn := fun _ => fun
  | [d1, d2] => { results := [.lit (.bool false)], args := [d1, d2] }
  | _ => none }
def GranuleSpanWrongFalsely : Prop := granuleSpanRow.holds Try.pinned (OpenSpec.ofChange granuleSpanWrong)

/-- 'annalistlaw2.GranulePartition': WHATEVER THE INPUT: true; the input reads as it did. -/
def granulePartitionSpec : ChangeSpec := { name := "granulePartition", fn := fun _ => fun
  | [d1, d2] => { results := [.lit (.bool true)], args := [d1, d2] }
  | _ => none }
def granulePartitionRow : OpenClaim := { program := "ytgimfajanmmkfaa", sum := "e993930ee1eb22be887a89dba18cdaa99f029c30905e1e80493008ac9aabbfd4", func := "annalist/annalistlaw2.GranulePartition", spec := "granulePartition", unfollowed := true, recurses := true, apart := false }
def GranulePartitionSaid : Prop := granulePartitionRow.holds Try.pinned (OpenSpec.ofChange granulePartitionSpec)

/-- ITS FALSE NEIGHBOUR: 'it returns false'. Refute it at one input. -/
def granulePartitionWrong : ChangeSpec := { name := "granulePartition", fn := fun _ => fun
  | [d1, d2] => { results := [.lit (.bool false)], args := [d1, d2] }
  | _ => none }
def GranulePartitionWrongFalsely : Prop := granulePartitionRow.holds Try.pinned (OpenSpec.ofChange granulePartitionWrong)

/-- 'annalistlaw2.GranuleMonotone': WHATEVER THE INPUT: true; the input reads as it did. -/
def granuleMonotoneSpec : ChangeSpec := { name := "granuleMonotone", fn := fun _ => fun
  | [d1, d2] => { results := [.lit (.bool true)], args := [d1, d2] }
  | _ => none }
def granuleMonotoneRow : OpenClaim := { program := "ytgimfajanmmkfaa", sum := "e993930ee1eb22be887a89dba18cdaa99f029c30905e1e80493008ac9aabbfd4", func := "annalist/annalistlaw2.GranuleMonotone", spec := "granuleMonotone", unfollowed := true, recurses := true, apart := false }
def GranuleMonotoneSaid : Prop := granuleMonotoneRow.holds Try.pinned (OpenSpec.ofChange granuleMonotoneSpec)

/-- ITS FALSE NEIGHBOUR: 'it returns false'. Refute it at one input. -/
def granuleMonotoneWrong : ChangeSpec := { name := "granuleMonotone", fn := fun _ => fun
  | [d1, d2] => { results := [.lit (.bool false)], args := [d1, d2] }
  | _ => none }
def GranuleMonotoneWrongFalsely : Prop := granuleMonotoneRow.holds Try.pinned (OpenSpec.ofChange granuleMonotoneWrong)

/-- 'annalistlaw2.GranuleLengths': WHATEVER THE INPUT: true; the input reads as it did. -/
def granuleLengthsSpec : ChangeSpec := { name := "granuleLengths", fn := fun _ => fun
  | [d1, d2, d3] => { results := [.lit (.bool true)], args := [d1, d2, d3] }
  | _ => none }
def granuleLengthsRow : OpenClaim := { program := "ytgimfajanmmkfaa", sum := "e993930ee1eb22be887a89dba18cdaa99f029c30905e1e80493008ac9aabbfd4", func := "annalist/annalistlaw2.GranuleLengths", spec := "granuleLengths", unfollowed := true, recurses := true, apart := false }
def GranuleLengthsSaid : Prop := granuleLengthsRow.holds Try.pinned (OpenSpec.ofChange granuleLengthsSpec)

/-- ITS FALSE NEIGHBOUR: 'it returns false'. Refute it at one input. -/
def granuleLengthsWrong : ChangeSpec := { name := "granuleLengths", fn := fun _ => fun
  | [d1, d2, d3] => { results := [.lit (.bool false)], args := [d1, d2, d3] }
  | _ => none }
def GranuleLengthsWrongFalsely : Prop := granuleLengthsRow.holds Try.pinned (OpenSpec.ofChange granuleLengthsWrong)

/-- 'annalistlaw2.GranuleCovering': WHATEVER THE INPUT: true; the input reads as it did. -/
def granuleCoveringSpec : ChangeSpec := { name := "granuleCovering", fn := fun _ => fun
  | [d1, d2, d3] => { results := [.lit (.bool true)], args := [d1, d2, d3] }
  | _ => none }
def granuleCoveringRow : OpenClaim := { program := "ytgimfajanmmkfaa", sum := "e993930ee1eb22be887a89dba18cdaa99f029c30905e1e80493008ac9aabbfd4", func := "annalist/annalistlaw2.GranuleCovering", spec := "granuleCovering", unfollowed := true, recurses := true, apart := false }
def GranuleCoveringSaid : Prop := granuleCoveringRow.holds Try.pinned (OpenSpec.ofChange granuleCoveringSpec)

/-- ITS FALSE NEIGHBOUR: 'it returns false'. Refute it at one input. -/
def granuleCoveringWrong : ChangeSpec := { name := "granuleCovering", fn := fun _ => fun
  | [d1, d2, d3] => { results := [.lit (.bool false)], args := [d1, d2, d3] }
  | _ => none }
def GranuleCoveringWrongFalsely : Prop := granuleCoveringRow.holds Try.pinned (OpenSpec.ofChange granuleCoveringWrong)

/-- 'annalistlaw2.GranuleSplit': WHATEVER THE INPUT: true; the input reads as it did. -/
def granuleSplitSpec : ChangeSpec := { name := "granuleSplit", fn := fun _ => fun
  | [d1, d2] => { results := [.lit (.bool true)], args := [d1, d2] }
  | _ => none }
def granuleSplitRow : OpenClaim := { program := "ytgimfajanmmkfaa", sum := "e993930ee1eb22be887a89dba18cdaa99f029c30905e1e80493008ac9aabbfd4", func := "annalist/annalistlaw2.GranuleSplit", spec := "granuleSplit", unfollowed := true, recurses := true, apart := false }
def GranuleSplitSaid : Prop := granuleSplitRow.holds Try.pinned (OpenSpec.ofChange granuleSplitSpec)

/-- ITS FALSE NEIGHBOUR: 'it returns false'. Refute it at one input. -/
def granuleSplitWrong : ChangeSpec := { name := "granuleSplit", fn := fun _ => fun
  | [d1, d2] => { results := [.lit (.bool false)], args := [d1, d2] }
  | _ => none }
def GranuleSplitWrongFalsely : Prop := granuleSplitRow.holds Try.pinned (OpenSpec.ofChange granuleSplitWrong)

/-- 'annalistlaw2.GranulePieces': WHATEVER THE INPUT: true; the input reads as it did. -/
def granulePiecesSpec : ChangeSpec := { name := "granulePieces", fn := fun _ => fun
  | [d1, d2, d3, d4] => { results := [.lit (.bool true)], args := [d1, d2, d3, d4] }
  | _ => none }
def granulePiecesRow : OpenClaim := { program := "ytgimfajanmmkfaa", sum := "e993930ee1eb22be887a89dba18cdaa99f029c30905e1e80493008ac9aabbfd4", func := "annalist/annalistlaw2.GranulePieces", spec := "granulePieces", unfollowed := true, recurses := true, apart := false }
def GranulePiecesSaid : Prop := granulePiecesRow.holds Try.pinned (OpenSpec.ofChange granulePiecesSpec)

/-- ITS FALSE NEIGHBOUR: 'it returns false'. Refute it at one input. -/
def granulePiecesWrong : ChangeSpec := { name := "granulePieces", fn := fun _ => fun
  | [d1, d2, d3, d4] => { results := [.lit (.bool false)], args := [d1, d2, d3, d4] }
  | _ => none }
def GranulePiecesWrongFalsely : Prop := granulePiecesRow.holds Try.pinned (OpenSpec.ofChange granulePiecesWrong)

/- THE SECOND FORM. 'bulk': how many values and letters a reading holds, each counted each time it is reached (what is shared counts as often as it is met; a slice's spare places count too). A statement '..UptoSaid' is the law's where the arguments, and the package variables that the reading takes, are together of bulk at most 1048576: NARROWER than '..Said'. Prove '..Said' where nothing that the law and all that it calls make is longer than what came in: it says more and counts as full. Else prove '..UptoSaid'. A law counts once. -/
mutual
def uptoBulk {H : Type} : DataW H → Nat
  | .lit (.string bytes) => bytes.length + 1
  | .lit _ => 1
  | .nil => 1
  | .ptr d => uptoBulk d + 1
  | .slice elems spare => uptoBulkAll elems + uptoBulkAll spare + 1
  | .agg parts => uptoBulkAll parts + 1
  | .iface _ d => uptoBulk d + 1
  | .map entries => uptoBulkEntries entries + 1
  | .held _ => 1
def uptoBulkAll {H : Type} : List (DataW H) → Nat
  | [] => 0
  | d :: r => uptoBulk d + uptoBulkAll r
def uptoBulkEntries {H : Type} : List (Lit × DataW H) → Nat
  | [] => 0
  | x :: r => uptoBulkEntry x + uptoBulkEntries r
def uptoBulkEntry {H : Type} : Lit × DataW H → Nat
  | (.string bytes, d) => bytes.length + uptoBulk d + 1
  | (_, d) => uptoBulk d + 1
 end
def uptoSmall : (H : Type) → List (DataW H) → Bool := fun _ ds => decide (uptoBulkAll ds ≤ 1048576)
def OpenSpec.upto (s : _root_.Go.ChangeSpec) : _root_.Go.OpenSpec := { _root_.Go.OpenSpec.ofChange s with cond := some uptoSmall }

/-- 'annalistlaw2.GranuleIndex', WHERE WHAT IT READS IS OF BULK AT MOST 1048576: true; the input reads as it did. -/
def granuleIndexUptoRow : OpenClaim := { program := "ytgimfajanmmkfaa", sum := "e993930ee1eb22be887a89dba18cdaa99f029c30905e1e80493008ac9aabbfd4", func := "annalist/annalistlaw2.GranuleIndex", spec := "granuleIndex", unfollowed := true, recurses := true, apart := false, narrowed := true }
def GranuleIndexUptoSaid : Prop := granuleIndexUptoRow.holds Try.pinned (OpenSpec.upto granuleIndexSpec)

/-- 'annalistlaw2.GranuleSpan', WHERE WHAT IT READS IS OF BULK AT MOST 1048576: true; the input reads as it did. -/
def granuleSpanUptoRow : OpenClaim := { program := "ytgimfajanmmkfaa", sum := "e993930ee1eb22be887a89dba18cdaa99f029c30905e1e80493008ac9aabbfd4", func := "annalist/annalistlaw2.GranuleSpan", spec := "granuleSpan", unfollowed := true, recurses := true, apart := false, narrowed := true }
def GranuleSpanUptoSaid : Prop := granuleSpanUptoRow.holds Try.pinned (OpenSpec.upto granuleSpanSpec)

/-- 'annalistlaw2.GranulePartition', WHERE WHAT IT READS IS OF BULK AT MOST 1048576: true; the input reads as it did. -/
def granulePartitionUptoRow : OpenClaim := { program := "ytgimfajanmmkfaa", sum := "e993930ee1eb22be887a89dba18cdaa99f029c30905e1e80493008ac9aabbfd4", func := "annalist/annalistlaw2.GranulePartition", spec := "granulePartition", unfollowed := true, recurses := true, apart := false, narrowed := true }
def GranulePartitionUptoSaid : Prop := granulePartitionUptoRow.holds Try.pinned (OpenSpec.upto granulePartitionSpec)

/-- 'annalistlaw2.GranuleMonotone', WHERE WHAT IT READS IS OF BULK AT MOST 1048576: true; the input reads as it did. -/
def granuleMonotoneUptoRow : OpenClaim := { program := "ytgimfajanmmkfaa", sum := "e993930ee1eb22be887a89dba18cdaa99f029c30905e1e80493008ac9aabbfd4", func := "annalist/annalistlaw2.GranuleMonotone", spec := "granuleMonotone", unfollowed := true, recurses := true, apart := false, narrowed := true }
def GranuleMonotoneUptoSaid : Prop := granuleMonotoneUptoRow.holds Try.pinned (OpenSpec.upto granuleMonotoneSpec)

/-- 'annalistlaw2.GranuleLengths', WHERE WHAT IT READS IS OF BULK AT MOST 1048576: true; the input reads as it did. -/
def granuleLengthsUptoRow : OpenClaim := { program := "ytgimfajanmmkfaa", sum := "e993930ee1eb22be887a89dba18cdaa99f029c30905e1e80493008ac9aabbfd4", func := "annalist/annalistlaw2.GranuleLengths", spec := "granuleLengths", unfollowed := true, recurses := true, apart := false, narrowed := true }
def GranuleLengthsUptoSaid : Prop := granuleLengthsUptoRow.holds Try.pinned (OpenSpec.upto granuleLengthsSpec)

/-- 'annalistlaw2.GranuleCovering', WHERE WHAT IT READS IS OF BULK AT MOST 1048576: true; the input reads as it did. -/
def granuleCoveringUptoRow : OpenClaim := { program := "ytgimfajanmmkfaa", sum := "e993930ee1eb22be887a89dba18cdaa99f029c30905e1e80493008ac9aabbfd4", func := "annalist/annalistlaw2.GranuleCovering", spec := "granuleCovering", unfollowed := true, recurses := true, apart := false, narrowed := true }
def GranuleCoveringUptoSaid : Prop := granuleCoveringUptoRow.holds Try.pinned (OpenSpec.upto granuleCoveringSpec)

/-- 'annalistlaw2.GranuleSplit', WHERE WHAT IT READS IS OF BULK AT MOST 1048576: true; the input reads as it did. -/
def granuleSplitUptoRow : OpenClaim := { program := "ytgimfajanmmkfaa", sum := "e993930ee1eb22be887a89dba18cdaa99f029c30905e1e80493008ac9aabbfd4", func := "annalist/annalistlaw2.GranuleSplit", spec := "granuleSplit", unfollowed := true, recurses := true, apart := false, narrowed := true }
def GranuleSplitUptoSaid : Prop := granuleSplitUptoRow.holds Try.pinned (OpenSpec.upto granuleSplitSpec)

/-- 'annalistlaw2.GranulePieces', WHERE WHAT IT READS IS OF BULK AT MOST 1048576: true; the input reads as it did. -/
def granulePiecesUptoRow : OpenClaim := { program := "ytgimfajanmmkfaa", sum := "e993930ee1eb22be887a89dba18cdaa99f029c30905e1e80493008ac9aabbfd4", func := "annalist/annalistlaw2.GranulePieces", spec := "granulePieces", unfollowed := true, recurses := true, apart := false, narrowed := true }
def GranulePiecesUptoSaid : Prop := granulePiecesUptoRow.holds Try.pinned (OpenSpec.upto granulePiecesSpec)

end Rows
end Go.Proofs.Ytgimfajanmmkfaa
