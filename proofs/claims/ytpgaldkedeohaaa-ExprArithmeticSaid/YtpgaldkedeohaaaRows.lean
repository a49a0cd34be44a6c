/-
  No cell of these rows narrows 'for every input' (looked for: loops, veiled, ifaces, maps, wideKeys, modest, calm, conditions, laid).
  DERIVED. THE GIVEN ROWS OF THIS SEAT. 8 by the template 'for every input the law returns true; each argument reads behind the call as it read before'; 0 by the template 'total and deterministic' (their statements: YtpgaldkedeohaaaTotals.lean).
  GIVEN WITH THE SEED: the statements are not yours to turn. If you find one false, say at which input.
  Laid BY PROGRAM, IN A SANDBOX (cutbox-rows.mjs): the forced cells as the released guide's own fill.sh prints them over the translation 3b02fee7da7dacdb… (all of the seat's roots in one cut). By AI agents, Wed Nov 11 2026. No macro, syntax, notation, axiom, sorry.
-/
import Derived.Test.YtpgaldkedeohaaaChecked
import GoSem.Claim
import GoSem.ClaimJoined
import GoSem.ClaimMapViews
import Derived.JoinedTies
import Derived.KernelRfl
namespace Go.Proofs.Ytpgaldkedeohaaa
/- THE CELL 'sum', in the pinned program and in every row, IS THE sha256 OF THE DUMP (.gsa) THAT YtpgaldkedeohaaaProg.lean LOADS. Nothing in Lean hashes anything: it is a label: what it is worth is what the hold of that sum in a sandbox is worth. -/
noncomputable def Try.pinned : Pinned := { name := "ytpgaldkedeohaaa", sum := "3b02fee7da7dacdb76145a17d83e379938a64a7924f6791f12f023b0b05a1a89", checked := Try.checked }
namespace Rows
def none {H : Type} : Left H := { results := [], args := [] }

/-- 'annalistlaw7.ExprCheck': WHATEVER THE INPUT: true; the input reads as it did. -/
def exprCheckSpec : ChangeSpec := { name := "exprCheck", fn := fun _ => fun
  | [d1, d2, d3] => { results := [.lit (.bool true)], args := [d1, d2, d3] }
  | _ => none }
def exprCheckRow : OpenClaim := { program := "ytpgaldkedeohaaa", sum := "3b02fee7da7dacdb76145a17d83e379938a64a7924f6791f12f023b0b05a1a89", func := "annalist/annalistlaw7.ExprCheck", spec := "exprCheck", inPlace := ["internal/bytealg.abigen_runtime_cmpstring"], unfollowed := true, recurses := true, apart := false }
def ExprCheckSaid : Prop := exprCheckRow.holds Try.pinned (OpenSpec.ofChange exprCheckSpec)

/-- ITS FALSE NEIGHBOUR: 'it returns false'. Refute it at one input. -/
def exprCheckWrong : ChangeSpec := { name := "exprCheck", fn := fun _ => fun
  | [d1, d2, d3] => { results := [.lit (.bool false)], args := [d1, d2, d3] }
  | _ => none }
def ExprCheckWrongFalsely : Prop := exprCheckRow.holds Try.pinned (OpenSpec.ofChange exprCheckWrong)

/-- 'annalistlaw7.ExprEval': WHATEVER THE INPUT: true; the input reads as it did. -/
def exprEvalSpec : ChangeSpec := { name := "exprEval", fn := fun _ => fun
  | [d1, d2, d3] => { results := [.lit (.bool true)], args := [d1, d2, d3] }
  | _ => none }
def exprEvalRow : OpenClaim := { program := "ytpgaldkedeohaaa", sum := "3b02fee7da7dacdb76145a17d83e379938a64a7924f6791f12f023b0b05a1a89", func := "annalist/annalistlaw7.ExprEval", spec := "exprEval", inPlace := ["internal/bytealg.abigen_runtime_cmpstring"], unfollowed := true, recurses := true, apart := false }
def ExprEvalSaid : Prop := exprEvalRow.holds Try.pinned (OpenSpec.ofChange exprEvalSpec)

/-- ITS FALSE NEIGHBOUR: 'it returns false'. Refute it at one input. -/
def exprEvalWrong : ChangeSpec := { name := "exprEval", fn := fun _ => fun
  | [d1, d2, d3] => { results := [.lit (.bool false)], args := [d1, d2, d3] }
  | _ => none }
def ExprEvalWrongFalsely : Prop := exprEvalRow.holds Try.pinned (OpenSpec.ofChange exprEvalWrong)

/-- 'annalistlaw7.ExprColumns': WHATEVER THE INPUT: true; the input reads as it did. -/
def exprColumnsSpec : ChangeSpec := { name := "exprColumns", fn := fun _ => fun
  | [d1, d2] => { results := [.lit (.bool true)], args := [d1, d2] }
  | _ => none }
def exprColumnsRow : OpenClaim := { program := "ytpgaldkedeohaaa", sum := "3b02fee7da7dacdb76145a17d83e379938a64a7924f6791f12f023b0b05a1a89", func := "annalist/annalistlaw7.ExprColumns", spec := "exprColumns", inPlace := ["internal/bytealg.abigen_runtime_cmpstring"], unfollowed := true, recurses := true, apart := false }
def ExprColumnsSaid : Prop := exprColumnsRow.holds Try.pinned (OpenSpec.ofChange exprColumnsSpec)

/-- ITS FALSE NEIGHBOUR: 'it returns false'. Refute it at one input. -/
def exprColumnsWrong : ChangeSpec := { name := "exprColumns", fn := fun _ => fun
  | [d1, d2] => { results := [.lit (.bool false)], args := [d1, d2] }
  | _ => none }
def ExprColumnsWrongFalsely : Prop := exprColumnsRow.holds Try.pinned (OpenSpec.ofChange exprColumnsWrong)

/-- 'annalistlaw7.ExprTyped': WHATEVER THE INPUT: true; the input reads as it did. -/
def exprTypedSpec : ChangeSpec := { name := "exprTyped", fn := fun _ => fun
  | [d1, d2, d3, d4] => { results := [.lit (.bool true)], args := [d1, d2, d3, d4] }
  | _ => none }
def exprTypedRow : OpenClaim := { program := "ytpgaldkedeohaaa", sum := "3b02fee7da7dacdb76145a17d83e379938a64a7924f6791f12f023b0b05a1a89", func := "annalist/annalistlaw7.ExprTyped", spec := "exprTyped", inPlace := ["internal/bytealg.abigen_runtime_cmpstring"], unfollowed := true, recurses := true, apart := false }
def ExprTypedSaid : Prop := exprTypedRow.holds Try.pinned (OpenSpec.ofChange exprTypedSpec)

/-- ITS FALSE NEIGHBOUR: 'it returns false'. Refute it at one input. -/
def exprTypedWrong : ChangeSpec := { name := "exprTyped", fn := fun _ => fun
  | [d1, d2, d3, d4] => { results := [.lit (.bool false)], args := [d1, d2, d3, d4] }
  | _ => none }
def ExprTypedWrongFalsely : Prop := exprTypedRow.holds Try.pinned (OpenSpec.ofChange exprTypedWrong)

/-- 'annalistlaw7.ExprLocal': WHATEVER THE INPUT: true; the input reads as it did. -/
def exprLocalSpec : ChangeSpec := { name := "exprLocal", fn := fun _ => fun
  | [d1, d2, d3, d4] => { results := [.lit (.bool true)], args := [d1, d2, d3, d4] }
  | _ => none }
def exprLocalRow : OpenClaim := { program := "ytpgaldkedeohaaa", sum := "3b02fee7da7dacdb76145a17d83e379938a64a7924f6791f12f023b0b05a1a89", func := "annalist/annalistlaw7.ExprLocal", spec := "exprLocal", inPlace := ["internal/bytealg.abigen_runtime_cmpstring"], unfollowed := true, recurses := true, apart := false }
def ExprLocalSaid : Prop := exprLocalRow.holds Try.pinned (OpenSpec.ofChange exprLocalSpec)

/-- ITS FALSE NEIGHBOUR: 'it returns false'. Refute it at one input. -/
def exprLocalWrong : ChangeSpec := { name := "exprLocal", fn := fun _ => fun
  | [d1, d2, d3, d4] => { results := [.lit (.bool false)], args := [d1, d2, d3, d4] }
  | _ => none }
def ExprLocalWrongFalsely : Prop := exprLocalRow.holds Try.pinned (OpenSpec.ofChange exprLocalWrong)

/-- 'annalistlaw7.ExprPrefix': WHATEVER THE INPUT: true; the input reads as it did. -/
def exprPrefixSpec : ChangeSpec := { name := "exprPrefix", fn := fun _ => fun
  | [d1, d2, d3, d4] => { results := [.lit (.bool true)], args := [d1, d2, d3, d4] }
  | _ => none }
def exprPrefixRow : OpenClaim := { program := "ytpgaldkedeohaaa", sum := "3b02fee7da7dacdb76145a17d83e379938a64a7924f6791f12f023b0b05a1a89", func := "annalist/annalistlaw7.ExprPrefix", spec := "exprPrefix", inPlace := ["internal/bytealg.abigen_runtime_cmpstring"], unfollowed := true, recurses := true, apart := false }
def ExprPrefixSaid : Prop := exprPrefixRow.holds Try.pinned (OpenSpec.ofChange exprPrefixSpec)

/-- ITS FALSE NEIGHBOUR: 'it returns false'. Refute it at one input. -/
def exprPrefixWrong : ChangeSpec := { name := "exprPrefix", fn := fun _ => fun
  | [d1, d2, d3, d4] => { results := [.lit (.bool false)], args := [d1, d2, d3, d4] }
  | _ => none }
def ExprPrefixWrongFalsely : Prop := exprPrefixRow.holds Try.pinned (OpenSpec.ofChange exprPrefixWrong)

/-- 'annalistlaw7.ExprArithmetic': WHATEVER THE INPUT: true; the input reads as it did. -/
def exprArithmeticSpec : ChangeSpec := { name := "exprArithmetic", fn := fun _ => fun
  | [d1, d2] => { results := [.lit (.bool true)], args := [d1, d2] }
  | _ => none }
def exprArithmeticRow : OpenClaim := { program := "ytpgaldkedeohaaa", sum := "3b02fee7da7dacdb76145a17d83e379938a64a7924f6791f12f023b0b05a1a89", func := "annalist/annalistlaw7.ExprArithmetic", spec := "exprArithmetic", inPlace := ["internal/bytealg.abigen_runtime_cmpstring"], unfollowed := true, recurses := true, apart := false }
def ExprArithmeticSaid : Prop := exprArithmeticRow.holds Try.pinned (OpenSpec.ofChange exprArithmeticSpec)

/-- ITS FALSE NEIGHBOUR: 'it returns false'. Refute it at one input. -/
def exprArithmeticWrong : ChangeSpec := { name := "exprArithmetic", fn := fun _ => fun
  | [d1, d2] => { results := [.lit (.bool false)], args := [d1, d2] }
  | _ => none }
def ExprArithmeticWrongFalsely : Prop := exprArithmeticRow.holds Try.pinned (OpenSpec.ofChange exprArithmeticWrong)

/-- 'annalistlaw7.ExprShared': WHATEVER THE INPUT: true; the input reads as it did. -/
def exprSharedSpec : ChangeSpec := { name := "exprShared", fn := fun _ => fun
  | [d1, d2] => { results := [.lit (.bool true)], args := [d1, d2] }
  | _ => none }
def exprSharedRow : OpenClaim := { program := "ytpgaldkedeohaaa", sum := "3b02fee7da7dacdb76145a17d83e379938a64a7924f6791f12f023b0b05a1a89", func := "annalist/annalistlaw7.ExprShared", spec := "exprShared", inPlace := ["internal/bytealg.abigen_runtime_cmpstring"], unfollowed := true, recurses := true, apart := false }
def ExprSharedSaid : Prop := exprSharedRow.holds Try.pinned (OpenSpec.ofChange exprSharedSpec)

/-- ITS FALSE NEIGHBOUR: 'it returns false'. Refute it at one input. -/
def exprSharedWrong : ChangeSpec := { name := "exprShared", fn := fun _ => fun
  | [d1, d2] => { results := [.lit (.bool false)], args := [d1, d2] }
  | _ => none }
def ExprSharedWrongFalsely : Prop := exprSharedRow.holds Try.pinned (OpenSpec.ofChange exprSharedWrong)

/- THE SECOND FORM. 'bulk': how many values and letters a reading holds, each counted each time it is reached (what is shared counts as often as it is met; a slice's spare places count too). A statement '..UptoSaid' is the law's where the arguments, and the package variables that the reading takes, are together of bulk at most 1048576: NARROWER than '..Said'. Prove '..Said' where nothing that the law and all that it calls make is longer than what came in: it says more and counts as full. Else prove '..UptoSaid'. A law counts once. -/
mutual
def uptoBulk {H : Type} : DataW H → Nat
  | .lit (.string bytes) => bytes.length + 1
  | .lit _ => 1
  | .nil => 1
  | .ptr d => uptoBulk d + 1
  | .slice elems spare => uptoBulkAll elems + uptoBulkAll spare + 1
  | .agg parts => uptoBulkAll parts + 1
  | .iface _ d => uptoBulk d + 1
  | .map entries => uptoBulkEntries entries + 1
  | .held _ => 1
def uptoBulkAll {H : Type} : List (DataW H) → Nat
  | [] => 0
  | d :: r => uptoBulk d + uptoBulkAll r
def uptoBulkEntries {H : Type} : List (Lit × DataW H) → Nat
  | [] => 0
  | x :: r => uptoBulkEntry x + uptoBulkEntries r
def uptoBulkEntry {H : Type} : Lit × DataW H → Nat
  | (.string bytes, d) => bytes.length + uptoBulk d + 1
  | (_, d) => uptoBulk d + 1
 end
def uptoSmall : (H : Type) → List (DataW H) → Bool := fun _ ds => decide (uptoBulkAll ds ≤ 1048576)
def OpenSpec.upto (s : _root_.Go.ChangeSpec) : _root_.Go.OpenSpec := { _root_.Go.OpenSpec.ofChange s with cond := some uptoSmall }

/-- 'annalistlaw7.ExprCheck', WHERE WHAT IT READS IS OF BULK AT MOST 1048576: true; the input reads as it did. -/
def exprCheckUptoRow : OpenClaim := { program := "ytpgaldkedeohaaa", sum := "3b02fee7da7dacdb76145a17d83e379938a64a7924f6791f12f023b0b05a1a89", func := "annalist/annalistlaw7.ExprCheck", spec := "exprCheck", inPlace := ["internal/bytealg.abigen_runtime_cmpstring"], unfollowed := true, recurses := true, apart := false, narrowed := true }
def ExprCheckUptoSaid : Prop := exprCheckUptoRow.holds Try.pinned (OpenSpec.upto exprCheckSpec)

/-- 'annalistlaw7.ExprEval', WHERE WHAT IT READS IS OF BULK AT MOST 1048576: true; the input reads as it did. -/
def exprEvalUptoRow : OpenClaim := { program := "ytpgaldkedeohaaa", sum := "3b02fee7da7dacdb76145a17d83e379938a64a7924f6791f12f023b0b05a1a89", func := "annalist/annalistlaw7.ExprEval", spec := "exprEval", inPlace := ["internal/bytealg.abigen_runtime_cmpstring"], unfollowed := true, recurses := true, apart := false, narrowed := true }
def ExprEvalUptoSaid : Prop := exprEvalUptoRow.holds Try.pinned (OpenSpec.upto exprEvalSpec)

/-- 'annalistlaw7.ExprColumns', WHERE WHAT IT READS IS OF BULK AT MOST 1048576: true; the input reads as it did. -/
def exprColumnsUptoRow : OpenClaim := { program := "ytpgaldkedeohaaa", sum := "3b02fee7da7dacdb76145a17d83e379938a64a7924f6791f12f023b0b05a1a89", func := "annalist/annalistlaw7.ExprColumns", spec := "exprColumns", inPlace := ["internal/bytealg.abigen_runtime_cmpstring"], unfollowed := true, recurses := true, apart := false, narrowed := true }
def ExprColumnsUptoSaid : Prop := exprColumnsUptoRow.holds Try.pinned (OpenSpec.upto exprColumnsSpec)

/-- 'annalistlaw7.ExprTyped', WHERE WHAT IT READS IS OF BULK AT MOST 1048576: true; the input reads as it did. -/
def exprTypedUptoRow : OpenClaim := { program := "ytpgaldkedeohaaa", sum := "3b02fee7da7dacdb76145a17d83e379938a64a7924f6791f12f023b0b05a1a89", func := "annalist/annalistlaw7.ExprTyped", spec := "exprTyped", inPlace := ["internal/bytealg.abigen_runtime_cmpstring"], unfollowed := true, recurses := true, apart := false, narrowed := true }
def ExprTypedUptoSaid : Prop := exprTypedUptoRow.holds Try.pinned (OpenSpec.upto exprTypedSpec)

/-- 'annalistlaw7.ExprLocal', WHERE WHAT IT READS IS OF BULK AT MOST 1048576: true; the input reads as it did. -/
def exprLocalUptoRow : OpenClaim := { program := "ytpgaldkedeohaaa", sum := "3b02fee7da7dacdb76145a17d83e379938a64a7924f6791f12f023b0b05a1a89", func := "annalist/annalistlaw7.ExprLocal", spec := "exprLocal", inPlace := ["internal/bytealg.abigen_runtime_cmpstring"], unfollowed := true, recurses := true, apart := false, narrowed := true }
def ExprLocalUptoSaid : Prop := exprLocalUptoRow.holds Try.pinned (OpenSpec.upto exprLocalSpec)

/-- 'annalistlaw7.ExprPrefix', WHERE WHAT IT READS IS OF BULK AT MOST 1048576: true; the input reads as it did. -/
def exprPrefixUptoRow : OpenClaim := { program := "ytpgaldkedeohaaa", sum := "3b02fee7da7dacdb76145a17d83e379938a64a7924f6791f12f023b0b05a1a89", func := "annalist/annalistlaw7.ExprPrefix", spec := "exprPrefix", inPlace := ["internal/bytealg.abigen_runtime_cmpstring"], unfollowed := true, recurses := true, apart := false, narrowed := true }
def ExprPrefixUptoSaid : Prop := exprPrefixUptoRow.holds Try.pinned (OpenSpec.upto exprPrefixSpec)

/-- 'annalistlaw7.ExprArithmetic', WHERE WHAT IT READS IS OF BULK AT MOST 1048576: true; the input reads as it did. -/
def exprArithmeticUptoRow : OpenClaim := { program := "ytpgaldkedeohaaa", sum := "3b02fee7da7dacdb76145a17d83e379938a64a7924f6791f12f023b0b05a1a89", func := "annalist/annalistlaw7.ExprArithmetic", spec := "exprArithmetic", inPlace := ["internal/bytealg.abigen_runtime_cmpstring"], unfollowed := true, recurses := true, apart := false, narrowed := true }
def ExprArithmeticUptoSaid : Prop := exprArithmeticUptoRow.holds Try.pinned (OpenSpec.upto exprArithmeticSpec)

/-- 'annalistlaw7.ExprShared', WHERE WHAT IT READS IS OF BULK AT MOST 1048576: true; the input reads as it did. -/
def exprSharedUptoRow : OpenClaim := { program := "ytpgaldkedeohaaa", sum := "3b02fee7da7dacdb76145a17d83e379938a64a7924f6791f12f023b0b05a1a89", func := "annalist/annalistlaw7.ExprShared", spec := "exprShared", inPlace := ["internal/bytealg.abigen_runtime_cmpstring"], unfollowed := true, recurses := true, apart := false, narrowed := true }
def ExprSharedUptoSaid : Prop := exprSharedUptoRow.holds Try.pinned (OpenSpec.upto exprSharedSpec)

end Rows
end Go.Proofs.Ytpgaldkedeohaaa
