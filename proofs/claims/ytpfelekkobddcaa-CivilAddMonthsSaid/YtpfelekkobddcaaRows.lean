/-
  No cell of these rows narrows 'for every input' (looked for: loops, veiled, ifaces, maps, wideKeys, modest, calm, conditions, laid).
  DERIVED. THE GIVEN ROWS OF THIS SEAT. 8 by the template 'for every input the law returns true; each argument reads behind the call as it read before'; 0 by the template 'total and deterministic' (their statements: YtpfelekkobddcaaTotals.lean).
  GIVEN WITH THE SEED: the statements are not yours to turn. If you find one false, say at which input.
  Laid BY PROGRAM, IN A SANDBOX (cutbox-rows.mjs): the forced cells as the released guide's own fill.sh prints them over the translation f21f373834dd8ab6… (all of the seat's roots in one cut). By AI agents, Wed Nov 11 2026. No macro, syntax, notation, axiom, sorry.
-/
import Derived.Test.YtpfelekkobddcaaChecked
import GoSem.Claim
import GoSem.ClaimJoined
import GoSem.ClaimMapViews
import Derived.JoinedTies
import Derived.KernelRfl
namespace Go.Proofs.Ytpfelekkobddcaa
/- THE CELL 'sum', in the pinned program and in every row, IS THE sha256 OF THE DUMP (.gsa) THAT YtpfelekkobddcaaProg.lean LOADS. Nothing in Lean hashes anything: it is a label: what it is worth is what the hold of that sum in a sandbox is worth. -/
noncomputable def Try.pinned : Pinned := { name := "ytpfelekkobddcaa", sum := "f21f373834dd8ab68c635c2ee3f32c00d1c77c270436f14a68e18f89b63a332a", checked := Try.checked }
namespace Rows
def none {H : Type} : Left H := { results := [], args := [] }

/-- 'annalistlaw1.CivilLeap': WHATEVER THE INPUT: true; the input reads as it did. -/
def civilLeapSpec : ChangeSpec := { name := "civilLeap", fn := fun _ => fun
  | [d1, d2] => { results := [.lit (.bool true)], args := [d1, d2] }
  | _ => none }
def civilLeapRow : OpenClaim := { program := "ytpfelekkobddcaa", sum := "f21f373834dd8ab68c635c2ee3f32c00d1c77c270436f14a68e18f89b63a332a", func := "annalist/annalistlaw1.CivilLeap", spec := "civilLeap", apart := false }
def CivilLeapSaid : Prop := civilLeapRow.holds Try.pinned (OpenSpec.ofChange civilLeapSpec)

/-- ITS FALSE NEIGHBOUR: 'it returns false'. Refute it at one input. -/
def civilLeapWrong : ChangeSpec := { name := "civilLeap", fn := fun _ => fun
  | [d1, d2] => { results := [.lit (.bool false)], args := [d1, d2] }
  | _ => none }
def CivilLeapWrongFalsely : Prop := civilLeapRow.holds Try.pinned (OpenSpec.ofChange civilLeapWrong)

/-- 'annalistlaw1.CivilFromDate': WHATEVER THE INPUT: true; the input reads as it did. -/
def civilFromDateSpec : ChangeSpec := { name := "civilFromDate", fn := fun _ => fun
  | [d1, d2, d3] => { results := [.lit (.bool true)], args := [d1, d2, d3] }
  | _ => none }
def civilFromDateRow : OpenClaim := { program := "ytpfelekkobddcaa", sum := "f21f373834dd8ab68c635c2ee3f32c00d1c77c270436f14a68e18f89b63a332a", func := "annalist/annalistlaw1.CivilFromDate", spec := "civilFromDate", apart := false }
def CivilFromDateSaid : Prop := civilFromDateRow.holds Try.pinned (OpenSpec.ofChange civilFromDateSpec)

/-- ITS FALSE NEIGHBOUR: 'it returns false'. Refute it at one input. -/
def civilFromDateWrong : ChangeSpec := { name := "civilFromDate", fn := fun _ => fun
  | [d1, d2, d3] => { results := [.lit (.bool false)], args := [d1, d2, d3] }
  | _ => none }
def CivilFromDateWrongFalsely : Prop := civilFromDateRow.holds Try.pinned (OpenSpec.ofChange civilFromDateWrong)

/-- 'annalistlaw1.CivilToDate': WHATEVER THE INPUT: true; the input reads as it did. -/
def civilToDateSpec : ChangeSpec := { name := "civilToDate", fn := fun _ => fun
  | [d] => { results := [.lit (.bool true)], args := [d] }
  | _ => none }
def civilToDateRow : OpenClaim := { program := "ytpfelekkobddcaa", sum := "f21f373834dd8ab68c635c2ee3f32c00d1c77c270436f14a68e18f89b63a332a", func := "annalist/annalistlaw1.CivilToDate", spec := "civilToDate", apart := false }
def CivilToDateSaid : Prop := civilToDateRow.holds Try.pinned (OpenSpec.ofChange civilToDateSpec)

/-- ITS FALSE NEIGHBOUR: 'it returns false'. Refute it at one input. -/
def civilToDateWrong : ChangeSpec := { name := "civilToDate", fn := fun _ => fun
  | [d] => { results := [.lit (.bool false)], args := [d] }
  | _ => none }
def CivilToDateWrongFalsely : Prop := civilToDateRow.holds Try.pinned (OpenSpec.ofChange civilToDateWrong)

/-- 'annalistlaw1.CivilRoundTrip': WHATEVER THE INPUT: true; the input reads as it did. -/
def civilRoundTripSpec : ChangeSpec := { name := "civilRoundTrip", fn := fun _ => fun
  | [d1, d2, d3, d4] => { results := [.lit (.bool true)], args := [d1, d2, d3, d4] }
  | _ => none }
def civilRoundTripRow : OpenClaim := { program := "ytpfelekkobddcaa", sum := "f21f373834dd8ab68c635c2ee3f32c00d1c77c270436f14a68e18f89b63a332a", func := "annalist/annalistlaw1.CivilRoundTrip", spec := "civilRoundTrip", apart := false }
def CivilRoundTripSaid : Prop := civilRoundTripRow.holds Try.pinned (OpenSpec.ofChange civilRoundTripSpec)

/-- ITS FALSE NEIGHBOUR: 'it returns false'. Refute it at one input. -/
def civilRoundTripWrong : ChangeSpec := { name := "civilRoundTrip", fn := fun _ => fun
  | [d1, d2, d3, d4] => { results := [.lit (.bool false)], args := [d1, d2, d3, d4] }
  | _ => none }
def CivilRoundTripWrongFalsely : Prop := civilRoundTripRow.holds Try.pinned (OpenSpec.ofChange civilRoundTripWrong)

/-- 'annalistlaw1.CivilNextDay': WHATEVER THE INPUT: true; the input reads as it did. -/
def civilNextDaySpec : ChangeSpec := { name := "civilNextDay", fn := fun _ => fun
  | [d] => { results := [.lit (.bool true)], args := [d] }
  | _ => none }
def civilNextDayRow : OpenClaim := { program := "ytpfelekkobddcaa", sum := "f21f373834dd8ab68c635c2ee3f32c00d1c77c270436f14a68e18f89b63a332a", func := "annalist/annalistlaw1.CivilNextDay", spec := "civilNextDay", apart := false }
def CivilNextDaySaid : Prop := civilNextDayRow.holds Try.pinned (OpenSpec.ofChange civilNextDaySpec)

/-- ITS FALSE NEIGHBOUR: 'it returns false'. Refute it at one input. -/
def civilNextDayWrong : ChangeSpec := { name := "civilNextDay", fn := fun _ => fun
  | [d] => { results := [.lit (.bool false)], args := [d] }
  | _ => none }
def CivilNextDayWrongFalsely : Prop := civilNextDayRow.holds Try.pinned (OpenSpec.ofChange civilNextDayWrong)

/-- 'annalistlaw1.CivilAddMonths': WHATEVER THE INPUT: true; the input reads as it did. -/
def civilAddMonthsSpec : ChangeSpec := { name := "civilAddMonths", fn := fun _ => fun
  | [d1, d2] => { results := [.lit (.bool true)], args := [d1, d2] }
  | _ => none }
def civilAddMonthsRow : OpenClaim := { program := "ytpfelekkobddcaa", sum := "f21f373834dd8ab68c635c2ee3f32c00d1c77c270436f14a68e18f89b63a332a", func := "annalist/annalistlaw1.CivilAddMonths", spec := "civilAddMonths", apart := false }
def CivilAddMonthsSaid : Prop := civilAddMonthsRow.holds Try.pinned (OpenSpec.ofChange civilAddMonthsSpec)

/-- ITS FALSE NEIGHBOUR: 'it returns false'. Refute it at one input. -/
def civilAddMonthsWrong : ChangeSpec := { name := "civilAddMonths", fn := fun _ => fun
  | [d1, d2] => { results := [.lit (.bool false)], args := [d1, d2] }
  | _ => none }
def CivilAddMonthsWrongFalsely : Prop := civilAddMonthsRow.holds Try.pinned (OpenSpec.ofChange civilAddMonthsWrong)

/-- 'annalistlaw1.CivilYears': WHATEVER THE INPUT: true; the input reads as it did. -/
def civilYearsSpec : ChangeSpec := { name := "civilYears", fn := fun _ => fun
  | [d1, d2] => { results := [.lit (.bool true)], args := [d1, d2] }
  | _ => none }
def civilYearsRow : OpenClaim := { program := "ytpfelekkobddcaa", sum := "f21f373834dd8ab68c635c2ee3f32c00d1c77c270436f14a68e18f89b63a332a", func := "annalist/annalistlaw1.CivilYears", spec := "civilYears", apart := false }
def CivilYearsSaid : Prop := civilYearsRow.holds Try.pinned (OpenSpec.ofChange civilYearsSpec)

/-- ITS FALSE NEIGHBOUR: 'it returns false'. Refute it at one input. -/
def civilYearsWrong : ChangeSpec := { name := "civilYears", fn := fun _ => fun
  | [d1, d2] => { results := [.lit (.bool false)], args := [d1, d2] }
  | _ => none }
def CivilYearsWrongFalsely : Prop := civilYearsRow.holds Try.pinned (OpenSpec.ofChange civilYearsWrong)

/-- 'annalistlaw1.CivilMonotone': WHATEVER THE INPUT: true; the input reads as it did. -/
def civilMonotoneSpec : ChangeSpec := { name := "civilMonotone", fn := fun _ => fun
  | [d1, d2, d3] => { results := [.lit (.bool true)], args := [d1, d2, d3] }
  | _ => none }
def civilMonotoneRow : OpenClaim := { program := "ytpfelekkobddcaa", sum := "f21f373834dd8ab68c635c2ee3f32c00d1c77c270436f14a68e18f89b63a332a", func := "annalist/annalistlaw1.CivilMonotone", spec := "civilMonotone", apart := false }
def CivilMonotoneSaid : Prop := civilMonotoneRow.holds Try.pinned (OpenSpec.ofChange civilMonotoneSpec)

/-- ITS FALSE NEIGHBOUR: 'it returns false'. Refute it at one input. -/
def civilMonotoneWrong : ChangeSpec := { name := "civilMonotone", fn := fun _ => fun
  | [d1, d2, d3] => { results := [.lit (.bool false)], args := [d1, d2, d3] }
  | _ => none }
def CivilMonotoneWrongFalsely : Prop := civilMonotoneRow.holds Try.pinned (OpenSpec.ofChange civilMonotoneWrong)

/- THE SECOND FORM. 'bulk': how many values and letters a reading holds, each counted each time it is reached (what is shared counts as often as it is met; a slice's spare places count too). A statement '..UptoSaid' is the law's where the arguments, and the package variables that the reading takes, are together of bulk at most 1048576: NARROWER than '..Said'. Prove '..Said' where nothing that the law and all that it calls make is longer than what came in: it says more and counts as full. Else prove '..UptoSaid'. A law counts once. -/
mutual
def uptoBulk {H : Type} : DataW H → Nat
  | .lit (.string bytes) => bytes.length + 1
  | .lit _ => 1
  | .nil => 1
  | .ptr d => uptoBulk d + 1
  | .slice elems spare => uptoBulkAll elems + uptoBulkAll spare + 1
  | .agg parts => uptoBulkAll parts + 1
  | .iface _ d => uptoBulk d + 1
  | .map entries => uptoBulkEntries entries + 1
  | .held _ => 1
def uptoBulkAll {H : Type} : List (DataW H) → Nat
  | [] => 0
  | d :: r => uptoBulk d + uptoBulkAll r
def uptoBulkEntries {H : Type} : List (Lit × DataW H) → Nat
  | [] => 0
  | x :: r => uptoBulkEntry x + uptoBulkEntries r
def uptoBulkEntry {H : Type} : Lit × DataW H → Nat
  | (.string bytes, d) => bytes.length + uptoBulk d + 1
  | (_, d) => uptoBulk d + 1
 end
def uptoSmall : (H : Type) → List (DataW H) → Bool := fun _ ds => decide (uptoBulkAll ds ≤ 1048576)
def OpenSpec.upto (s : _root_.Go.ChangeSpec) : _root_.Go.OpenSpec := { _root_.Go.OpenSpec.ofChange s with cond := some uptoSmall }

/-- 'annalistlaw1.CivilLeap', WHERE WHAT IT READS IS OF BULK AT MOST 1048576: true; the input reads as it did. -/
def civilLeapUptoRow : OpenClaim := { program := "ytpfelekkobddcaa", sum := "f21f373834dd8ab68c635c2ee3f32c00d1c77c270436f14a68e18f89b63a332a", func := "annalist/annalistlaw1.CivilLeap", spec := "civilLeap", apart := false, narrowed := true }
def CivilLeapUptoSaid : Prop := civilLeapUptoRow.holds Try.pinned (OpenSpec.upto civilLeapSpec)

/-- 'annalistlaw1.CivilFromDate', WHERE WHAT IT READS IS OF BULK AT MOST 1048576: true; the input reads as it did. -/
def civilFromDateUptoRow : OpenClaim := { program := "ytpfelekkobddcaa", sum := "f21f373834dd8ab68c635c2ee3f32c00d1c77c270436f14a68e18f89b63a332a", func := "annalist/annalistlaw1.CivilFromDate", spec := "civilFromDate", apart := false, narrowed := true }
def CivilFromDateUptoSaid : Prop := civilFromDateUptoRow.holds Try.pinned (OpenSpec.upto civilFromDateSpec)

/-- 'annalistlaw1.CivilToDate', WHERE WHAT IT READS IS OF BULK AT MOST 1048576: true; the input reads as it did. -/
def civilToDateUptoRow : OpenClaim := { program := "ytpfelekkobddcaa", sum := "f21f373834dd8ab68c635c2ee3f32c00d1c77c270436f14a68e18f89b63a332a", func := "annalist/annalistlaw1.CivilToDate", spec := "civilToDate", apart := false, narrowed := true }
def CivilToDateUptoSaid : Prop := civilToDateUptoRow.holds Try.pinned (OpenSpec.upto civilToDateSpec)

/-- 'annalistlaw1.CivilRoundTrip', WHERE WHAT IT READS IS OF BULK AT MOST 1048576: true; the input reads as it did. -/
def civilRoundTripUptoRow : OpenClaim := { program := "ytpfelekkobddcaa", sum := "f21f373834dd8ab68c635c2ee3f32c00d1c77c270436f14a68e18f89b63a332a", func := "annalist/annalistlaw1.CivilRoundTrip", spec := "civilRoundTrip", apart := false, narrowed := true }
def CivilRoundTripUptoSaid : Prop := civilRoundTripUptoRow.holds Try.pinned (OpenSpec.upto civilRoundTripSpec)

/-- 'annalistlaw1.CivilNextDay', WHERE WHAT IT READS IS OF BULK AT MOST 1048576: true; the input reads as it did. -/
def civilNextDayUptoRow : OpenClaim := { program := "ytpfelekkobddcaa", sum := "f21f373834dd8ab68c635c2ee3f32c00d1c77c270436f14a68e18f89b63a332a", func := "annalist/annalistlaw1.CivilNextDay", spec := "civilNextDay", apart := false, narrowed := true }
def CivilNextDayUptoSaid : Prop := civilNextDayUptoRow.holds Try.pinned (OpenSpec.upto civilNextDaySpec)

/-- 'annalistlaw1.CivilAddMonths', WHERE WHAT IT READS IS OF BULK AT MOST 1048576: true; the input reads as it did. -/
def civilAddMonthsUptoRow : OpenClaim := { program := "ytpfelekkobddcaa", sum := "f21f373834dd8ab68c635c2ee3f32c00d1c77c270436f14a68e18f89b63a332a", func := "annalist/annalistlaw1.CivilAddMonths", spec := "civilAddMonths", apart := false, narrowed := true }
def CivilAddMonthsUptoSaid : Prop := civilAddMonthsUptoRow.holds Try.pinned (OpenSpec.upto civilAddMonthsSpec)

/-- 'annalistlaw1.CivilYears', WHERE WHAT IT READS IS OF BULK AT MOST 1048576: true; the input reads as it did. -/
def civilYearsUptoRow : OpenClaim := { program := "ytpfelekkobddcaa", sum := "f21f373834dd8ab68c635c2ee3f32c00d1c77c270436f14a68e18f89b63a332a", func := "annalist/annalistlaw1.CivilYears", spec := "civilYears", apart := false, narrowed := true }
def CivilYearsUptoSaid : Prop := civilYearsUptoRow.holds Try.pinned (OpenSpec.upto civilYearsSpec)

/-- 'annalistlaw1.CivilMonotone', WHERE WHAT IT READS IS OF BULK AT MOST 1048576: true; the input reads as it did. -/
def civilMonotoneUptoRow : OpenClaim := { program := "ytpfelekkobddcaa", sum := "f21f373834dd8ab68c635c2ee3f32c00d1c77c270436f14a68e18f89b63a332a", func := "annalist/annalistlaw1.CivilMonotone", spec := "civilMonotone", apart := false, narrowed := true }
def CivilMonotoneUptoSaid : Prop := civilMonotoneUptoRow.holds Try.pinned (OpenSpec.upto civilMonotoneSpec)

end Rows
end Go.Proofs.Ytpfelekkobddcaa
