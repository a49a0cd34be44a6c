/-
  No cell of these rows narrows 'for every input' (looked for: loops, veiled, ifaces, maps, wideKeys, modest, calm, conditions, laid).
  DERIVED. THE GIVEN ROWS OF THIS SEAT. 4 by the template 'for every input the law returns true; each argument reads behind the call as it read before'; 0 by the template 'total and deterministic' (their statements: YtfppjpmflpaffaaGreatTotals.lean).
  GIVEN WITH THE SEED: the statements are not yours to turn. If you find one false, say at which input.
  Laid BY PROGRAM, IN A SANDBOX (cutbox-rows.mjs): the forced cells as the released guide's own fill.sh prints them over the translation 13ddd0ae050253f4… (all of the seat's roots in one cut). By AI agents, Wed Nov 11 2026. No macro, syntax, notation, axiom, sorry.
-/
import Derived.Test.YtfppjpmflpaffaaGreatChecked
import GoSem.Claim
import GoSem.ClaimJoined
import GoSem.ClaimMapViews
import Derived.JoinedTies
import Derived.KernelRfl
namespace Go.Proofs.YtfppjpmflpaffaaGreat
/- THE CELL 'sum', in the pinned program and in every row, IS THE sha256 OF THE DUMP (.gsa) THAT YtfppjpmflpaffaaGreatProg.lean LOADS. Nothing in Lean hashes anything: it is a label: what it is worth is what the hold of that sum in a sandbox is worth. -/
noncomputable def Tryz.pinned : Pinned := { name := "ytfppjpmflpaffaagreat", sum := "13ddd0ae050253f499f07086b973423e8399c90341c24c91a01908f80a821fc1", checked := Tryz.checked }
namespace Rows
def none {H : Type} : Left H := { results := [], args := [] }

/-- 'annalistlaw34.CodecBuilt': WHATEVER THE INPUT: true; the input reads as it did. -/
def codecBuiltSpec : ChangeSpec := { name := "codecBuilt", fn := fun _ => fun
  | [d1, d2] => { results := [.lit (.bool true)], args := [d1, d2] }
  | _ => none }
def codecBuiltRow : OpenClaim := { program := "ytfppjpmflpaffaagreat", sum := "13ddd0ae050253f499f07086b973423e8399c90341c24c91a01908f80a821fc1", func := "annalist/annalistlaw34.CodecBuilt", spec := "codecBuilt", unfollowed := true, recurses := true, apart := false }
def CodecBuiltSaid : Prop := codecBuiltRow.holds Tryz.pinned (OpenSpec.ofChange codecBuiltSpec)

/-- ITS FALSE NEIGHBOUR: 'it returns false'. Refute it at one input. -/
def codecBuiltWrong : ChangeSpec := { name := "codecBuilt", fn := fun _ => fun
  | [d1, d2] => { results := [.lit (.bool false)], args := [d1, d2] }
  | _ => none }
def CodecBuiltWrongFalsely : Prop := codecBuiltRow.holds Tryz.pinned (OpenSpec.ofChange codecBuiltWrong)

/-- 'annalistlaw34.CodecDecodes': WHATEVER THE INPUT: true; the input reads as it did. -/
def codecDecodesSpec : ChangeSpec := { name := "codecDecodes", fn := fun _ => fun
  | [d] => { results := [.lit (.bool true)], args := [d] }
  | _ => none }
def codecDecodesRow : OpenClaim := { program := "ytfppjpmflpaffaagreat", sum := "13ddd0ae050253f499f07086b973423e8399c90341c24c91a01908f80a821fc1", func := "annalist/annalistlaw34.CodecDecodes", spec := "codecDecodes", unfollowed := true, recurses := true, apart := false }
def CodecDecodesSaid : Prop := codecDecodesRow.holds Tryz.pinned (OpenSpec.ofChange codecDecodesSpec)

/-- ITS FALSE NEIGHBOUR: 'it returns false'. Refute it at one input. -/
def codecDecodesWrong : ChangeSpec := { name := "codecDecodes", fn := fun _ => fun
  | [d] => { results := [.lit (.bool false)], args := [d] }
  | _ => none }
def CodecDecodesWrongFalsely : Prop := codecDecodesRow.holds Tryz.pinned (OpenSpec.ofChange codecDecodesWrong)

/-- 'annalistlaw34.CodecDamaged': WHATEVER THE INPUT: true; the input reads as it did. -/
def codecDamagedSpec : ChangeSpec := { name := "codecDamaged", fn := fun _ => fun
  | [d1, d2, d3, d4] => { results := [.lit (.bool true)], args := [d1, d2, d3, d4] }
  | _ => none }
def codecDamagedRow : OpenClaim := { program := "ytfppjpmflpaffaagreat", sum := "13ddd0ae050253f499f07086b973423e8399c90341c24c91a01908f80a821fc1", func := "annalist/annalistlaw34.CodecDamaged", spec := "codecDamaged", unfollowed := true, recurses := true, apart := false }
def CodecDamagedSaid : Prop := codecDamagedRow.holds Tryz.pinned (OpenSpec.ofChange codecDamagedSpec)

/-- ITS FALSE NEIGHBOUR: 'it returns false'. Refute it at one input. -/
def codecDamagedWrong : ChangeSpec := { name := "codecDamaged", fn := fun _ => fun
  | [d1, d2, d3, d4] => { results := [.lit (.bool false)], args := [d1, d2, d3, d4] }
  | _ => none }
def CodecDamagedWrongFalsely : Prop := codecDamagedRow.holds Tryz.pinned (OpenSpec.ofChange codecDamagedWrong)

/-- 'annalistlaw34.CodecCut': WHATEVER THE INPUT: true; the input reads as it did. -/
def codecCutSpec : ChangeSpec := { name := "codecCut", fn := fun _ => fun
  | [d1, d2, d3, d4] => { results := [.lit (.bool true)], args := [d1, d2, d3, d4] }
  | _ => none }
def codecCutRow : OpenClaim := { program := "ytfppjpmflpaffaagreat", sum := "13ddd0ae050253f499f07086b973423e8399c90341c24c91a01908f80a821fc1", func := "annalist/annalistlaw34.CodecCut", spec := "codecCut", unfollowed := true, recurses := true, apart := false }
def CodecCutSaid : Prop := codecCutRow.holds Tryz.pinned (OpenSpec.ofChange codecCutSpec)

/-- ITS FALSE NEIGHBOUR: 'it returns false'. Refute it at one input. -/
def codecCutWrong : ChangeSpec := { name := "codecCut", fn := fun _ => fun
  | [d1, d2, d3, d4] => { results := [.lit (.bool false)], args := [d1, d2, d3, d4] }
  | _ => none }
def CodecCutWrongFalsely : Prop := codecCutRow.holds Tryz.pinned (OpenSpec.ofChange codecCutWrong)

/- THE SECOND FORM. 'bulk': how many values and letters a reading holds, each counted each time it is reached (what is shared counts as often as it is met; a slice's spare places count too). A statement '..UptoSaid' is the law's where the arguments, and the package variables that the reading takes, are together of bulk at most 1048576: NARROWER than '..Said'. Prove '..Said' where nothing that the law and all that it calls make is longer than what came in: it says more and counts as full. Else prove '..UptoSaid'. A law counts once. -/
mutual
def uptoBulk {H : Type} : DataW H → Nat
  | .lit (.string bytes) => bytes.length + 1
  | .lit _ => 1
  | .nil => 1
  | .ptr d => uptoBulk d + 1
  | .slice elems spare => uptoBulkAll elems + uptoBulkAll spare + 1
  | .agg parts => uptoBulkAll parts + 1
  | .iface _ d => uptoBulk d + 1
  | .map entries => uptoBulkEntries entries + 1
  | .held _ => 1
def uptoBulkAll {H : Type} : List (DataW H) → Nat
  | [] => 0
  | d :: r => uptoBulk d + uptoBulkAll r
def uptoBulkEntries {H : Type} : List (Lit × DataW H) → Nat
  | [] => 0
  | x :: r => uptoBulkEntry x + uptoBulkEntries r
def uptoBulkEntry {H : Type} : Lit × DataW H → Nat
  | (.string bytes, d) => bytes.length + uptoBulk d + 1
  | (_, d) => uptoBulk d + 1
 end
def uptoSmall : (H : Type) → List (DataW H) → Bool := fun _ ds => decide (uptoBulkAll ds ≤ 1048576)
def OpenSpec.upto (s : _root_.Go.ChangeSpec) : _root_.Go.OpenSpec := { _root_.Go.OpenSpec.ofChange s with cond := some uptoSmall }

/-- 'annalistlaw34.CodecBuilt', WHERE WHAT IT READS IS OF BULK AT MOST 1048576: true; the input reads as it did. -/
def codecBuiltUptoRow : OpenClaim := { program := "ytfppjpmflpaffaagreat", sum := "13ddd0ae050253f499f07086b973423e8399c90341c24c91a01908f80a821fc1", func := "annalist/annalistlaw34.CodecBuilt", spec := "codecBuilt", unfollowed := true, recurses := true, apart := false, narrowed := true }
def CodecBuiltUptoSaid : Prop := codecBuiltUptoRow.holds Tryz.pinned (OpenSpec.upto codecBuiltSpec)

/-- 'annalistlaw34.CodecDecodes', WHERE WHAT IT READS IS OF BULK AT MOST 1048576: true; the input reads as it did. -/
def codecDecodesUptoRow : OpenClaim := { program := "ytfppjpmflpaffaagreat", sum := "13ddd0ae050253f499f07086b973423e8399c90341c24c91a01908f80a821fc1", func := "annalist/annalistlaw34.CodecDecodes", spec := "codecDecodes", unfollowed := true, recurses := true, apart := false, narrowed := true }
def CodecDecodesUptoSaid : Prop := codecDecodesUptoRow.holds Tryz.pinned (OpenSpec.upto codecDecodesSpec)

/-- 'annalistlaw34.CodecDamaged', WHERE WHAT IT READS IS OF BULK AT MOST 1048576: true; the input reads as it did. -/
def codecDamagedUptoRow : OpenClaim := { program := "ytfppjpmflpaffaagreat", sum := "13ddd0ae050253f499f07086b973423e8399c90341c24c91a01908f80a821fc1", func := "annalist/annalistlaw34.CodecDamaged", spec := "codecDamaged", unfollowed := true, recurses := true, apart := false, narrowed := true }
def CodecDamagedUptoSaid : Prop := codecDamagedUptoRow.holds Tryz.pinned (OpenSpec.upto codecDamagedSpec)

/-- 'annalistlaw34.CodecCut', WHERE WHAT IT READS IS OF BULK AT MOST 1048576: true; the input reads as it did. -/
def codecCutUptoRow : OpenClaim := { program := "ytfppjpmflpaffaagreat", sum := "13ddd0ae050253f499f07086b973423e8399c90341c24c91a01908f80a821fc1", func := "annalist/annalistlaw34.CodecCut", spec := "codecCut", unfollowed := true, recurses := true, apart := false, narrowed := true }
def CodecCutUptoSaid : Prop := codecCutUptoRow.holds Tryz.pinned (OpenSpec.upto codecCutSpec)

end Rows
end Go.Proofs.YtfppjpmflpaffaaGreat
