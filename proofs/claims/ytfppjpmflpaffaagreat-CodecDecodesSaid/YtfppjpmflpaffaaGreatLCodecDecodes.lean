/-
  THE STATEMENT CodecDecodes: for every input annalistlaw34.CodecDecodes returns true, and each argument reads as it did. No condition.
-/
import Derived.Test.YtfppjpmflpaffaaGreatCuC
namespace Go.Proofs.YtfppjpmflpaffaaGreat.CodecDecodes
open Go.ChangeShapes Go.WideShapes Go.ChangeAt Go.RowKit
open Go.ChangeMaps (open_string shut_string)
set_option linter.unusedVariables false

theorem own : ownKnob Tryz.prog.godebug = none := by kernel_rfl
theorem laidOut : laidOutB Tryz.prog = true := by kernel_rfl
theorem fit : ∀ t ∈ Tryz.f4.params.toList, Tryz.prog.readableRec t = true ∧ t < Tryz.prog.types.size := paramsFit_of (by kernel_rfl)

set_option maxRecDepth 100000 in
theorem contract (H : Type) (enc : TypeId × Value → H) (W : World) (base : Nat) (args : Array Value) (ds gs : List (DataW H)) (before : List MemPlace)
    (hval : ∀ (j : Nat) t v, Tryz.f4.params[j]? = some t → args[j]? = some v → Value.okWide Tryz.prog W .any base t v)
    (hW : DataW.Whole enc Tryz.prog Tryz.f4.params.toList Rows.codecDecodesSpec.vars false W args.toList ds gs before) : Calls Tryz.prog 4 args W (Holds W) := by
  obtain ⟨p, q, hA0, hV, rfl, hfz, hnd⟩ := hW
  have hA : DataW.TrodAll enc Tryz.prog W 0 (fun _ => true) true Tryz.f4.params.toList args.toList ds p := hA0
  rw [Tryz.params4] at hA hval
  obtain ⟨v0, vs0, d0, ds0, p0, q0, hargs, rfl, rfl, h0, r0⟩ := trodAll_cons hA
  obtain ⟨rfl, rfl, rfl⟩ := trodAll_nil r0
  obtain rfl : args = #[v0] := by cases args; simp_all
  clear hA0
  obtain ⟨l0, o0⟩ := open_argz Tryz.underlying31 (hval 0 31 v0 rfl rfl) h0 opensBy
  exact (fun v l o W => decodes34_walk v l o) v0 l0 o0 W

set_option maxRecDepth 100000 in
theorem lifted (os : Os) (started : os.Started) (H : Type) (enc : TypeId × Value → H) :
    ReturnsInHanded {} Tryz.checked os 4 .any (Rows.codecDecodesSpec.pre6 enc Tryz.prog Tryz.f4 Rows.codecDecodesRow.domain false) (Rows.codecDecodesSpec.post enc Tryz.prog Tryz.f4 false true false false) := by
  refine returnsInHanded_of_change (C := Tryz.checked) own started (by kernel_rfl) Tryz.func4
    (ChangeSpec.witness6 (enc := enc) (C := Tryz.checked) false ⟨#[], #[.slice none 0 0], []⟩ 8 (by kernel_rfl) (by kernel_rfl) (by kernel_rfl) (by kernel_rfl)) ?_
  intro W base args ds gs before hval hW _ _
  exact (contract H enc W base args ds gs before hval hW).mono fun e W' h => post_of_holds laidOut Tryz.underlying4 rfl fit rfl (fun ds h => by match ds, h with | [_], _ => rfl) hW e W' h

theorem named : Tryz.pinned.checked.prog.funcNamed Rows.codecDecodesRow.func = some 4 := by kernel_rfl
theorem closed : joinedFacts Tryz.pinned.checked.prog 4 Tryz.f4 Rows.codecDecodesSpec Rows.codecDecodesRow = true := by kernel_rfl
theorem instOf : Tryz.f4.isInstance Tryz.pinned.checked.prog Rows.codecDecodesRow.origin Rows.codecDecodesRow.targs := of_decide_eq_true (by kernel_rfl)
theorem wrapOf : Tryz.f4.isWrapper Tryz.pinned.checked.prog Rows.codecDecodesRow.wrapper Rows.codecDecodesRow.mainSum := by unfold Func.isWrapper; first | (rw [if_pos (by decide +kernel)]; kernel_rfl) | (rw [if_neg (by decide +kernel)]; exact ⟨rfl, rfl⟩)

theorem over : Rows.codecDecodesRow.holds Tryz.pinned (OpenSpec.ofChange Rows.codecDecodesSpec) :=
  OpenClaim.holds_of_wide 4 Tryz.f4 rfl rfl rfl rfl rfl rfl rfl ⟨rfl, rfl, rfl, rfl, rfl⟩ rfl rfl rfl rfl rfl named Tryz.func4 closed
    instOf wrapOf
    (fun os started H enc _ => lifted os started H enc)

theorem proved : Rows.CodecDecodesSaid := over
#print axioms proved
end Go.Proofs.YtfppjpmflpaffaaGreat.CodecDecodes
