/-
  THE STATEMENT DiskStable: for every input annalistlaw35.DiskStable returns true, and each argument reads as it did. No condition.
-/
import Derived.Test.YtbolglpbkgmlfaaDkP
namespace Go.Proofs.Ytbolglpbkgmlfaa.DiskStable
open Go.ChangeShapes Go.WideShapes Go.ChangeAt Go.RowKit
open Go.ChangeMaps (open_string shut_string)
set_option linter.unusedVariables false

theorem own : ownKnob Try.prog.godebug = none := by kernel_rfl
theorem laidOut : laidOutB Try.prog = true := by kernel_rfl
theorem fit : ∀ t ∈ Try.f4.params.toList, Try.prog.readableRec t = true ∧ t < Try.prog.types.size := paramsFit_of (by kernel_rfl)

set_option maxRecDepth 100000 in
theorem contract (H : Type) (enc : TypeId × Value → H) (W : World) (base : Nat) (args : Array Value) (ds gs : List (DataW H)) (before : List MemPlace)
    (hval : ∀ (j : Nat) t v, Try.f4.params[j]? = some t → args[j]? = some v → Value.okWide Try.prog W .any base t v)
    (hW : DataW.Whole enc Try.prog Try.f4.params.toList Rows.diskStableSpec.vars false W args.toList ds gs before) : Calls Try.prog 4 args W (Holds W) := by
  obtain ⟨p, q, hA0, hV, rfl, hfz, hnd⟩ := hW
  have hA : DataW.TrodAll enc Try.prog W 0 (fun _ => true) true Try.f4.params.toList args.toList ds p := hA0
  rw [Try.params4] at hA hval
  obtain ⟨v0, vs0, d0, ds0, p0, q0, hargs, rfl, rfl, h0, r0⟩ := trodAll_cons hA
  obtain ⟨v1, vs1, d1, ds1, p1, q1, rfl, rfl, rfl, h1, r1⟩ := trodAll_cons r0
  obtain ⟨v2, vs2, d2, ds2, p2, q2, rfl, rfl, rfl, h2, r2⟩ := trodAll_cons r1
  obtain ⟨v3, vs3, d3, ds3, p3, q3, rfl, rfl, rfl, h3, r3⟩ := trodAll_cons r2
  obtain ⟨rfl, rfl, rfl⟩ := trodAll_nil r3
  obtain rfl : args = #[v0, v1, v2, v3] := by cases args; simp_all
  clear hA0
  obtain ⟨l0, o0⟩ := open_arg Try.underlying24 (hval 0 24 v0 rfl rfl) h0 opensBytes
  obtain ⟨l1, o1⟩ := open_arg Try.underlying24 (hval 1 24 v1 rfl rfl) h1 opensBytes
  obtain ⟨l2, o2⟩ := open_arg Try.underlying31 (hval 2 31 v2 rfl rfl) h2 opensInts
  obtain ⟨a3, rfl, rfl, rfl, w3⟩ := open_int Try.underlying5 (hval 3 5 v3 rfl rfl) h3
  exact (fun o ol d dl k kl n ho hd hk hn _ => stable_walk o d k ol dl kl n _ ho hd hk hn) v0 l0 v1 l1 v2 l2 a3 o0 o1 o2 w3 W

set_option maxRecDepth 100000 in
theorem lifted (os : Os) (started : os.Started) (H : Type) (enc : TypeId × Value → H) :
    ReturnsInHanded {} Try.checked os 4 .any (Rows.diskStableSpec.pre6 enc Try.prog Try.f4 Rows.diskStableRow.domain false) (Rows.diskStableSpec.post enc Try.prog Try.f4 false true false false) := by
  refine returnsInHanded_of_change (C := Try.checked) own started (by kernel_rfl) Try.func4
    (ChangeSpec.witness6 (enc := enc) (C := Try.checked) false ⟨#[], #[.slice none 0 0, .slice none 0 0, .slice none 0 0, .int .u8 0], []⟩ 8 (by kernel_rfl) (by kernel_rfl) (by kernel_rfl) (by kernel_rfl)) ?_
  intro W base args ds gs before hval hW _ _
  exact (contract H enc W base args ds gs before hval hW).mono fun e W' h => post_of_holds laidOut Try.underlying4 rfl fit rfl (fun ds h => by match ds, h with | [_, _, _, _], _ => rfl) hW e W' h

theorem over : Rows.diskStableRow.holds Try.pinned (OpenSpec.ofChange Rows.diskStableSpec) :=
  OpenClaim.holds_of_wide 4 Try.f4 rfl rfl rfl rfl rfl rfl rfl ⟨rfl, rfl, rfl, rfl, rfl⟩ rfl rfl rfl rfl rfl (by kernel_rfl) Try.func4 (by kernel_rfl)
    (of_decide_eq_true (by kernel_rfl)) (by unfold Func.isWrapper; first | (rw [if_pos (by decide +kernel)]; kernel_rfl) | (rw [if_neg (by decide +kernel)]; exact ⟨rfl, rfl⟩))
    (fun os started H enc _ => lifted os started H enc)

theorem proved : Rows.DiskStableSaid := over
#print axioms proved
end Go.Proofs.Ytbolglpbkgmlfaa.DiskStable
