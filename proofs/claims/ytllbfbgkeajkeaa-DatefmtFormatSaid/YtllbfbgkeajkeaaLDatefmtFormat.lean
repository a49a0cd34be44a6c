/-
  THE STATEMENT DatefmtFormat: for every input annalistlaw3.DatefmtFormat returns true, and each argument reads as it did. No condition.
-/
import Derived.Test.YtllbfbgkeajkeaaDateH
namespace Go.Proofs.Ytllbfbgkeajkeaa.DatefmtFormat
open Go.ChangeShapes Go.WideShapes Go.ChangeAt Go.RowKit
open Go.ChangeMaps (open_string shut_string)
set_option linter.unusedVariables false

theorem own : ownKnob Try.prog.godebug = none := by kernel_rfl
theorem laidOut : laidOutB Try.prog = true := by kernel_rfl
theorem fit : ∀ t ∈ Try.f6.params.toList, Try.prog.readableRec t = true ∧ t < Try.prog.types.size := paramsFit_of (by kernel_rfl)

theorem contract (H : Type) (enc : TypeId × Value → H) (W : World) (base : Nat) (args : Array Value) (ds gs : List (DataW H)) (before : List MemPlace)
    (hval : ∀ (j : Nat) t v, Try.f6.params[j]? = some t → args[j]? = some v → Value.okWide Try.prog W .any base t v)
    (hW : DataW.Whole enc Try.prog Try.f6.params.toList Rows.datefmtFormatSpec.vars false W args.toList ds gs before) : Calls Try.prog 6 args W (Holds W) := by
  obtain ⟨p, q, hA0, hV, rfl, hfz, hnd⟩ := hW
  have hA : DataW.TrodAll enc Try.prog W 0 (fun _ => true) true Try.f6.params.toList args.toList ds p := hA0
  rw [Try.params6] at hA hval
  obtain ⟨v0, vs0, d0, ds0, p0, q0, hargs, rfl, rfl, h0, r0⟩ := trodAll_cons hA
  obtain ⟨v1, vs1, d1, ds1, p1, q1, rfl, rfl, rfl, h1, r1⟩ := trodAll_cons r0
  obtain ⟨rfl, rfl, rfl⟩ := trodAll_nil r1
  obtain rfl : args = #[v0, v1] := by cases args; simp_all
  clear hA0
  obtain ⟨a0, rfl, rfl, rfl, w0⟩ := open_int Try.underlying3 (hval 0 3 v0 rfl rfl) h0
  obtain ⟨c10, c11, y10, y11, m1, rfl, rfl, rfl, hy10, hy11⟩ := Go.Joins.open_agg2 Try.underlying30 (by kernel_rfl) (show Try.prog.cellsOf 30 = 2 by kernel_rfl) (hval 1 30 v1 rfl rfl) h1
  obtain ⟨a10, e10, hx10, w10⟩ := DataW.trod_int Try.underlying3 hy10
  simp at e10; subst e10
  obtain ⟨a11, e11, hx11, w11⟩ := DataW.trod_int Try.underlying3 hy11
  simp at e11; subst e11
  exact (fun n f t _ _ _ W => format_walk n f t W) a0 a10 a11 w0 w10 w11 W

set_option maxRecDepth 100000 in
theorem lifted (os : Os) (started : os.Started) (H : Type) (enc : TypeId × Value → H) :
    ReturnsInHanded {} Try.checked os 6 .any (Rows.datefmtFormatSpec.pre6 enc Try.prog Try.f6 Rows.datefmtFormatRow.domain false) (Rows.datefmtFormatSpec.post enc Try.prog Try.f6 false true false false) := by
  refine returnsInHanded_of_change (C := Try.checked) own started (by kernel_rfl) Try.func6
    (ChangeSpec.witness6 (enc := enc) (C := Try.checked) false ⟨#[], #[.int .i64 0, .agg #[.int .i64 0, .int .i64 0]], []⟩ 8 (by kernel_rfl) (by kernel_rfl) (by kernel_rfl) (by kernel_rfl)) ?_
  intro W base args ds gs before hval hW _ _
  exact (contract H enc W base args ds gs before hval hW).mono fun e W' h => post_of_holds laidOut Try.underlying4 rfl fit rfl (fun ds h => by match ds, h with | [_, _], _ => rfl) hW e W' h

theorem over : Rows.datefmtFormatRow.holds Try.pinned (OpenSpec.ofChange Rows.datefmtFormatSpec) :=
  OpenClaim.holds_of_wide 6 Try.f6 rfl rfl rfl rfl rfl rfl rfl ⟨rfl, rfl, rfl, rfl, rfl⟩ rfl rfl rfl rfl rfl (by kernel_rfl) Try.func6 (by kernel_rfl)
    (of_decide_eq_true (by kernel_rfl)) (by unfold Func.isWrapper; first | (rw [if_pos (by decide +kernel)]; kernel_rfl) | (rw [if_neg (by decide +kernel)]; exact ⟨rfl, rfl⟩))
    (fun os started H enc _ => lifted os started H enc)

theorem proved : Rows.DatefmtFormatSaid := over
#print axioms proved
end Go.Proofs.Ytllbfbgkeajkeaa.DatefmtFormat
