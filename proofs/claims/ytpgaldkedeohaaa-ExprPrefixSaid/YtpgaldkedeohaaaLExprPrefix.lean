/-
  THE STATEMENT ExprPrefix: for every input annalistlaw7.ExprPrefix returns true, and each argument reads as it did. No condition.
-/
import Derived.Test.YtpgaldkedeohaaaLwE
namespace Go.Proofs.Ytpgaldkedeohaaa.ExprPrefix
open Go.ChangeShapes Go.WideShapes Go.ChangeAt Go.RowKit
open Go.ChangeMaps (open_string shut_string)
set_option linter.unusedVariables false

theorem own : ownKnob Try.prog.godebug = none := by kernel_rfl
theorem laidOut : laidOutB Try.prog = true := by kernel_rfl
theorem fit : ∀ t ∈ Try.f8.params.toList, Try.prog.readableRec t = true ∧ t < Try.prog.types.size := paramsFit_of (by kernel_rfl)

set_option maxRecDepth 100000 in
theorem contract (H : Type) (enc : TypeId × Value → H) (W : World) (base : Nat) (args : Array Value) (ds gs : List (DataW H)) (before : List MemPlace)
    (hval : ∀ (j : Nat) t v, Try.f8.params[j]? = some t → args[j]? = some v → Value.okWide Try.prog W .any base t v)
    (hW : DataW.Whole enc Try.prog Try.f8.params.toList Rows.exprPrefixSpec.vars false W args.toList ds gs before)
    (hsz0 : (DataW.weightsEach Try.prog (Try.f8.params.toList ++ Rows.exprPrefixSpec.plain.varTypes Try.prog) (ds ++ gs)).all (· ≤ reachBytes) = true) : Calls Try.prog 8 args W (Holds W) := by
  obtain ⟨p, q, hA0, hV, rfl, hfz, hnd⟩ := hW
  have hA : DataW.TrodAll enc Try.prog W 0 (fun _ => true) true Try.f8.params.toList args.toList ds p := hA0
  have hsz : (DataW.weightsEach Try.prog (Try.f8.params.toList ++ Rows.exprPrefixSpec.plain.varTypes Try.prog) (ds ++ gs)).all (· ≤ reachBytes) = true := hsz0
  rw [Try.params8] at hA hval hsz
  obtain ⟨v0, vs0, d0, ds0, p0, q0, hargs, rfl, rfl, h0, r0⟩ := trodAll_cons hA
  obtain ⟨v1, vs1, d1, ds1, p1, q1, rfl, rfl, rfl, h1, r1⟩ := trodAll_cons r0
  obtain ⟨v2, vs2, d2, ds2, p2, q2, rfl, rfl, rfl, h2, r2⟩ := trodAll_cons r1
  obtain ⟨v3, vs3, d3, ds3, p3, q3, rfl, rfl, rfl, h3, r3⟩ := trodAll_cons r2
  obtain ⟨rfl, rfl, rfl⟩ := trodAll_nil r3
  obtain rfl : args = #[v0, v1, v2, v3] := by cases args; simp_all
  clear hA0
  obtain ⟨l0, o0⟩ := open_arg Try.underlying22 (hval 0 22 v0 rfl rfl) h0 opensExs
  have c0 := arg_nil Try.underlying22 (hval 0 22 v0 rfl rfl) h0
  have s0 := arg_size (j := 0) (b0 := 0) (r := .any) hsz rfl rfl Try.underlying22 (show Try.prog.bytesOf 44 = 64 by kernel_rfl) h0
  obtain ⟨l1, o1⟩ := open_arg Try.underlying22 (hval 1 22 v1 rfl rfl) h1 opensExs
  have c1 := arg_nil Try.underlying22 (hval 1 22 v1 rfl rfl) h1
  have s1 := arg_size (j := 1) (b0 := 0) (r := .any) hsz rfl rfl Try.underlying22 (show Try.prog.bytesOf 44 = 64 by kernel_rfl) h1
  obtain ⟨a2, rfl, rfl, rfl, w2⟩ := open_int Try.underlying3 (hval 2 3 v2 rfl rfl) h2
  obtain ⟨l3, o3⟩ := open_arg Try.underlying32 (hval 3 32 v3 rfl rfl) h3 opensRow
  exact (fun v L v2 M root rv row hL c1 _ hM c2 s2 _ hc _ => prefix_walk v v2 rv root L M row _ hL hM c1 c2 s2 hc) v0 l0 v1 l1 a2 v3 l3 o0 c0 s0 o1 c1 s1 w2 o3 W

set_option maxRecDepth 100000 in
theorem lifted (os : Os) (started : os.Started) (H : Type) (enc : TypeId × Value → H) :
    ReturnsInHanded {} Try.checked os 8 .any (Rows.exprPrefixSpec.pre6 enc Try.prog Try.f8 Rows.exprPrefixRow.domain false) (Rows.exprPrefixSpec.post enc Try.prog Try.f8 false true false false) := by
  refine returnsInHanded_of_change_sized (C := Try.checked) own started (by kernel_rfl) Try.func8
    (ChangeSpec.witness6 (enc := enc) (C := Try.checked) false ⟨#[], #[.slice none 0 0, .slice none 0 0, .int .i64 0, .slice none 0 0], []⟩ 8 (by kernel_rfl) (by kernel_rfl) (by kernel_rfl) (by kernel_rfl)) ?_
  intro W base args ds gs before hval hW _ hsz _
  exact (contract H enc W base args ds gs before hval hW hsz).mono fun e W' h => post_of_holds laidOut Try.underlying4 rfl fit rfl (fun ds h => by match ds, h with | [_, _, _, _], _ => rfl) hW e W' h

theorem over : Rows.exprPrefixRow.holds Try.pinned (OpenSpec.ofChange Rows.exprPrefixSpec) :=
  OpenClaim.holds_of_wide 8 Try.f8 rfl rfl rfl rfl rfl rfl rfl ⟨rfl, rfl, rfl, rfl, rfl⟩ rfl rfl rfl rfl rfl (by kernel_rfl) Try.func8 (by kernel_rfl)
    (of_decide_eq_true (by kernel_rfl)) (by unfold Func.isWrapper; first | (rw [if_pos (by decide +kernel)]; kernel_rfl) | (rw [if_neg (by decide +kernel)]; exact ⟨rfl, rfl⟩))
    (fun os started H enc _ => lifted os started H enc)

theorem proved : Rows.ExprPrefixSaid := over
#print axioms proved
end Go.Proofs.Ytpgaldkedeohaaa.ExprPrefix
