/-
  THE STATEMENT RecordlogForeign: for every input annalistlaw37.RecordlogForeign returns true, and each argument reads as it did. No condition.
-/
import Derived.Test.YtngddhoolijimaaDoorRmI
import Derived.Test.YtngddhoolijimaaDoorArg
import Derived.Test.YtngddhoolijimaaDoorTie
import Derived.Test.YtngddhoolijimaaDoorCards
import Derived.Lay
import Derived.LaidOnce
import Derived.SevenTiedAt
namespace Go.Proofs.YtngddhoolijimaaDoor.RecordlogForeign
open Go.ChangeShapes Go.WideShapes Go.ChangeAt Go.RowKit
open Go.ChangeMaps (open_string shut_string)
set_option linter.unusedVariables false

theorem own : ownKnob Tryd.prog.godebug = none := by kernel_rfl
theorem laidOut : laidOutB Tryd.prog = true := by kernel_rfl
theorem fit : ∀ t ∈ Tryd.f12.params.toList, Tryd.prog.readableRec t = true ∧ t < Tryd.prog.types.size := paramsFit_of (by kernel_rfl)

set_option maxRecDepth 100000 in
theorem contract (H : Type) (enc : TypeId × Value → H) (W : World) (base : Nat) (args : Array Value) (ds gs : List (DataW H)) (before : List MemPlace)
    (hval : ∀ (j : Nat) t v, Tryd.f12.params[j]? = some t → args[j]? = some v → Value.okWide Tryd.prog W .any base t v)
    (hW : DataW.Whole enc Tryd.prog Tryd.f12.params.toList Rows.recordlogForeignSpec.vars false W args.toList ds gs before) : Calls Tryd.prog 12 args W (Holds W) := by
  obtain ⟨p, q, hA0, hV, rfl, hfz, hnd⟩ := hW
  have hA : DataW.TrodAll enc Tryd.prog W 0 (fun _ => true) true Tryd.f12.params.toList args.toList ds p := hA0
  rw [Tryd.params12] at hA hval
  obtain ⟨v0, vs0, d0, ds0, p0, q0, hargs, rfl, rfl, h0, r0⟩ := trodAll_cons hA
  obtain ⟨v1, vs1, d1, ds1, p1, q1, rfl, rfl, rfl, h1, r1⟩ := trodAll_cons r0
  obtain ⟨v2, vs2, d2, ds2, p2, q2, rfl, rfl, rfl, h2, r2⟩ := trodAll_cons r1
  obtain ⟨rfl, rfl, rfl⟩ := trodAll_nil r2
  obtain rfl : args = #[v0, v1, v2] := by cases args; simp_all
  clear hA0
  obtain ⟨l0, o0⟩ := open_argz Tryd.underlying57 (hval 0 57 v0 rfl rfl) h0 opensRs
  obtain ⟨l1, o1⟩ := open_argz Tryd.underlying25 (hval 1 25 v1 rfl rfl) h1 opensBy
  obtain ⟨l2, o2⟩ := open_argz Tryd.underlying25 (hval 2 25 v2 rfl rfl) h2 opensBy
  exact (fun v0 l0 v1 l1 v2 l2 o0 o1 o2 _ => foreign37_walk v0 l0 v1 l1 v2 l2 _ o0 o1 o2) v0 l0 v1 l1 v2 l2 o0 o1 o2 W

set_option maxRecDepth 100000 in
theorem lifted (os : Os) (started : os.Started) (H : Type) (enc : TypeId × Value → H) :
    ReturnsInHanded {} Tryd.checked os 12 .any (fun w args => (Rows.recordlogForeignSpec.pre enc Tryd.prog Tryd.f12 [] false w args ∧ laidMetH Tryd.prog Rows.recordlogForeignRow.laid w) ∧ sizedMet enc Tryd.prog Tryd.f12 (OpenSpec.ofChange Rows.recordlogForeignSpec) false w args) (Rows.recordlogForeignSpec.post enc Tryd.prog Tryd.f12 false true false false) := by
  refine returnsInHanded_of_change_and (C := Tryd.checked) (X := fun w _ => laidMetH Tryd.prog Rows.recordlogForeignRow.laid w) (fun _ _ _ hh h => h.of_heap hh) own started (by kernel_rfl) Tryd.func12
    (ChangeSpec.witness_shaped (enc := enc) (C := Tryd.checked) (os := os) (X := fun w _ => laidMetH Tryd.prog Rows.recordlogForeignRow.laid w) false (World.laidAll Tryd.prog os Rows.recordlogForeignRow.laid) #[.slice none 0 0, .slice none 0 0, .slice none 0 0] 8 (World.laidAll_os _ _ _)
      (World.shaped_of_ZipB (by kernel_rfl) (by kernel_rfl)) (by kernel_rfl) (by kernel_rfl) (by kernel_rfl)
      (by rw [MakeChecks.laidMetH_plain _ _ _ (by kernel_rfl)]; exact laidMet_laidAll _ (by kernel_rfl) (by kernel_rfl))) ?_
  intro W base args ds gs before hval hW _ hsz _ _
  exact (contract H enc W base args ds gs before hval hW).mono fun e W' h => post_of_holds laidOut Tryd.underlying4 rfl fit rfl (fun ds h => by match ds, h with | [_, _, _], _ => rfl) hW e W' h

theorem over : Rows.recordlogForeignRow.holds Tryd.pinned (OpenSpec.ofChange Rows.recordlogForeignSpec) :=
  OpenClaim.holds_of_wide 12 Tryd.f12 rfl rfl rfl rfl rfl rfl rfl ⟨rfl, rfl, rfl, rfl, rfl⟩ rfl rfl rfl rfl rfl (by kernel_rfl) Tryd.func12 (by kernel_rfl)
    (of_decide_eq_true (by kernel_rfl)) (by unfold Func.isWrapper; first | (rw [if_pos (by decide +kernel)]; kernel_rfl) | (rw [if_neg (by decide +kernel)]; exact ⟨rfl, rfl⟩))
    (fun os started H enc _ => lifted os started H enc)

theorem proved : Rows.RecordlogForeignCardSaid :=
  Claim7.holds_tied_plain_at .later [] [.data, .pinned] true (true, "85840607ef5f3906f005029c1922881af73b75f4a980d05c6f1a91f62ced5eee") false over (fun _ h => by cases h) (by kernel_rfl) (fun _ h => by cases h) recordlogForeign_row_tie rfl ⟨rfl, rfl⟩ (by kernel_rfl) rfl
    (fun f fn hf hfn => by
      obtain rfl : f = 12 := Option.some.inj ((show Tryd.prog.funcNamed "annalist/annalistlaw37.RecordlogForeign" = some 12 by kernel_rfl).symm.trans hf) |>.symm
      obtain rfl : fn = Tryd.f12 := (Option.some.inj (Tryd.func12.symm.trans hfn)).symm
      exact ⟨by kernel_rfl, fun j t ht => by
        have hm := Array.mem_of_getElem? ht
        have hall : (Tryd.f12.params.toList.all fun u => !Tryd.prog.wantsStandIn u) = true := by kernel_rfl
        exact (show Tryd.prog.wantsStandIn t = false by simpa using List.all_eq_true.1 hall t (Array.mem_toList_iff.2 hm))⟩)
    (by kernel_rfl)
#print axioms proved
end Go.Proofs.YtngddhoolijimaaDoor.RecordlogForeign
