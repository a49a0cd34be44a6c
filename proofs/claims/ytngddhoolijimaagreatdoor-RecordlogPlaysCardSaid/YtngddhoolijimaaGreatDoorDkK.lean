/-
  The walks of DiskNil and DiskSizes.
-/
import Derived.Test.YtngddhoolijimaaGreatDoorDkJ
namespace Go.Proofs.YtngddhoolijimaaGreatDoor
open Go.RowKit Go.Maps
set_option linter.unusedVariables false

theorem new_facts (k : Nat) (i : Int) (hi : ¬ (i < 0 ∨ (k : Int) ≤ i)) : (DK.new k).chk i = 0 ∧ (DK.new k).read i = zeroPage := by
  have hc : (DK.new k).chk i = 0 := by
    unfold DK.chk DK.new
    simp only [List.length_replicate, Bool.false_eq_true, if_false]
    rw [if_neg hi]
  refine ⟨hc, ?_⟩
  unfold DK.read
  rw [if_pos hc]
  unfold DK.get DK.new
  simp only [Option.getD_none]
  rw [List.getD_eq_getElem?_getD, List.getElem?_replicate, if_pos (by omega)]
  rfl

theorem new_range (k : Nat) (i : Int) (hi : i < 0 ∨ (k : Int) ≤ i) : (DK.new k).chk i = 10 ∧ (DK.new k).read i = [] := by
  have hc : (DK.new k).chk i = 10 := by
    unfold DK.chk DK.new
    simp only [List.length_replicate, Bool.false_eq_true, if_false]
    rw [if_pos hi]
  refine ⟨hc, ?_⟩
  unfold DK.read
  rw [if_neg (by rw [hc]; decide)]

end Go.Proofs.YtngddhoolijimaaGreatDoor
