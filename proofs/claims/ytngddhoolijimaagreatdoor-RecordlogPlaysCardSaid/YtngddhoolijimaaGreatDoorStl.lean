/-
  A region that draws its order, begins with a call that all else waits for, and only reads behind it: walked once. No program in sight.
-/
import Derived.Test.YtngddhoolijimaaGreatDoorBase
namespace Go.Proofs.YtngddhoolijimaaGreatDoor
open Go.RowKit

/-- The first operation is the one that is ready; behind it the text's order serves. -/
def callB (ops : Array Oper) : Bool :=
  Region.noSelect ops && decide (Region.ready .any ops (Array.replicate ops.size false) = [0]) && Region.lexFrom .any ops (ops.size - 1) 1 ((Array.replicate ops.size false).setIfInBounds 0 true)

theorem region_call_still {P : Program} {id : Nat} {Q : Exit → Act → World → Prop} {a : Act} {w : World} {o : Oper} {l : List Oper} (hm : P.follows .mixedOrders = true) (hB : callB (o :: l).toArray = true)
    (hw : Region.wanted o (yielded (o :: l).toArray a.tmps) = true)
    (h : ∀ W', W' = w.drew → o.wp P a W' (fun a' w' => Veil (wpStill P (o :: l).toArray w' (fun a'' => Q .normal a'' w') l a')) Q) : (Code.region id (o :: l).toArray true).wp P Q a w := by
  simp only [callB, Bool.and_eq_true, decide_eq_true_eq] at hB
  obtain ⟨⟨hs, hr⟩, hlex⟩ := hB
  refine wp_region_any hm ?_
  have hsz : (o :: l).toArray.size = l.length + 1 := by simp
  show wpAny P .any (o :: l).toArray Q (o :: l).toArray.size (Array.replicate (o :: l).toArray.size false) a { w with drawn := w.drawn + 1 }
  have key : ∀ n, n = l.length + 1 → wpAny P .any (o :: l).toArray Q n (Array.replicate (o :: l).toArray.size false) a { w with drawn := w.drawn + 1 } := by
    rintro n rfl
    refine ⟨fun h0 => (by rw [hr] at h0; cases h0), fun i hi => ?_⟩
    rw [hr] at hi
    obtain rfl : i = 0 := by simpa using hi
    unfold wpOp
    have h0 : (o :: l).toArray[0]? = some o := by simp
    simp only [h0, hw, if_true]
    refine .inl (Oper.wp_mono (fun a' w' hv => ?_) (h _ rfl))
    refine wpAny_of_still (fun _ h => h) _ _ _ ?_
    refine wpAnyS_lex hs l 1 _ _ (fun j => by simp [Nat.add_comm 1 j]) ?_ hv.out
    rw [hsz] at hlex
    simpa using hlex
  exact key _ hsz

end Go.Proofs.YtngddhoolijimaaGreatDoor
