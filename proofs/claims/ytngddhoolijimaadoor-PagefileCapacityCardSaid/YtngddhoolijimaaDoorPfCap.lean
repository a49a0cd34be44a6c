/-
  The walk of PagefileCapacity.
-/
import Derived.Test.YtngddhoolijimaaDoorPfO
import Derived.Test.YtngddhoolijimaaDoorFrame
namespace Go.Proofs.YtngddhoolijimaaDoor
open Go.RowKit
set_option linter.unusedVariables false

set_option maxRecDepth 100000 in
theorem capacity_walk (n : Int) (hn : (Lit.int .i64 n).wf = true) (W : World) : Calls Tryd.prog 3 #[.int .i64 n] W (Holds W) := by
  go_enter Tryd.func3, Tryd.ntmps3
  go_wp2_with fail
  refine (awake36_any _).mono ?_
  rintro e w1 ⟨rfl, hb⟩
  have HB := Lib.hid hb
  clear hb
  go_wp2_with fail
  refine (pf_Capacity n _).mono ?_
  rintro e w2 ⟨rfl, rfl⟩
  go_wp2_with fail
  refine (pf_refCapacity n _).mono ?_
  rintro e w3 ⟨rfl, rfl⟩
  have g : (capI n == capI n) = true := by simp
  generalize capI n = c at *
  go_wp2
  go_ret
  exact ⟨rfl, HB.out⟩
end Go.Proofs.YtngddhoolijimaaDoor
