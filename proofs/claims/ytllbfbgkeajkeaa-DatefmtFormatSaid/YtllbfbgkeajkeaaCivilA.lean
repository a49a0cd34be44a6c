/-
  What civil.IsLeap, DaysInMonth, yearStart, isDay and their twins of the reference return.
-/
import Derived.Test.YtllbfbgkeajkeaaRows
import Derived.Test.YtllbfbgkeajkeaaCalB
import Derived.WalkKit
import Derived.BigQuiet
import Derived.Deep.QuietTactic
import Derived.Lib.Hide
namespace Go.Proofs.Ytllbfbgkeajkeaa
open Go.RowKit

theorem ret_int {k : IntKind} {a b : Int} (h : a = b) : Ending.returned (.int k a) = .returned (.int k b) := by rw [h]
theorem ret_bool {a b : Bool} (h : a = b) : Ending.returned (.bool a) = .returned (.bool b) := by rw [h]

theorem ret_ib {k : IntKind} {a b : Int} {c d : Bool} (h : a = b) (g : c = d) : Ending.returned (.tuple #[.int k a, .bool c]) = .returned (.tuple #[.int k b, .bool d]) := by rw [h, g]

theorem tmod_zero (y k : Int) : (y.tmod k == 0) = (y % k == 0) := by
  rw [Bool.eq_iff_iff]; simp [← Int.dvd_iff_tmod_eq_zero, ← Int.dvd_iff_emod_eq_zero]
theorem tmod_nzero (y k : Int) : (y.tmod k != 0) = (y % k != 0) := by
  unfold bne; rw [tmod_zero]

theorem leap_tmod (y : Int) : Cal.leap y = ((y.tmod 4 == 0 && y.tmod 100 != 0) || y.tmod 400 == 0) := by
  unfold Cal.leap; rw [tmod_zero, tmod_zero, tmod_nzero]

set_option maxHeartbeats 400000 in
theorem civil_IsLeap (y : Int) (w : World) : Calls Try.prog 42 #[.int .i64 y] w fun e w' => e = .returned (.bool (Cal.leap y)) ∧ w = w' := by
  go_enter Try.func42, Try.ntmps42
  go_wp2
  all_goals
    go_ret
    exact ⟨ret_bool (by rw [leap_tmod]; simp [*]), rfl⟩

set_option maxHeartbeats 400000 in
theorem ref_IsLeap (y : Int) (w : World) : Calls Try.prog 43 #[.int .i64 y] w fun e w' => e = .returned (.bool (Cal.leap y)) ∧ w = w' := by
  go_enter Try.func43, Try.ntmps43
  go_wp2
  all_goals
    go_ret
    exact ⟨ret_bool (by rw [leap_tmod]; simp [*]), rfl⟩

set_option maxHeartbeats 1000000 in
theorem civil_DaysInMonth (y m : Int) (w : World) : Calls Try.prog 33 #[.int .i64 y, .int .i64 m] w fun e w' => e = .returned (.int .i64 (Cal.dim y m)) ∧ w = w' := by
  go_enter Try.func33, Try.ntmps33
  go_wp2_with (go_at_call 42; refine (civil_IsLeap _ _).mono ?_; rintro e w' ⟨rfl, rfl⟩)
  all_goals
    simp only [beq_iff_eq, beq_eq_false_iff_ne, ne_eq] at *
    go_ret
    exact ⟨ret_int (by unfold Cal.dim Cal.lp; simp [*]; try omega), rfl⟩

set_option maxHeartbeats 400000 in
theorem civil_yearStart (y : Int) (w : World) (h1 : 1600 ≤ y) (h2 : y ≤ 10000) : Calls Try.prog 34 #[.int .i64 y] w fun e w' => e = .returned (.int .i64 (Cal.ys y)) ∧ w = w' := by
  go_enter Try.func34, Try.ntmps34
  go_wp2
  go_ret
  exact ⟨ret_int (by unfold Cal.ys; omega), rfl⟩

set_option maxHeartbeats 400000 in
theorem ref_newYear (y : Int) (w : World) (h1 : 1600 ≤ y) (h2 : y ≤ 10000) : Calls Try.prog 36 #[.int .i64 y] w fun e w' => e = .returned (.int .i64 (Cal.ys y)) ∧ w = w' := by
  go_enter Try.func36, Try.ntmps36
  go_wp2
  go_ret
  exact ⟨ret_int (by unfold Cal.ys; omega), rfl⟩

set_option maxHeartbeats 400000 in
theorem civil_isDay (d : Int) (w : World) : Calls Try.prog 41 #[.int .i64 d] w fun e w' => e = .returned (.bool (Cal.isDay d)) ∧ w = w' := by
  go_enter Try.func41, Try.ntmps41
  go_wp2
  all_goals
    go_ret
    exact ⟨ret_bool (by simp [Cal.isDay]; omega), rfl⟩

set_option maxHeartbeats 400000 in
theorem ref_IsDay (d : Int) (w : World) : Calls Try.prog 14 #[.int .i64 d] w fun e w' => e = .returned (.bool (Cal.isDay d)) ∧ w = w' := by
  go_enter Try.func14, Try.ntmps14
  go_wp2
  all_goals
    go_ret
    exact ⟨ret_bool (by simp [Cal.isDay]; omega), rfl⟩

end Go.Proofs.Ytllbfbgkeajkeaa
