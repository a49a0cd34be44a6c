/-
  Arithmetic on numbers of 64 bits that is exact or Null.
-/
import Derived.Test.YtpgaldkedeohaaaExprC
import Derived.Test.YtpgaldkedeohaaaShelf
namespace Go.Proofs.Ytpgaldkedeohaaa
open Go.RowKit

/-- A number of 64 bits. -/
def I64 (n : Int) : Prop := -9223372036854775808 ≤ n ∧ n ≤ 9223372036854775807

theorem i64_iff (n : Int) : Xp.i64 n = true ↔ -9223372036854775808 ≤ n ∧ n ≤ 9223372036854775807 := by unfold Xp.i64; simp

set_option maxRecDepth 100000 in
theorem expr_magnitude (a : Int) (w : World) (h1 : -9223372036854775808 ≤ a) (h2 : a ≤ 9223372036854775807) :
    Calls Try.prog 65 #[.int .i64 a] w fun e w' => e = .returned (.int .u64 (a.natAbs : Int)) ∧ w = w' := by
  by_cases h : a < 0
  · go_enter Try.func65, Try.ntmps65
    go_wp2
    go_ret
    exact ⟨ret_int (by rw [IntKind.wrap_u64, IntKind.wrap_u64]; omega), rfl⟩
  · go_enter Try.func65, Try.ntmps65
    go_wp2
    go_ret
    exact ⟨ret_int (by omega), rfl⟩

theorem mul_call (a b hi lo : Int) (w : World) (h1 : -9223372036854775808 ≤ a ∧ a ≤ 9223372036854775807) (h2 : -9223372036854775808 ≤ b ∧ b ≤ 9223372036854775807)
    (hh : ((a.natAbs * b.natAbs / 18446744073709551616 : Nat) : Int) = hi) (hl : ((a.natAbs * b.natAbs % 18446744073709551616 : Nat) : Int) = lo) :
    Calls Try.prog 66 #[.int .u64 (a.natAbs : Int), .int .u64 (b.natAbs : Int)] w fun e w' => e = .returned (.tuple #[.int .u64 hi, .int .u64 lo]) ∧ w = w' := by
  subst hh; subst hl
  exact (Sh.bits_Mul64 a.natAbs b.natAbs (by omega) (by omega) w).mono fun e w' ⟨h, g⟩ => ⟨h, g.symm⟩

/-- A product that is exact, or a sign that it isn't. -/
def MulPost (a b : Int) (w : World) (e : Ending) (w' : World) : Prop := ∃ n : Int, e = .returned (.tuple #[.int .i64 n, .bool (Xp.i64 (a * b))]) ∧ (Xp.i64 (a * b) = true → n = a * b) ∧ w = w'

theorem mul_abs (a b : Int) : ((a.natAbs * b.natAbs : Nat) : Int) = (a * b).natAbs := by rw [Int.natAbs_mul]

theorem mul_sign (a b : Int) : (0 ≤ a → 0 ≤ b → 0 ≤ a * b) ∧ (a < 0 → b < 0 → 0 ≤ a * b) ∧ (a < 0 → 0 ≤ b → a * b ≤ 0) ∧ (0 ≤ a → b < 0 → a * b ≤ 0) :=
  ⟨fun h g => Int.mul_nonneg h g, fun h g => Int.mul_nonneg_of_nonpos_of_nonpos (by omega) (by omega), fun h g => Int.mul_nonpos_of_nonpos_of_nonneg (by omega) g, fun h g => Int.mul_nonpos_of_nonneg_of_nonpos h (by omega)⟩

set_option maxRecDepth 100000 in
set_option maxHeartbeats 1000000 in
theorem mul_a1b1 (a b P : Int) (N : Nat) (Q : Ending → World → Prop) (w : World) (h1a : -9223372036854775808 ≤ a) (h1b : a ≤ 9223372036854775807) (h2a : -9223372036854775808 ≤ b) (h2b : b ≤ 9223372036854775807)
    (ha0 : a < 0) (hb0 : b < 0) (ha : (N : Int) = P.natAbs) (hs : 0 ≤ P) (HC : Hid (∀ (hi lo : Int) (W : World), ((N / 18446744073709551616 : Nat) : Int) = hi → ((N % 18446744073709551616 : Nat) : Int) = lo → Calls Try.prog 66 #[.int .u64 (a.natAbs : Int), .int .u64 (b.natAbs : Int)] W fun e w' => e = .returned (.tuple #[.int .u64 hi, .int .u64 lo]) ∧ W = w'))
    (HM : Hid (∀ n : Int, (Xp.i64 P = true → n = P) → Q (.returned (.tuple #[.int .i64 n, .bool (Xp.i64 P)])) w)) : Calls Try.prog 48 #[.int .i64 a, .int .i64 b] w Q := by
  have hda : decide (a < 0) = true := by simp; omega
  have hdb : decide (b < 0) = true := by simp; omega
  by_cases hf : N ≤ 9223372036854775807
  · have hp := Lib.hid ((i64_iff P).2 (by omega))
    have HA := Lib.hid ha
    have HS := Lib.hid hs
    have hf' : (N : Int) ≤ 9223372036854775807 := by omega
    clear ha hs
    go_enter Try.func48, Try.ntmps48
    go_wp2_with fail
    refine (expr_magnitude a _ h1a h1b).mono ?_
    rintro e w' ⟨rfl, rfl⟩
    go_wp2_with fail
    refine (expr_magnitude b _ h2a h2b).mono ?_
    rintro e w' ⟨rfl, rfl⟩
    go_wp2_with fail
    refine (HC.out 0 (N : Int) _ ?_ ?_).mono ?_
    · omega
    · omega
    rintro e w' ⟨rfl, rfl⟩
    go_wp2_with fail
    have hA := HA.out
    have hS := HS.out
    have hm := HM.out P (fun _ => rfl)
    rw [hp.out] at hm
    have e : P = (N : Int) := by omega
    rw [e] at hm
    first | exact hm | (have e2 : wrap64 (-wrap64 (N : Int)) = -(N : Int) := (by unfold wrap64; omega); rw [← e2] at hm; exact hm)
  · have hp := Lib.hid (show Xp.i64 P = false from by
      cases e : Xp.i64 P with
      | false => rfl
      | true => exact absurd ((i64_iff P).1 e) (by omega))
    have hm := Lib.hid (fun n : Int => HM.out n (fun h => by rw [hp.out] at h; cases h))
    clear ha hs
    by_cases hg : N < 18446744073709551616
    · have hf' : 9223372036854775807 < (N : Int) := by omega
      have hd : decide ((N : Int) ≤ 9223372036854775807) = false := by rw [decide_eq_false_iff_not]; omega
      go_enter Try.func48, Try.ntmps48
      go_wp2_with fail
      refine (expr_magnitude a _ h1a h1b).mono ?_
      rintro e w' ⟨rfl, rfl⟩
      go_wp2_with fail
      refine (expr_magnitude b _ h2a h2b).mono ?_
      rintro e w' ⟨rfl, rfl⟩
      go_wp2_with fail
      refine (HC.out 0 (N : Int) _ ?_ ?_).mono ?_
      · omega
      · omega
      rintro e w' ⟨rfl, rfl⟩
      go_wp2_with fail
      have hm := hm.out
      rw [hp.out] at hm
      exact hm _
    · obtain ⟨hi, hhi⟩ : ∃ hi, ((N / 18446744073709551616 : Nat) : Int) = hi := ⟨_, rfl⟩
      obtain ⟨lo, hlo⟩ : ∃ lo, ((N % 18446744073709551616 : Nat) : Int) = lo := ⟨_, rfl⟩
      have q1 : 0 < hi := by omega
      have q2 : 0 ≤ lo := by omega
      have q3 : lo ≤ 18446744073709551615 := by omega
      have q4 : ¬ hi = 0 := by omega
      have hhi := Lib.hid hhi
      have hlo := Lib.hid hlo
      go_enter Try.func48, Try.ntmps48
      go_wp2_with fail
      refine (expr_magnitude a _ h1a h1b).mono ?_
      rintro e w' ⟨rfl, rfl⟩
      go_wp2_with fail
      refine (expr_magnitude b _ h2a h2b).mono ?_
      rintro e w' ⟨rfl, rfl⟩
      go_wp2_with fail
      refine (HC.out hi lo _ ?_ ?_).mono ?_
      · exact hhi.out
      · exact hlo.out
      rintro e w' ⟨rfl, rfl⟩
      go_wp2_with fail
      have hm := hm.out
      rw [hp.out] at hm
      exact hm _

set_option maxRecDepth 100000 in
set_option maxHeartbeats 1000000 in
theorem mul_a1b0 (a b P : Int) (N : Nat) (Q : Ending → World → Prop) (w : World) (h1a : -9223372036854775808 ≤ a) (h1b : a ≤ 9223372036854775807) (h2a : -9223372036854775808 ≤ b) (h2b : b ≤ 9223372036854775807)
    (ha0 : a < 0) (hb0 : 0 ≤ b) (ha : (N : Int) = P.natAbs) (hs : P ≤ 0) (HC : Hid (∀ (hi lo : Int) (W : World), ((N / 18446744073709551616 : Nat) : Int) = hi → ((N % 18446744073709551616 : Nat) : Int) = lo → Calls Try.prog 66 #[.int .u64 (a.natAbs : Int), .int .u64 (b.natAbs : Int)] W fun e w' => e = .returned (.tuple #[.int .u64 hi, .int .u64 lo]) ∧ W = w'))
    (HM : Hid (∀ n : Int, (Xp.i64 P = true → n = P) → Q (.returned (.tuple #[.int .i64 n, .bool (Xp.i64 P)])) w)) : Calls Try.prog 48 #[.int .i64 a, .int .i64 b] w Q := by
  have hda : decide (a < 0) = true := by simp; omega
  have hdb : decide (b < 0) = false := by simp; omega
  by_cases hf : N ≤ 9223372036854775808
  · have hp := Lib.hid ((i64_iff P).2 (by omega))
    have HA := Lib.hid ha
    have HS := Lib.hid hs
    have hf' : (N : Int) ≤ 9223372036854775808 := by omega
    clear ha hs
    go_enter Try.func48, Try.ntmps48
    go_wp2_with fail
    refine (expr_magnitude a _ h1a h1b).mono ?_
    rintro e w' ⟨rfl, rfl⟩
    go_wp2_with fail
    refine (expr_magnitude b _ h2a h2b).mono ?_
    rintro e w' ⟨rfl, rfl⟩
    go_wp2_with fail
    refine (HC.out 0 (N : Int) _ ?_ ?_).mono ?_
    · omega
    · omega
    rintro e w' ⟨rfl, rfl⟩
    go_wp2_with fail
    have hA := HA.out
    have hS := HS.out
    have hm := HM.out P (fun _ => rfl)
    rw [hp.out] at hm
    have e : P = -(N : Int) := by omega
    rw [e] at hm
    first | exact hm | (have e2 : wrap64 (-wrap64 (N : Int)) = -(N : Int) := (by unfold wrap64; omega); rw [← e2] at hm; exact hm)
  · have hp := Lib.hid (show Xp.i64 P = false from by
      cases e : Xp.i64 P with
      | false => rfl
      | true => exact absurd ((i64_iff P).1 e) (by omega))
    have hm := Lib.hid (fun n : Int => HM.out n (fun h => by rw [hp.out] at h; cases h))
    clear ha hs
    by_cases hg : N < 18446744073709551616
    · have hf' : 9223372036854775808 < (N : Int) := by omega
      have hd : decide ((N : Int) ≤ 9223372036854775808) = false := by rw [decide_eq_false_iff_not]; omega
      go_enter Try.func48, Try.ntmps48
      go_wp2_with fail
      refine (expr_magnitude a _ h1a h1b).mono ?_
      rintro e w' ⟨rfl, rfl⟩
      go_wp2_with fail
      refine (expr_magnitude b _ h2a h2b).mono ?_
      rintro e w' ⟨rfl, rfl⟩
      go_wp2_with fail
      refine (HC.out 0 (N : Int) _ ?_ ?_).mono ?_
      · omega
      · omega
      rintro e w' ⟨rfl, rfl⟩
      go_wp2_with fail
      have hm := hm.out
      rw [hp.out] at hm
      exact hm _
    · obtain ⟨hi, hhi⟩ : ∃ hi, ((N / 18446744073709551616 : Nat) : Int) = hi := ⟨_, rfl⟩
      obtain ⟨lo, hlo⟩ : ∃ lo, ((N % 18446744073709551616 : Nat) : Int) = lo := ⟨_, rfl⟩
      have q1 : 0 < hi := by omega
      have q2 : 0 ≤ lo := by omega
      have q3 : lo ≤ 18446744073709551615 := by omega
      have q4 : ¬ hi = 0 := by omega
      have hhi := Lib.hid hhi
      have hlo := Lib.hid hlo
      go_enter Try.func48, Try.ntmps48
      go_wp2_with fail
      refine (expr_magnitude a _ h1a h1b).mono ?_
      rintro e w' ⟨rfl, rfl⟩
      go_wp2_with fail
      refine (expr_magnitude b _ h2a h2b).mono ?_
      rintro e w' ⟨rfl, rfl⟩
      go_wp2_with fail
      refine (HC.out hi lo _ ?_ ?_).mono ?_
      · exact hhi.out
      · exact hlo.out
      rintro e w' ⟨rfl, rfl⟩
      go_wp2_with fail
      have hm := hm.out
      rw [hp.out] at hm
      exact hm _

set_option maxRecDepth 100000 in
set_option maxHeartbeats 1000000 in
theorem mul_a0b1 (a b P : Int) (N : Nat) (Q : Ending → World → Prop) (w : World) (h1a : -9223372036854775808 ≤ a) (h1b : a ≤ 9223372036854775807) (h2a : -9223372036854775808 ≤ b) (h2b : b ≤ 9223372036854775807)
    (ha0 : 0 ≤ a) (hb0 : b < 0) (ha : (N : Int) = P.natAbs) (hs : P ≤ 0) (HC : Hid (∀ (hi lo : Int) (W : World), ((N / 18446744073709551616 : Nat) : Int) = hi → ((N % 18446744073709551616 : Nat) : Int) = lo → Calls Try.prog 66 #[.int .u64 (a.natAbs : Int), .int .u64 (b.natAbs : Int)] W fun e w' => e = .returned (.tuple #[.int .u64 hi, .int .u64 lo]) ∧ W = w'))
    (HM : Hid (∀ n : Int, (Xp.i64 P = true → n = P) → Q (.returned (.tuple #[.int .i64 n, .bool (Xp.i64 P)])) w)) : Calls Try.prog 48 #[.int .i64 a, .int .i64 b] w Q := by
  have hda : decide (a < 0) = false := by simp; omega
  have hdb : decide (b < 0) = true := by simp; omega
  by_cases hf : N ≤ 9223372036854775808
  · have hp := Lib.hid ((i64_iff P).2 (by omega))
    have HA := Lib.hid ha
    have HS := Lib.hid hs
    have hf' : (N : Int) ≤ 9223372036854775808 := by omega
    clear ha hs
    go_enter Try.func48, Try.ntmps48
    go_wp2_with fail
    refine (expr_magnitude a _ h1a h1b).mono ?_
    rintro e w' ⟨rfl, rfl⟩
    go_wp2_with fail
    refine (expr_magnitude b _ h2a h2b).mono ?_
    rintro e w' ⟨rfl, rfl⟩
    go_wp2_with fail
    refine (HC.out 0 (N : Int) _ ?_ ?_).mono ?_
    · omega
    · omega
    rintro e w' ⟨rfl, rfl⟩
    go_wp2_with fail
    have hA := HA.out
    have hS := HS.out
    have hm := HM.out P (fun _ => rfl)
    rw [hp.out] at hm
    have e : P = -(N : Int) := by omega
    rw [e] at hm
    first | exact hm | (have e2 : wrap64 (-wrap64 (N : Int)) = -(N : Int) := (by unfold wrap64; omega); rw [← e2] at hm; exact hm)
  · have hp := Lib.hid (show Xp.i64 P = false from by
      cases e : Xp.i64 P with
      | false => rfl
      | true => exact absurd ((i64_iff P).1 e) (by omega))
    have hm := Lib.hid (fun n : Int => HM.out n (fun h => by rw [hp.out] at h; cases h))
    clear ha hs
    by_cases hg : N < 18446744073709551616
    · have hf' : 9223372036854775808 < (N : Int) := by omega
      have hd : decide ((N : Int) ≤ 9223372036854775808) = false := by rw [decide_eq_false_iff_not]; omega
      go_enter Try.func48, Try.ntmps48
      go_wp2_with fail
      refine (expr_magnitude a _ h1a h1b).mono ?_
      rintro e w' ⟨rfl, rfl⟩
      go_wp2_with fail
      refine (expr_magnitude b _ h2a h2b).mono ?_
      rintro e w' ⟨rfl, rfl⟩
      go_wp2_with fail
      refine (HC.out 0 (N : Int) _ ?_ ?_).mono ?_
      · omega
      · omega
      rintro e w' ⟨rfl, rfl⟩
      go_wp2_with fail
      have hm := hm.out
      rw [hp.out] at hm
      exact hm _
    · obtain ⟨hi, hhi⟩ : ∃ hi, ((N / 18446744073709551616 : Nat) : Int) = hi := ⟨_, rfl⟩
      obtain ⟨lo, hlo⟩ : ∃ lo, ((N % 18446744073709551616 : Nat) : Int) = lo := ⟨_, rfl⟩
      have q1 : 0 < hi := by omega
      have q2 : 0 ≤ lo := by omega
      have q3 : lo ≤ 18446744073709551615 := by omega
      have q4 : ¬ hi = 0 := by omega
      have hhi := Lib.hid hhi
      have hlo := Lib.hid hlo
      go_enter Try.func48, Try.ntmps48
      go_wp2_with fail
      refine (expr_magnitude a _ h1a h1b).mono ?_
      rintro e w' ⟨rfl, rfl⟩
      go_wp2_with fail
      refine (expr_magnitude b _ h2a h2b).mono ?_
      rintro e w' ⟨rfl, rfl⟩
      go_wp2_with fail
      refine (HC.out hi lo _ ?_ ?_).mono ?_
      · exact hhi.out
      · exact hlo.out
      rintro e w' ⟨rfl, rfl⟩
      go_wp2_with fail
      have hm := hm.out
      rw [hp.out] at hm
      exact hm _

set_option maxRecDepth 100000 in
set_option maxHeartbeats 1000000 in
theorem mul_a0b0 (a b P : Int) (N : Nat) (Q : Ending → World → Prop) (w : World) (h1a : -9223372036854775808 ≤ a) (h1b : a ≤ 9223372036854775807) (h2a : -9223372036854775808 ≤ b) (h2b : b ≤ 9223372036854775807)
    (ha0 : 0 ≤ a) (hb0 : 0 ≤ b) (ha : (N : Int) = P.natAbs) (hs : 0 ≤ P) (HC : Hid (∀ (hi lo : Int) (W : World), ((N / 18446744073709551616 : Nat) : Int) = hi → ((N % 18446744073709551616 : Nat) : Int) = lo → Calls Try.prog 66 #[.int .u64 (a.natAbs : Int), .int .u64 (b.natAbs : Int)] W fun e w' => e = .returned (.tuple #[.int .u64 hi, .int .u64 lo]) ∧ W = w'))
    (HM : Hid (∀ n : Int, (Xp.i64 P = true → n = P) → Q (.returned (.tuple #[.int .i64 n, .bool (Xp.i64 P)])) w)) : Calls Try.prog 48 #[.int .i64 a, .int .i64 b] w Q := by
  have hda : decide (a < 0) = false := by simp; omega
  have hdb : decide (b < 0) = false := by simp; omega
  by_cases hf : N ≤ 9223372036854775807
  · have hp := Lib.hid ((i64_iff P).2 (by omega))
    have HA := Lib.hid ha
    have HS := Lib.hid hs
    have hf' : (N : Int) ≤ 9223372036854775807 := by omega
    clear ha hs
    go_enter Try.func48, Try.ntmps48
    go_wp2_with fail
    refine (expr_magnitude a _ h1a h1b).mono ?_
    rintro e w' ⟨rfl, rfl⟩
    go_wp2_with fail
    refine (expr_magnitude b _ h2a h2b).mono ?_
    rintro e w' ⟨rfl, rfl⟩
    go_wp2_with fail
    refine (HC.out 0 (N : Int) _ ?_ ?_).mono ?_
    · omega
    · omega
    rintro e w' ⟨rfl, rfl⟩
    go_wp2_with fail
    have hA := HA.out
    have hS := HS.out
    have hm := HM.out P (fun _ => rfl)
    rw [hp.out] at hm
    have e : P = (N : Int) := by omega
    rw [e] at hm
    first | exact hm | (have e2 : wrap64 (-wrap64 (N : Int)) = -(N : Int) := (by unfold wrap64; omega); rw [← e2] at hm; exact hm)
  · have hp := Lib.hid (show Xp.i64 P = false from by
      cases e : Xp.i64 P with
      | false => rfl
      | true => exact absurd ((i64_iff P).1 e) (by omega))
    have hm := Lib.hid (fun n : Int => HM.out n (fun h => by rw [hp.out] at h; cases h))
    clear ha hs
    by_cases hg : N < 18446744073709551616
    · have hf' : 9223372036854775807 < (N : Int) := by omega
      have hd : decide ((N : Int) ≤ 9223372036854775807) = false := by rw [decide_eq_false_iff_not]; omega
      go_enter Try.func48, Try.ntmps48
      go_wp2_with fail
      refine (expr_magnitude a _ h1a h1b).mono ?_
      rintro e w' ⟨rfl, rfl⟩
      go_wp2_with fail
      refine (expr_magnitude b _ h2a h2b).mono ?_
      rintro e w' ⟨rfl, rfl⟩
      go_wp2_with fail
      refine (HC.out 0 (N : Int) _ ?_ ?_).mono ?_
      · omega
      · omega
      rintro e w' ⟨rfl, rfl⟩
      go_wp2_with fail
      have hm := hm.out
      rw [hp.out] at hm
      exact hm _
    · obtain ⟨hi, hhi⟩ : ∃ hi, ((N / 18446744073709551616 : Nat) : Int) = hi := ⟨_, rfl⟩
      obtain ⟨lo, hlo⟩ : ∃ lo, ((N % 18446744073709551616 : Nat) : Int) = lo := ⟨_, rfl⟩
      have q1 : 0 < hi := by omega
      have q2 : 0 ≤ lo := by omega
      have q3 : lo ≤ 18446744073709551615 := by omega
      have q4 : ¬ hi = 0 := by omega
      have hhi := Lib.hid hhi
      have hlo := Lib.hid hlo
      go_enter Try.func48, Try.ntmps48
      go_wp2_with fail
      refine (expr_magnitude a _ h1a h1b).mono ?_
      rintro e w' ⟨rfl, rfl⟩
      go_wp2_with fail
      refine (expr_magnitude b _ h2a h2b).mono ?_
      rintro e w' ⟨rfl, rfl⟩
      go_wp2_with fail
      refine (HC.out hi lo _ ?_ ?_).mono ?_
      · exact hhi.out
      · exact hlo.out
      rintro e w' ⟨rfl, rfl⟩
      go_wp2_with fail
      have hm := hm.out
      rw [hp.out] at hm
      exact hm _

set_option maxRecDepth 100000 in
set_option maxHeartbeats 1000000 in
theorem expr_multiply (a b : Int) (w : World) (h1 : -9223372036854775808 ≤ a ∧ a ≤ 9223372036854775807) (h2 : -9223372036854775808 ≤ b ∧ b ≤ 9223372036854775807) :
    Calls Try.prog 48 #[.int .i64 a, .int .i64 b] w (MulPost a b w) := by
  obtain ⟨P, hP⟩ : ∃ P, a * b = P := ⟨_, rfl⟩
  have ha := mul_abs a b
  obtain ⟨s1, s2, s3, s4⟩ := mul_sign a b
  rw [hP] at ha s1 s2 s3 s4
  obtain ⟨N, hN⟩ : ∃ N, a.natAbs * b.natAbs = N := ⟨_, rfl⟩
  rw [hN] at ha
  have HC := fun hi lo W => mul_call a b hi lo W h1 h2
  rw [hN] at HC
  have HC := Lib.hid HC
  have HM := Lib.hid (fun (n : Int) (h : Xp.i64 P = true → n = P) => show MulPost a b w (.returned (.tuple #[.int .i64 n, .bool (Xp.i64 P)])) w from ⟨n, by rw [hP], by rw [hP]; exact h, rfl⟩)
  generalize hQ : MulPost a b w = Q
  rw [hQ] at HM
  have HI := Lib.hid (i64_iff P)
  have HJ := Lib.hid (show ¬ (-9223372036854775808 ≤ P ∧ P ≤ 9223372036854775807) → Xp.i64 P = false from fun h => by
    cases e : Xp.i64 P with
    | false => rfl
    | true => exact absurd ((i64_iff P).1 e) h)
  clear hP hN hQ
  obtain ⟨h1a, h1b⟩ := h1
  obtain ⟨h2a, h2b⟩ := h2
  by_cases ha0 : a < 0
  · by_cases hb0 : b < 0
    · exact mul_a1b1 a b P N Q w h1a h1b h2a h2b ha0 hb0 ha (s2 ha0 hb0) HC HM
    · have hb0 : 0 ≤ b := by omega
      exact mul_a1b0 a b P N Q w h1a h1b h2a h2b ha0 hb0 ha (s3 ha0 hb0) HC HM
  · have ha0 : 0 ≤ a := by omega
    by_cases hb0 : b < 0
    · exact mul_a0b1 a b P N Q w h1a h1b h2a h2b ha0 hb0 ha (s4 ha0 hb0) HC HM
    · have hb0 : 0 ≤ b := by omega
      exact mul_a0b0 a b P N Q w h1a h1b h2a h2b ha0 hb0 ha (s1 ha0 hb0) HC HM

end Go.Proofs.Ytpgaldkedeohaaa
