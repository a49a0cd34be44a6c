/-
  The law's check of fixed dates returns true.
-/
import Derived.Test.YtpfelekkobddcaaCivilC
import Derived.Test.YtpfelekkobddcaaFrame
namespace Go.Proofs.Ytpfelekkobddcaa
open Go.RowKit

theorem am_30 : Cal.amB 30 1 = true ∧ Cal.amN 30 1 = 59 := by
  have hd : Cal.isDay 30 = true := by decide
  have e := Cal.date_eq (y := 1600) (m := 1) (d := 31) hd ⟨by omega, by omega, by omega, by omega, by decide⟩ (by decide)
  have h1 : Cal.tdY 30 = 1600 := by unfold Cal.tdY; rw [e]
  have h2 : Cal.tdM 30 = 1 := by unfold Cal.tdM; rw [e]
  have h3 : Cal.tdD 30 = 31 := by unfold Cal.tdD; rw [e]
  have hk : Cal.amK 30 1 = 1 := by unfold Cal.amK; rw [h1, h2]; rfl
  obtain ⟨e1, e2⟩ := Cal.am_yes (mo := 1) hd
  rw [e1, e2]
  unfold Cal.amD
  rw [hk, h3]
  decide

set_option maxHeartbeats 1000000 in
theorem awake_any (w : World) : Calls Try.prog 11 #[] w fun e w' => e = .returned (.bool true) ∧ w = w' := by
  have f1 : Cal.fdN 2000 1 1 = 146097 := by decide
  have f2 : Cal.fdB 2000 1 1 = true := by decide
  have f3 : Cal.fdB 1900 2 29 = false := by decide
  obtain ⟨f4, f5⟩ := am_30
  have f6 : Cal.leap 2000 = true := by decide
  have f7 : Cal.leap 1900 = false := by decide
  have f8 : Cal.dim 1600 2 = 29 := by decide
  have f9 : Cal.wd 0 = 6 := by decide
  go_enter Try.func11, Try.ntmps11
  go_wp2_with (first | (go_at_call 16; refine (civil_FromDate _ _ _ _).mono ?_; rintro e w' ⟨rfl, rfl⟩) | (go_at_call 22; refine (civil_AddMonths _ _ _).mono ?_; rintro e w' ⟨rfl, rfl⟩) | (go_at_call 12; refine (civil_IsLeap _ _).mono ?_; rintro e w' ⟨rfl, rfl⟩) | (go_at_call 14; refine (civil_DaysInMonth _ _ _).mono ?_; rintro e w' ⟨rfl, rfl⟩) | (go_at_call 20; refine (civil_Weekday _ _).mono ?_; rintro e w' ⟨rfl, rfl⟩))
  go_ret
  exact ⟨rfl, rfl⟩

set_option maxHeartbeats 1000000 in
theorem leap_walk (y m : Int) (w : World) : Calls Try.prog 3 #[.int .i64 y, .int .i64 m] w (Holds w) := by
  go_enter Try.func3, Try.ntmps3
  go_wp2_with (first | (go_at_call 11; refine (awake_any _).mono ?_; rintro e w' ⟨rfl, rfl⟩) | (go_at_call 12; refine (civil_IsLeap _ _).mono ?_; rintro e w' ⟨rfl, rfl⟩) | (go_at_call 14; refine (civil_DaysInMonth _ _ _).mono ?_; rintro e w' ⟨rfl, rfl⟩) | (go_at_call 13; refine (ref_IsLeap _ _).mono ?_; rintro e w' ⟨rfl, rfl⟩) | (go_at_call 15; refine (ref_DaysInMonth _ _ _).mono ?_; rintro e w' ⟨rfl, hB⟩))
  go_ret
  exact ⟨rfl, hB⟩

set_option maxHeartbeats 1000000 in
theorem fromDate_walk (y m d : Int) (w : World) : Calls Try.prog 4 #[.int .i64 y, .int .i64 m, .int .i64 d] w (Holds w) := by
  go_enter Try.func4, Try.ntmps4
  go_wp2_with (first | (go_at_call 11; refine (awake_any _).mono ?_; rintro e w' ⟨rfl, rfl⟩) | (go_at_call 16; refine (civil_FromDate _ _ _ _).mono ?_; rintro e w' ⟨rfl, rfl⟩) | (go_at_call 17; refine (ref_FromDate _ _ _ _).mono ?_; rintro e w' ⟨rfl, hB⟩))
  go_ret
  exact ⟨rfl, hB⟩

set_option maxHeartbeats 1000000 in
theorem toDate_walk (n : Int) (w : World) : Calls Try.prog 5 #[.int .i64 n] w (Holds w) := by
  go_enter Try.func5, Try.ntmps5
  go_wp2_with (first | (go_at_call 11; refine (awake_any _).mono ?_; rintro e w' ⟨rfl, rfl⟩) | (go_at_call 18; refine (civil_ToDate _ _).mono ?_; rintro e w' ⟨rfl, rfl⟩) | (go_at_call 19; refine (ref_ToDate _ _).mono ?_; rintro e w' ⟨rfl, hB⟩) | (go_at_call 20; refine (civil_Weekday _ _).mono ?_; rintro e w' ⟨rfl, rfl⟩) | (go_at_call 21; refine (ref_Weekday _ _).mono ?_; rintro e w' ⟨rfl, rfl⟩))
  go_ret
  exact ⟨rfl, hB⟩

set_option maxHeartbeats 1000000 in
theorem addMonths_walk (n mo : Int) (w : World) : Calls Try.prog 8 #[.int .i64 n, .int .i64 mo] w (Holds w) := by
  go_enter Try.func8, Try.ntmps8
  go_wp2_with (first | (go_at_call 11; refine (awake_any _).mono ?_; rintro e w' ⟨rfl, rfl⟩) | (go_at_call 22; refine (civil_AddMonths _ _ _).mono ?_; rintro e w' ⟨rfl, rfl⟩) | (go_at_call 23; refine (ref_AddMonths _ _ _).mono ?_; rintro e w' ⟨rfl, hB⟩))
  go_ret
  exact ⟨rfl, hB⟩

set_option maxHeartbeats 2000000 in
theorem roundTrip_walk (n y m d : Int) (w : World) : Calls Try.prog 6 #[.int .i64 n, .int .i64 y, .int .i64 m, .int .i64 d] w (Holds w) := by
  cases h1 : Cal.isDay n with
  | false =>
    have g : ¬ (0 ≤ n ∧ n < 1000000) := fun g => by rw [(Cal.isDay_iff n).2 g] at h1; cases h1
    by_cases g0 : 0 ≤ n
    · have g1 : ¬ n < 1000000 := by omega
      cases h2 : Cal.fdB y m d with
      | false =>
        go_enter Try.func6, Try.ntmps6
        go_wp2_with (first | (go_at_call 11; refine (awake_any _).mono ?_; rintro e w' ⟨rfl, rfl⟩) | (go_at_call 18; refine (civil_ToDate _ _).mono ?_; rintro e w' ⟨rfl, rfl⟩) | (go_at_call 16; refine (civil_FromDate _ _ _ _).mono ?_; rintro e w' ⟨rfl, rfl⟩))
        go_ret
        exact ⟨ret_bool (by first | rfl | (simp; done) | (simp; omega)), Below.refl _ _⟩
      | true =>
        obtain ⟨e1, e2, e3, e4⟩ := Cal.round_date h2
        go_enter Try.func6, Try.ntmps6
        go_wp2_with (first | (go_at_call 11; refine (awake_any _).mono ?_; rintro e w' ⟨rfl, rfl⟩) | (go_at_call 18; refine (civil_ToDate _ _).mono ?_; rintro e w' ⟨rfl, rfl⟩) | (go_at_call 16; refine (civil_FromDate _ _ _ _).mono ?_; rintro e w' ⟨rfl, rfl⟩))
        go_ret
        exact ⟨ret_bool (by first | rfl | (simp; done) | (simp; omega)), Below.refl _ _⟩
    · cases h2 : Cal.fdB y m d with
      | false =>
        go_enter Try.func6, Try.ntmps6
        go_wp2_with (first | (go_at_call 11; refine (awake_any _).mono ?_; rintro e w' ⟨rfl, rfl⟩) | (go_at_call 18; refine (civil_ToDate _ _).mono ?_; rintro e w' ⟨rfl, rfl⟩) | (go_at_call 16; refine (civil_FromDate _ _ _ _).mono ?_; rintro e w' ⟨rfl, rfl⟩))
        go_ret
        exact ⟨ret_bool (by first | rfl | (simp; done) | (simp; omega)), Below.refl _ _⟩
      | true =>
        obtain ⟨e1, e2, e3, e4⟩ := Cal.round_date h2
        go_enter Try.func6, Try.ntmps6
        go_wp2_with (first | (go_at_call 11; refine (awake_any _).mono ?_; rintro e w' ⟨rfl, rfl⟩) | (go_at_call 18; refine (civil_ToDate _ _).mono ?_; rintro e w' ⟨rfl, rfl⟩) | (go_at_call 16; refine (civil_FromDate _ _ _ _).mono ?_; rintro e w' ⟨rfl, rfl⟩))
        go_ret
        exact ⟨ret_bool (by first | rfl | (simp; done) | (simp; omega)), Below.refl _ _⟩
  | true =>
    obtain ⟨f1, f2⟩ := Cal.round_day h1
    obtain ⟨g0, g1⟩ := (Cal.isDay_iff n).1 h1
    cases h2 : Cal.fdB y m d with
    | false =>
      go_enter Try.func6, Try.ntmps6
      go_wp2_with (first | (go_at_call 11; refine (awake_any _).mono ?_; rintro e w' ⟨rfl, rfl⟩) | (go_at_call 18; refine (civil_ToDate _ _).mono ?_; rintro e w' ⟨rfl, rfl⟩) | (go_at_call 16; refine (civil_FromDate _ _ _ _).mono ?_; rintro e w' ⟨rfl, rfl⟩))
      go_ret
      exact ⟨ret_bool (by first | rfl | (simp; done) | (simp; omega)), Below.refl _ _⟩
    | true =>
      obtain ⟨e1, e2, e3, e4⟩ := Cal.round_date h2
      go_enter Try.func6, Try.ntmps6
      go_wp2_with (first | (go_at_call 11; refine (awake_any _).mono ?_; rintro e w' ⟨rfl, rfl⟩) | (go_at_call 18; refine (civil_ToDate _ _).mono ?_; rintro e w' ⟨rfl, rfl⟩) | (go_at_call 16; refine (civil_FromDate _ _ _ _).mono ?_; rintro e w' ⟨rfl, rfl⟩))
      go_ret
      exact ⟨ret_bool (by first | rfl | (simp; done) | (simp; omega)), Below.refl _ _⟩

set_option maxHeartbeats 2000000 in
theorem nextDay_walk (n : Int) (w : World) : Calls Try.prog 7 #[.int .i64 n] w (Holds w) := by
  by_cases h0 : n < 0
  · go_enter Try.func7, Try.ntmps7
    go_wp2_with (first | (go_at_call 11; refine (awake_any _).mono ?_; rintro e w' ⟨rfl, rfl⟩) | (go_at_call 18; refine (civil_ToDate _ _).mono ?_; rintro e w' ⟨rfl, rfl⟩) | (go_at_call 14; refine (civil_DaysInMonth _ _ _).mono ?_; rintro e w' ⟨rfl, rfl⟩) | (go_at_call 20; refine (civil_Weekday _ _).mono ?_; rintro e w' ⟨rfl, rfl⟩))
    go_ret
    exact ⟨ret_bool (by first | rfl | (simp; done) | (simp; omega)), Below.refl _ _⟩
  by_cases h1 : 999999 ≤ n
  · go_enter Try.func7, Try.ntmps7
    go_wp2_with (first | (go_at_call 11; refine (awake_any _).mono ?_; rintro e w' ⟨rfl, rfl⟩) | (go_at_call 18; refine (civil_ToDate _ _).mono ?_; rintro e w' ⟨rfl, rfl⟩) | (go_at_call 14; refine (civil_DaysInMonth _ _ _).mono ?_; rintro e w' ⟨rfl, rfl⟩) | (go_at_call 20; refine (civil_Weekday _ _).mono ?_; rintro e w' ⟨rfl, rfl⟩))
    go_ret
    exact ⟨ret_bool (by first | rfl | (simp; done) | (simp; omega)), Below.refl _ _⟩
  have hi : Cal.isDay n = true := (Cal.isDay_iff n).2 ⟨by omega, by omega⟩
  have hi' : Cal.isDay (n + 1) = true := (Cal.isDay_iff (n + 1)).2 ⟨by omega, by omega⟩
  have hw := Cal.wd_next (n := n) (by omega) (by omega)
  have hwb : 0 ≤ Cal.wd n ∧ Cal.wd n ≤ 7 := by unfold Cal.wd; rw [if_pos hi]; omega
  obtain ⟨hw0, hw7⟩ := hwb
  obtain ⟨b1, b2, b3, b4, b5, b6⟩ := Cal.td_bounds hi
  rcases Cal.next_day (n := n) (by omega) (by omega) with ⟨g1, g2, g3, g4⟩ | ⟨g1, g2, g3, g4, g5⟩ | ⟨g1, g2, g3, g4, g5⟩
  · have k1 : (Cal.tdD n == Cal.dim (Cal.tdY n) (Cal.tdM n)) = false := beq_eq_false_iff_ne.2 (by omega)
    go_enter Try.func7, Try.ntmps7
    go_wp2_with (first | (go_at_call 11; refine (awake_any _).mono ?_; rintro e w' ⟨rfl, rfl⟩) | (go_at_call 18; refine (civil_ToDate _ _).mono ?_; rintro e w' ⟨rfl, rfl⟩) | (go_at_call 14; refine (civil_DaysInMonth _ _ _).mono ?_; rintro e w' ⟨rfl, rfl⟩) | (go_at_call 20; refine (civil_Weekday _ _).mono ?_; rintro e w' ⟨rfl, rfl⟩))
    go_ret
    exact ⟨ret_bool (by first | rfl | (simp; done) | (simp; omega)), Below.refl _ _⟩
  · have k1 : (Cal.tdD n == Cal.dim (Cal.tdY n) (Cal.tdM n)) = true := beq_iff_eq.2 g1
    clear g1
    go_enter Try.func7, Try.ntmps7
    go_wp2_with (first | (go_at_call 11; refine (awake_any _).mono ?_; rintro e w' ⟨rfl, rfl⟩) | (go_at_call 18; refine (civil_ToDate _ _).mono ?_; rintro e w' ⟨rfl, rfl⟩) | (go_at_call 14; refine (civil_DaysInMonth _ _ _).mono ?_; rintro e w' ⟨rfl, rfl⟩) | (go_at_call 20; refine (civil_Weekday _ _).mono ?_; rintro e w' ⟨rfl, rfl⟩))
    go_ret
    exact ⟨ret_bool (by first | rfl | (simp; done) | (simp; omega)), Below.refl _ _⟩
  · have k1 : (Cal.tdD n == Cal.dim (Cal.tdY n) (Cal.tdM n)) = true := beq_iff_eq.2 g1
    rw [g2] at k1
    clear g1
    go_enter Try.func7, Try.ntmps7
    go_wp2_with (first | (go_at_call 11; refine (awake_any _).mono ?_; rintro e w' ⟨rfl, rfl⟩) | (go_at_call 18; refine (civil_ToDate _ _).mono ?_; rintro e w' ⟨rfl, rfl⟩) | (go_at_call 14; refine (civil_DaysInMonth _ _ _).mono ?_; rintro e w' ⟨rfl, rfl⟩) | (go_at_call 20; refine (civil_Weekday _ _).mono ?_; rintro e w' ⟨rfl, rfl⟩))
    go_ret
    exact ⟨ret_bool (by first | rfl | (simp; done) | (simp; omega)), Below.refl _ _⟩

set_option maxHeartbeats 1000000 in
theorem years_walk (n : Int) (q : Int) (hq : 0 ≤ q ∧ q ≤ 255) (w : World) : Calls Try.prog 9 #[.int .i64 n, .int .u8 q] w (Holds w) := by
  obtain ⟨hq0, hq1⟩ := hq
  cases h1 : Cal.isDay n with
  | false =>
    have f1 := (Cal.am_no (mo := 4800 * (q % 5)) h1).1
    by_cases h0 : n < 0
    · go_enter Try.func9, Try.ntmps9
      go_wp2_with (first | (go_at_call 22; refine (civil_AddMonths _ _ _).mono ?_; rintro e w' ⟨rfl, rfl⟩) | (go_at_call 11; refine (awake_any _).mono ?_; rintro e w' ⟨rfl, rfl⟩) | (go_at_call 18; refine (civil_ToDate _ _).mono ?_; rintro e w' ⟨rfl, rfl⟩) | (go_at_call 20; refine (civil_Weekday _ _).mono ?_; rintro e w' ⟨rfl, rfl⟩))
      go_ret
      exact ⟨ret_bool (by first | rfl | (simp; done) | (simp; omega)), Below.refl _ _⟩
    · have g : ¬ (0 ≤ n ∧ n < 1000000) := fun g => by rw [(Cal.isDay_iff n).2 g] at h1; cases h1
      have g1 : 1000000 ≤ n := by omega
      clear g
      go_enter Try.func9, Try.ntmps9
      go_wp2_with (first | (go_at_call 22; refine (civil_AddMonths _ _ _).mono ?_; rintro e w' ⟨rfl, rfl⟩) | (go_at_call 11; refine (awake_any _).mono ?_; rintro e w' ⟨rfl, rfl⟩) | (go_at_call 18; refine (civil_ToDate _ _).mono ?_; rintro e w' ⟨rfl, rfl⟩) | (go_at_call 20; refine (civil_Weekday _ _).mono ?_; rintro e w' ⟨rfl, rfl⟩))
      go_ret
      exact ⟨ret_bool (by first | rfl | (simp; done) | (simp; omega)), Below.refl _ _⟩
  | true =>
    obtain ⟨h0, h2⟩ := (Cal.isDay_iff n).1 h1
    obtain ⟨k, hk⟩ : ∃ k : Nat, (k : Int) = q % 5 := ⟨(q % 5).toNat, by omega⟩
    obtain ⟨f1, f2⟩ := Cal.years h1 k
    rw [hk] at f1 f2
    clear hk
    by_cases h3 : n + 146097 * (q % 5) < 1000000
    · obtain ⟨f3, f4, f5, f6⟩ := f2 h3
      rw [decide_eq_true h3] at f1
      clear f2
      go_enter Try.func9, Try.ntmps9
      go_wp2_with (first | (go_at_call 22; refine (civil_AddMonths _ _ _).mono ?_; rintro e w' ⟨rfl, rfl⟩) | (go_at_call 11; refine (awake_any _).mono ?_; rintro e w' ⟨rfl, rfl⟩) | (go_at_call 18; refine (civil_ToDate _ _).mono ?_; rintro e w' ⟨rfl, rfl⟩) | (go_at_call 20; refine (civil_Weekday _ _).mono ?_; rintro e w' ⟨rfl, rfl⟩))
      go_ret
      exact ⟨ret_bool (by first | rfl | (simp; done) | (simp; omega)), Below.refl _ _⟩
    · rw [decide_eq_false h3] at f1
      clear f2
      go_enter Try.func9, Try.ntmps9
      go_wp2_with (first | (go_at_call 22; refine (civil_AddMonths _ _ _).mono ?_; rintro e w' ⟨rfl, rfl⟩) | (go_at_call 11; refine (awake_any _).mono ?_; rintro e w' ⟨rfl, rfl⟩) | (go_at_call 18; refine (civil_ToDate _ _).mono ?_; rintro e w' ⟨rfl, rfl⟩) | (go_at_call 20; refine (civil_Weekday _ _).mono ?_; rintro e w' ⟨rfl, rfl⟩))
      go_ret
      exact ⟨ret_bool (by first | rfl | (simp; done) | (simp; omega)), Below.refl _ _⟩
set_option maxHeartbeats 1000000 in
theorem monotone_walk (a b mo : Int) (w : World) : Calls Try.prog 10 #[.int .i64 a, .int .i64 b, .int .i64 mo] w (Holds w) := by
  cases h1 : Cal.amB a mo with
  | false =>
    go_enter Try.func10, Try.ntmps10
    go_wp2_with (first | (go_at_call 22; refine (civil_AddMonths _ _ _).mono ?_; rintro e w' ⟨rfl, rfl⟩) | (go_at_call 11; refine (awake_any _).mono ?_; rintro e w' ⟨rfl, rfl⟩))
    go_ret
    exact ⟨ret_bool (by first | rfl | (simp; done) | (simp; omega)), Below.refl _ _⟩
  | true =>
    cases h2 : Cal.amB b mo with
    | false =>
      go_enter Try.func10, Try.ntmps10
      go_wp2_with (first | (go_at_call 22; refine (civil_AddMonths _ _ _).mono ?_; rintro e w' ⟨rfl, rfl⟩) | (go_at_call 11; refine (awake_any _).mono ?_; rintro e w' ⟨rfl, rfl⟩))
      go_ret
      exact ⟨ret_bool (by first | rfl | (simp; done) | (simp; omega)), Below.refl _ _⟩
    | true =>
      by_cases h3 : b < a
      · go_enter Try.func10, Try.ntmps10
        go_wp2_with (first | (go_at_call 22; refine (civil_AddMonths _ _ _).mono ?_; rintro e w' ⟨rfl, rfl⟩) | (go_at_call 11; refine (awake_any _).mono ?_; rintro e w' ⟨rfl, rfl⟩))
        go_ret
        exact ⟨ret_bool (by first | rfl | (simp; done) | (simp; omega)), Below.refl _ _⟩
      · have hm := Cal.am_mono h1 h2 (by omega)
        go_enter Try.func10, Try.ntmps10
        go_wp2_with (first | (go_at_call 22; refine (civil_AddMonths _ _ _).mono ?_; rintro e w' ⟨rfl, rfl⟩) | (go_at_call 11; refine (awake_any _).mono ?_; rintro e w' ⟨rfl, rfl⟩))
        go_ret
        exact ⟨ret_bool (by first | rfl | (simp; done) | (simp; omega)), Below.refl _ _⟩

end Go.Proofs.Ytpfelekkobddcaa
