/-
  What the reference's calendar returns: the same as the program's, and it makes memory of its own.
-/
import Derived.Test.YtgimfajanmmkfaaCivilB
namespace Go.Proofs.Ytgimfajanmmkfaa
open Go.RowKit

set_option maxHeartbeats 4000000 in
theorem ref_DaysInMonth (y m : Int) (w : World) : Calls Try.prog 43 #[.int .i64 y, .int .i64 m] w fun e w' => e = .returned (.int .i64 (Cal.dim y m)) ∧ Below w.heap.size w w' := by
  by_cases h : m < 1
  · have HF := Lib.hid (Cal.dim_out y m (.inl h))
    go_enter Try.func43, Try.ntmps43
    go_wp2
    go_ret
    exact ⟨ret_int HF.out.symm, (Below.refl _ _).alloc (Nat.le_refl _) _⟩
  by_cases h' : 12 < m
  · have HF := Lib.hid (Cal.dim_out y m (.inr h'))
    go_enter Try.func43, Try.ntmps43
    go_wp2
    go_ret
    exact ⟨ret_int HF.out.symm, (Below.refl _ _).alloc (Nat.le_refl _) _⟩
  by_cases h2 : m = 2
  · subst h2
    clear h h'
    by_cases hl : Cal.leap y = true
    · have HF := Lib.hid (show Cal.dim y 2 = 29 by unfold Cal.dim Cal.lp; rw [if_pos rfl, if_pos hl]; rfl)
      go_enter Try.func43, Try.ntmps43
      go_wp2_with (go_at_call 47; refine (ref_IsLeap _ _).mono ?_; rintro e w' ⟨rfl, rfl⟩)
      go_ret
      exact ⟨ret_int HF.out.symm, (Below.refl _ _).alloc (Nat.le_refl _) _⟩
    · have hl : Cal.leap y = false := by simpa using hl
      have HF := Lib.hid (show Cal.dim y 2 = 28 by unfold Cal.dim Cal.lp; rw [if_pos rfl, hl]; rfl)
      go_enter Try.func43, Try.ntmps43
      go_wp2_with (go_at_call 47; refine (ref_IsLeap _ _).mono ?_; rintro e w' ⟨rfl, rfl⟩)
      go_ret
      exact ⟨ret_int HF.out.symm, (Below.refl _ _).alloc (Nat.le_refl _) _⟩
  · have hm2 : (m == 2) = false := by simpa using h2
    have hx : [Value.int IntKind.i64 0, Value.int IntKind.i64 31, Value.int IntKind.i64 28, Value.int IntKind.i64 31, Value.int IntKind.i64 30, Value.int IntKind.i64 31, Value.int IntKind.i64 30, Value.int IntKind.i64 31,
        Value.int IntKind.i64 31, Value.int IntKind.i64 30, Value.int IntKind.i64 31, Value.int IntKind.i64 30, Value.int IntKind.i64 31][m.toNat]? = some (.int .i64 (Cal.dim y m)) := by
      have hc : m = 1 ∨ m = 3 ∨ m = 4 ∨ m = 5 ∨ m = 6 ∨ m = 7 ∨ m = 8 ∨ m = 9 ∨ m = 10 ∨ m = 11 ∨ m = 12 := by omega
      rcases hc with h | h | h | h | h | h | h | h | h | h | h <;> subst h <;> rfl
    clear h2
    go_enter Try.func43, Try.ntmps43
    go_wp2_with (go_at_call 47; refine (ref_IsLeap _ _).mono ?_; rintro e w' ⟨rfl, rfl⟩)
    go_ret
    exact ⟨rfl, (Below.refl _ _).alloc (Nat.le_refl _) _⟩

set_option maxHeartbeats 1000000 in
theorem ref_ToDate (n : Int) (w : World) :
    Calls Try.prog 35 #[.int .i64 n] w fun e w' => e = .returned (.tuple #[.int .i64 (Cal.tdY n), .int .i64 (Cal.tdM n), .int .i64 (Cal.tdD n), .bool (Cal.isDay n)]) ∧ Below w.heap.size w w' := by
  generalize hv : (Value.tuple #[.int .i64 (Cal.tdY n), .int .i64 (Cal.tdM n), .int .i64 (Cal.tdD n), .bool (Cal.isDay n)]) = V
  have HV := Lib.hid hv
  clear hv
  by_cases hd : Cal.isDay n = false
  · have HF := Lib.hid hd
    go_enter Try.func35, Try.ntmps35
    go_wp2_with (go_at_call 18; refine (ref_IsDay _ _).mono ?_; rintro e w' ⟨rfl, rfl⟩)
    refine bodyPost_ret (v := .tuple #[.int .i64 0, .int .i64 0, .int .i64 0, .bool false]) (by simp [results, Try.results35, go_sem]) rfl ⟨by rw [← HV.out]; exact ret_td0 HF.out, Below.refl _ _⟩
  · have hd : Cal.isDay n = true := by simpa using hd
    have hb := (Cal.isDay_iff n).1 hd
    obtain ⟨hb1, hb2⟩ := hb
    have hg := Cal.ys_guess n hb1
    have HD := Lib.hid hd
    go_enter Try.func35, Try.ntmps35
    go_wp2_with (go_at_call 18; refine (ref_IsDay _ _).mono ?_; rintro e w' ⟨rfl, rfl⟩)
    clear hd
    go_loop [6] (fun t => ∃ y : Int, 1600 ≤ y ∧ Cal.ys y ≤ n ∧ t = .int .i64 y) (fun t => (4400 - intOf t).toNat)
    case atStart => exact ⟨_, by omega, hg, rfl⟩
    case round =>
      obtain ⟨y, hy1, hy2, rfl⟩ := hrel
      have hlt := Cal.year_lt hy2 hb2
      clear hg
      by_cases hc : Cal.ys (y + 1) ≤ n
      · go_wp2_with (go_at_call 37; refine (ref_newYear _ _ (by omega) (by omega)).mono ?_; rintro e w' ⟨rfl, rfl⟩)
        go_round
        case rel => exact ⟨y + 1, by omega, hc, rfl⟩
        case measure => simp [intOf]; omega
      · have hs := Cal.ys_mono (a := 1600) (b := y) hy1
        rw [Cal.ys_1600] at hs
        have HS := Lib.hid (Cal.ys_succ y)
        have HC := Lib.hid (Cal.cum_one y)
        go_wp2_with (go_at_call 37; refine (ref_newYear _ _ (by omega) (by omega)).mono ?_; rintro e w' ⟨rfl, rfl⟩)
        go_loopw [7, 8] (fun r k wr => ∃ m : Int, 1 ≤ m ∧ m ≤ 12 ∧ k = .int .i64 m ∧ 0 ≤ n - Cal.ys y - Cal.cum y m ∧ r = .int .i64 (n - Cal.ys y - Cal.cum y m) ∧ Below w.heap.size w wr) (fun _ k _ => (12 - intOf k).toNat)
        case atStart => exact ⟨1, by omega, by omega, rfl, by rw [HC.out]; omega, by rw [HC.out]; go_num, Below.refl _ _⟩
        case round =>
          obtain ⟨m, hm1, hm2, rfl, hr, rfl, hbr⟩ := hrel
          have hcb := Cal.cum_bd y m (by omega) (by omega)
          obtain ⟨hcb1, hcb2⟩ := hcb
          have hdb := Cal.dim_01 y m
          obtain ⟨hdb1, hdb2⟩ := hdb
          have HM := Lib.hid (Cal.cum_succ y m hm1 hm2)
          by_cases hq : Cal.dim y m ≤ n - Cal.ys y - Cal.cum y m
          · have hm : m < 12 := by
              rcases Int.lt_or_le m 12 with c | c
              · exact c
              · obtain rfl : m = 12 := by omega
                have h13 := Cal.cum_13 y
                have := HS.out; have := HM.out; rw [show (12 : Int) + 1 = 13 from rfl] at this; omega
            go_wp2_with (go_at_call 43; refine (ref_DaysInMonth _ _ _).mono ?_; rintro e w2 ⟨rfl, hb2⟩; replace hbr := hbr.trans (hb2.mono hbr.size); clear hb2)
            go_roundw
            case rel => exact ⟨m + 1, by omega, by omega, rfl, by rw [HM.out]; omega, by rw [HM.out]; go_num, hbr⟩
            case measure => simp [intOf]; omega
          · go_wp2_with (go_at_call 43; refine (ref_DaysInMonth _ _ _).mono ?_; rintro e w2 ⟨rfl, hb2⟩)
            refine bodyPost_ret (v := .tuple #[.int .i64 y, .int .i64 m, .int .i64 (n - Cal.ys y - Cal.cum y m + 1), .bool true]) (by simp [results, Try.results35, go_sem]) rfl ⟨by rw [← HV.out]; exact ret_td ⟨by omega, by omega, by omega, by omega, by omega⟩ (by unfold Cal.num; omega) HD.out, hbr.trans (hb2.mono hbr.size)⟩

set_option maxHeartbeats 400000 in
theorem ref_Weekday (n : Int) (w : World) :
    Calls Try.prog 36 #[.int .i64 n] w fun e w' => e = .returned (.int .i64 (Cal.wd n)) ∧ w = w' := by
  by_cases hd : Cal.isDay n = false
  · have HF := Lib.hid (show Cal.wd n = 0 by unfold Cal.wd; rw [hd]; rfl)
    go_enter Try.func36, Try.ntmps36
    go_wp2_with (go_at_call 18; refine (ref_IsDay _ _).mono ?_; rintro e w' ⟨rfl, rfl⟩)
    go_ret
    exact ⟨ret_int HF.out.symm, rfl⟩
  · have hd : Cal.isDay n = true := by simpa using hd
    have HF := Lib.hid (show Cal.wd n = (n + 5) % 7 + 1 by unfold Cal.wd; rw [if_pos hd])
    have hb := (Cal.isDay_iff n).1 hd
    obtain ⟨hb1, hb2⟩ := hb
    go_enter Try.func36, Try.ntmps36
    go_wp2_with (go_at_call 18; refine (ref_IsDay _ _).mono ?_; rintro e w' ⟨rfl, rfl⟩)
    go_ret
    exact ⟨ret_int HF.out.symm, rfl⟩

end Go.Proofs.Ytgimfajanmmkfaa
