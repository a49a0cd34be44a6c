/-
  What civil.FromDate, ToDate, Weekday, AddMonths return.
-/
import Derived.Test.YtllbfbgkeajkeaaCivilA
namespace Go.Proofs.Ytllbfbgkeajkeaa
open Go.RowKit

set_option maxHeartbeats 1000000 in
theorem civil_FromDate (y m d : Int) (w : World) :
    Calls Try.prog 21 #[.int .i64 y, .int .i64 m, .int .i64 d] w fun e w' => e = .returned (.tuple #[.int .i64 (Cal.fdN y m d), .bool (Cal.fdB y m d)]) ∧ w = w' := by
  by_cases h1 : y < 1600
  · have HF := Lib.hid (Cal.fdB_no (y := y) (m := m) (d := d) (fun h => by have := h.1.y0; omega))
    go_enter Try.func21, Try.ntmps21
    go_wp2
    go_ret2
    exact ⟨ret_ib (by rw [Cal.fdN_no HF.out]) (by rw [HF.out]), rfl⟩
  by_cases h2 : 4400 < y
  · have HF := Lib.hid (Cal.fdB_no (y := y) (m := m) (d := d) (fun h => by have := h.1.in_year; have := Cal.ys_mono (a := 4400) (b := y) (by omega); have := Cal.ys_end; omega))
    go_enter Try.func21, Try.ntmps21
    go_wp2
    go_ret2
    exact ⟨ret_ib (by rw [Cal.fdN_no HF.out]) (by rw [HF.out]), rfl⟩
  by_cases h3 : d < 1
  · have HF := Lib.hid (Cal.fdB_no (y := y) (m := m) (d := d) (fun h => by have := h.1.d1; omega))
    go_enter Try.func21, Try.ntmps21
    go_wp2
    go_ret2
    exact ⟨ret_ib (by rw [Cal.fdN_no HF.out]) (by rw [HF.out]), rfl⟩
  by_cases h4 : Cal.dim y m < d
  · have HF := Lib.hid (Cal.fdB_no (y := y) (m := m) (d := d) (fun h => by have := h.1.dm; omega))
    go_enter Try.func21, Try.ntmps21
    go_wp2_with (go_at_call 33; refine (civil_DaysInMonth _ _ _).mono ?_; rintro e w' ⟨rfl, rfl⟩)
    go_ret2
    exact ⟨ret_ib (by rw [Cal.fdN_no HF.out]) (by rw [HF.out]), rfl⟩
  have hm := Cal.dim_in y m (by omega)
  have hd := Cal.dim_01 y m
  have hy := Cal.ys_mono (a := 1600) (b := y) (by omega)
  have hy' := Cal.ys_mono (a := y) (b := 4400) (by omega)
  rw [Cal.ys_1600] at hy
  rw [Cal.ys_end] at hy'
  obtain ⟨hm1, hm12⟩ := hm
  obtain ⟨hd1, hd2⟩ := hd
  have HN := Lib.hid (show Cal.num y m d = Cal.ys y + d - 1 + Cal.cum y m by unfold Cal.num; omega)
  go_enter Try.func21, Try.ntmps21
  go_wp2_with (first | (go_at_call 33; refine (civil_DaysInMonth _ _ _).mono ?_; rintro e w' ⟨rfl, rfl⟩) | (go_at_call 34; refine (civil_yearStart _ _ (by omega) (by omega)).mono ?_; rintro e w' ⟨rfl, rfl⟩))
  go_loop [8, 9] (fun n i => ∃ k : Int, 1 ≤ k ∧ k ≤ m ∧ i = .int .i64 k ∧ n = .int .i64 (Cal.ys y + d - 1 + Cal.cum y k)) (fun _ i => (m - intOf i).toNat)
  case atStart => exact ⟨1, by omega, by omega, rfl, by rw [Cal.cum_one]; go_num⟩
  case round =>
    obtain ⟨k, hk1, hk2, rfl, rfl⟩ := hrel
    have hc := Cal.cum_bd y k (by omega) (by omega)
    obtain ⟨hc1, hc2⟩ := hc
    by_cases hlt : k < m
    · have hdk := Cal.dim_01 y k
      obtain ⟨hdk1, hdk2⟩ := hdk
      have HS := Lib.hid (Cal.cum_succ y k (by omega) (by omega))
      go_wp2_with (go_at_call 33; refine (civil_DaysInMonth _ _ _).mono ?_; rintro e w' ⟨rfl, rfl⟩)
      go_round
      case rel => exact ⟨k + 1, by omega, by omega, rfl, by rw [HS.out]; go_num⟩
      case measure => simp [intOf]; omega
    · obtain rfl : k = m := by omega
      by_cases hf : 1000000 ≤ Cal.ys y + d - 1 + Cal.cum y k
      · have HF := Lib.hid (Cal.fdB_no (y := y) (m := k) (d := d) (fun h => by have := HN.out; omega))
        go_wp2
        go_ret2
        exact ⟨ret_ib (by rw [Cal.fdN_no HF.out]) (by rw [HF.out]), rfl⟩
      · have HF := Lib.hid ((Cal.fdB_iff y k d).2 ⟨⟨by omega, hm1, hm12, by omega, by omega⟩, by have := HN.out; omega⟩)
        go_wp2
        go_ret2
        exact ⟨ret_ib (by rw [Cal.fdN_yes HF.out, HN.out]) (by rw [HF.out]), rfl⟩

theorem ret_td {n : Int} {y m d : Int} (hv : Cal.Vld y m d) (hn : Cal.num y m d = n) (h : Cal.isDay n = true) :
    Ending.returned (.tuple #[.int .i64 y, .int .i64 m, .int .i64 d, .bool true]) = .returned (.tuple #[.int .i64 (Cal.tdY n), .int .i64 (Cal.tdM n), .int .i64 (Cal.tdD n), .bool (Cal.isDay n)]) := by
  unfold Cal.tdY Cal.tdM Cal.tdD; rw [Cal.date_eq h hv hn, h]
theorem ret_td0 {n : Int} (h : Cal.isDay n = false) :
    Ending.returned (.tuple #[.int .i64 0, .int .i64 0, .int .i64 0, .bool false]) = .returned (.tuple #[.int .i64 (Cal.tdY n), .int .i64 (Cal.tdM n), .int .i64 (Cal.tdD n), .bool (Cal.isDay n)]) := by
  unfold Cal.tdY Cal.tdM Cal.tdD; rw [Cal.date_no h, h]

set_option maxHeartbeats 1000000 in
theorem civil_ToDate (n : Int) (w : World) :
    Calls Try.prog 28 #[.int .i64 n] w fun e w' => e = .returned (.tuple #[.int .i64 (Cal.tdY n), .int .i64 (Cal.tdM n), .int .i64 (Cal.tdD n), .bool (Cal.isDay n)]) ∧ w = w' := by
  by_cases hd : Cal.isDay n = false
  · have HF := Lib.hid hd
    go_enter Try.func28, Try.ntmps28
    go_wp2_with (go_at_call 41; refine (civil_isDay _ _).mono ?_; rintro e w' ⟨rfl, rfl⟩)
    refine bodyPost_ret (v := .tuple #[.int .i64 0, .int .i64 0, .int .i64 0, .bool false]) (by simp [results, Try.results28, go_sem]) rfl ⟨ret_td0 HF.out, rfl⟩
  · have hd : Cal.isDay n = true := by simpa using hd
    have hb := (Cal.isDay_iff n).1 hd
    obtain ⟨hb1, hb2⟩ := hb
    have hg := Cal.ys_guess n hb1
    have HD := Lib.hid hd
    generalize hv : (Value.tuple #[.int .i64 (Cal.tdY n), .int .i64 (Cal.tdM n), .int .i64 (Cal.tdD n), .bool (Cal.isDay n)]) = V
    have HV := Lib.hid hv
    clear hv
    go_enter Try.func28, Try.ntmps28
    go_wp2_with (go_at_call 41; refine (civil_isDay _ _).mono ?_; rintro e w' ⟨rfl, rfl⟩)
    clear hd
    go_loop [2] (fun t => ∃ y : Int, 1600 ≤ y ∧ Cal.ys y ≤ n ∧ t = .int .i64 y) (fun t => (4400 - intOf t).toNat)
    case atStart => exact ⟨_, by omega, hg, rfl⟩
    case round =>
      obtain ⟨y, hy1, hy2, rfl⟩ := hrel
      have hlt := Cal.year_lt hy2 hb2
      clear hg
      by_cases hc : Cal.ys (y + 1) ≤ n
      · go_wp2_with (go_at_call 34; refine (civil_yearStart _ _ (by omega) (by omega)).mono ?_; rintro e w' ⟨rfl, rfl⟩)
        go_round
        case rel => exact ⟨y + 1, by omega, hc, rfl⟩
        case measure => simp [intOf]; omega
      · have hs := Cal.ys_mono (a := 1600) (b := y) hy1
        rw [Cal.ys_1600] at hs
        have HS := Lib.hid (Cal.ys_succ y)
        have HC := Lib.hid (Cal.cum_one y)
        go_wp2_with (go_at_call 34; refine (civil_yearStart _ _ (by omega) (by omega)).mono ?_; rintro e w' ⟨rfl, rfl⟩)
        go_loop [0, 3] (fun r k => ∃ m : Int, 1 ≤ m ∧ m ≤ 12 ∧ k = .int .i64 m ∧ 0 ≤ n - Cal.ys y - Cal.cum y m ∧ r = .int .i64 (n - Cal.ys y - Cal.cum y m)) (fun _ k => (12 - intOf k).toNat)
        case atStart => exact ⟨1, by omega, by omega, rfl, by rw [HC.out]; omega, by rw [HC.out]; go_num⟩
        case round =>
          obtain ⟨m, hm1, hm2, rfl, hr, rfl⟩ := hrel
          have hcb := Cal.cum_bd y m (by omega) (by omega)
          obtain ⟨hcb1, hcb2⟩ := hcb
          have hdb := Cal.dim_01 y m
          obtain ⟨hdb1, hdb2⟩ := hdb
          have HM := Lib.hid (Cal.cum_succ y m hm1 hm2)
          by_cases hm : m < 12
          · by_cases hq : Cal.dim y m ≤ n - Cal.ys y - Cal.cum y m
            · go_wp2_with (go_at_call 33; refine (civil_DaysInMonth _ _ _).mono ?_; rintro e w' ⟨rfl, rfl⟩)
              go_round
              case rel => exact ⟨m + 1, by omega, by omega, rfl, by rw [HM.out]; omega, by rw [HM.out]; go_num⟩
              case measure => simp [intOf]; omega
            · go_wp2_with (go_at_call 33; refine (civil_DaysInMonth _ _ _).mono ?_; rintro e w' ⟨rfl, rfl⟩)
              refine bodyPost_ret (v := .tuple #[.int .i64 y, .int .i64 m, .int .i64 (n - Cal.ys y - Cal.cum y m + 1), .bool true]) (by simp [results, Try.results28, go_sem]) rfl ⟨by rw [← HV.out]; exact ret_td ⟨by omega, by omega, by omega, by omega, by omega⟩ (by unfold Cal.num; omega) HD.out, rfl⟩
          · obtain rfl : m = 12 := by omega
            have h13 := Cal.cum_13 y
            have HS' := Lib.hid (show n - Cal.ys y - Cal.cum y 12 < Cal.dim y 12 by have := HS.out; have := HM.out; rw [show (12 : Int) + 1 = 13 from rfl] at this; omega)
            clear h13
            go_wp2
            refine bodyPost_ret (v := .tuple #[.int .i64 y, .int .i64 12, .int .i64 (n - Cal.ys y - Cal.cum y 12 + 1), .bool true]) (by simp [results, Try.results28, go_sem]) rfl ⟨by rw [← HV.out]; exact ret_td ⟨by omega, by omega, by omega, by omega, by have := HS'.out; omega⟩ (by unfold Cal.num; omega) HD.out, rfl⟩


end Go.Proofs.Ytllbfbgkeajkeaa
