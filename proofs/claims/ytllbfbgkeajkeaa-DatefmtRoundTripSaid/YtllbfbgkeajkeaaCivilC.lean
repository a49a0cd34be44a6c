/-
  What the reference's calendar returns: the same as the program's, and it makes memory of its own.
-/
import Derived.Test.YtllbfbgkeajkeaaCivilB
namespace Go.Proofs.Ytllbfbgkeajkeaa
open Go.RowKit

set_option maxHeartbeats 4000000 in
theorem ref_DaysInMonth (y m : Int) (w : World) : Calls Try.prog 35 #[.int .i64 y, .int .i64 m] w fun e w' => e = .returned (.int .i64 (Cal.dim y m)) ∧ Below w.heap.size w w' := by
  by_cases h : m < 1
  · have HF := Lib.hid (Cal.dim_out y m (.inl h))
    go_enter Try.func35, Try.ntmps35
    go_wp2
    go_ret
    exact ⟨ret_int HF.out.symm, (Below.refl _ _).alloc (Nat.le_refl _) _⟩
  by_cases h' : 12 < m
  · have HF := Lib.hid (Cal.dim_out y m (.inr h'))
    go_enter Try.func35, Try.ntmps35
    go_wp2
    go_ret
    exact ⟨ret_int HF.out.symm, (Below.refl _ _).alloc (Nat.le_refl _) _⟩
  by_cases h2 : m = 2
  · subst h2
    clear h h'
    by_cases hl : Cal.leap y = true
    · have HF := Lib.hid (show Cal.dim y 2 = 29 by unfold Cal.dim Cal.lp; rw [if_pos rfl, if_pos hl]; rfl)
      go_enter Try.func35, Try.ntmps35
      go_wp2_with (go_at_call 43; refine (ref_IsLeap _ _).mono ?_; rintro e w' ⟨rfl, rfl⟩)
      go_ret
      exact ⟨ret_int HF.out.symm, (Below.refl _ _).alloc (Nat.le_refl _) _⟩
    · have hl : Cal.leap y = false := by simpa using hl
      have HF := Lib.hid (show Cal.dim y 2 = 28 by unfold Cal.dim Cal.lp; rw [if_pos rfl, hl]; rfl)
      go_enter Try.func35, Try.ntmps35
      go_wp2_with (go_at_call 43; refine (ref_IsLeap _ _).mono ?_; rintro e w' ⟨rfl, rfl⟩)
      go_ret
      exact ⟨ret_int HF.out.symm, (Below.refl _ _).alloc (Nat.le_refl _) _⟩
  · have hm2 : (m == 2) = false := by simpa using h2
    have hx : [Value.int IntKind.i64 0, Value.int IntKind.i64 31, Value.int IntKind.i64 28, Value.int IntKind.i64 31, Value.int IntKind.i64 30, Value.int IntKind.i64 31, Value.int IntKind.i64 30, Value.int IntKind.i64 31,
        Value.int IntKind.i64 31, Value.int IntKind.i64 30, Value.int IntKind.i64 31, Value.int IntKind.i64 30, Value.int IntKind.i64 31][m.toNat]? = some (.int .i64 (Cal.dim y m)) := by
      have hc : m = 1 ∨ m = 3 ∨ m = 4 ∨ m = 5 ∨ m = 6 ∨ m = 7 ∨ m = 8 ∨ m = 9 ∨ m = 10 ∨ m = 11 ∨ m = 12 := by omega
      rcases hc with h | h | h | h | h | h | h | h | h | h | h <;> subst h <;> rfl
    clear h2
    go_enter Try.func35, Try.ntmps35
    go_wp2_with (go_at_call 43; refine (ref_IsLeap _ _).mono ?_; rintro e w' ⟨rfl, rfl⟩)
    go_ret
    exact ⟨rfl, (Below.refl _ _).alloc (Nat.le_refl _) _⟩

set_option maxHeartbeats 1000000 in
theorem ref_FromDate (y m d : Int) (w : World) :
    Calls Try.prog 22 #[.int .i64 y, .int .i64 m, .int .i64 d] w fun e w' => e = .returned (.tuple #[.int .i64 (Cal.fdN y m d), .bool (Cal.fdB y m d)]) ∧ Below w.heap.size w w' := by
  generalize hv : (Value.tuple #[.int .i64 (Cal.fdN y m d), .bool (Cal.fdB y m d)]) = V
  have HV := Lib.hid hv
  clear hv
  by_cases h1 : y < 1600
  · have HF := Lib.hid (Cal.fdB_early (y := y) (m := m) (d := d) h1)
    go_enter Try.func22, Try.ntmps22
    go_wp2
    go_ret2
    exact ⟨by rw [← HV.out, Cal.fdN_no HF.out, HF.out]; rfl, Below.refl _ _⟩
  by_cases h2 : 9999 < y
  · have HF := Lib.hid (Cal.fdB_late (y := y) (m := m) (d := d) (by omega))
    go_enter Try.func22, Try.ntmps22
    go_wp2
    go_ret2
    exact ⟨by rw [← HV.out, Cal.fdN_no HF.out, HF.out]; rfl, Below.refl _ _⟩
  by_cases h3 : d < 1
  · have HF := Lib.hid (Cal.fdB_no (y := y) (m := m) (d := d) (fun h => by have := h.1.d1; omega))
    go_enter Try.func22, Try.ntmps22
    go_wp2
    go_ret2
    exact ⟨by rw [← HV.out, Cal.fdN_no HF.out, HF.out]; rfl, Below.refl _ _⟩
  by_cases h4 : Cal.dim y m < d
  · have HF := Lib.hid (Cal.fdB_no (y := y) (m := m) (d := d) (fun h => by have := h.1.dm; omega))
    go_enter Try.func22, Try.ntmps22
    go_wp2_with (go_at_call 35; refine (ref_DaysInMonth _ _ _).mono ?_; rintro e w1 ⟨rfl, hb⟩)
    go_ret2
    exact ⟨by rw [← HV.out, Cal.fdN_no HF.out, HF.out]; rfl, hb⟩
  have hm := Cal.dim_in y m (by omega)
  have hd := Cal.dim_01 y m
  have hy := Cal.ys_mono (a := 1600) (b := y) (by omega)
  have hy' := Cal.ys_mono (a := y) (b := 10000) (by omega)
  rw [Cal.ys_1600] at hy
  rw [show Cal.ys 10000 = 3068037 by decide] at hy'
  obtain ⟨hm1, hm12⟩ := hm
  obtain ⟨hd1, hd2⟩ := hd
  have HN := Lib.hid (show Cal.num y m d = Cal.ys y + Cal.cum y m + d - 1 by unfold Cal.num; omega)
  have HC := Lib.hid (Cal.cum_one y)
  go_enter Try.func22, Try.ntmps22
  go_wp2_with (first | (go_at_call 35; refine (ref_DaysInMonth _ _ _).mono ?_; rintro e w1 ⟨rfl, hb⟩) | (go_at_call 36; refine (ref_newYear _ _ (by omega) (by omega)).mono ?_; rintro e w' ⟨rfl, rfl⟩))
  go_loopw [8, 9] (fun n i wr => ∃ k : Int, 1 ≤ k ∧ k ≤ m ∧ i = .int .i64 k ∧ n = .int .i64 (Cal.ys y + Cal.cum y k) ∧ Below w.heap.size w wr) (fun _ i _ => (m - intOf i).toNat)
  case atStart => exact ⟨1, by omega, by omega, rfl, by rw [HC.out]; go_num, hb⟩
  case round =>
    obtain ⟨k, hk1, hk2, rfl, rfl, hbr⟩ := hrel
    have hc := Cal.cum_bd y k (by omega) (by omega)
    obtain ⟨hc1, hc2⟩ := hc
    by_cases hlt : k < m
    · have hdk := Cal.dim_01 y k
      obtain ⟨hdk1, hdk2⟩ := hdk
      have HS := Lib.hid (Cal.cum_succ y k (by omega) (by omega))
      go_wp2_with (go_at_call 35; refine (ref_DaysInMonth _ _ _).mono ?_; rintro e w2 ⟨rfl, hb2⟩)
      go_roundw
      case rel => exact ⟨k + 1, by omega, by omega, rfl, by rw [HS.out]; go_num, hbr.trans (hb2.mono hbr.size)⟩
      case measure => simp [intOf]; omega
    · obtain rfl : k = m := by omega
      by_cases hf : 1000000 ≤ Cal.ys y + Cal.cum y k + d - 1
      · have HF := Lib.hid (Cal.fdB_no (y := y) (m := k) (d := d) (fun h => by have := HN.out; omega))
        go_wp2
        go_ret2
        exact ⟨by rw [← HV.out, Cal.fdN_no HF.out, HF.out]; rfl, hbr⟩
      · have HF := Lib.hid ((Cal.fdB_iff y k d).2 ⟨⟨by omega, hm1, hm12, by omega, by omega⟩, by have := HN.out; omega⟩)
        go_wp2
        go_ret2
        exact ⟨by rw [← HV.out, Cal.fdN_yes HF.out, HF.out, HN.out]; rfl, hbr⟩

set_option maxHeartbeats 1000000 in
theorem ref_ToDate (n : Int) (w : World) :
    Calls Try.prog 30 #[.int .i64 n] w fun e w' => e = .returned (.tuple #[.int .i64 (Cal.tdY n), .int .i64 (Cal.tdM n), .int .i64 (Cal.tdD n), .bool (Cal.isDay n)]) ∧ Below w.heap.size w w' := by
  generalize hv : (Value.tuple #[.int .i64 (Cal.tdY n), .int .i64 (Cal.tdM n), .int .i64 (Cal.tdD n), .bool (Cal.isDay n)]) = V
  have HV := Lib.hid hv
  clear hv
  by_cases hd : Cal.isDay n = false
  · have HF := Lib.hid hd
    go_enter Try.func30, Try.ntmps30
    go_wp2_with (go_at_call 14; refine (ref_IsDay _ _).mono ?_; rintro e w' ⟨rfl, rfl⟩)
    refine bodyPost_ret (v := .tuple #[.int .i64 0, .int .i64 0, .int .i64 0, .bool false]) (by simp [results, Try.results30, go_sem]) rfl ⟨by rw [← HV.out]; exact ret_td0 HF.out, Below.refl _ _⟩
  · have hd : Cal.isDay n = true := by simpa using hd
    have hb := (Cal.isDay_iff n).1 hd
    obtain ⟨hb1, hb2⟩ := hb
    have hg := Cal.ys_guess n hb1
    have HD := Lib.hid hd
    go_enter Try.func30, Try.ntmps30
    go_wp2_with (go_at_call 14; refine (ref_IsDay _ _).mono ?_; rintro e w' ⟨rfl, rfl⟩)
    clear hd
    go_loop [6] (fun t => ∃ y : Int, 1600 ≤ y ∧ Cal.ys y ≤ n ∧ t = .int .i64 y) (fun t => (4400 - intOf t).toNat)
    case atStart => exact ⟨_, by omega, hg, rfl⟩
    case round =>
      obtain ⟨y, hy1, hy2, rfl⟩ := hrel
      have hlt := Cal.year_lt hy2 hb2
      clear hg
      by_cases hc : Cal.ys (y + 1) ≤ n
      · go_wp2_with (go_at_call 36; refine (ref_newYear _ _ (by omega) (by omega)).mono ?_; rintro e w' ⟨rfl, rfl⟩)
        go_round
        case rel => exact ⟨y + 1, by omega, hc, rfl⟩
        case measure => simp [intOf]; omega
      · have hs := Cal.ys_mono (a := 1600) (b := y) hy1
        rw [Cal.ys_1600] at hs
        have HS := Lib.hid (Cal.ys_succ y)
        have HC := Lib.hid (Cal.cum_one y)
        go_wp2_with (go_at_call 36; refine (ref_newYear _ _ (by omega) (by omega)).mono ?_; rintro e w' ⟨rfl, rfl⟩)
        go_loopw [7, 8] (fun r k wr => ∃ m : Int, 1 ≤ m ∧ m ≤ 12 ∧ k = .int .i64 m ∧ 0 ≤ n - Cal.ys y - Cal.cum y m ∧ r = .int .i64 (n - Cal.ys y - Cal.cum y m) ∧ Below w.heap.size w wr) (fun _ k _ => (12 - intOf k).toNat)
        case atStart => exact ⟨1, by omega, by omega, rfl, by rw [HC.out]; omega, by rw [HC.out]; go_num, Below.refl _ _⟩
        case round =>
          obtain ⟨m, hm1, hm2, rfl, hr, rfl, hbr⟩ := hrel
          have hcb := Cal.cum_bd y m (by omega) (by omega)
          obtain ⟨hcb1, hcb2⟩ := hcb
          have hdb := Cal.dim_01 y m
          obtain ⟨hdb1, hdb2⟩ := hdb
          have HM := Lib.hid (Cal.cum_succ y m hm1 hm2)
          by_cases hq : Cal.dim y m ≤ n - Cal.ys y - Cal.cum y m
          · have hm : m < 12 := by
              rcases Int.lt_or_le m 12 with c | c
              · exact c
              · obtain rfl : m = 12 := by omega
                have h13 := Cal.cum_13 y
                have := HS.out; have := HM.out; rw [show (12 : Int) + 1 = 13 from rfl] at this; omega
            go_wp2_with (go_at_call 35; refine (ref_DaysInMonth _ _ _).mono ?_; rintro e w2 ⟨rfl, hb2⟩; replace hbr := hbr.trans (hb2.mono hbr.size); clear hb2)
            go_roundw
            case rel => exact ⟨m + 1, by omega, by omega, rfl, by rw [HM.out]; omega, by rw [HM.out]; go_num, hbr⟩
            case measure => simp [intOf]; omega
          · go_wp2_with (go_at_call 35; refine (ref_DaysInMonth _ _ _).mono ?_; rintro e w2 ⟨rfl, hb2⟩)
            refine bodyPost_ret (v := .tuple #[.int .i64 y, .int .i64 m, .int .i64 (n - Cal.ys y - Cal.cum y m + 1), .bool true]) (by simp [results, Try.results30, go_sem]) rfl ⟨by rw [← HV.out]; exact ret_td ⟨by omega, by omega, by omega, by omega, by omega⟩ (by unfold Cal.num; omega) HD.out, hbr.trans (hb2.mono hbr.size)⟩

end Go.Proofs.Ytllbfbgkeajkeaa
