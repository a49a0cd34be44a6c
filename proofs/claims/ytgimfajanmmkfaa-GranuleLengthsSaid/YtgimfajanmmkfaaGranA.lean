/-
  What the small functions of package granule return.
-/
import Derived.Test.YtgimfajanmmkfaaGran
import Derived.Test.YtgimfajanmmkfaaCivilC
namespace Go.Proofs.Ytgimfajanmmkfaa
open Go.RowKit

theorem vg_other {k s : Int} (h1 : k ≠ 1) (h2 : k ≠ 2) (h3 : k ≠ 3) (h4 : k ≠ 4) (h5 : k ≠ 5) : Gr.vg k s = false := by
  cases h : Gr.vg k s with
  | false => rfl
  | true => have := (Gr.vg_iff k s).1 h; omega
theorem vg_12 (s : Int) : Gr.vg 1 s = (s == 0) ∧ Gr.vg 2 s = (s == 0) := by
  unfold Gr.vg; constructor <;> (rw [Bool.eq_iff_iff]; simp)
theorem vg_3 (s : Int) : Gr.vg 3 s = (decide (1 ≤ s) && decide (s ≤ 28)) := by unfold Gr.vg; rw [Bool.eq_iff_iff]; simp
theorem vg_45 (s : Int) : Gr.vg 4 s = (decide (1 ≤ s) && decide (s ≤ 12)) ∧ Gr.vg 5 s = (decide (1 ≤ s) && decide (s ≤ 12)) := by
  unfold Gr.vg; constructor <;> (rw [Bool.eq_iff_iff]; simp)

set_option maxHeartbeats 2000000 in
theorem gran_Valid (k s : Int) (w : World) : Calls Try.prog 14 #[.agg #[.int .i64 k, .int .i64 s]] w fun e w' => e = .returned (.bool (Gr.vg k s)) ∧ Below w.heap.size w w' := by
  by_cases h1 : k = 1
  · subst h1
    rw [(vg_12 s).1]
    go_enter Try.func14, Try.ntmps14
    go_wp2
    go_ret
    exact ⟨rfl, (Below.refl _ _).alloc (Nat.le_refl _) _⟩
  by_cases h2 : k = 2
  · subst h2
    rw [(vg_12 s).2]
    go_enter Try.func14, Try.ntmps14
    go_wp2
    go_ret
    exact ⟨rfl, (Below.refl _ _).alloc (Nat.le_refl _) _⟩
  by_cases h3 : k = 3
  · subst h3
    rw [vg_3 s]
    go_enter Try.func14, Try.ntmps14
    go_wp2
    all_goals
      go_ret
      exact ⟨ret_bool (by first | rfl | (simp; omega)), (Below.refl _ _).alloc (Nat.le_refl _) _⟩
  by_cases h4 : k = 4
  · subst h4
    rw [(vg_45 s).1]
    go_enter Try.func14, Try.ntmps14
    go_wp2
    all_goals
      go_ret
      exact ⟨ret_bool (by first | rfl | (simp; omega)), (Below.refl _ _).alloc (Nat.le_refl _) _⟩
  by_cases h5 : k = 5
  · subst h5
    rw [(vg_45 s).2]
    go_enter Try.func14, Try.ntmps14
    go_wp2
    all_goals
      go_ret
      exact ⟨ret_bool (by first | rfl | (simp; omega)), (Below.refl _ _).alloc (Nat.le_refl _) _⟩
  rw [vg_other h1 h2 h3 h4 h5]
  have k1 : (k == 1) = false := beq_eq_false_iff_ne.2 h1
  have k2 : (k == 2) = false := beq_eq_false_iff_ne.2 h2
  have k3 : (k == 3) = false := beq_eq_false_iff_ne.2 h3
  have k4 : (k == 4) = false := beq_eq_false_iff_ne.2 h4
  have k5 : (k == 5) = false := beq_eq_false_iff_ne.2 h5
  clear h1 h2 h3 h4 h5
  go_enter Try.func14, Try.ntmps14
  go_wp2
  go_ret
  exact ⟨rfl, (Below.refl _ _).alloc (Nat.le_refl _) _⟩

set_option maxHeartbeats 400000 in
theorem gran_isDay (d : Int) (w : World) : Calls Try.prog 24 #[.int .i64 d] w fun e w' => e = .returned (.bool (Cal.isDay d)) ∧ w = w' := by
  go_enter Try.func24, Try.ntmps24
  go_wp2
  all_goals
    go_ret
    exact ⟨ret_bool (by simp [Cal.isDay]; omega), rfl⟩

set_option maxHeartbeats 400000 in
theorem gran_aligned (n r k : Int) (w : World) (hn : 0 ≤ n) (hn' : n ≤ 100000) (hr : 0 ≤ r) (hk : k = 3 ∨ k = 12) (hrk : r ≤ 12) :
    Calls Try.prog 34 #[.int .i64 n, .int .i64 r, .int .i64 k] w fun e w' => e = .returned (.int .i64 (Gr.al n r k)) ∧ w = w' := by
  by_cases h0 : r = 0
  · have HF := Lib.hid (show Gr.al n r k = n / k by unfold Gr.al; rw [if_pos h0])
    subst h0
    rcases hk with rfl | rfl
    all_goals
      go_enter Try.func34, Try.ntmps34
      go_wp2
      go_ret
      exact ⟨ret_int HF.out.symm, rfl⟩
  have hr0 : (r == 0) = false := beq_eq_false_iff_ne.2 h0
  by_cases h1 : n < r
  · have HF := Lib.hid (show Gr.al n r k = 0 by unfold Gr.al; rw [if_neg h0, if_pos h1])
    clear h0 hk
    go_enter Try.func34, Try.ntmps34
    go_wp2
    go_ret
    exact ⟨ret_int HF.out.symm, rfl⟩
  · have HF := Lib.hid (show Gr.al n r k = (n - r) / k + 1 by unfold Gr.al; rw [if_neg h0, if_neg h1])
    clear h0
    rcases hk with rfl | rfl
    all_goals
      go_enter Try.func34, Try.ntmps34
      go_wp2
      go_ret
      exact ⟨ret_int HF.out.symm, rfl⟩

set_option maxHeartbeats 400000 in
theorem gran_monthIndex (n : Int) (w : World) (hi : Cal.isDay n = true) :
    Calls Try.prog 33 #[.int .i64 n] w fun e w' => e = .returned (.tuple #[.int .i64 (Gr.mk n), .int .i64 (Cal.tdD n)]) ∧ w = w' := by
  obtain ⟨b1, b2, b3, b4, b5, b6⟩ := Cal.td_bounds hi
  have HF := Lib.hid (show Gr.mk n = 12 * (Cal.tdY n - 1600) + Cal.tdM n - 1 from rfl)
  clear hi
  go_enter Try.func33, Try.ntmps33
  go_wp2_with (go_at_call 39; refine (civil_ToDate _ _).mono ?_; rintro e w' ⟨rfl, rfl⟩)
  go_ret2
  exact ⟨by rw [HF.out]; rfl, rfl⟩

theorem jan1 (y : Int) (h : 1600 ≤ y) (g : Cal.ys y < 1000000) : Cal.fdB y 1 1 = true ∧ Cal.fdN y 1 1 = Cal.ys y := by
  have hp := Cal.dim_pos y 1 (by omega) (by omega)
  have hf := (Cal.fdB_iff y 1 1).2 ⟨⟨h, by omega, by omega, by omega, by omega⟩, by rw [Cal.num_jan1]; exact g⟩
  exact ⟨hf, by rw [Cal.fdN_yes hf, Cal.num_jan1]⟩

set_option maxRecDepth 100000 in
set_option maxHeartbeats 1000000 in
theorem gran_weekStarts (n : Int) (w : World) (h0 : 0 ≤ n) (h1 : n < 1000000) :
    Calls Try.prog 32 #[.int .i64 n] w fun e w' => e = .returned (.int .i64 (Gr.wk n)) ∧ w = w' := by
  have hi : Cal.isDay n = true := (Cal.isDay_iff n).2 ⟨h0, h1⟩
  obtain ⟨v, ev⟩ := Cal.date_day n hi
  obtain ⟨b1, b2, b3, b4, b5, b6⟩ := Cal.td_bounds hi
  have hy := v.in_year
  rw [ev] at hy
  obtain ⟨hy1, hy2⟩ := hy
  obtain ⟨j, hj⟩ : ∃ j : Nat, Cal.tdY n = 1600 + j := ⟨(Cal.tdY n - 1600).toNat, by omega⟩
  rw [hj] at hy1 hy2 b2
  obtain ⟨B, hB⟩ : ∃ B : Int, B = (if 2 ≤ n then (n - 2) / 7 + 1 else 0) := ⟨_, rfl⟩
  have hBb : 0 ≤ B ∧ B ≤ 1000000 := by rw [hB]; split <;> omega
  obtain ⟨hB0, hB1⟩ := hBb
  have HF := Lib.hid (show Gr.wk n = B + Gr.yc j by unfold Gr.wk; rw [hj, show (1600 + (j : Int) - 1600).toNat = j by omega, hB])
  clear hi v ev b1 b3 b4 b5 b6 hj
  have hyc : ∀ i : Nat, 0 ≤ Gr.yc i ∧ Gr.yc i ≤ i := by
    intro i
    induction i with
    | zero => exact ⟨by simp [Gr.yc], by simp [Gr.yc]⟩
    | succ i ih => simp only [Gr.yc]; split <;> omega
  have HYC := Lib.hid hyc
  clear hyc
  have HB := Lib.hid hB
  clear hB
  by_cases hn : 2 ≤ n
  all_goals
    go_enter Try.func32, Try.ntmps32
    go_wp2
    go_loop [3, 4] (fun c y => ∃ i a : Int, 1601 ≤ i ∧ i ≤ 1601 + j ∧ y = .int .i64 i ∧ c = .int .i64 (B + a) ∧ Hid (a = Gr.yc (i - 1601).toNat)) (fun _ y => (4401 - intOf y).toNat)
    case atStart => exact ⟨1601, 0, by omega, by omega, by go_num, by rw [HB.out]; first | (rw [if_pos hn]; simp; done) | (rw [if_neg (by omega)]; simp; done), Lib.hid rfl⟩
    case round =>
      obtain ⟨i, a, hi1, hi2, rfl, rfl, HA⟩ := hrel
      obtain ⟨yc0, yc1⟩ := HYC.out (i - 1601).toNat
      rw [← HA.out] at yc0 yc1
      have hab : 0 ≤ a ∧ a ≤ 2800 := by omega
      clear yc0 yc1
      obtain ⟨ha0, ha1⟩ := hab
      by_cases hij : i < 1601 + j
      · have hm := Cal.ys_mono (a := i) (b := 1600 + j) (by omega)
        obtain ⟨f1, f2⟩ := jan1 i (by omega) (by omega)
        have hs : Gr.yc (i + 1 - 1601).toNat = a + if Cal.wd (Cal.ys i) = 1 then 0 else 1 := by
          rw [show (i + 1 - 1601).toNat = (i - 1601).toNat + 1 by omega]
          simp only [Gr.yc]; rw [show (1600 : Int) + (i - 1601).toNat + 1 = i by omega, HA.out]
        have HS := Lib.hid hs
        clear hs
        by_cases hw : Cal.wd (Cal.ys i) = 1
        · have hw' : (Cal.wd (Cal.ys i) != 1) = false := by simp [hw]
          have HW := Lib.hid hw
          clear hw
          go_wp2_with (first | (go_at_call 41; refine (civil_FromDate _ _ _ _).mono ?_; rintro e w' ⟨rfl, rfl⟩) | (go_at_call 40; refine (civil_Weekday _ _).mono ?_; rintro e w' ⟨rfl, rfl⟩))
          go_round
          case rel => exact ⟨i + 1, a, by omega, by omega, rfl, rfl, Lib.hid (by rw [HS.out, if_pos HW.out]; omega)⟩
          case measure => simp [intOf]; omega
        · have hw' : (Cal.wd (Cal.ys i) != 1) = true := by simp [hw]
          have HW := Lib.hid hw
          clear hw
          go_wp2_with (first | (go_at_call 41; refine (civil_FromDate _ _ _ _).mono ?_; rintro e w' ⟨rfl, rfl⟩) | (go_at_call 40; refine (civil_Weekday _ _).mono ?_; rintro e w' ⟨rfl, rfl⟩))
          go_round
          case rel => exact ⟨i + 1, a + 1, by omega, by omega, rfl, by go_num, Lib.hid (by rw [HS.out, if_neg HW.out])⟩
          case measure => simp [intOf]; omega
      · obtain rfl : i = 1601 + j := by omega
        have hz : a = Gr.yc j := by rw [HA.out]; congr 1; omega
        have HZ := Lib.hid hz
        clear hz hij
        rw [show (1600 : Int) + j + 1 = 1601 + j by omega] at hy2
        generalize (1601 + (j : Int)) = i at *
        cases hf : Cal.fdB i 1 1 with
        | false =>
          go_wp2_with (first | (go_at_call 41; refine (civil_FromDate _ _ _ _).mono ?_; rintro e w' ⟨rfl, rfl⟩) | (go_at_call 40; refine (civil_Weekday _ _).mono ?_; rintro e w' ⟨rfl, rfl⟩))
          go_ret
          exact ⟨ret_int (by rw [HF.out, HZ.out]), rfl⟩
        | true =>
          have f2 : n < Cal.fdN i 1 1 := by rw [Cal.fdN_yes hf, Cal.num_jan1]; exact hy2
          clear hy2
          go_wp2_with (first | (go_at_call 41; refine (civil_FromDate _ _ _ _).mono ?_; rintro e w' ⟨rfl, rfl⟩) | (go_at_call 40; refine (civil_Weekday _ _).mono ?_; rintro e w' ⟨rfl, rfl⟩))
          go_ret
          exact ⟨ret_int (by rw [HF.out, HZ.out]), rfl⟩

end Go.Proofs.Ytgimfajanmmkfaa
