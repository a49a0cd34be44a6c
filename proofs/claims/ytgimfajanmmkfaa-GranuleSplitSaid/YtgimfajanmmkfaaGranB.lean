/-
  What granule.index and granule.next return.
-/
import Derived.Test.YtgimfajanmmkfaaGranA
namespace Go.Proofs.Ytgimfajanmmkfaa
open Go.RowKit

set_option maxRecDepth 100000 in
set_option maxHeartbeats 1000000 in
theorem gran_index (k s n : Int) (w : World) (hv : Gr.vg k s = true) (h0 : 0 ≤ n) (h1 : n < 1000000) :
    Calls Try.prog 25 #[.agg #[.int .i64 k, .int .i64 s], .int .i64 n] w fun e w' => e = .returned (.int .i64 (Gr.idx k s n)) ∧ Below w.heap.size w w' := by
  have hi : Cal.isDay n = true := (Cal.isDay_iff n).2 ⟨h0, h1⟩
  obtain ⟨i1, i2, i4, i5, i3⟩ := Gr.idx_k s n
  have c1 := (Gr.mk_nonneg hi).1
  have c2 := (Gr.mk_nonneg hi).2.1
  obtain ⟨b1, b2, b3, b4, b5, b6⟩ := Cal.td_bounds hi
  rcases (Gr.vg_iff k s).1 hv with ⟨rfl | rfl, rfl⟩ | ⟨rfl, a, b⟩ | ⟨rfl | rfl, a, b⟩
  · have HF := Lib.hid i1
    clear hv i1 i2 i3 i4 i5 c1 c2 b1 b2 b3 b4 b5 b6
    go_enter Try.func25, Try.ntmps25
    go_wp2_with (first | (go_at_call 33; refine (gran_monthIndex _ _ hi).mono ?_; rintro e w' ⟨rfl, rfl⟩) | (go_at_call 32; refine (gran_weekStarts _ _ (by omega) (by omega)).mono ?_; rintro e w' ⟨rfl, rfl⟩))
    go_ret
    exact ⟨ret_int (by rw [HF.out]), (Below.refl _ _).alloc (Nat.le_refl _) _⟩
  · have HF := Lib.hid i2
    clear hv i1 i2 i3 i4 i5 c1 c2 b1 b2 b3 b4 b5 b6
    go_enter Try.func25, Try.ntmps25
    go_wp2_with (first | (go_at_call 32; refine (gran_weekStarts _ _ (by omega) (by omega)).mono ?_; rintro e w' ⟨rfl, rfl⟩) | (go_at_call 33; refine (gran_monthIndex _ _ hi).mono ?_; rintro e w' ⟨rfl, rfl⟩))
    go_ret
    exact ⟨ret_int (by rw [HF.out]), (Below.refl _ _).alloc (Nat.le_refl _) _⟩
  · by_cases g1 : s ≤ Cal.tdD n
    · by_cases g2 : s = 1
      · have HF := Lib.hid (show Gr.idx 3 s n = Gr.mk n by rw [i3, if_pos g1, if_pos g2]; omega)
        clear hv i1 i2 i3 i4 i5 b1 b2 b3 b4
        subst g2
        go_enter Try.func25, Try.ntmps25
        go_wp2_with (first | (go_at_call 33; refine (gran_monthIndex _ _ hi).mono ?_; rintro e w' ⟨rfl, rfl⟩))
        go_ret
        exact ⟨ret_int (by rw [HF.out]), (Below.refl _ _).alloc (Nat.le_refl _) _⟩
      · have HF := Lib.hid (show Gr.idx 3 s n = Gr.mk n + 1 by rw [i3, if_pos g1, if_neg g2]; omega)
        have g3 : (s == 1) = false := beq_eq_false_iff_ne.2 g2
        clear hv i1 i2 i3 i4 i5 b1 b2 b3 b4 g2
        go_enter Try.func25, Try.ntmps25
        go_wp2_with (first | (go_at_call 33; refine (gran_monthIndex _ _ hi).mono ?_; rintro e w' ⟨rfl, rfl⟩))
        go_ret
        exact ⟨ret_int (by rw [HF.out]), (Below.refl _ _).alloc (Nat.le_refl _) _⟩
    · have g2 : (s == 1) = false := beq_eq_false_iff_ne.2 (by omega)
      have HF := Lib.hid (show Gr.idx 3 s n = Gr.mk n by rw [i3, if_neg g1, if_neg (by omega)]; omega)
      clear hv i1 i2 i3 i4 i5 b1 b2 b3 b4
      go_enter Try.func25, Try.ntmps25
      go_wp2_with (first | (go_at_call 33; refine (gran_monthIndex _ _ hi).mono ?_; rintro e w' ⟨rfl, rfl⟩))
      go_ret
      exact ⟨ret_int (by rw [HF.out]), (Below.refl _ _).alloc (Nat.le_refl _) _⟩
  · have HF := Lib.hid i4
    clear hv i1 i2 i3 i4 i5 b1 b2 b3 b4 b5 b6
    go_enter Try.func25, Try.ntmps25
    go_wp2_with (first | (go_at_call 33; refine (gran_monthIndex _ _ hi).mono ?_; rintro e w' ⟨rfl, rfl⟩) | (go_at_call 34; refine (gran_aligned _ _ _ _ (by omega) (by omega) (by omega) (by omega) (by omega)).mono ?_; rintro e w' ⟨rfl, rfl⟩))
    go_ret
    exact ⟨ret_int (by rw [HF.out]), (Below.refl _ _).alloc (Nat.le_refl _) _⟩
  · have HF := Lib.hid i5
    clear hv i1 i2 i3 i4 i5 b1 b2 b3 b4 b5 b6
    go_enter Try.func25, Try.ntmps25
    go_wp2_with (first | (go_at_call 33; refine (gran_monthIndex _ _ hi).mono ?_; rintro e w' ⟨rfl, rfl⟩) | (go_at_call 34; refine (gran_aligned _ _ _ _ (by omega) (by omega) (by omega) (by omega) (by omega)).mono ?_; rintro e w' ⟨rfl, rfl⟩))
    go_ret
    exact ⟨ret_int (by rw [HF.out]), (Below.refl _ _).alloc (Nat.le_refl _) _⟩

/-- The start of the granule behind that of day n. -/
noncomputable def nx (k s n : Int) : Int := Gr.fs k s (Gr.idx k s n + 1)

set_option maxRecDepth 100000 in
set_option maxHeartbeats 2000000 in
theorem gran_next (k s n : Int) (w : World) (hv : Gr.vg k s = true) (h0 : 0 ≤ n) (h1 : n < 1000000) :
    Calls Try.prog 29 #[.agg #[.int .i64 k, .int .i64 s], .int .i64 n] w fun e w' => e = .returned (.int .i64 (nx k s n)) ∧ Below w.heap.size w w' := by
  have hi : Cal.isDay n = true := (Cal.isDay_iff n).2 ⟨h0, h1⟩
  obtain ⟨b1, b2, b3, b4, b5, b6⟩ := Cal.td_bounds hi
  have hk : Gr.mk n = 12 * (Cal.tdY n - 1600) + Cal.tdM n - 1 := rfl
  rcases (Gr.vg_iff k s).1 hv with ⟨rfl | rfl, rfl⟩ | ⟨rfl, a, b⟩ | ⟨rfl | rfl, a, b⟩
  · have HF := Lib.hid (show nx 1 0 n = n + 1 from Gr.next_days hv hi)
    clear hv hk
    go_enter Try.func29, Try.ntmps29
    go_wp2_with (first | (go_at_call 39; refine (civil_ToDate _ _).mono ?_; rintro e w' ⟨rfl, rfl⟩))
    go_ret
    exact ⟨ret_int (by rw [HF.out]), (Below.refl _ _).alloc (Nat.le_refl _) _⟩
  · have hf := Gr.next_weeks hv hi
    have hwd : 1 ≤ Cal.wd n ∧ Cal.wd n ≤ 7 := by unfold Cal.wd; rw [if_pos hi]; omega
    obtain ⟨hw1, hw7⟩ := hwd
    cases hb : Cal.fdB (Cal.tdY n + 1) 1 1 with
    | false =>
      rw [hb, if_neg (by simp)] at hf
      have HF := Lib.hid (show nx 2 0 n = min (n + 8 - Cal.wd n) 1000000 from hf)
      clear hv hk hf
      go_enter Try.func29, Try.ntmps29
      go_wp2_with (first | (go_at_call 39; refine (civil_ToDate _ _).mono ?_; rintro e w' ⟨rfl, rfl⟩) | (go_at_call 40; refine (civil_Weekday _ _).mono ?_; rintro e w' ⟨rfl, rfl⟩) | (go_at_call 41; refine (civil_FromDate _ _ _ _).mono ?_; rintro e w' ⟨rfl, rfl⟩))
      all_goals
        go_ret
        exact ⟨ret_int (by rw [HF.out]; omega), (Below.refl _ _).alloc (Nat.le_refl _) _⟩
    | true =>
      rw [hb, if_pos rfl] at hf
      have HF := Lib.hid (show nx 2 0 n = min (min (n + 8 - Cal.wd n) 1000000) (Cal.fdN (Cal.tdY n + 1) 1 1) from hf)
      clear hv hk hf
      go_enter Try.func29, Try.ntmps29
      go_wp2_with (first | (go_at_call 39; refine (civil_ToDate _ _).mono ?_; rintro e w' ⟨rfl, rfl⟩) | (go_at_call 40; refine (civil_Weekday _ _).mono ?_; rintro e w' ⟨rfl, rfl⟩) | (go_at_call 41; refine (civil_FromDate _ _ _ _).mono ?_; rintro e w' ⟨rfl, rfl⟩))
      all_goals
        go_ret
        exact ⟨ret_int (by rw [HF.out]; omega), (Below.refl _ _).alloc (Nat.le_refl _) _⟩
  · have hf := Gr.next_months hv hi
    by_cases g : Cal.tdD n < s
    · simp only [if_pos g] at hf
      rw [show 1600 + Gr.mk n / 12 = Cal.tdY n + (Cal.tdM n - 1) / 12 by omega, show Gr.mk n % 12 = (Cal.tdM n - 1) % 12 by omega] at hf
      cases hb : Cal.fdB (Cal.tdY n + (Cal.tdM n - 1) / 12) ((Cal.tdM n - 1) % 12 + 1) s with
      | false =>
        rw [hb, if_neg (by simp)] at hf
        have HF := Lib.hid (show nx 3 s n = 1000000 from hf)
        clear hv hk hf
        go_enter Try.func29, Try.ntmps29
        go_wp2_with (first | (go_at_call 39; refine (civil_ToDate _ _).mono ?_; rintro e w' ⟨rfl, rfl⟩) | (go_at_call 41; refine (civil_FromDate _ _ _ _).mono ?_; rintro e w' ⟨rfl, rfl⟩))
        go_ret
        exact ⟨ret_int (by rw [HF.out]), (Below.refl _ _).alloc (Nat.le_refl _) _⟩
      | true =>
        rw [hb, if_pos rfl] at hf
        have HF := Lib.hid (show nx 3 s n = Cal.fdN (Cal.tdY n + (Cal.tdM n - 1) / 12) ((Cal.tdM n - 1) % 12 + 1) s from hf)
        clear hv hk hf
        go_enter Try.func29, Try.ntmps29
        go_wp2_with (first | (go_at_call 39; refine (civil_ToDate _ _).mono ?_; rintro e w' ⟨rfl, rfl⟩) | (go_at_call 41; refine (civil_FromDate _ _ _ _).mono ?_; rintro e w' ⟨rfl, rfl⟩))
        go_ret
        exact ⟨ret_int (by rw [HF.out]), (Below.refl _ _).alloc (Nat.le_refl _) _⟩
    · simp only [if_neg g] at hf
      rw [show 1600 + (Gr.mk n + 1) / 12 = Cal.tdY n + Cal.tdM n / 12 by omega, show (Gr.mk n + 1) % 12 = Cal.tdM n % 12 by omega] at hf
      cases hb : Cal.fdB (Cal.tdY n + Cal.tdM n / 12) (Cal.tdM n % 12 + 1) s with
      | false =>
        rw [hb, if_neg (by simp)] at hf
        have HF := Lib.hid (show nx 3 s n = 1000000 from hf)
        clear hv hk hf
        go_enter Try.func29, Try.ntmps29
        go_wp2_with (first | (go_at_call 39; refine (civil_ToDate _ _).mono ?_; rintro e w' ⟨rfl, rfl⟩) | (go_at_call 41; refine (civil_FromDate _ _ _ _).mono ?_; rintro e w' ⟨rfl, rfl⟩))
        go_ret
        exact ⟨ret_int (by rw [HF.out]), (Below.refl _ _).alloc (Nat.le_refl _) _⟩
      | true =>
        rw [hb, if_pos rfl] at hf
        have HF := Lib.hid (show nx 3 s n = Cal.fdN (Cal.tdY n + Cal.tdM n / 12) (Cal.tdM n % 12 + 1) s from hf)
        clear hv hk hf
        go_enter Try.func29, Try.ntmps29
        go_wp2_with (first | (go_at_call 39; refine (civil_ToDate _ _).mono ?_; rintro e w' ⟨rfl, rfl⟩) | (go_at_call 41; refine (civil_FromDate _ _ _ _).mono ?_; rintro e w' ⟨rfl, rfl⟩))
        go_ret
        exact ⟨ret_int (by rw [HF.out]), (Below.refl _ _).alloc (Nat.le_refl _) _⟩
  · obtain ⟨x, hx⟩ : ∃ x : Int, x = Cal.tdM n + (s + 2 - Cal.tdM n) % 3 := ⟨_, rfl⟩
    have hxb : Cal.tdM n ≤ x ∧ x ≤ Cal.tdM n + 2 ∧ (x + 1 - s) % 3 = 0 ∧ ∀ z, Cal.tdM n ≤ z → z < x → ¬ (z + 1 - s) % 3 = 0 := by
      refine ⟨by omega, by omega, by omega, fun z z1 z2 => by omega⟩
    obtain ⟨hx1, hx2, hx3, hx4⟩ := hxb
    clear hx
    have hf := Gr.next_quarters (q := 12 * (Cal.tdY n - 1600) + x) hv hi (by omega) (by omega) (by omega)
    rw [show 1600 + (12 * (Cal.tdY n - 1600) + x) / 12 = Cal.tdY n + x / 12 by omega, show (12 * (Cal.tdY n - 1600) + x) % 12 = x % 12 by omega] at hf
    have HF := Lib.hid (show nx 4 s n = _ from hf)
    have HX := Lib.hid hx4
    have H3 := Lib.hid hx3
    clear hv hk hf hx4 hx3
    go_enter Try.func29, Try.ntmps29
    go_wp2_with (first | (go_at_call 39; refine (civil_ToDate _ _).mono ?_; rintro e w' ⟨rfl, rfl⟩) | (go_at_call 41; refine (civil_FromDate _ _ _ _).mono ?_; rintro e w' ⟨rfl, rfl⟩))
    go_loop [6] (fun m => ∃ z : Int, Cal.tdM n ≤ z ∧ z ≤ x ∧ m = .int .i64 z) (fun m => (x - intOf m).toNat)
    case atStart => exact ⟨_, by omega, by omega, rfl⟩
    case round =>
      obtain ⟨z, hz1, hz2, rfl⟩ := hrel
      by_cases hlt : z < x
      · have hne : ((z - s + 12) % 3 != 2) = true := by rw [bne_iff_ne]; have := HX.out z hz1 hlt; omega
        go_wp2
        go_round
        case rel => exact ⟨z + 1, by omega, by omega, rfl⟩
        case measure => simp [intOf]; omega
      · obtain rfl : z = x := by omega
        have hne : ((z - s + 12) % 3 != 2) = false := by rw [bne_eq_false_iff_eq]; have := H3.out; omega
        clear hlt
        cases hb : Cal.fdB (Cal.tdY n + z / 12) (z % 12 + 1) 1 with
        | false =>
          have HB := Lib.hid hb
          go_wp2_with (first | (go_at_call 39; refine (civil_ToDate _ _).mono ?_; rintro e w' ⟨rfl, rfl⟩) | (go_at_call 41; refine (civil_FromDate _ _ _ _).mono ?_; rintro e w' ⟨rfl, rfl⟩))
          go_ret
          exact ⟨ret_int (by rw [HF.out, HB.out]; rfl), (Below.refl _ _).alloc (Nat.le_refl _) _⟩
        | true =>
          have HB := Lib.hid hb
          go_wp2_with (first | (go_at_call 39; refine (civil_ToDate _ _).mono ?_; rintro e w' ⟨rfl, rfl⟩) | (go_at_call 41; refine (civil_FromDate _ _ _ _).mono ?_; rintro e w' ⟨rfl, rfl⟩))
          go_ret
          exact ⟨ret_int (by rw [HF.out, HB.out]; rfl), (Below.refl _ _).alloc (Nat.le_refl _) _⟩
  · obtain ⟨x, hx⟩ : ∃ x : Int, x = Cal.tdM n + (s - 1 - Cal.tdM n) % 12 := ⟨_, rfl⟩
    have hxb : Cal.tdM n ≤ x ∧ x ≤ Cal.tdM n + 11 ∧ (x + 1 - s) % 12 = 0 ∧ ∀ z, Cal.tdM n ≤ z → z < x → ¬ (z + 1 - s) % 12 = 0 := by
      refine ⟨by omega, by omega, by omega, fun z z1 z2 => by omega⟩
    obtain ⟨hx1, hx2, hx3, hx4⟩ := hxb
    clear hx
    have hf := Gr.next_years (q := 12 * (Cal.tdY n - 1600) + x) hv hi (by omega) (by omega) (by omega)
    rw [show 1600 + (12 * (Cal.tdY n - 1600) + x) / 12 = Cal.tdY n + x / 12 by omega, show (12 * (Cal.tdY n - 1600) + x) % 12 = x % 12 by omega] at hf
    have HF := Lib.hid (show nx 5 s n = _ from hf)
    have HX := Lib.hid hx4
    have H3 := Lib.hid hx3
    clear hv hk hf hx4 hx3
    go_enter Try.func29, Try.ntmps29
    go_wp2_with (first | (go_at_call 39; refine (civil_ToDate _ _).mono ?_; rintro e w' ⟨rfl, rfl⟩) | (go_at_call 41; refine (civil_FromDate _ _ _ _).mono ?_; rintro e w' ⟨rfl, rfl⟩))
    go_loop [6] (fun m => ∃ z : Int, Cal.tdM n ≤ z ∧ z ≤ x ∧ m = .int .i64 z) (fun m => (x - intOf m).toNat)
    case atStart => exact ⟨_, by omega, by omega, rfl⟩
    case round =>
      obtain ⟨z, hz1, hz2, rfl⟩ := hrel
      by_cases hlt : z < x
      · have hne : ((z - s + 13) % 12 != 0) = true := by rw [bne_iff_ne]; have := HX.out z hz1 hlt; omega
        go_wp2
        go_round
        case rel => exact ⟨z + 1, by omega, by omega, rfl⟩
        case measure => simp [intOf]; omega
      · obtain rfl : z = x := by omega
        have hne : ((z - s + 13) % 12 != 0) = false := by rw [bne_eq_false_iff_eq]; have := H3.out; omega
        clear hlt
        cases hb : Cal.fdB (Cal.tdY n + z / 12) (z % 12 + 1) 1 with
        | false =>
          have HB := Lib.hid hb
          go_wp2_with (first | (go_at_call 39; refine (civil_ToDate _ _).mono ?_; rintro e w' ⟨rfl, rfl⟩) | (go_at_call 41; refine (civil_FromDate _ _ _ _).mono ?_; rintro e w' ⟨rfl, rfl⟩))
          go_ret
          exact ⟨ret_int (by rw [HF.out, HB.out]; rfl), (Below.refl _ _).alloc (Nat.le_refl _) _⟩
        | true =>
          have HB := Lib.hid hb
          go_wp2_with (first | (go_at_call 39; refine (civil_ToDate _ _).mono ?_; rintro e w' ⟨rfl, rfl⟩) | (go_at_call 41; refine (civil_FromDate _ _ _ _).mono ?_; rintro e w' ⟨rfl, rfl⟩))
          go_ret
          exact ⟨ret_int (by rw [HF.out, HB.out]; rfl), (Below.refl _ _).alloc (Nat.le_refl _) _⟩

end Go.Proofs.Ytgimfajanmmkfaa
