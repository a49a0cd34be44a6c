/-
  The laws of layer 3, walked.
-/
import Derived.Test.YtllbfbgkeajkeaaDateG
import Derived.Deep.RegionHeld3
namespace Go.Proofs.Ytllbfbgkeajkeaa
open Go.RowKit

theorem parse_period (s : ByteArray) (a b c : Int) (w : World) (h : pp s = (a, b, c)) (hz : (s.size : Int) ≤ 9223372036854775807) :
    Calls Try.prog 12 #[.string s] w fun e w' => e = .returned (.tuple #[.agg #[.int .i64 a, .int .i64 b], .int .i64 c]) ∧ Below w.heap.size w w' := by
  have := datefmt_ParsePeriod s w hz
  unfold ppV at this
  rw [h] at this
  exact this

theorem ref_parse_period (s : ByteArray) (a b c : Int) (w : World) (h : pp s = (a, b, c)) (hz : (s.size : Int) ≤ 9223372036854775807) :
    Calls Try.prog 13 #[.string s] w fun e w' => e = .returned (.tuple #[.agg #[.int .i64 a, .int .i64 b], .int .i64 c]) ∧ Below w.heap.size w w' := by
  have := ref_ParsePeriod s w hz
  unfold ppV at this
  rw [h] at this
  exact this

theorem parse_day2 (s : ByteArray) (a b : Int) (w : World) (h : pd s = (a, b)) :
    Calls Try.prog 9 #[.string s] w fun e w' => e = .returned (.tuple #[.int .i64 a, .int .i64 b]) ∧ Below w.heap.size w w' :=
  parse_day s a b w (by rw [h]) (by rw [h])

theorem ref_parse_day2 (s : ByteArray) (a b : Int) (w : World) (h : pd s = (a, b)) :
    Calls Try.prog 10 #[.string s] w fun e w' => e = .returned (.tuple #[.int .i64 a, .int .i64 b]) ∧ Below w.heap.size w w' :=
  ref_parse_day s a b w (by rw [h]) (by rw [h])

theorem format_day (n : Int) (s : ByteArray) (w : World) (h : fdT n = s) : Calls Try.prog 15 #[.int .i64 n] w fun e w' => e = .returned (.string s) ∧ Below w.heap.size w w' := by
  subst h; exact datefmt_FormatDay n w

theorem ref_format_day (n : Int) (s : ByteArray) (w : World) (h : fdT n = s) : Calls Try.prog 16 #[.int .i64 n] w fun e w' => e = .returned (.string s) ∧ Below w.heap.size w w' := by
  subst h; exact ref_FormatDay n w

theorem format_period (f t : Int) (s : ByteArray) (w : World) (h : fpT f t = s) : Calls Try.prog 17 #[.agg #[.int .i64 f, .int .i64 t]] w fun e w' => e = .returned (.string s) ∧ Below w.heap.size w w' := by
  subst h; exact datefmt_FormatPeriod f t w

theorem ref_format_period (f t : Int) (s : ByteArray) (w : World) (h : fpT f t = s) : Calls Try.prog 18 #[.agg #[.int .i64 f, .int .i64 t]] w fun e w' => e = .returned (.string s) ∧ Below w.heap.size w w' := by
  subst h; exact ref_FormatPeriod f t w

set_option maxRecDepth 100000 in
set_option maxHeartbeats 2000000 in
theorem awake_any  (w : World) : Calls Try.prog 11 #[] w (Holds w) := by
  have T := Lib.hid awake_texts
  have hB0 : Below w.heap.size w w := Below.refl _ _
  go_enter Try.func11, Try.ntmps11
  go_wp2_with fail
  refine (parse_period _ 0 1000000 0 _ T.out.2.1 (by decide)).mono ?_
  rintro e w1 ⟨rfl, hb1⟩
  have hB1 : Below w.heap.size w w1 := below_chain (hB0) hb1
  have hz1 := hb1.size
  obtain ⟨hc1, hf1⟩ := bcell hb1
  clear hb1
  go_wp2_with fail
  refine (parse_day2 _ 0 10 _ T.out.2.2.1).mono ?_
  rintro e w2 ⟨rfl, hb2⟩
  have hB2 : Below w.heap.size w w2 := below_chain (below_alloc (hB1) _) hb2
  have hz2 := hb2.size
  simp only [World.size_alloc] at hz2
  have hl2_0 : w1.heap.size < w2.heap.size := by omega
  have hm2_0 : w1.heap.size ≤ w2.heap.size := by omega
  obtain ⟨hc2, hf2⟩ := bcell hb2
  clear hb2
  go_wp2_with fail
  refine (parse_day2 _ 0 5 _ T.out.2.2.2).mono ?_
  rintro e w3 ⟨rfl, hb3⟩
  have hB3 : Below w.heap.size w w3 := below_chain (hB2) hb3
  have hz3 := hb3.size
  have hl3_0 : w1.heap.size < w3.heap.size := by omega
  have hm3_0 : w1.heap.size ≤ w3.heap.size := by omega
  obtain ⟨hc3, hf3⟩ := bcell hb3
  clear hb3
  go_wp2_with fail
  refine (format_day _ _ _ T.out.1).mono ?_
  rintro e w4 ⟨rfl, hb4⟩
  have hB4 : Below w.heap.size w w4 := below_chain (hB3) hb4
  have hz4 := hb4.size
  have hl4_0 : w1.heap.size < w4.heap.size := by omega
  have hm4_0 : w1.heap.size ≤ w4.heap.size := by omega
  obtain ⟨hc4, hf4⟩ := bcell hb4
  clear hb4
  go_wp2_with fail
  go_ret
  exact ⟨ret_bool (by first | rfl | (simp; done) | (simp; omega)), hB4⟩

set_option maxRecDepth 100000 in
set_option maxHeartbeats 2000000 in
theorem format_walk (n f t : Int) (w : World) : Calls Try.prog 6 #[.int .i64 n, .agg #[.int .i64 f, .int .i64 t]] w (Holds w) := by
  obtain ⟨S, hS⟩ : ∃ S, fdT n = S := ⟨_, rfl⟩
  have HS := Lib.hid hS
  obtain ⟨P, hP⟩ : ∃ P, fpT f t = P := ⟨_, rfl⟩
  have HP := Lib.hid hP
  clear hS hP
  have hB0 : Below w.heap.size w w := Below.refl _ _
  go_enter Try.func6, Try.ntmps6
  go_wp2_with fail
  have hB0' : Below w.heap.size w (w.alloc (.cells #[.int .i64 f, .int .i64 t] 30)) := below_alloc (Below.refl _ _) _
  have hn0 : (w.alloc (.cells #[.int .i64 f, .int .i64 t] 30)).cell? ⟨w.heap.size, 0, none⟩ = some (.int .i64 f) := by go_simp
  have hn1 : (w.alloc (.cells #[.int .i64 f, .int .i64 t] 30)).cell? ⟨w.heap.size, 1, none⟩ = some (.int .i64 t) := by go_simp
  have hsz0 : (w.alloc (.cells #[.int .i64 f, .int .i64 t] 30)).heap.size = w.heap.size + 1 := by simp only [World.size_alloc]
  generalize hw0 : (w.alloc (.cells #[.int .i64 f, .int .i64 t] 30)) = w0 at *
  clear hw0
  have hq0 : w.heap.size < w0.heap.size := by omega
  have hr0 : w.heap.size ≤ w0.heap.size := by omega
  clear hsz0
  have hi0_0 : w0.cell? ⟨w.heap.size, 0, none⟩ = some (.int .i64 f) := by go_simp
  have hi0_1 : w0.cell? ⟨w.heap.size, 1, none⟩ = some (.int .i64 t) := by go_simp
  have KEEP0 := Lib.hid (show ∀ W1 W2 : World, (W1.cell? ⟨w.heap.size, 0, none⟩ = some (.int .i64 f) ∧ W1.cell? ⟨w.heap.size, 1, none⟩ = some (.int .i64 t) ∧ w0.heap.size ≤ W1.heap.size ∧ Below w.heap.size w W1) → Below W1.heap.size W1 W2 → (W2.cell? ⟨w.heap.size, 0, none⟩ = some (.int .i64 f) ∧ W2.cell? ⟨w.heap.size, 1, none⟩ = some (.int .i64 t) ∧ w0.heap.size ≤ W2.heap.size ∧ Below w.heap.size w W2) from fun W1 W2 ⟨a0, a1, hs, hB⟩ hb => ⟨(hb.cell (p := ⟨w.heap.size, 0, none⟩) (show w.heap.size < W1.heap.size by omega)).trans a0, (hb.cell (p := ⟨w.heap.size, 1, none⟩) (show w.heap.size < W1.heap.size by omega)).trans a1, Nat.le_trans hs hb.size, hB.trans (hb.mono hB.size)⟩)
  have INIT0 := Lib.hid (show (w0.drew.cell? ⟨w.heap.size, 0, none⟩ = some (.int .i64 f) ∧ w0.drew.cell? ⟨w.heap.size, 1, none⟩ = some (.int .i64 t) ∧ w0.heap.size ≤ w0.drew.heap.size ∧ Below w.heap.size w w0.drew) from ⟨hi0_0, hi0_1, Nat.le_refl _, hB0'.drew⟩)
  go_region_held3 (fun w' => (w'.cell? ⟨w.heap.size, 0, none⟩ = some (.int .i64 f) ∧ w'.cell? ⟨w.heap.size, 1, none⟩ = some (.int .i64 t) ∧ w0.heap.size ≤ w'.heap.size ∧ Below w.heap.size w w')) (first | assumption | exact INIT0.out | exact KEEP0.out _ _ (by assumption) (by assumption))
    (first | (go_at_call 11; refine (awake_any _).mono ?_; rintro e w9 ⟨rfl, hb9⟩) | (go_at_call 15; refine (format_day _ _ _ HS.out).mono ?_; rintro e w9 ⟨rfl, hb9⟩) | (go_at_call 16; refine (ref_format_day _ _ _ HS.out).mono ?_; rintro e w9 ⟨rfl, hb9⟩) | (go_at_call 17; refine (format_period _ _ _ _ HP.out).mono ?_; rintro e w9 ⟨rfl, hb9⟩) | (go_at_call 18; refine (ref_format_period _ _ _ _ HP.out).mono ?_; rintro e w9 ⟨rfl, hb9⟩))
  obtain ⟨hr0_0, hr0_1, hsz0, hBr0⟩ := ‹_ ∧ _›
  go_wp2
  go_ret
  exact ⟨ret_bool (by first | rfl | (simp; done) | (simp; omega)), hBr0⟩

set_option maxRecDepth 100000 in
set_option maxHeartbeats 2000000 in
theorem parseDay_walk (s : ByteArray) (w : World) : Calls Try.prog 3 #[.string s] w (Holds w) := by
  obtain ⟨a, b, hd⟩ : ∃ a b, pd s = (a, b) := ⟨_, _, rfl⟩
  have HD := Lib.hid hd
  clear hd
  have hB0 : Below w.heap.size w w := Below.refl _ _
  go_enter Try.func3, Try.ntmps3
  go_wp2_with fail
  refine (parse_day2 _ _ _ _ HD.out).mono ?_
  rintro e w1 ⟨rfl, hb1⟩
  have hB1 : Below w.heap.size w w1 := below_chain (hB0) hb1
  have hz1 := hb1.size
  obtain ⟨hc1, hf1⟩ := bcell hb1
  clear hb1
  go_wp2_with fail
  refine (ref_parse_day2 _ _ _ _ HD.out).mono ?_
  rintro e w2 ⟨rfl, hb2⟩
  have hB2 : Below w.heap.size w w2 := below_chain (hB1) hb2
  have hz2 := hb2.size
  obtain ⟨hc2, hf2⟩ := bcell hb2
  clear hb2
  go_wp2_with fail
  refine (awake_any _).mono ?_
  rintro e w3 ⟨rfl, hb3⟩
  have hB3 : Below w.heap.size w w3 := below_chain (hB2) hb3
  have hz3 := hb3.size
  obtain ⟨hc3, hf3⟩ := bcell hb3
  clear hb3
  go_wp2_with fail
  go_ret
  exact ⟨ret_bool (by first | rfl | (simp; done) | (simp; omega)), hB3⟩

set_option maxRecDepth 100000 in
set_option maxHeartbeats 2000000 in
theorem parsePeriod_walk (s : ByteArray) (hz : (s.size : Int) ≤ 9223372036854775807) (w : World) : Calls Try.prog 4 #[.string s] w (Holds w) := by
  obtain ⟨a, b, c, hd⟩ : ∃ a b c, pp s = (a, b, c) := ⟨_, _, _, rfl⟩
  have HD := Lib.hid hd
  clear hd
  have hB0 : Below w.heap.size w w := Below.refl _ _
  go_enter Try.func4, Try.ntmps4
  go_wp2_with fail
  refine (parse_period _ _ _ _ _ HD.out hz).mono ?_
  rintro e w1 ⟨rfl, hb1⟩
  have hB1 : Below w.heap.size w w1 := below_chain (hB0) hb1
  have hz1 := hb1.size
  obtain ⟨hc1, hf1⟩ := bcell hb1
  clear hb1
  go_wp2_with fail
  refine (ref_parse_period _ _ _ _ _ HD.out hz).mono ?_
  rintro e w2 ⟨rfl, hb2⟩
  have hB2 : Below w.heap.size w w2 := below_chain (below_alloc (hB1) _) hb2
  have hz2 := hb2.size
  simp only [World.size_alloc] at hz2
  have hl2_0 : w1.heap.size < w2.heap.size := by omega
  have hm2_0 : w1.heap.size ≤ w2.heap.size := by omega
  obtain ⟨hc2, hf2⟩ := bcell hb2
  clear hb2
  go_wp2_with fail
  refine (awake_any _).mono ?_
  rintro e w3 ⟨rfl, hb3⟩
  have hB3 : Below w.heap.size w w3 := below_chain (below_alloc (hB2) _) hb3
  have hz3 := hb3.size
  simp only [World.size_alloc] at hz3
  have hl3_0 : w1.heap.size < w3.heap.size := by omega
  have hm3_0 : w1.heap.size ≤ w3.heap.size := by omega
  have hl3_1 : w2.heap.size < w3.heap.size := by omega
  have hm3_1 : w2.heap.size ≤ w3.heap.size := by omega
  obtain ⟨hc3, hf3⟩ := bcell hb3
  clear hb3
  go_wp2_with fail
  go_ret
  exact ⟨ret_bool (by first | rfl | (simp; done) | (simp; omega)), hB3⟩

set_option maxRecDepth 100000 in
set_option maxHeartbeats 2000000 in
theorem order_walk (a b : Int) (w : World) : Calls Try.prog 5 #[.int .i64 a, .int .i64 b] w (Holds w) := by
  cases ha : Cal.isDay a with
  | false =>
    have hB0 : Below w.heap.size w w := Below.refl _ _
    go_enter Try.func5, Try.ntmps5
    go_wp2_with (go_at_call 14; refine (ref_IsDay _ _).mono ?_; rintro e w' ⟨rfl, rfl⟩)
    refine (awake_any _).mono ?_
    rintro e w1 ⟨rfl, hb1⟩
    have hB1 : Below w.heap.size w w1 := below_chain (hB0) hb1
    have hz1 := hb1.size
    obtain ⟨hc1, hf1⟩ := bcell hb1
    clear hb1
    go_wp2_with fail
    go_ret
    exact ⟨ret_bool (by first | rfl | (simp; done) | (simp; omega)), hB1⟩
  | true =>
    cases hb : Cal.isDay b with
    | false =>
      have hB0 : Below w.heap.size w w := Below.refl _ _
      go_enter Try.func5, Try.ntmps5
      go_wp2_with (go_at_call 14; refine (ref_IsDay _ _).mono ?_; rintro e w' ⟨rfl, rfl⟩)
      refine (awake_any _).mono ?_
      rintro e w1 ⟨rfl, hb1⟩
      have hB1 : Below w.heap.size w w1 := below_chain (hB0) hb1
      have hz1 := hb1.size
      obtain ⟨hc1, hf1⟩ := bcell hb1
      clear hb1
      go_wp2_with fail
      go_ret
      exact ⟨ret_bool (by first | rfl | (simp; done) | (simp; omega)), hB1⟩
    | true =>
      have hl := less_days ha hb
      obtain ⟨S, hS⟩ : ∃ S, fdT a = S := ⟨_, rfl⟩
      obtain ⟨T, hT⟩ : ∃ T, fdT b = T := ⟨_, rfl⟩
      rw [hS, hT] at hl
      have HS := Lib.hid hS
      have HT := Lib.hid hT
      clear hS hT
      have hB0 : Below w.heap.size w w := Below.refl _ _
      go_enter Try.func5, Try.ntmps5
      go_wp2_with (go_at_call 14; refine (ref_IsDay _ _).mono ?_; rintro e w' ⟨rfl, rfl⟩)
      refine (awake_any _).mono ?_
      rintro e w1 ⟨rfl, hb1⟩
      have hB1 : Below w.heap.size w w1 := below_chain (hB0) hb1
      have hz1 := hb1.size
      obtain ⟨hc1, hf1⟩ := bcell hb1
      clear hb1
      go_wp2_with fail
      refine (format_day _ _ _ HS.out).mono ?_
      rintro e w2 ⟨rfl, hb2⟩
      have hB2 : Below w.heap.size w w2 := below_chain (hB1) hb2
      have hz2 := hb2.size
      obtain ⟨hc2, hf2⟩ := bcell hb2
      clear hb2
      go_wp2_with fail
      refine (format_day _ _ _ HT.out).mono ?_
      rintro e w3 ⟨rfl, hb3⟩
      have hB3 : Below w.heap.size w w3 := below_chain (hB2) hb3
      have hz3 := hb3.size
      obtain ⟨hc3, hf3⟩ := bcell hb3
      clear hb3
      go_wp2_with fail
      go_ret
      exact ⟨ret_bool (by first | rfl | (simp; done) | (simp; omega)), hB3⟩

set_option maxRecDepth 100000 in
set_option maxHeartbeats 2000000 in
theorem roundTrip_walk (f t : Int) (w : World) : Calls Try.prog 7 #[.agg #[.int .i64 f, .int .i64 t]] w (Holds w) := by
  by_cases hv : 0 ≤ f ∧ f < t ∧ t ≤ 1000000
  case neg =>
    have hV : ValidDays f t = false := by
      unfold ValidDays
      rw [Bool.eq_false_iff]
      intro h
      simp only [Bool.and_eq_true, decide_eq_true_eq] at h
      exact hv ⟨h.1, h.2.1, h.2.2⟩
    have HP := Lib.hid (fpT_no hv)
    clear hv
    have hB0 : Below w.heap.size w w := Below.refl _ _
    go_enter Try.func7, Try.ntmps7
    go_wp2_with fail
    refine (ref_ValidDays _ _ _).mono ?_
    rintro e w1 ⟨rfl, hb1⟩
    have hB1 : Below w.heap.size w w1 := below_chain (below_alloc (hB0) _) hb1
    have hz1 := hb1.size
    simp only [World.size_alloc] at hz1
    have hl1_0 : w.heap.size < w1.heap.size := by omega
    have hm1_0 : w.heap.size ≤ w1.heap.size := by omega
    obtain ⟨hc1, hf1⟩ := bcell hb1
    clear hb1
    go_wp2_with fail
    refine (awake_any _).mono ?_
    rintro e w2 ⟨rfl, hb2⟩
    have hB2 : Below w.heap.size w w2 := below_chain (hB1) hb2
    have hz2 := hb2.size
    have hl2_0 : w.heap.size < w2.heap.size := by omega
    have hm2_0 : w.heap.size ≤ w2.heap.size := by omega
    obtain ⟨hc2, hf2⟩ := bcell hb2
    clear hb2
    go_wp2_with fail
    refine (format_period _ _ _ _ HP.out).mono ?_
    rintro e w3 ⟨rfl, hb3⟩
    have hB3 : Below w.heap.size w w3 := below_chain (hB2) hb3
    have hz3 := hb3.size
    have hl3_0 : w.heap.size < w3.heap.size := by omega
    have hm3_0 : w.heap.size ≤ w3.heap.size := by omega
    obtain ⟨hc3, hf3⟩ := bcell hb3
    clear hb3
    go_wp2_with fail
    go_ret
    exact ⟨ret_bool (by first | rfl | (simp; done) | (simp; omega)), hB3⟩
  have hV : ValidDays f t = true := by unfold ValidDays; simp [hv]
  have HPP := Lib.hid (pp_fpT hv)
  have HDF := Lib.hid (pd_fdT (n := f) (by omega))
  have HDT := Lib.hid (pd_fdT (n := t) (by omega))
  have hz : ((fpT f t).size : Int) ≤ 9223372036854775807 := by
    have h1 := fdT_size f
    have h2 := fdT_size t
    have h3 := wrapT_size (fdT f) (fdT t)
    rw [fpT_yes hv]
    change ((wrapT (fdT f) (fdT t)).size : Int) ≤ _
    omega
  clear hv
  have hB0 : Below w.heap.size w w := Below.refl _ _
  go_enter Try.func7, Try.ntmps7
  go_wp2_with fail
  refine (ref_ValidDays _ _ _).mono ?_
  rintro e w1 ⟨rfl, hb1⟩
  have hB1 : Below w.heap.size w w1 := below_chain (below_alloc (hB0) _) hb1
  have hz1 := hb1.size
  simp only [World.size_alloc] at hz1
  have hl1_0 : w.heap.size < w1.heap.size := by omega
  have hm1_0 : w.heap.size ≤ w1.heap.size := by omega
  obtain ⟨hc1, hf1⟩ := bcell hb1
  clear hb1
  go_wp2_with fail
  refine (datefmt_FormatPeriod _ _ _).mono ?_
  rintro e w2 ⟨rfl, hb2⟩
  have hB2 : Below w.heap.size w w2 := below_chain (hB1) hb2
  have hz2 := hb2.size
  have hl2_0 : w.heap.size < w2.heap.size := by omega
  have hm2_0 : w.heap.size ≤ w2.heap.size := by omega
  obtain ⟨hc2, hf2⟩ := bcell hb2
  clear hb2
  go_wp2_with fail
  refine (parse_period _ _ _ _ _ HPP.out hz).mono ?_
  rintro e w3 ⟨rfl, hb3⟩
  have hB3 : Below w.heap.size w w3 := below_chain (hB2) hb3
  have hz3 := hb3.size
  have hl3_0 : w.heap.size < w3.heap.size := by omega
  have hm3_0 : w.heap.size ≤ w3.heap.size := by omega
  obtain ⟨hc3, hf3⟩ := bcell hb3
  clear hb3
  go_wp2_with fail
  refine (datefmt_FormatDay _ _).mono ?_
  rintro e w4 ⟨rfl, hb4⟩
  have hB4 : Below w.heap.size w w4 := below_chain (below_alloc (hB3) _) hb4
  have hz4 := hb4.size
  simp only [World.size_alloc] at hz4
  have hl4_0 : w.heap.size < w4.heap.size := by omega
  have hm4_0 : w.heap.size ≤ w4.heap.size := by omega
  have hl4_1 : w3.heap.size < w4.heap.size := by omega
  have hm4_1 : w3.heap.size ≤ w4.heap.size := by omega
  obtain ⟨hc4, hf4⟩ := bcell hb4
  clear hb4
  go_wp2_with fail
  refine (parse_day2 _ _ _ _ HDF.out).mono ?_
  rintro e w5 ⟨rfl, hb5⟩
  have hB5 : Below w.heap.size w w5 := below_chain (hB4) hb5
  have hz5 := hb5.size
  have hl5_0 : w.heap.size < w5.heap.size := by omega
  have hm5_0 : w.heap.size ≤ w5.heap.size := by omega
  have hl5_1 : w3.heap.size < w5.heap.size := by omega
  have hm5_1 : w3.heap.size ≤ w5.heap.size := by omega
  obtain ⟨hc5, hf5⟩ := bcell hb5
  clear hb5
  go_wp2_with fail
  refine (datefmt_FormatDay _ _).mono ?_
  rintro e w6 ⟨rfl, hb6⟩
  have hB6 : Below w.heap.size w w6 := below_chain (hB5) hb6
  have hz6 := hb6.size
  have hl6_0 : w.heap.size < w6.heap.size := by omega
  have hm6_0 : w.heap.size ≤ w6.heap.size := by omega
  have hl6_1 : w3.heap.size < w6.heap.size := by omega
  have hm6_1 : w3.heap.size ≤ w6.heap.size := by omega
  obtain ⟨hc6, hf6⟩ := bcell hb6
  clear hb6
  go_wp2_with fail
  refine (parse_day2 _ _ _ _ HDT.out).mono ?_
  rintro e w7 ⟨rfl, hb7⟩
  have hB7 : Below w.heap.size w w7 := below_chain (hB6) hb7
  have hz7 := hb7.size
  have hl7_0 : w.heap.size < w7.heap.size := by omega
  have hm7_0 : w.heap.size ≤ w7.heap.size := by omega
  have hl7_1 : w3.heap.size < w7.heap.size := by omega
  have hm7_1 : w3.heap.size ≤ w7.heap.size := by omega
  obtain ⟨hc7, hf7⟩ := bcell hb7
  clear hb7
  go_wp2_with fail
  refine (awake_any _).mono ?_
  rintro e w8 ⟨rfl, hb8⟩
  have hB8 : Below w.heap.size w w8 := below_chain (hB7) hb8
  have hz8 := hb8.size
  have hl8_0 : w.heap.size < w8.heap.size := by omega
  have hm8_0 : w.heap.size ≤ w8.heap.size := by omega
  have hl8_1 : w3.heap.size < w8.heap.size := by omega
  have hm8_1 : w3.heap.size ≤ w8.heap.size := by omega
  obtain ⟨hc8, hf8⟩ := bcell hb8
  clear hb8
  go_wp2_with fail
  go_wp2
  go_ret
  exact ⟨ret_bool (by first | rfl | (simp; done) | (simp; omega)), hB8⟩

set_option maxRecDepth 100000 in
set_option maxHeartbeats 2000000 in
theorem unique_walk (s : ByteArray) (hz : (s.size : Int) ≤ 9223372036854775807) (w : World) : Calls Try.prog 8 #[.string s] w (Holds w) := by
  obtain ⟨a, b, hd⟩ : ∃ a b, pd s = (a, b) := ⟨_, _, rfl⟩
  obtain ⟨x, y, c, hp⟩ : ∃ x y c, pp s = (x, y, c) := ⟨_, _, _, rfl⟩
  have HD := Lib.hid hd
  have HP := Lib.hid hp
  by_cases c1 : b = 0
  · subst c1
    have HF := Lib.hid (show fdT a = s by have := (fdT_pd (s := s) (by rw [hd])).1; rwa [hd] at this)
    have hc : ¬ c = 0 := by have := not_both (s := s) (by rw [hd]); rwa [hp] at this
    clear hd hp
    have hB0 : Below w.heap.size w w := Below.refl _ _
    go_enter Try.func8, Try.ntmps8
    go_wp2_with fail
    refine (parse_day2 _ _ _ _ HD.out).mono ?_
    rintro e w1 ⟨rfl, hb1⟩
    have hB1 : Below w.heap.size w w1 := below_chain (hB0) hb1
    have hz1 := hb1.size
    obtain ⟨hc1, hf1⟩ := bcell hb1
    clear hb1
    go_wp2_with fail
    refine (parse_period _ _ _ _ _ HP.out hz).mono ?_
    rintro e w2 ⟨rfl, hb2⟩
    have hB2 : Below w.heap.size w w2 := below_chain (hB1) hb2
    have hz2 := hb2.size
    obtain ⟨hc2, hf2⟩ := bcell hb2
    clear hb2
    go_wp2_with fail
    refine (awake_any _).mono ?_
    rintro e w3 ⟨rfl, hb3⟩
    have hB3 : Below w.heap.size w w3 := below_chain (below_alloc (hB2) _) hb3
    have hz3 := hb3.size
    simp only [World.size_alloc] at hz3
    have hl3_0 : w2.heap.size < w3.heap.size := by omega
    have hm3_0 : w2.heap.size ≤ w3.heap.size := by omega
    obtain ⟨hc3, hf3⟩ := bcell hb3
    clear hb3
    go_wp2_with fail
    refine (format_day _ _ _ HF.out).mono ?_
    rintro e w4 ⟨rfl, hb4⟩
    have hB4 : Below w.heap.size w w4 := below_chain (hB3) hb4
    have hz4 := hb4.size
    have hl4_0 : w2.heap.size < w4.heap.size := by omega
    have hm4_0 : w2.heap.size ≤ w4.heap.size := by omega
    obtain ⟨hc4, hf4⟩ := bcell hb4
    clear hb4
    go_wp2_with fail
    go_ret
    exact ⟨ret_bool (by first | rfl | (simp; done) | (simp; omega)), hB4⟩
  · by_cases c2 : c = 0
    · subst c2
      have HF := Lib.hid (show fpT x y = s by have := (fpT_pp (s := s) (by rw [hp])).1; rwa [hp] at this)
      clear hd hp
      have hB0 : Below w.heap.size w w := Below.refl _ _
      go_enter Try.func8, Try.ntmps8
      go_wp2_with fail
      refine (parse_day2 _ _ _ _ HD.out).mono ?_
      rintro e w1 ⟨rfl, hb1⟩
      have hB1 : Below w.heap.size w w1 := below_chain (hB0) hb1
      have hz1 := hb1.size
      obtain ⟨hc1, hf1⟩ := bcell hb1
      clear hb1
      go_wp2_with fail
      refine (parse_period _ _ _ _ _ HP.out hz).mono ?_
      rintro e w2 ⟨rfl, hb2⟩
      have hB2 : Below w.heap.size w w2 := below_chain (hB1) hb2
      have hz2 := hb2.size
      obtain ⟨hc2, hf2⟩ := bcell hb2
      clear hb2
      go_wp2_with fail
      refine (awake_any _).mono ?_
      rintro e w3 ⟨rfl, hb3⟩
      have hB3 : Below w.heap.size w w3 := below_chain (below_alloc (hB2) _) hb3
      have hz3 := hb3.size
      simp only [World.size_alloc] at hz3
      have hl3_0 : w2.heap.size < w3.heap.size := by omega
      have hm3_0 : w2.heap.size ≤ w3.heap.size := by omega
      obtain ⟨hc3, hf3⟩ := bcell hb3
      clear hb3
      go_wp2_with fail
      refine (format_period _ _ _ _ HF.out).mono ?_
      rintro e w4 ⟨rfl, hb4⟩
      have hB4 : Below w.heap.size w w4 := below_chain (hB3) hb4
      have hz4 := hb4.size
      have hl4_0 : w2.heap.size < w4.heap.size := by omega
      have hm4_0 : w2.heap.size ≤ w4.heap.size := by omega
      obtain ⟨hc4, hf4⟩ := bcell hb4
      clear hb4
      go_wp2_with fail
      go_ret
      exact ⟨ret_bool (by first | rfl | (simp; done) | (simp; omega)), hB4⟩
    · clear hd hp
      have hB0 : Below w.heap.size w w := Below.refl _ _
      go_enter Try.func8, Try.ntmps8
      go_wp2_with fail
      refine (parse_day2 _ _ _ _ HD.out).mono ?_
      rintro e w1 ⟨rfl, hb1⟩
      have hB1 : Below w.heap.size w w1 := below_chain (hB0) hb1
      have hz1 := hb1.size
      obtain ⟨hc1, hf1⟩ := bcell hb1
      clear hb1
      go_wp2_with fail
      refine (parse_period _ _ _ _ _ HP.out hz).mono ?_
      rintro e w2 ⟨rfl, hb2⟩
      have hB2 : Below w.heap.size w w2 := below_chain (hB1) hb2
      have hz2 := hb2.size
      obtain ⟨hc2, hf2⟩ := bcell hb2
      clear hb2
      go_wp2_with fail
      refine (awake_any _).mono ?_
      rintro e w3 ⟨rfl, hb3⟩
      have hB3 : Below w.heap.size w w3 := below_chain (below_alloc (hB2) _) hb3
      have hz3 := hb3.size
      simp only [World.size_alloc] at hz3
      have hl3_0 : w2.heap.size < w3.heap.size := by omega
      have hm3_0 : w2.heap.size ≤ w3.heap.size := by omega
      obtain ⟨hc3, hf3⟩ := bcell hb3
      clear hb3
      go_wp2_with fail
      go_ret
      exact ⟨ret_bool (by first | rfl | (simp; done) | (simp; omega)), hB3⟩

end Go.Proofs.Ytllbfbgkeajkeaa
