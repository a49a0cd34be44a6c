/-
  What the reference's functions on granules return: the same numbers.
-/
import Derived.Test.YtgimfajanmmkfaaGranB
namespace Go.Proofs.Ytgimfajanmmkfaa
open Go.RowKit

theorem bcell {W w1 : World} (hb : Below W.heap.size W w1) : (∀ b o, b < W.heap.size → w1.cell? ⟨b, o, none⟩ = W.cell? ⟨b, o, none⟩) ∧ (∀ b o, b < W.heap.size → w1.frozen? ⟨b, o, none⟩ = W.frozen? ⟨b, o, none⟩) :=
  ⟨fun b o h => hb.cell (p := ⟨b, o, none⟩) h, fun b o h => hb.frozen (p := ⟨b, o, none⟩) h⟩

theorem below_new {w w1 : World} {o : Obj} (hb : Below (w.alloc o).heap.size (w.alloc o) w1) : Below w.heap.size w w1 :=
  ((Below.refl _ w).alloc (Nat.le_refl _) o).trans (hb.mono (by simp))

set_option maxHeartbeats 2000000 in
theorem ref_ValidGranularity (k s : Int) (w : World) : Calls Try.prog 15 #[.agg #[.int .i64 k, .int .i64 s]] w fun e w' => e = .returned (.bool (Gr.vg k s)) ∧ Below w.heap.size w w' := by
  by_cases h1 : k = 1
  · subst h1
    rw [(vg_12 s).1]
    go_enter Try.func15, Try.ntmps15
    go_wp2
    go_ret
    exact ⟨rfl, (Below.refl _ _).alloc (Nat.le_refl _) _⟩
  by_cases h2 : k = 2
  · subst h2
    rw [(vg_12 s).2]
    go_enter Try.func15, Try.ntmps15
    go_wp2
    go_ret
    exact ⟨rfl, (Below.refl _ _).alloc (Nat.le_refl _) _⟩
  by_cases h3 : k = 3
  · subst h3
    rw [vg_3 s]
    go_enter Try.func15, Try.ntmps15
    go_wp2
    all_goals
      go_ret
      exact ⟨ret_bool (by first | rfl | (simp; omega)), (Below.refl _ _).alloc (Nat.le_refl _) _⟩
  by_cases h4 : k = 4
  · subst h4
    rw [(vg_45 s).1]
    go_enter Try.func15, Try.ntmps15
    go_wp2
    all_goals
      go_ret
      exact ⟨ret_bool (by first | rfl | (simp; omega)), (Below.refl _ _).alloc (Nat.le_refl _) _⟩
  by_cases h5 : k = 5
  · subst h5
    rw [(vg_45 s).2]
    go_enter Try.func15, Try.ntmps15
    go_wp2
    all_goals
      go_ret
      exact ⟨ret_bool (by first | rfl | (simp; omega)), (Below.refl _ _).alloc (Nat.le_refl _) _⟩
  rw [vg_other h1 h2 h3 h4 h5]
  have k1 : (k == 1) = false := beq_eq_false_iff_ne.2 h1
  have k2 : (k == 2) = false := beq_eq_false_iff_ne.2 h2
  have k3 : (k == 3) = false := beq_eq_false_iff_ne.2 h3
  have k4 : (k == 4) = false := beq_eq_false_iff_ne.2 h4
  have k5 : (k == 5) = false := beq_eq_false_iff_ne.2 h5
  clear h1 h2 h3 h4 h5
  go_enter Try.func15, Try.ntmps15
  go_wp2
  go_ret
  exact ⟨rfl, (Below.refl _ _).alloc (Nat.le_refl _) _⟩


set_option maxHeartbeats 1000000 in
theorem ref_every (n r k : Int) (w : World) (hn : 0 ≤ n) (hn' : n ≤ 100000) (hr : 0 ≤ r) (hk : k = 3 ∨ k = 12) (hrk : r ≤ 12) :
    Calls Try.prog 38 #[.int .i64 n, .int .i64 r, .int .i64 k] w fun e w' => e = .returned (.int .i64 (Gr.al n r k + 1)) ∧ w = w' := by
  by_cases h0 : r = 0
  · have HF := Lib.hid (show Gr.al n r k + 1 = (n - r) / k + 1 by unfold Gr.al; rw [if_pos h0, h0, Int.sub_zero])
    subst h0
    rcases hk with rfl | rfl
    all_goals
      go_enter Try.func38, Try.ntmps38
      go_wp2
      go_ret
      exact ⟨ret_int (by rw [HF.out]; omega), rfl⟩
  by_cases h1 : n < r
  · have HF := Lib.hid (show Gr.al n r k + 1 = 0 + 1 by unfold Gr.al; rw [if_neg h0, if_pos h1])
    clear hk
    go_enter Try.func38, Try.ntmps38
    go_wp2
    go_ret
    exact ⟨ret_int (by rw [HF.out]; omega), rfl⟩
  · have HF := Lib.hid (show Gr.al n r k + 1 = (n - r) / k + 1 + 1 by unfold Gr.al; rw [if_neg h0, if_neg h1])
    rcases hk with rfl | rfl
    all_goals
      go_enter Try.func38, Try.ntmps38
      go_wp2
      go_ret
      exact ⟨ret_int (by rw [HF.out]), rfl⟩

set_option maxRecDepth 100000 in
set_option maxHeartbeats 2000000 in
theorem ref_startsUpTo (k s n : Int) (w : World) (hv : Gr.vg k s = true) (h0 : 0 ≤ n) (h1 : n < 1000000) :
    Calls Try.prog 26 #[.agg #[.int .i64 k, .int .i64 s], .int .i64 n] w fun e w' => e = .returned (.int .i64 (Gr.idx k s n + 1)) ∧ Below w.heap.size w w' := by
  have hi : Cal.isDay n = true := (Cal.isDay_iff n).2 ⟨h0, h1⟩
  obtain ⟨i1, i2, i4, i5, i3⟩ := Gr.idx_k s n
  have c1 := (Gr.mk_nonneg hi).1
  have c2 := (Gr.mk_nonneg hi).2.1
  obtain ⟨b1, b2, b3, b4, b5, b6⟩ := Cal.td_bounds hi
  have hk : Gr.mk n = 12 * (Cal.tdY n - 1600) + Cal.tdM n - 1 := rfl
  rcases (Gr.vg_iff k s).1 hv with ⟨rfl | rfl, rfl⟩ | ⟨rfl, a, b⟩ | ⟨rfl | rfl, a, b⟩
  · have HF := Lib.hid i1
    clear hv i1 i2 i3 i4 i5 hk
    go_enter Try.func26, Try.ntmps26
    go_wp2_with (first | (go_at_call 35; refine (ref_ToDate _ _).mono ?_; rintro e w1 ⟨rfl, hb⟩; obtain ⟨hc, hf⟩ := bcell hb))
    go_ret
    exact ⟨ret_int (by have := HF.out; omega), below_new hb⟩
  · obtain ⟨j, hj⟩ : ∃ j : Nat, Cal.tdY n = 1600 + j := ⟨(Cal.tdY n - 1600).toNat, by omega⟩
    have HF := Lib.hid (show Gr.idx 2 0 n + 1 = (n + 5) / 7 + (1 + Gr.yc j) by rw [i2]; unfold Gr.wk; rw [hj, show (1600 + (j : Int) - 1600).toNat = j by omega]; split <;> omega)
    have HJ := Lib.hid hj
    have hyc : ∀ i : Nat, 0 ≤ Gr.yc i ∧ Gr.yc i ≤ i := by
      intro i
      induction i with
      | zero => exact ⟨by simp [Gr.yc], by simp [Gr.yc]⟩
      | succ i ih => simp only [Gr.yc]; split <;> omega
    have HYC := Lib.hid hyc
    clear hv i1 i2 i3 i4 i5 hk hj hyc
    go_enter Try.func26, Try.ntmps26
    go_wp2_with (first | (go_at_call 35; refine (ref_ToDate _ _).mono ?_; rintro e w1 ⟨rfl, hb⟩; obtain ⟨hc, hf⟩ := bcell hb))
    go_loop [10, 11] (fun c y => ∃ i a : Int, 1600 ≤ i ∧ i ≤ Cal.tdY n + 1 ∧ y = .int .i64 i ∧ c = .int .i64 ((n + 5) / 7 + a) ∧ Hid (a = if i = 1600 then 0 else 1 + Gr.yc (i - 1601).toNat)) (fun _ y => (Cal.tdY n + 1 - intOf y).toNat)
    case atStart => exact ⟨1600, 0, by omega, by omega, rfl, by simp, Lib.hid (by simp)⟩
    case round =>
      obtain ⟨i, a, hi1, hi2, rfl, rfl, HA⟩ := hrel
      have hab : 0 ≤ a ∧ a ≤ 2801 := by
        have := HYC.out (i - 1601).toNat
        rw [HA.out]; split <;> omega
      obtain ⟨ha0, ha1⟩ := hab
      by_cases hlt : i ≤ Cal.tdY n
      · have hs : (if i + 1 = 1600 then 0 else 1 + Gr.yc (i + 1 - 1601).toNat) = a + if Cal.wd (Cal.ys i) = 1 then 0 else 1 := by
          rw [if_neg (by omega), HA.out]
          by_cases c : i = 1600
          · subst c; rw [if_pos rfl, if_neg (by decide)]; simp [Gr.yc]
          · rw [if_neg c, show (i + 1 - 1601).toNat = (i - 1601).toNat + 1 by omega]
            simp only [Gr.yc]
            rw [show (1600 : Int) + (i - 1601).toNat + 1 = i by omega]; omega
        have HS := Lib.hid hs
        clear hs
        by_cases hw : Cal.wd (Cal.ys i) = 1
        · have hw' : (Cal.wd (Cal.ys i) != 1) = false := by simp [hw]
          have HW := Lib.hid hw
          clear hw
          go_wp2_with (first | (go_at_call 37; refine (ref_newYear _ _ (by omega) (by omega)).mono ?_; rintro e w' ⟨rfl, rfl⟩) | (go_at_call 36; refine (ref_Weekday _ _).mono ?_; rintro e w' ⟨rfl, rfl⟩))
          go_round
          case rel => exact ⟨i + 1, a, by omega, by omega, rfl, rfl, Lib.hid (by rw [HS.out, if_pos HW.out]; omega)⟩
          case measure => simp [intOf]; omega
        · have hw' : (Cal.wd (Cal.ys i) != 1) = true := by simp [hw]
          have HW := Lib.hid hw
          clear hw
          go_wp2_with (first | (go_at_call 37; refine (ref_newYear _ _ (by omega) (by omega)).mono ?_; rintro e w' ⟨rfl, rfl⟩) | (go_at_call 36; refine (ref_Weekday _ _).mono ?_; rintro e w' ⟨rfl, rfl⟩))
          go_round
          case rel => exact ⟨i + 1, a + 1, by omega, by omega, rfl, by go_num, Lib.hid (by rw [HS.out, if_neg HW.out])⟩
          case measure => simp [intOf]; omega
      · have hz : a = 1 + Gr.yc j := by rw [HA.out, if_neg (by omega)]; congr 2; have := HJ.out; omega
        have HZ := Lib.hid hz
        clear hz
        go_wp2
        go_ret
        exact ⟨ret_int (by rw [HF.out, HZ.out]), below_new hb⟩
  · by_cases g1 : s ≤ Cal.tdD n
    · by_cases g2 : s = 1
      · have HF := Lib.hid (show Gr.idx 3 s n + 1 = 12 * (Cal.tdY n - 1600) + Cal.tdM n - 1 + 1 by rw [i3, if_pos g1, if_pos g2]; omega)
        clear hv i1 i2 i3 i4 i5 hk
        subst g2
        go_enter Try.func26, Try.ntmps26
        go_wp2_with (first | (go_at_call 35; refine (ref_ToDate _ _).mono ?_; rintro e w1 ⟨rfl, hb⟩; obtain ⟨hc, hf⟩ := bcell hb))
        go_ret
        exact ⟨ret_int (by have := HF.out; omega), below_new hb⟩
      · have HF := Lib.hid (show Gr.idx 3 s n + 1 = 12 * (Cal.tdY n - 1600) + Cal.tdM n - 1 + 1 + 1 by rw [i3, if_pos g1, if_neg g2]; omega)
        clear hv i1 i2 i3 i4 i5 hk
        go_enter Try.func26, Try.ntmps26
        go_wp2_with (first | (go_at_call 35; refine (ref_ToDate _ _).mono ?_; rintro e w1 ⟨rfl, hb⟩; obtain ⟨hc, hf⟩ := bcell hb))
        go_ret
        exact ⟨ret_int (by have := HF.out; omega), below_new hb⟩
    · have HF := Lib.hid (show Gr.idx 3 s n + 1 = 12 * (Cal.tdY n - 1600) + Cal.tdM n - 1 + 1 by rw [i3, if_neg g1, if_neg (by omega)]; omega)
      clear hv i1 i2 i3 i4 i5 hk
      go_enter Try.func26, Try.ntmps26
      go_wp2_with (first | (go_at_call 35; refine (ref_ToDate _ _).mono ?_; rintro e w1 ⟨rfl, hb⟩; obtain ⟨hc, hf⟩ := bcell hb))
      go_ret
      exact ⟨ret_int (by have := HF.out; omega), below_new hb⟩
  · rw [hk] at i4
    have HF := Lib.hid i4
    clear hv i1 i2 i3 i4 i5 hk
    go_enter Try.func26, Try.ntmps26
    go_wp2_with (first | (go_at_call 35; refine (ref_ToDate _ _).mono ?_; rintro e w1 ⟨rfl, hb⟩; obtain ⟨hc, hf⟩ := bcell hb) | (go_at_call 38; refine (ref_every _ _ _ _ (by omega) (by omega) (by omega) (by omega) (by omega)).mono ?_; rintro e w' ⟨rfl, rfl⟩))
    go_ret
    exact ⟨ret_int (by have := HF.out; omega), below_new hb⟩
  · rw [hk] at i5
    have HF := Lib.hid i5
    clear hv i1 i2 i3 i4 i5 hk
    go_enter Try.func26, Try.ntmps26
    go_wp2_with (first | (go_at_call 35; refine (ref_ToDate _ _).mono ?_; rintro e w1 ⟨rfl, hb⟩; obtain ⟨hc, hf⟩ := bcell hb) | (go_at_call 38; refine (ref_every _ _ _ _ (by omega) (by omega) (by omega) (by omega) (by omega)).mono ?_; rintro e w' ⟨rfl, rfl⟩))
    go_ret
    exact ⟨ret_int (by have := HF.out; omega), below_new hb⟩

end Go.Proofs.Ytgimfajanmmkfaa
