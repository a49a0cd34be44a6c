/-
  The walk of the law on Split.
-/
import Derived.Test.YtgimfajanmmkfaaSplit2
namespace Go.Proofs.Ytgimfajanmmkfaa
open Go.RowKit

theorem ref_Split_all (k s a t : Int) (w : World) : Calls Try.prog 23 #[.agg #[.int .i64 k, .int .i64 s], .agg #[.int .i64 a, .int .i64 t]] w (Splits (spL k s a t) w) := by
  unfold spL
  by_cases h : Gr.vg k s = true ∧ 0 ≤ a ∧ a < t ∧ t ≤ 1000000
  · rw [if_pos h]; exact ref_SplitPeriod k s a t w h.1 h.2.1 h.2.2.1 h.2.2.2
  · rw [if_neg h]; exact ref_SplitPeriod_no k s a t w h

theorem spl_length {k s t : Int} (hv : Gr.vg k s = true) (ht : t ≤ 1000000) : ∀ (f : Nat) (d : Int), 0 ≤ d → (spl k s t f d).length ≤ (t - d).toNat := by
  intro f
  induction f with
  | zero => intro d _; simp [spl]
  | succ f ih =>
    intro d h0
    simp only [spl]
    by_cases c : d < t
    · rw [if_pos c]
      have hb := nx_bd (d := d) hv h0 (by omega)
      have := ih (min (nx k s d) t) (by omega)
      simp only [List.length_cons]; omega
    · rw [if_neg c]; simp

theorem spL_length (k s a t : Int) : (spL k s a t).length ≤ 1000000 := by
  unfold spL
  by_cases h : Gr.vg k s = true ∧ 0 ≤ a ∧ a < t ∧ t ≤ 1000000
  · rw [if_pos h]
    have := spl_length h.1 h.2.2.2 (t - a).toNat a h.2.1
    unfold pieces; omega
  · rw [if_neg h]; simp

set_option maxRecDepth 100000 in
set_option maxHeartbeats 4000000 in
theorem split_walk (k s a t : Int) (ha : -9223372036854775808 ≤ a ∧ a ≤ 9223372036854775807) (ht : -9223372036854775808 ≤ t ∧ t ≤ 9223372036854775807) (w : World) :
    Calls Try.prog 9 #[.agg #[.int .i64 k, .int .i64 s], .agg #[.int .i64 a, .int .i64 t]] w (Holds w) := by
  have hlen := spL_length k s a t
  generalize hL : spL k s a t = L at hlen
  have HL := Lib.hid hL
  clear hL
  obtain ⟨w3, hw3⟩ : ∃ w3 : World, w3 = (w.alloc (.cells #[.int .i64 k, .int .i64 s] 23)).alloc (.cells #[.int .i64 a, .int .i64 t] 30) := ⟨_, rfl⟩
  obtain ⟨c0, c1, c2, c3, sz, bl⟩ : Gp w w3 k s a t := by rw [hw3]; exact gp_at _ _ _ _ _ _ _
  have HW := Lib.hid hw3
  clear hw3
  by_cases h1 : a < t
  · have hu : IntKind.u64.wrap (IntKind.u64.wrap t - IntKind.u64.wrap a) = t - a := by unfold IntKind.wrap; simp [IntKind.bits, IntKind.signed]; omega
    by_cases h2 : 300 < t - a
    · go_enter Try.func9, Try.ntmps9
      go_wp2_with fail
      refine (awake_any _).mono ?_
      rintro e w4 ⟨rfl, hb4⟩
      go_wp2_with fail
      go_ret
      exact ⟨rfl, below_chain (below_alloc (below_alloc (Below.refl _ _) _) _) hb4⟩
    · go_enter Try.func9, Try.ntmps9
      go_wp2_with fail
      rw [← HW.out]
      have hi0_0 : w3.cell? ⟨w.heap.size, 0, none⟩ = some (.int .i64 k) := by go_simp
      have hi0_1 : w3.cell? ⟨w.heap.size, 1, none⟩ = some (.int .i64 s) := by go_simp
      have hi0_2 : w3.cell? ⟨w.heap.size + 1, 0, none⟩ = some (.int .i64 a) := by go_simp
      have hi0_3 : w3.cell? ⟨w.heap.size + 1, 1, none⟩ = some (.int .i64 t) := by go_simp
      have KEEP0 := Lib.hid (show ∀ W1 W2 : World, (W1.cell? ⟨w.heap.size, 0, none⟩ = some (.int .i64 k) ∧ W1.cell? ⟨w.heap.size, 1, none⟩ = some (.int .i64 s) ∧ W1.cell? ⟨w.heap.size + 1, 0, none⟩ = some (.int .i64 a) ∧ W1.cell? ⟨w.heap.size + 1, 1, none⟩ = some (.int .i64 t) ∧ w3.heap.size ≤ W1.heap.size ∧ Below w.heap.size w W1) → Below W1.heap.size W1 W2 → (W2.cell? ⟨w.heap.size, 0, none⟩ = some (.int .i64 k) ∧ W2.cell? ⟨w.heap.size, 1, none⟩ = some (.int .i64 s) ∧ W2.cell? ⟨w.heap.size + 1, 0, none⟩ = some (.int .i64 a) ∧ W2.cell? ⟨w.heap.size + 1, 1, none⟩ = some (.int .i64 t) ∧ w3.heap.size ≤ W2.heap.size ∧ Below w.heap.size w W2) from fun W1 W2 ⟨a0, a1, a2, a3, hs, hB⟩ hb => ⟨(hb.cell (p := ⟨w.heap.size, 0, none⟩) (show w.heap.size < W1.heap.size by omega)).trans a0, (hb.cell (p := ⟨w.heap.size, 1, none⟩) (show w.heap.size < W1.heap.size by omega)).trans a1, (hb.cell (p := ⟨w.heap.size + 1, 0, none⟩) (show w.heap.size + 1 < W1.heap.size by omega)).trans a2, (hb.cell (p := ⟨w.heap.size + 1, 1, none⟩) (show w.heap.size + 1 < W1.heap.size by omega)).trans a3, Nat.le_trans hs hb.size, hB.trans (hb.mono hB.size)⟩)
      have INIT0 := Lib.hid (show (w3.drew.cell? ⟨w.heap.size, 0, none⟩ = some (.int .i64 k) ∧ w3.drew.cell? ⟨w.heap.size, 1, none⟩ = some (.int .i64 s) ∧ w3.drew.cell? ⟨w.heap.size + 1, 0, none⟩ = some (.int .i64 a) ∧ w3.drew.cell? ⟨w.heap.size + 1, 1, none⟩ = some (.int .i64 t) ∧ w3.heap.size ≤ w3.drew.heap.size ∧ Below w.heap.size w w3.drew) from ⟨hi0_0, hi0_1, hi0_2, hi0_3, Nat.le_refl _, bl.drew⟩)
      go_region_held3 (fun w' => (w'.cell? ⟨w.heap.size, 0, none⟩ = some (.int .i64 k) ∧ w'.cell? ⟨w.heap.size, 1, none⟩ = some (.int .i64 s) ∧ w'.cell? ⟨w.heap.size + 1, 0, none⟩ = some (.int .i64 a) ∧ w'.cell? ⟨w.heap.size + 1, 1, none⟩ = some (.int .i64 t) ∧ w3.heap.size ≤ w'.heap.size ∧ Below w.heap.size w w')) (first | assumption | exact INIT0.out | exact KEEP0.out _ _ (by assumption) (by assumption))
        (first | (go_at_call 13; refine (awake_any _).mono ?_; rintro e w4 ⟨rfl, hb4⟩) | (go_at_call 22; refine (gran_Split_all k s a t _).mono ?_; rw [HL.out]; rintro e w5 ⟨v5, rfl, hO5, hb5⟩) | (go_at_call 23; refine (ref_Split_all k s a t _).mono ?_; rw [HL.out]; rintro e w6 ⟨v6, rfl, hO6, hb6⟩) | (go_at_call 21; refine (same_periods L _ _ _ (by first | exact Sl.of_own (by assumption) | exact (Sl.of_own (by assumption)).keep (by assumption)) (by first | exact Sl.of_own (by assumption) | exact (Sl.of_own (by assumption)).keep (by assumption)) hlen).mono ?_; rintro e w7 ⟨rfl, hb7⟩))
      obtain ⟨hr0_0, hr0_1, hr0_2, hr0_3, hsz0, hBr0⟩ := ‹_ ∧ _›
      go_wp2
      go_ret
      exact ⟨ret_bool (by first | rfl | (simp; done) | (simp; omega)), hBr0⟩
  · go_enter Try.func9, Try.ntmps9
    go_wp2_with fail
    rw [← HW.out]
    have hi0_0 : w3.cell? ⟨w.heap.size, 0, none⟩ = some (.int .i64 k) := by go_simp
    have hi0_1 : w3.cell? ⟨w.heap.size, 1, none⟩ = some (.int .i64 s) := by go_simp
    have hi0_2 : w3.cell? ⟨w.heap.size + 1, 0, none⟩ = some (.int .i64 a) := by go_simp
    have hi0_3 : w3.cell? ⟨w.heap.size + 1, 1, none⟩ = some (.int .i64 t) := by go_simp
    have KEEP0 := Lib.hid (show ∀ W1 W2 : World, (W1.cell? ⟨w.heap.size, 0, none⟩ = some (.int .i64 k) ∧ W1.cell? ⟨w.heap.size, 1, none⟩ = some (.int .i64 s) ∧ W1.cell? ⟨w.heap.size + 1, 0, none⟩ = some (.int .i64 a) ∧ W1.cell? ⟨w.heap.size + 1, 1, none⟩ = some (.int .i64 t) ∧ w3.heap.size ≤ W1.heap.size ∧ Below w.heap.size w W1) → Below W1.heap.size W1 W2 → (W2.cell? ⟨w.heap.size, 0, none⟩ = some (.int .i64 k) ∧ W2.cell? ⟨w.heap.size, 1, none⟩ = some (.int .i64 s) ∧ W2.cell? ⟨w.heap.size + 1, 0, none⟩ = some (.int .i64 a) ∧ W2.cell? ⟨w.heap.size + 1, 1, none⟩ = some (.int .i64 t) ∧ w3.heap.size ≤ W2.heap.size ∧ Below w.heap.size w W2) from fun W1 W2 ⟨a0, a1, a2, a3, hs, hB⟩ hb => ⟨(hb.cell (p := ⟨w.heap.size, 0, none⟩) (show w.heap.size < W1.heap.size by omega)).trans a0, (hb.cell (p := ⟨w.heap.size, 1, none⟩) (show w.heap.size < W1.heap.size by omega)).trans a1, (hb.cell (p := ⟨w.heap.size + 1, 0, none⟩) (show w.heap.size + 1 < W1.heap.size by omega)).trans a2, (hb.cell (p := ⟨w.heap.size + 1, 1, none⟩) (show w.heap.size + 1 < W1.heap.size by omega)).trans a3, Nat.le_trans hs hb.size, hB.trans (hb.mono hB.size)⟩)
    have INIT0 := Lib.hid (show (w3.drew.cell? ⟨w.heap.size, 0, none⟩ = some (.int .i64 k) ∧ w3.drew.cell? ⟨w.heap.size, 1, none⟩ = some (.int .i64 s) ∧ w3.drew.cell? ⟨w.heap.size + 1, 0, none⟩ = some (.int .i64 a) ∧ w3.drew.cell? ⟨w.heap.size + 1, 1, none⟩ = some (.int .i64 t) ∧ w3.heap.size ≤ w3.drew.heap.size ∧ Below w.heap.size w w3.drew) from ⟨hi0_0, hi0_1, hi0_2, hi0_3, Nat.le_refl _, bl.drew⟩)
    go_region_held3 (fun w' => (w'.cell? ⟨w.heap.size, 0, none⟩ = some (.int .i64 k) ∧ w'.cell? ⟨w.heap.size, 1, none⟩ = some (.int .i64 s) ∧ w'.cell? ⟨w.heap.size + 1, 0, none⟩ = some (.int .i64 a) ∧ w'.cell? ⟨w.heap.size + 1, 1, none⟩ = some (.int .i64 t) ∧ w3.heap.size ≤ w'.heap.size ∧ Below w.heap.size w w')) (first | assumption | exact INIT0.out | exact KEEP0.out _ _ (by assumption) (by assumption))
      (first | (go_at_call 13; refine (awake_any _).mono ?_; rintro e w4 ⟨rfl, hb4⟩) | (go_at_call 22; refine (gran_Split_all k s a t _).mono ?_; rw [HL.out]; rintro e w5 ⟨v5, rfl, hO5, hb5⟩) | (go_at_call 23; refine (ref_Split_all k s a t _).mono ?_; rw [HL.out]; rintro e w6 ⟨v6, rfl, hO6, hb6⟩) | (go_at_call 21; refine (same_periods L _ _ _ (by first | exact Sl.of_own (by assumption) | exact (Sl.of_own (by assumption)).keep (by assumption)) (by first | exact Sl.of_own (by assumption) | exact (Sl.of_own (by assumption)).keep (by assumption)) hlen).mono ?_; rintro e w7 ⟨rfl, hb7⟩))
    obtain ⟨hr0_0, hr0_1, hr0_2, hr0_3, hsz0, hBr0⟩ := ‹_ ∧ _›
    go_wp2
    go_ret
    exact ⟨ret_bool (by first | rfl | (simp; done) | (simp; omega)), hBr0⟩

end Go.Proofs.Ytgimfajanmmkfaa
