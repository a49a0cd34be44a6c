/-
  The walk of the law on the lengths of granules.
-/
import Derived.Test.YtgimfajanmmkfaaGranG
namespace Go.Proofs.Ytgimfajanmmkfaa
open Go.RowKit

theorem len_cases (k s i : Int) :
    spB k s i = false ∨ (spB k s i = true ∧ (spF k s i == 0) = true) ∨ (spB k s i = true ∧ (spF k s i == 0) = false ∧ (spT k s i == 1000000) = true) ∨
    (spB k s i = true ∧ (spF k s i == 0) = false ∧ (spT k s i == 1000000) = false ∧ Gr.low k ≤ spT k s i - spF k s i ∧ spT k s i - spF k s i ≤ Gr.high k ∧ 0 ≤ spF k s i ∧ spF k s i ≤ 1000000 ∧ 0 ≤ spT k s i ∧ spT k s i ≤ 1000000) := by
  cases h : spB k s i with
  | false => exact .inl rfl
  | true =>
    obtain ⟨hv, i0, i1⟩ := (spB_iff k s i).1 h
    obtain ⟨b1, b2, b3, b4⟩ := sp_bounds h
    obtain ⟨e1, e2⟩ := sp_yes h
    by_cases c1 : spF k s i = 0
    · exact .inr (.inl ⟨rfl, beq_iff_eq.2 c1⟩)
    by_cases c2 : spT k s i = 1000000
    · exact .inr (.inr (.inl ⟨rfl, beq_eq_false_iff_ne.2 c1, beq_iff_eq.2 c2⟩))
    · have hl := Gr.lengths (k := k) (s := s) (i := i) hv (by rw [← e1]; omega) (by rw [← e2]; omega) i0 (by rw [← e1]; omega)
      rw [← e1, ← e2] at hl
      exact .inr (.inr (.inr ⟨rfl, beq_eq_false_iff_ne.2 c1, beq_eq_false_iff_ne.2 c2, hl.1, hl.2, by omega, by omega, by omega, by omega⟩))

set_option maxRecDepth 100000 in
set_option maxHeartbeats 8000000 in
theorem lengths_walk (a b i : Int) (ha : 0 ≤ a ∧ a ≤ 255) (hb : 0 ≤ b ∧ b ≤ 255) (hi : 0 ≤ i ∧ i ≤ 65535) (w : World) : Calls Try.prog 7 #[.int .u8 a, .int .u8 b, .int .u16 i] w (Holds w) := by
  obtain ⟨a0, a1⟩ := ha
  obtain ⟨b0, b1⟩ := hb
  obtain ⟨i0, i1⟩ := hi
  have hc : a % 5 = 0 ∨ a % 5 = 1 ∨ a % 5 = 2 ∨ a % 5 = 3 ∨ a % 5 = 4 := by omega
  rcases hc with hq | hq | hq | hq | hq
  · rcases len_cases 1 0 i with h1 | ⟨h1, h2⟩ | ⟨h1, h2, h3⟩ | ⟨h1, h2, h3, h4, h5, h6, h7, h8, h9⟩
    · have hB0 : Below w.heap.size w w := Below.refl _ _
      go_enter Try.func7, Try.ntmps7
      go_wp2_with fail
      refine (gran_Span 1 0 i _).mono ?_
      rintro e w1 ⟨rfl, hb1⟩
      have hB1 : Below w.heap.size w w1 := below_chain (below_alloc (hB0) _) hb1
      have hz1 := hb1.size
      simp only [World.size_alloc] at hz1
      have hl1_0 : w.heap.size < w1.heap.size := by omega
      have hm1_0 : w.heap.size ≤ w1.heap.size := by omega
      obtain ⟨hc1, hf1⟩ := bcell hb1
      clear hb1
      go_wp2_with fail
      refine (awake_any _).mono ?_
      rintro e w2 ⟨rfl, hb2⟩
      have hB2 : Below w.heap.size w w2 := below_chain (below_alloc (hB1) _) hb2
      have hz2 := hb2.size
      simp only [World.size_alloc] at hz2
      have hl2_0 : w.heap.size < w2.heap.size := by omega
      have hm2_0 : w.heap.size ≤ w2.heap.size := by omega
      have hl2_1 : w1.heap.size < w2.heap.size := by omega
      have hm2_1 : w1.heap.size ≤ w2.heap.size := by omega
      obtain ⟨hc2, hf2⟩ := bcell hb2
      clear hb2
      go_wp2_with fail
      go_ret
      exact ⟨ret_bool (by first | rfl | (simp; done) | (simp; omega)), hB2⟩
    · have hB0 : Below w.heap.size w w := Below.refl _ _
      go_enter Try.func7, Try.ntmps7
      go_wp2_with fail
      refine (gran_Span 1 0 i _).mono ?_
      rintro e w1 ⟨rfl, hb1⟩
      have hB1 : Below w.heap.size w w1 := below_chain (below_alloc (hB0) _) hb1
      have hz1 := hb1.size
      simp only [World.size_alloc] at hz1
      have hl1_0 : w.heap.size < w1.heap.size := by omega
      have hm1_0 : w.heap.size ≤ w1.heap.size := by omega
      obtain ⟨hc1, hf1⟩ := bcell hb1
      clear hb1
      go_wp2_with fail
      refine (awake_any _).mono ?_
      rintro e w2 ⟨rfl, hb2⟩
      have hB2 : Below w.heap.size w w2 := below_chain (below_alloc (hB1) _) hb2
      have hz2 := hb2.size
      simp only [World.size_alloc] at hz2
      have hl2_0 : w.heap.size < w2.heap.size := by omega
      have hm2_0 : w.heap.size ≤ w2.heap.size := by omega
      have hl2_1 : w1.heap.size < w2.heap.size := by omega
      have hm2_1 : w1.heap.size ≤ w2.heap.size := by omega
      obtain ⟨hc2, hf2⟩ := bcell hb2
      clear hb2
      go_wp2_with fail
      go_ret
      exact ⟨ret_bool (by first | rfl | (simp; done) | (simp; omega)), hB2⟩
    · have hB0 : Below w.heap.size w w := Below.refl _ _
      go_enter Try.func7, Try.ntmps7
      go_wp2_with fail
      refine (gran_Span 1 0 i _).mono ?_
      rintro e w1 ⟨rfl, hb1⟩
      have hB1 : Below w.heap.size w w1 := below_chain (below_alloc (hB0) _) hb1
      have hz1 := hb1.size
      simp only [World.size_alloc] at hz1
      have hl1_0 : w.heap.size < w1.heap.size := by omega
      have hm1_0 : w.heap.size ≤ w1.heap.size := by omega
      obtain ⟨hc1, hf1⟩ := bcell hb1
      clear hb1
      go_wp2_with fail
      refine (awake_any _).mono ?_
      rintro e w2 ⟨rfl, hb2⟩
      have hB2 : Below w.heap.size w w2 := below_chain (below_alloc (hB1) _) hb2
      have hz2 := hb2.size
      simp only [World.size_alloc] at hz2
      have hl2_0 : w.heap.size < w2.heap.size := by omega
      have hm2_0 : w.heap.size ≤ w2.heap.size := by omega
      have hl2_1 : w1.heap.size < w2.heap.size := by omega
      have hm2_1 : w1.heap.size ≤ w2.heap.size := by omega
      obtain ⟨hc2, hf2⟩ := bcell hb2
      clear hb2
      go_wp2_with fail
      go_ret
      exact ⟨ret_bool (by first | rfl | (simp; done) | (simp; omega)), hB2⟩
    · simp [Gr.low, Gr.high] at h4 h5
      have hB0 : Below w.heap.size w w := Below.refl _ _
      go_enter Try.func7, Try.ntmps7
      go_wp2_with fail
      refine (gran_Span 1 0 i _).mono ?_
      rintro e w1 ⟨rfl, hb1⟩
      have hB1 : Below w.heap.size w w1 := below_chain (below_alloc (hB0) _) hb1
      have hz1 := hb1.size
      simp only [World.size_alloc] at hz1
      have hl1_0 : w.heap.size < w1.heap.size := by omega
      have hm1_0 : w.heap.size ≤ w1.heap.size := by omega
      have hx1_0_1 : w.heap.size < w1.heap.size + 1 := by omega
      have hy1_0_1 : w.heap.size ≤ w1.heap.size + 1 := by omega
      have hx1_0_2 : w.heap.size < w1.heap.size + 1 + 1 := by omega
      have hy1_0_2 : w.heap.size ≤ w1.heap.size + 1 + 1 := by omega
      obtain ⟨hc1, hf1⟩ := bcell hb1
      clear hb1
      go_wp2_with fail
      refine (awake_any _).mono ?_
      rintro e w2 ⟨rfl, hb2⟩
      have hB2 : Below w.heap.size w w2 := below_chain (below_alloc (below_alloc (below_alloc (hB1) _) _) _) hb2
      have hz2 := hb2.size
      simp only [World.size_alloc] at hz2
      have hl2_0 : w.heap.size < w2.heap.size := by omega
      have hm2_0 : w.heap.size ≤ w2.heap.size := by omega
      have hx2_0_1 : w.heap.size < w2.heap.size + 1 := by omega
      have hy2_0_1 : w.heap.size ≤ w2.heap.size + 1 := by omega
      have hx2_0_2 : w.heap.size < w2.heap.size + 1 + 1 := by omega
      have hy2_0_2 : w.heap.size ≤ w2.heap.size + 1 + 1 := by omega
      have hl2_1 : w1.heap.size < w2.heap.size := by omega
      have hm2_1 : w1.heap.size ≤ w2.heap.size := by omega
      have hx2_1_1 : w1.heap.size < w2.heap.size + 1 := by omega
      have hy2_1_1 : w1.heap.size ≤ w2.heap.size + 1 := by omega
      have hx2_1_2 : w1.heap.size < w2.heap.size + 1 + 1 := by omega
      have hy2_1_2 : w1.heap.size ≤ w2.heap.size + 1 + 1 := by omega
      have hl2_2 : w1.heap.size + 1 < w2.heap.size := by omega
      have hm2_2 : w1.heap.size + 1 ≤ w2.heap.size := by omega
      have hx2_2_1 : w1.heap.size + 1 < w2.heap.size + 1 := by omega
      have hy2_2_1 : w1.heap.size + 1 ≤ w2.heap.size + 1 := by omega
      have hx2_2_2 : w1.heap.size + 1 < w2.heap.size + 1 + 1 := by omega
      have hy2_2_2 : w1.heap.size + 1 ≤ w2.heap.size + 1 + 1 := by omega
      have hl2_3 : w1.heap.size + 1 + 1 < w2.heap.size := by omega
      have hm2_3 : w1.heap.size + 1 + 1 ≤ w2.heap.size := by omega
      have hx2_3_1 : w1.heap.size + 1 + 1 < w2.heap.size + 1 := by omega
      have hy2_3_1 : w1.heap.size + 1 + 1 ≤ w2.heap.size + 1 := by omega
      have hx2_3_2 : w1.heap.size + 1 + 1 < w2.heap.size + 1 + 1 := by omega
      have hy2_3_2 : w1.heap.size + 1 + 1 ≤ w2.heap.size + 1 + 1 := by omega
      obtain ⟨hc2, hf2⟩ := bcell hb2
      clear hb2
      go_wp2_with fail
      go_ret
      exact ⟨ret_bool (by first | rfl | (simp; done) | (simp; omega)), hB2⟩
  · rcases len_cases 2 0 i with h1 | ⟨h1, h2⟩ | ⟨h1, h2, h3⟩ | ⟨h1, h2, h3, h4, h5, h6, h7, h8, h9⟩
    · have hB0 : Below w.heap.size w w := Below.refl _ _
      go_enter Try.func7, Try.ntmps7
      go_wp2_with fail
      refine (gran_Span 2 0 i _).mono ?_
      rintro e w1 ⟨rfl, hb1⟩
      have hB1 : Below w.heap.size w w1 := below_chain (below_alloc (hB0) _) hb1
      have hz1 := hb1.size
      simp only [World.size_alloc] at hz1
      have hl1_0 : w.heap.size < w1.heap.size := by omega
      have hm1_0 : w.heap.size ≤ w1.heap.size := by omega
      obtain ⟨hc1, hf1⟩ := bcell hb1
      clear hb1
      go_wp2_with fail
      refine (awake_any _).mono ?_
      rintro e w2 ⟨rfl, hb2⟩
      have hB2 : Below w.heap.size w w2 := below_chain (below_alloc (hB1) _) hb2
      have hz2 := hb2.size
      simp only [World.size_alloc] at hz2
      have hl2_0 : w.heap.size < w2.heap.size := by omega
      have hm2_0 : w.heap.size ≤ w2.heap.size := by omega
      have hl2_1 : w1.heap.size < w2.heap.size := by omega
      have hm2_1 : w1.heap.size ≤ w2.heap.size := by omega
      obtain ⟨hc2, hf2⟩ := bcell hb2
      clear hb2
      go_wp2_with fail
      go_ret
      exact ⟨ret_bool (by first | rfl | (simp; done) | (simp; omega)), hB2⟩
    · have hB0 : Below w.heap.size w w := Below.refl _ _
      go_enter Try.func7, Try.ntmps7
      go_wp2_with fail
      refine (gran_Span 2 0 i _).mono ?_
      rintro e w1 ⟨rfl, hb1⟩
      have hB1 : Below w.heap.size w w1 := below_chain (below_alloc (hB0) _) hb1
      have hz1 := hb1.size
      simp only [World.size_alloc] at hz1
      have hl1_0 : w.heap.size < w1.heap.size := by omega
      have hm1_0 : w.heap.size ≤ w1.heap.size := by omega
      obtain ⟨hc1, hf1⟩ := bcell hb1
      clear hb1
      go_wp2_with fail
      refine (awake_any _).mono ?_
      rintro e w2 ⟨rfl, hb2⟩
      have hB2 : Below w.heap.size w w2 := below_chain (below_alloc (hB1) _) hb2
      have hz2 := hb2.size
      simp only [World.size_alloc] at hz2
      have hl2_0 : w.heap.size < w2.heap.size := by omega
      have hm2_0 : w.heap.size ≤ w2.heap.size := by omega
      have hl2_1 : w1.heap.size < w2.heap.size := by omega
      have hm2_1 : w1.heap.size ≤ w2.heap.size := by omega
      obtain ⟨hc2, hf2⟩ := bcell hb2
      clear hb2
      go_wp2_with fail
      go_ret
      exact ⟨ret_bool (by first | rfl | (simp; done) | (simp; omega)), hB2⟩
    · have hB0 : Below w.heap.size w w := Below.refl _ _
      go_enter Try.func7, Try.ntmps7
      go_wp2_with fail
      refine (gran_Span 2 0 i _).mono ?_
      rintro e w1 ⟨rfl, hb1⟩
      have hB1 : Below w.heap.size w w1 := below_chain (below_alloc (hB0) _) hb1
      have hz1 := hb1.size
      simp only [World.size_alloc] at hz1
      have hl1_0 : w.heap.size < w1.heap.size := by omega
      have hm1_0 : w.heap.size ≤ w1.heap.size := by omega
      obtain ⟨hc1, hf1⟩ := bcell hb1
      clear hb1
      go_wp2_with fail
      refine (awake_any _).mono ?_
      rintro e w2 ⟨rfl, hb2⟩
      have hB2 : Below w.heap.size w w2 := below_chain (below_alloc (hB1) _) hb2
      have hz2 := hb2.size
      simp only [World.size_alloc] at hz2
      have hl2_0 : w.heap.size < w2.heap.size := by omega
      have hm2_0 : w.heap.size ≤ w2.heap.size := by omega
      have hl2_1 : w1.heap.size < w2.heap.size := by omega
      have hm2_1 : w1.heap.size ≤ w2.heap.size := by omega
      obtain ⟨hc2, hf2⟩ := bcell hb2
      clear hb2
      go_wp2_with fail
      go_ret
      exact ⟨ret_bool (by first | rfl | (simp; done) | (simp; omega)), hB2⟩
    · simp [Gr.low, Gr.high] at h4 h5
      have hB0 : Below w.heap.size w w := Below.refl _ _
      go_enter Try.func7, Try.ntmps7
      go_wp2_with fail
      refine (gran_Span 2 0 i _).mono ?_
      rintro e w1 ⟨rfl, hb1⟩
      have hB1 : Below w.heap.size w w1 := below_chain (below_alloc (hB0) _) hb1
      have hz1 := hb1.size
      simp only [World.size_alloc] at hz1
      have hl1_0 : w.heap.size < w1.heap.size := by omega
      have hm1_0 : w.heap.size ≤ w1.heap.size := by omega
      have hx1_0_1 : w.heap.size < w1.heap.size + 1 := by omega
      have hy1_0_1 : w.heap.size ≤ w1.heap.size + 1 := by omega
      have hx1_0_2 : w.heap.size < w1.heap.size + 1 + 1 := by omega
      have hy1_0_2 : w.heap.size ≤ w1.heap.size + 1 + 1 := by omega
      obtain ⟨hc1, hf1⟩ := bcell hb1
      clear hb1
      go_wp2_with fail
      refine (awake_any _).mono ?_
      rintro e w2 ⟨rfl, hb2⟩
      have hB2 : Below w.heap.size w w2 := below_chain (below_alloc (below_alloc (below_alloc (hB1) _) _) _) hb2
      have hz2 := hb2.size
      simp only [World.size_alloc] at hz2
      have hl2_0 : w.heap.size < w2.heap.size := by omega
      have hm2_0 : w.heap.size ≤ w2.heap.size := by omega
      have hx2_0_1 : w.heap.size < w2.heap.size + 1 := by omega
      have hy2_0_1 : w.heap.size ≤ w2.heap.size + 1 := by omega
      have hx2_0_2 : w.heap.size < w2.heap.size + 1 + 1 := by omega
      have hy2_0_2 : w.heap.size ≤ w2.heap.size + 1 + 1 := by omega
      have hl2_1 : w1.heap.size < w2.heap.size := by omega
      have hm2_1 : w1.heap.size ≤ w2.heap.size := by omega
      have hx2_1_1 : w1.heap.size < w2.heap.size + 1 := by omega
      have hy2_1_1 : w1.heap.size ≤ w2.heap.size + 1 := by omega
      have hx2_1_2 : w1.heap.size < w2.heap.size + 1 + 1 := by omega
      have hy2_1_2 : w1.heap.size ≤ w2.heap.size + 1 + 1 := by omega
      have hl2_2 : w1.heap.size + 1 < w2.heap.size := by omega
      have hm2_2 : w1.heap.size + 1 ≤ w2.heap.size := by omega
      have hx2_2_1 : w1.heap.size + 1 < w2.heap.size + 1 := by omega
      have hy2_2_1 : w1.heap.size + 1 ≤ w2.heap.size + 1 := by omega
      have hx2_2_2 : w1.heap.size + 1 < w2.heap.size + 1 + 1 := by omega
      have hy2_2_2 : w1.heap.size + 1 ≤ w2.heap.size + 1 + 1 := by omega
      have hl2_3 : w1.heap.size + 1 + 1 < w2.heap.size := by omega
      have hm2_3 : w1.heap.size + 1 + 1 ≤ w2.heap.size := by omega
      have hx2_3_1 : w1.heap.size + 1 + 1 < w2.heap.size + 1 := by omega
      have hy2_3_1 : w1.heap.size + 1 + 1 ≤ w2.heap.size + 1 := by omega
      have hx2_3_2 : w1.heap.size + 1 + 1 < w2.heap.size + 1 + 1 := by omega
      have hy2_3_2 : w1.heap.size + 1 + 1 ≤ w2.heap.size + 1 + 1 := by omega
      obtain ⟨hc2, hf2⟩ := bcell hb2
      clear hb2
      go_wp2_with fail
      go_ret
      exact ⟨ret_bool (by first | rfl | (simp; done) | (simp; omega)), hB2⟩
  · rcases len_cases 3 (1 + b % 12) i with h1 | ⟨h1, h2⟩ | ⟨h1, h2, h3⟩ | ⟨h1, h2, h3, h4, h5, h6, h7, h8, h9⟩
    · have hB0 : Below w.heap.size w w := Below.refl _ _
      go_enter Try.func7, Try.ntmps7
      go_wp2_with fail
      refine (gran_Span 3 (1 + b % 12) i _).mono ?_
      rintro e w1 ⟨rfl, hb1⟩
      have hB1 : Below w.heap.size w w1 := below_chain (below_alloc (hB0) _) hb1
      have hz1 := hb1.size
      simp only [World.size_alloc] at hz1
      have hl1_0 : w.heap.size < w1.heap.size := by omega
      have hm1_0 : w.heap.size ≤ w1.heap.size := by omega
      obtain ⟨hc1, hf1⟩ := bcell hb1
      clear hb1
      go_wp2_with fail
      refine (awake_any _).mono ?_
      rintro e w2 ⟨rfl, hb2⟩
      have hB2 : Below w.heap.size w w2 := below_chain (below_alloc (hB1) _) hb2
      have hz2 := hb2.size
      simp only [World.size_alloc] at hz2
      have hl2_0 : w.heap.size < w2.heap.size := by omega
      have hm2_0 : w.heap.size ≤ w2.heap.size := by omega
      have hl2_1 : w1.heap.size < w2.heap.size := by omega
      have hm2_1 : w1.heap.size ≤ w2.heap.size := by omega
      obtain ⟨hc2, hf2⟩ := bcell hb2
      clear hb2
      go_wp2_with fail
      go_ret
      exact ⟨ret_bool (by first | rfl | (simp; done) | (simp; omega)), hB2⟩
    · have hB0 : Below w.heap.size w w := Below.refl _ _
      go_enter Try.func7, Try.ntmps7
      go_wp2_with fail
      refine (gran_Span 3 (1 + b % 12) i _).mono ?_
      rintro e w1 ⟨rfl, hb1⟩
      have hB1 : Below w.heap.size w w1 := below_chain (below_alloc (hB0) _) hb1
      have hz1 := hb1.size
      simp only [World.size_alloc] at hz1
      have hl1_0 : w.heap.size < w1.heap.size := by omega
      have hm1_0 : w.heap.size ≤ w1.heap.size := by omega
      obtain ⟨hc1, hf1⟩ := bcell hb1
      clear hb1
      go_wp2_with fail
      refine (awake_any _).mono ?_
      rintro e w2 ⟨rfl, hb2⟩
      have hB2 : Below w.heap.size w w2 := below_chain (below_alloc (hB1) _) hb2
      have hz2 := hb2.size
      simp only [World.size_alloc] at hz2
      have hl2_0 : w.heap.size < w2.heap.size := by omega
      have hm2_0 : w.heap.size ≤ w2.heap.size := by omega
      have hl2_1 : w1.heap.size < w2.heap.size := by omega
      have hm2_1 : w1.heap.size ≤ w2.heap.size := by omega
      obtain ⟨hc2, hf2⟩ := bcell hb2
      clear hb2
      go_wp2_with fail
      go_ret
      exact ⟨ret_bool (by first | rfl | (simp; done) | (simp; omega)), hB2⟩
    · have hB0 : Below w.heap.size w w := Below.refl _ _
      go_enter Try.func7, Try.ntmps7
      go_wp2_with fail
      refine (gran_Span 3 (1 + b % 12) i _).mono ?_
      rintro e w1 ⟨rfl, hb1⟩
      have hB1 : Below w.heap.size w w1 := below_chain (below_alloc (hB0) _) hb1
      have hz1 := hb1.size
      simp only [World.size_alloc] at hz1
      have hl1_0 : w.heap.size < w1.heap.size := by omega
      have hm1_0 : w.heap.size ≤ w1.heap.size := by omega
      obtain ⟨hc1, hf1⟩ := bcell hb1
      clear hb1
      go_wp2_with fail
      refine (awake_any _).mono ?_
      rintro e w2 ⟨rfl, hb2⟩
      have hB2 : Below w.heap.size w w2 := below_chain (below_alloc (hB1) _) hb2
      have hz2 := hb2.size
      simp only [World.size_alloc] at hz2
      have hl2_0 : w.heap.size < w2.heap.size := by omega
      have hm2_0 : w.heap.size ≤ w2.heap.size := by omega
      have hl2_1 : w1.heap.size < w2.heap.size := by omega
      have hm2_1 : w1.heap.size ≤ w2.heap.size := by omega
      obtain ⟨hc2, hf2⟩ := bcell hb2
      clear hb2
      go_wp2_with fail
      go_ret
      exact ⟨ret_bool (by first | rfl | (simp; done) | (simp; omega)), hB2⟩
    · simp [Gr.low, Gr.high] at h4 h5
      have hB0 : Below w.heap.size w w := Below.refl _ _
      go_enter Try.func7, Try.ntmps7
      go_wp2_with fail
      refine (gran_Span 3 (1 + b % 12) i _).mono ?_
      rintro e w1 ⟨rfl, hb1⟩
      have hB1 : Below w.heap.size w w1 := below_chain (below_alloc (hB0) _) hb1
      have hz1 := hb1.size
      simp only [World.size_alloc] at hz1
      have hl1_0 : w.heap.size < w1.heap.size := by omega
      have hm1_0 : w.heap.size ≤ w1.heap.size := by omega
      have hx1_0_1 : w.heap.size < w1.heap.size + 1 := by omega
      have hy1_0_1 : w.heap.size ≤ w1.heap.size + 1 := by omega
      have hx1_0_2 : w.heap.size < w1.heap.size + 1 + 1 := by omega
      have hy1_0_2 : w.heap.size ≤ w1.heap.size + 1 + 1 := by omega
      obtain ⟨hc1, hf1⟩ := bcell hb1
      clear hb1
      go_wp2_with fail
      refine (awake_any _).mono ?_
      rintro e w2 ⟨rfl, hb2⟩
      have hB2 : Below w.heap.size w w2 := below_chain (below_alloc (below_alloc (below_alloc (hB1) _) _) _) hb2
      have hz2 := hb2.size
      simp only [World.size_alloc] at hz2
      have hl2_0 : w.heap.size < w2.heap.size := by omega
      have hm2_0 : w.heap.size ≤ w2.heap.size := by omega
      have hx2_0_1 : w.heap.size < w2.heap.size + 1 := by omega
      have hy2_0_1 : w.heap.size ≤ w2.heap.size + 1 := by omega
      have hx2_0_2 : w.heap.size < w2.heap.size + 1 + 1 := by omega
      have hy2_0_2 : w.heap.size ≤ w2.heap.size + 1 + 1 := by omega
      have hl2_1 : w1.heap.size < w2.heap.size := by omega
      have hm2_1 : w1.heap.size ≤ w2.heap.size := by omega
      have hx2_1_1 : w1.heap.size < w2.heap.size + 1 := by omega
      have hy2_1_1 : w1.heap.size ≤ w2.heap.size + 1 := by omega
      have hx2_1_2 : w1.heap.size < w2.heap.size + 1 + 1 := by omega
      have hy2_1_2 : w1.heap.size ≤ w2.heap.size + 1 + 1 := by omega
      have hl2_2 : w1.heap.size + 1 < w2.heap.size := by omega
      have hm2_2 : w1.heap.size + 1 ≤ w2.heap.size := by omega
      have hx2_2_1 : w1.heap.size + 1 < w2.heap.size + 1 := by omega
      have hy2_2_1 : w1.heap.size + 1 ≤ w2.heap.size + 1 := by omega
      have hx2_2_2 : w1.heap.size + 1 < w2.heap.size + 1 + 1 := by omega
      have hy2_2_2 : w1.heap.size + 1 ≤ w2.heap.size + 1 + 1 := by omega
      have hl2_3 : w1.heap.size + 1 + 1 < w2.heap.size := by omega
      have hm2_3 : w1.heap.size + 1 + 1 ≤ w2.heap.size := by omega
      have hx2_3_1 : w1.heap.size + 1 + 1 < w2.heap.size + 1 := by omega
      have hy2_3_1 : w1.heap.size + 1 + 1 ≤ w2.heap.size + 1 := by omega
      have hx2_3_2 : w1.heap.size + 1 + 1 < w2.heap.size + 1 + 1 := by omega
      have hy2_3_2 : w1.heap.size + 1 + 1 ≤ w2.heap.size + 1 + 1 := by omega
      obtain ⟨hc2, hf2⟩ := bcell hb2
      clear hb2
      go_wp2_with fail
      go_ret
      exact ⟨ret_bool (by first | rfl | (simp; done) | (simp; omega)), hB2⟩
  · rcases len_cases 4 (1 + b % 12) i with h1 | ⟨h1, h2⟩ | ⟨h1, h2, h3⟩ | ⟨h1, h2, h3, h4, h5, h6, h7, h8, h9⟩
    · have hB0 : Below w.heap.size w w := Below.refl _ _
      go_enter Try.func7, Try.ntmps7
      go_wp2_with fail
      refine (gran_Span 4 (1 + b % 12) i _).mono ?_
      rintro e w1 ⟨rfl, hb1⟩
      have hB1 : Below w.heap.size w w1 := below_chain (below_alloc (hB0) _) hb1
      have hz1 := hb1.size
      simp only [World.size_alloc] at hz1
      have hl1_0 : w.heap.size < w1.heap.size := by omega
      have hm1_0 : w.heap.size ≤ w1.heap.size := by omega
      obtain ⟨hc1, hf1⟩ := bcell hb1
      clear hb1
      go_wp2_with fail
      refine (awake_any _).mono ?_
      rintro e w2 ⟨rfl, hb2⟩
      have hB2 : Below w.heap.size w w2 := below_chain (below_alloc (hB1) _) hb2
      have hz2 := hb2.size
      simp only [World.size_alloc] at hz2
      have hl2_0 : w.heap.size < w2.heap.size := by omega
      have hm2_0 : w.heap.size ≤ w2.heap.size := by omega
      have hl2_1 : w1.heap.size < w2.heap.size := by omega
      have hm2_1 : w1.heap.size ≤ w2.heap.size := by omega
      obtain ⟨hc2, hf2⟩ := bcell hb2
      clear hb2
      go_wp2_with fail
      go_ret
      exact ⟨ret_bool (by first | rfl | (simp; done) | (simp; omega)), hB2⟩
    · have hB0 : Below w.heap.size w w := Below.refl _ _
      go_enter Try.func7, Try.ntmps7
      go_wp2_with fail
      refine (gran_Span 4 (1 + b % 12) i _).mono ?_
      rintro e w1 ⟨rfl, hb1⟩
      have hB1 : Below w.heap.size w w1 := below_chain (below_alloc (hB0) _) hb1
      have hz1 := hb1.size
      simp only [World.size_alloc] at hz1
      have hl1_0 : w.heap.size < w1.heap.size := by omega
      have hm1_0 : w.heap.size ≤ w1.heap.size := by omega
      obtain ⟨hc1, hf1⟩ := bcell hb1
      clear hb1
      go_wp2_with fail
      refine (awake_any _).mono ?_
      rintro e w2 ⟨rfl, hb2⟩
      have hB2 : Below w.heap.size w w2 := below_chain (below_alloc (hB1) _) hb2
      have hz2 := hb2.size
      simp only [World.size_alloc] at hz2
      have hl2_0 : w.heap.size < w2.heap.size := by omega
      have hm2_0 : w.heap.size ≤ w2.heap.size := by omega
      have hl2_1 : w1.heap.size < w2.heap.size := by omega
      have hm2_1 : w1.heap.size ≤ w2.heap.size := by omega
      obtain ⟨hc2, hf2⟩ := bcell hb2
      clear hb2
      go_wp2_with fail
      go_ret
      exact ⟨ret_bool (by first | rfl | (simp; done) | (simp; omega)), hB2⟩
    · have hB0 : Below w.heap.size w w := Below.refl _ _
      go_enter Try.func7, Try.ntmps7
      go_wp2_with fail
      refine (gran_Span 4 (1 + b % 12) i _).mono ?_
      rintro e w1 ⟨rfl, hb1⟩
      have hB1 : Below w.heap.size w w1 := below_chain (below_alloc (hB0) _) hb1
      have hz1 := hb1.size
      simp only [World.size_alloc] at hz1
      have hl1_0 : w.heap.size < w1.heap.size := by omega
      have hm1_0 : w.heap.size ≤ w1.heap.size := by omega
      obtain ⟨hc1, hf1⟩ := bcell hb1
      clear hb1
      go_wp2_with fail
      refine (awake_any _).mono ?_
      rintro e w2 ⟨rfl, hb2⟩
      have hB2 : Below w.heap.size w w2 := below_chain (below_alloc (hB1) _) hb2
      have hz2 := hb2.size
      simp only [World.size_alloc] at hz2
      have hl2_0 : w.heap.size < w2.heap.size := by omega
      have hm2_0 : w.heap.size ≤ w2.heap.size := by omega
      have hl2_1 : w1.heap.size < w2.heap.size := by omega
      have hm2_1 : w1.heap.size ≤ w2.heap.size := by omega
      obtain ⟨hc2, hf2⟩ := bcell hb2
      clear hb2
      go_wp2_with fail
      go_ret
      exact ⟨ret_bool (by first | rfl | (simp; done) | (simp; omega)), hB2⟩
    · simp [Gr.low, Gr.high] at h4 h5
      have hB0 : Below w.heap.size w w := Below.refl _ _
      go_enter Try.func7, Try.ntmps7
      go_wp2_with fail
      refine (gran_Span 4 (1 + b % 12) i _).mono ?_
      rintro e w1 ⟨rfl, hb1⟩
      have hB1 : Below w.heap.size w w1 := below_chain (below_alloc (hB0) _) hb1
      have hz1 := hb1.size
      simp only [World.size_alloc] at hz1
      have hl1_0 : w.heap.size < w1.heap.size := by omega
      have hm1_0 : w.heap.size ≤ w1.heap.size := by omega
      have hx1_0_1 : w.heap.size < w1.heap.size + 1 := by omega
      have hy1_0_1 : w.heap.size ≤ w1.heap.size + 1 := by omega
      have hx1_0_2 : w.heap.size < w1.heap.size + 1 + 1 := by omega
      have hy1_0_2 : w.heap.size ≤ w1.heap.size + 1 + 1 := by omega
      obtain ⟨hc1, hf1⟩ := bcell hb1
      clear hb1
      go_wp2_with fail
      refine (awake_any _).mono ?_
      rintro e w2 ⟨rfl, hb2⟩
      have hB2 : Below w.heap.size w w2 := below_chain (below_alloc (below_alloc (below_alloc (hB1) _) _) _) hb2
      have hz2 := hb2.size
      simp only [World.size_alloc] at hz2
      have hl2_0 : w.heap.size < w2.heap.size := by omega
      have hm2_0 : w.heap.size ≤ w2.heap.size := by omega
      have hx2_0_1 : w.heap.size < w2.heap.size + 1 := by omega
      have hy2_0_1 : w.heap.size ≤ w2.heap.size + 1 := by omega
      have hx2_0_2 : w.heap.size < w2.heap.size + 1 + 1 := by omega
      have hy2_0_2 : w.heap.size ≤ w2.heap.size + 1 + 1 := by omega
      have hl2_1 : w1.heap.size < w2.heap.size := by omega
      have hm2_1 : w1.heap.size ≤ w2.heap.size := by omega
      have hx2_1_1 : w1.heap.size < w2.heap.size + 1 := by omega
      have hy2_1_1 : w1.heap.size ≤ w2.heap.size + 1 := by omega
      have hx2_1_2 : w1.heap.size < w2.heap.size + 1 + 1 := by omega
      have hy2_1_2 : w1.heap.size ≤ w2.heap.size + 1 + 1 := by omega
      have hl2_2 : w1.heap.size + 1 < w2.heap.size := by omega
      have hm2_2 : w1.heap.size + 1 ≤ w2.heap.size := by omega
      have hx2_2_1 : w1.heap.size + 1 < w2.heap.size + 1 := by omega
      have hy2_2_1 : w1.heap.size + 1 ≤ w2.heap.size + 1 := by omega
      have hx2_2_2 : w1.heap.size + 1 < w2.heap.size + 1 + 1 := by omega
      have hy2_2_2 : w1.heap.size + 1 ≤ w2.heap.size + 1 + 1 := by omega
      have hl2_3 : w1.heap.size + 1 + 1 < w2.heap.size := by omega
      have hm2_3 : w1.heap.size + 1 + 1 ≤ w2.heap.size := by omega
      have hx2_3_1 : w1.heap.size + 1 + 1 < w2.heap.size + 1 := by omega
      have hy2_3_1 : w1.heap.size + 1 + 1 ≤ w2.heap.size + 1 := by omega
      have hx2_3_2 : w1.heap.size + 1 + 1 < w2.heap.size + 1 + 1 := by omega
      have hy2_3_2 : w1.heap.size + 1 + 1 ≤ w2.heap.size + 1 + 1 := by omega
      obtain ⟨hc2, hf2⟩ := bcell hb2
      clear hb2
      go_wp2_with fail
      go_ret
      exact ⟨ret_bool (by first | rfl | (simp; done) | (simp; omega)), hB2⟩
  · rcases len_cases 5 (1 + b % 12) i with h1 | ⟨h1, h2⟩ | ⟨h1, h2, h3⟩ | ⟨h1, h2, h3, h4, h5, h6, h7, h8, h9⟩
    · have hB0 : Below w.heap.size w w := Below.refl _ _
      go_enter Try.func7, Try.ntmps7
      go_wp2_with fail
      refine (gran_Span 5 (1 + b % 12) i _).mono ?_
      rintro e w1 ⟨rfl, hb1⟩
      have hB1 : Below w.heap.size w w1 := below_chain (below_alloc (hB0) _) hb1
      have hz1 := hb1.size
      simp only [World.size_alloc] at hz1
      have hl1_0 : w.heap.size < w1.heap.size := by omega
      have hm1_0 : w.heap.size ≤ w1.heap.size := by omega
      obtain ⟨hc1, hf1⟩ := bcell hb1
      clear hb1
      go_wp2_with fail
      refine (awake_any _).mono ?_
      rintro e w2 ⟨rfl, hb2⟩
      have hB2 : Below w.heap.size w w2 := below_chain (below_alloc (hB1) _) hb2
      have hz2 := hb2.size
      simp only [World.size_alloc] at hz2
      have hl2_0 : w.heap.size < w2.heap.size := by omega
      have hm2_0 : w.heap.size ≤ w2.heap.size := by omega
      have hl2_1 : w1.heap.size < w2.heap.size := by omega
      have hm2_1 : w1.heap.size ≤ w2.heap.size := by omega
      obtain ⟨hc2, hf2⟩ := bcell hb2
      clear hb2
      go_wp2_with fail
      go_ret
      exact ⟨ret_bool (by first | rfl | (simp; done) | (simp; omega)), hB2⟩
    · have hB0 : Below w.heap.size w w := Below.refl _ _
      go_enter Try.func7, Try.ntmps7
      go_wp2_with fail
      refine (gran_Span 5 (1 + b % 12) i _).mono ?_
      rintro e w1 ⟨rfl, hb1⟩
      have hB1 : Below w.heap.size w w1 := below_chain (below_alloc (hB0) _) hb1
      have hz1 := hb1.size
      simp only [World.size_alloc] at hz1
      have hl1_0 : w.heap.size < w1.heap.size := by omega
      have hm1_0 : w.heap.size ≤ w1.heap.size := by omega
      obtain ⟨hc1, hf1⟩ := bcell hb1
      clear hb1
      go_wp2_with fail
      refine (awake_any _).mono ?_
      rintro e w2 ⟨rfl, hb2⟩
      have hB2 : Below w.heap.size w w2 := below_chain (below_alloc (hB1) _) hb2
      have hz2 := hb2.size
      simp only [World.size_alloc] at hz2
      have hl2_0 : w.heap.size < w2.heap.size := by omega
      have hm2_0 : w.heap.size ≤ w2.heap.size := by omega
      have hl2_1 : w1.heap.size < w2.heap.size := by omega
      have hm2_1 : w1.heap.size ≤ w2.heap.size := by omega
      obtain ⟨hc2, hf2⟩ := bcell hb2
      clear hb2
      go_wp2_with fail
      go_ret
      exact ⟨ret_bool (by first | rfl | (simp; done) | (simp; omega)), hB2⟩
    · have hB0 : Below w.heap.size w w := Below.refl _ _
      go_enter Try.func7, Try.ntmps7
      go_wp2_with fail
      refine (gran_Span 5 (1 + b % 12) i _).mono ?_
      rintro e w1 ⟨rfl, hb1⟩
      have hB1 : Below w.heap.size w w1 := below_chain (below_alloc (hB0) _) hb1
      have hz1 := hb1.size
      simp only [World.size_alloc] at hz1
      have hl1_0 : w.heap.size < w1.heap.size := by omega
      have hm1_0 : w.heap.size ≤ w1.heap.size := by omega
      obtain ⟨hc1, hf1⟩ := bcell hb1
      clear hb1
      go_wp2_with fail
      refine (awake_any _).mono ?_
      rintro e w2 ⟨rfl, hb2⟩
      have hB2 : Below w.heap.size w w2 := below_chain (below_alloc (hB1) _) hb2
      have hz2 := hb2.size
      simp only [World.size_alloc] at hz2
      have hl2_0 : w.heap.size < w2.heap.size := by omega
      have hm2_0 : w.heap.size ≤ w2.heap.size := by omega
      have hl2_1 : w1.heap.size < w2.heap.size := by omega
      have hm2_1 : w1.heap.size ≤ w2.heap.size := by omega
      obtain ⟨hc2, hf2⟩ := bcell hb2
      clear hb2
      go_wp2_with fail
      go_ret
      exact ⟨ret_bool (by first | rfl | (simp; done) | (simp; omega)), hB2⟩
    · simp [Gr.low, Gr.high] at h4 h5
      have hB0 : Below w.heap.size w w := Below.refl _ _
      go_enter Try.func7, Try.ntmps7
      go_wp2_with fail
      refine (gran_Span 5 (1 + b % 12) i _).mono ?_
      rintro e w1 ⟨rfl, hb1⟩
      have hB1 : Below w.heap.size w w1 := below_chain (below_alloc (hB0) _) hb1
      have hz1 := hb1.size
      simp only [World.size_alloc] at hz1
      have hl1_0 : w.heap.size < w1.heap.size := by omega
      have hm1_0 : w.heap.size ≤ w1.heap.size := by omega
      have hx1_0_1 : w.heap.size < w1.heap.size + 1 := by omega
      have hy1_0_1 : w.heap.size ≤ w1.heap.size + 1 := by omega
      have hx1_0_2 : w.heap.size < w1.heap.size + 1 + 1 := by omega
      have hy1_0_2 : w.heap.size ≤ w1.heap.size + 1 + 1 := by omega
      obtain ⟨hc1, hf1⟩ := bcell hb1
      clear hb1
      go_wp2_with fail
      refine (awake_any _).mono ?_
      rintro e w2 ⟨rfl, hb2⟩
      have hB2 : Below w.heap.size w w2 := below_chain (below_alloc (below_alloc (below_alloc (hB1) _) _) _) hb2
      have hz2 := hb2.size
      simp only [World.size_alloc] at hz2
      have hl2_0 : w.heap.size < w2.heap.size := by omega
      have hm2_0 : w.heap.size ≤ w2.heap.size := by omega
      have hx2_0_1 : w.heap.size < w2.heap.size + 1 := by omega
      have hy2_0_1 : w.heap.size ≤ w2.heap.size + 1 := by omega
      have hx2_0_2 : w.heap.size < w2.heap.size + 1 + 1 := by omega
      have hy2_0_2 : w.heap.size ≤ w2.heap.size + 1 + 1 := by omega
      have hl2_1 : w1.heap.size < w2.heap.size := by omega
      have hm2_1 : w1.heap.size ≤ w2.heap.size := by omega
      have hx2_1_1 : w1.heap.size < w2.heap.size + 1 := by omega
      have hy2_1_1 : w1.heap.size ≤ w2.heap.size + 1 := by omega
      have hx2_1_2 : w1.heap.size < w2.heap.size + 1 + 1 := by omega
      have hy2_1_2 : w1.heap.size ≤ w2.heap.size + 1 + 1 := by omega
      have hl2_2 : w1.heap.size + 1 < w2.heap.size := by omega
      have hm2_2 : w1.heap.size + 1 ≤ w2.heap.size := by omega
      have hx2_2_1 : w1.heap.size + 1 < w2.heap.size + 1 := by omega
      have hy2_2_1 : w1.heap.size + 1 ≤ w2.heap.size + 1 := by omega
      have hx2_2_2 : w1.heap.size + 1 < w2.heap.size + 1 + 1 := by omega
      have hy2_2_2 : w1.heap.size + 1 ≤ w2.heap.size + 1 + 1 := by omega
      have hl2_3 : w1.heap.size + 1 + 1 < w2.heap.size := by omega
      have hm2_3 : w1.heap.size + 1 + 1 ≤ w2.heap.size := by omega
      have hx2_3_1 : w1.heap.size + 1 + 1 < w2.heap.size + 1 := by omega
      have hy2_3_1 : w1.heap.size + 1 + 1 ≤ w2.heap.size + 1 := by omega
      have hx2_3_2 : w1.heap.size + 1 + 1 < w2.heap.size + 1 + 1 := by omega
      have hy2_3_2 : w1.heap.size + 1 + 1 ≤ w2.heap.size + 1 + 1 := by omega
      obtain ⟨hc2, hf2⟩ := bcell hb2
      clear hb2
      go_wp2_with fail
      go_ret
      exact ⟨ret_bool (by first | rfl | (simp; done) | (simp; omega)), hB2⟩

end Go.Proofs.Ytgimfajanmmkfaa
