/-
  What Covering returns, and the walks of three more laws on granules.
-/
import Derived.Test.YtgimfajanmmkfaaGranF
import Derived.Test.YtgimfajanmmkfaaGranL
namespace Go.Proofs.Ytgimfajanmmkfaa
open Go.RowKit

noncomputable def cvB (k s i k2 s2 : Int) : Bool := spB k s i && Gr.vg k2 s2
noncomputable def cv1 (k s i k2 s2 : Int) : Int := if cvB k s i k2 s2 = true then Gr.idx k2 s2 (spF k s i) else 0
noncomputable def cv2 (k s i k2 s2 : Int) : Int := if cvB k s i k2 s2 = true then Gr.idx k2 s2 (spT k s i - 1) else 0

theorem sp_bounds {k s i : Int} (h : spB k s i = true) : 0 ≤ spF k s i ∧ spF k s i < 1000000 ∧ 0 < spT k s i ∧ spT k s i ≤ 1000000 := by
  obtain ⟨hv, i0, i1⟩ := (spB_iff k s i).1 h
  obtain ⟨e1, e2⟩ := sp_yes h
  rw [e1, e2]
  exact ⟨(Gr.fs_spec k s i).1, Gr.fs_lt hv i1, Gr.fs_pos hv (by omega), (Gr.fs_spec k s (i + 1)).2.1⟩

set_option maxRecDepth 100000 in
set_option maxHeartbeats 4000000 in
theorem gran_Covering (k s i k2 s2 : Int) (w : World) : Calls Try.prog 19 #[.agg #[.int .i64 k, .int .i64 s], .int .i64 i, .agg #[.int .i64 k2, .int .i64 s2]] w (fun e w' => e = .returned (.tuple #[.int .i64 (cv1 k s i k2 s2), .int .i64 (cv2 k s i k2 s2), .bool (cvB k s i k2 s2)]) ∧ Below w.heap.size w w') := by
  generalize hv : (Value.tuple #[.int .i64 (cv1 k s i k2 s2), .int .i64 (cv2 k s i k2 s2), .bool (cvB k s i k2 s2)]) = V
  have HV := Lib.hid hv
  clear hv
  cases hs : spB k s i with
  | false =>
    have HF := Lib.hid (show cvB k s i k2 s2 = false by unfold cvB; rw [hs]; rfl)
    have hB0 : Below w.heap.size w w := Below.refl _ _
    go_enter Try.func19, Try.ntmps19
    go_wp2_with fail
    refine (gran_Span _ _ _ _).mono ?_
    rintro e w1 ⟨rfl, hb1⟩
    have hB1 : Below w.heap.size w w1 := below_chain (below_alloc (below_alloc (hB0) _) _) hb1
    have hz1 := hb1.size
    simp only [World.size_alloc] at hz1
    have hl1_0 : w.heap.size < w1.heap.size := by omega
    have hm1_0 : w.heap.size ≤ w1.heap.size := by omega
    have hl1_1 : w.heap.size + 1 < w1.heap.size := by omega
    have hm1_1 : w.heap.size + 1 ≤ w1.heap.size := by omega
    obtain ⟨hc1, hf1⟩ := bcell hb1
    clear hb1
    go_wp2_with fail
    go_ret3
    exact ⟨by rw [← HV.out]; unfold cv1 cv2; rw [HF.out]; rfl, below_alloc hB1 _⟩
  | true =>
    obtain ⟨b1, b2, b3, b4⟩ := sp_bounds hs
    cases hg : Gr.vg k2 s2 with
    | false =>
      have HF := Lib.hid (show cvB k s i k2 s2 = false by unfold cvB; rw [hg]; simp)
      have hB0 : Below w.heap.size w w := Below.refl _ _
      go_enter Try.func19, Try.ntmps19
      go_wp2_with fail
      refine (gran_Span _ _ _ _).mono ?_
      rintro e w1 ⟨rfl, hb1⟩
      have hB1 : Below w.heap.size w w1 := below_chain (below_alloc (below_alloc (hB0) _) _) hb1
      have hz1 := hb1.size
      simp only [World.size_alloc] at hz1
      have hl1_0 : w.heap.size < w1.heap.size := by omega
      have hm1_0 : w.heap.size ≤ w1.heap.size := by omega
      have hl1_1 : w.heap.size + 1 < w1.heap.size := by omega
      have hm1_1 : w.heap.size + 1 ≤ w1.heap.size := by omega
      obtain ⟨hc1, hf1⟩ := bcell hb1
      clear hb1
      go_wp2_with fail
      refine (gran_Valid _ _ _).mono ?_
      rintro e w2 ⟨rfl, hb2⟩
      have hB2 : Below w.heap.size w w2 := below_chain (below_alloc (hB1) _) hb2
      have hz2 := hb2.size
      simp only [World.size_alloc] at hz2
      have hl2_0 : w.heap.size < w2.heap.size := by omega
      have hm2_0 : w.heap.size ≤ w2.heap.size := by omega
      have hl2_1 : w.heap.size + 1 < w2.heap.size := by omega
      have hm2_1 : w.heap.size + 1 ≤ w2.heap.size := by omega
      have hl2_2 : w1.heap.size < w2.heap.size := by omega
      have hm2_2 : w1.heap.size ≤ w2.heap.size := by omega
      obtain ⟨hc2, hf2⟩ := bcell hb2
      clear hb2
      go_wp2_with fail
      go_ret3
      exact ⟨by rw [← HV.out]; unfold cv1 cv2; rw [HF.out]; rfl, hB2⟩
    | true =>
      have HF := Lib.hid (show cvB k s i k2 s2 = true by unfold cvB; rw [hg, hs]; rfl)
      have HG := Lib.hid hg
      have hB0 : Below w.heap.size w w := Below.refl _ _
      go_enter Try.func19, Try.ntmps19
      go_wp2_with fail
      refine (gran_Span _ _ _ _).mono ?_
      rintro e w1 ⟨rfl, hb1⟩
      have hB1 : Below w.heap.size w w1 := below_chain (below_alloc (below_alloc (hB0) _) _) hb1
      have hz1 := hb1.size
      simp only [World.size_alloc] at hz1
      have hl1_0 : w.heap.size < w1.heap.size := by omega
      have hm1_0 : w.heap.size ≤ w1.heap.size := by omega
      have hl1_1 : w.heap.size + 1 < w1.heap.size := by omega
      have hm1_1 : w.heap.size + 1 ≤ w1.heap.size := by omega
      obtain ⟨hc1, hf1⟩ := bcell hb1
      clear hb1
      go_wp2_with fail
      refine (gran_Valid _ _ _).mono ?_
      rintro e w2 ⟨rfl, hb2⟩
      have hB2 : Below w.heap.size w w2 := below_chain (below_alloc (hB1) _) hb2
      have hz2 := hb2.size
      simp only [World.size_alloc] at hz2
      have hl2_0 : w.heap.size < w2.heap.size := by omega
      have hm2_0 : w.heap.size ≤ w2.heap.size := by omega
      have hl2_1 : w.heap.size + 1 < w2.heap.size := by omega
      have hm2_1 : w.heap.size + 1 ≤ w2.heap.size := by omega
      have hl2_2 : w1.heap.size < w2.heap.size := by omega
      have hm2_2 : w1.heap.size ≤ w2.heap.size := by omega
      obtain ⟨hc2, hf2⟩ := bcell hb2
      clear hb2
      go_wp2_with fail
      have hi2_0 : w2.cell? ⟨w.heap.size + 1, 0, none⟩ = some (.int .i64 k2) := by go_simp
      have hi2_1 : w2.cell? ⟨w.heap.size + 1, 1, none⟩ = some (.int .i64 s2) := by go_simp
      have hi2_2 : w2.cell? ⟨w1.heap.size, 0, none⟩ = some (.int .i64 (spF k s i)) := by go_simp
      have hi2_3 : w2.cell? ⟨w1.heap.size, 1, none⟩ = some (.int .i64 (spT k s i)) := by go_simp
      have KEEP2 := Lib.hid (show ∀ W1 W2 : World, (W1.cell? ⟨w.heap.size + 1, 0, none⟩ = some (.int .i64 k2) ∧ W1.cell? ⟨w.heap.size + 1, 1, none⟩ = some (.int .i64 s2) ∧ W1.cell? ⟨w1.heap.size, 0, none⟩ = some (.int .i64 (spF k s i)) ∧ W1.cell? ⟨w1.heap.size, 1, none⟩ = some (.int .i64 (spT k s i)) ∧ w2.heap.size ≤ W1.heap.size ∧ Below w.heap.size w W1) → Below W1.heap.size W1 W2 → (W2.cell? ⟨w.heap.size + 1, 0, none⟩ = some (.int .i64 k2) ∧ W2.cell? ⟨w.heap.size + 1, 1, none⟩ = some (.int .i64 s2) ∧ W2.cell? ⟨w1.heap.size, 0, none⟩ = some (.int .i64 (spF k s i)) ∧ W2.cell? ⟨w1.heap.size, 1, none⟩ = some (.int .i64 (spT k s i)) ∧ w2.heap.size ≤ W2.heap.size ∧ Below w.heap.size w W2) from fun W1 W2 ⟨a0, a1, a2, a3, hs, hB⟩ hb => ⟨(hb.cell (p := ⟨w.heap.size + 1, 0, none⟩) (show w.heap.size + 1 < W1.heap.size by omega)).trans a0, (hb.cell (p := ⟨w.heap.size + 1, 1, none⟩) (show w.heap.size + 1 < W1.heap.size by omega)).trans a1, (hb.cell (p := ⟨w1.heap.size, 0, none⟩) (show w1.heap.size < W1.heap.size by omega)).trans a2, (hb.cell (p := ⟨w1.heap.size, 1, none⟩) (show w1.heap.size < W1.heap.size by omega)).trans a3, Nat.le_trans hs hb.size, hB.trans (hb.mono hB.size)⟩)
      have INIT2 := Lib.hid (show (w2.drew.cell? ⟨w.heap.size + 1, 0, none⟩ = some (.int .i64 k2) ∧ w2.drew.cell? ⟨w.heap.size + 1, 1, none⟩ = some (.int .i64 s2) ∧ w2.drew.cell? ⟨w1.heap.size, 0, none⟩ = some (.int .i64 (spF k s i)) ∧ w2.drew.cell? ⟨w1.heap.size, 1, none⟩ = some (.int .i64 (spT k s i)) ∧ w2.heap.size ≤ w2.drew.heap.size ∧ Below w.heap.size w w2.drew) from ⟨hi2_0, hi2_1, hi2_2, hi2_3, Nat.le_refl _, hB2.drew⟩)
      have hwr : IntKind.i64.wrap (spT k s i - 1) = spT k s i - 1 := IntWalk.i64_in _ (by omega)
      go_region_held3 (fun w' => (w'.cell? ⟨w.heap.size + 1, 0, none⟩ = some (.int .i64 k2) ∧ w'.cell? ⟨w.heap.size + 1, 1, none⟩ = some (.int .i64 s2) ∧ w'.cell? ⟨w1.heap.size, 0, none⟩ = some (.int .i64 (spF k s i)) ∧ w'.cell? ⟨w1.heap.size, 1, none⟩ = some (.int .i64 (spT k s i)) ∧ w2.heap.size ≤ w'.heap.size ∧ Below w.heap.size w w')) (first | exact INIT2.out | exact KEEP2.out _ _ (by assumption) (by assumption) | exact ⟨by assumption, by assumption, by assumption, by assumption, by assumption, by assumption⟩)
        (first | (go_at_call 25; refine (gran_index k2 s2 _ _ HG.out (by omega) (by omega)).mono ?_; rintro e w9 ⟨rfl, hb9⟩))
      obtain ⟨hr2_0, hr2_1, hr2_2, hr2_3, hsz2, hBr2⟩ := ‹_ ∧ _›
      clear hwr
      go_wp2
      go_ret3
      exact ⟨by rw [← HV.out]; unfold cv1 cv2; rw [HF.out, if_pos rfl, if_pos rfl]; rfl, hBr2⟩

set_option maxRecDepth 100000 in
set_option maxHeartbeats 4000000 in
theorem ref_Covering (k s i k2 s2 : Int) (w : World) : Calls Try.prog 20 #[.agg #[.int .i64 k, .int .i64 s], .int .i64 i, .agg #[.int .i64 k2, .int .i64 s2]] w (fun e w' => e = .returned (.tuple #[.int .i64 (cv1 k s i k2 s2), .int .i64 (cv2 k s i k2 s2), .bool (cvB k s i k2 s2)]) ∧ Below w.heap.size w w') := by
  generalize hv : (Value.tuple #[.int .i64 (cv1 k s i k2 s2), .int .i64 (cv2 k s i k2 s2), .bool (cvB k s i k2 s2)]) = V
  have HV := Lib.hid hv
  clear hv
  cases hs : spB k s i with
  | false =>
    have HF := Lib.hid (show cvB k s i k2 s2 = false by unfold cvB; rw [hs]; rfl)
    have hB0 : Below w.heap.size w w := Below.refl _ _
    go_enter Try.func20, Try.ntmps20
    go_wp2_with fail
    refine (ref_Span _ _ _ _).mono ?_
    rintro e w1 ⟨rfl, hb1⟩
    have hB1 : Below w.heap.size w w1 := below_chain (below_alloc (below_alloc (hB0) _) _) hb1
    have hz1 := hb1.size
    simp only [World.size_alloc] at hz1
    have hl1_0 : w.heap.size < w1.heap.size := by omega
    have hm1_0 : w.heap.size ≤ w1.heap.size := by omega
    have hl1_1 : w.heap.size + 1 < w1.heap.size := by omega
    have hm1_1 : w.heap.size + 1 ≤ w1.heap.size := by omega
    obtain ⟨hc1, hf1⟩ := bcell hb1
    clear hb1
    go_wp2_with fail
    go_ret3
    exact ⟨by rw [← HV.out]; unfold cv1 cv2; rw [HF.out]; rfl, below_alloc hB1 _⟩
  | true =>
    obtain ⟨b1, b2, b3, b4⟩ := sp_bounds hs
    cases hg : Gr.vg k2 s2 with
    | false =>
      have HF := Lib.hid (show cvB k s i k2 s2 = false by unfold cvB; rw [hg]; simp)
      have hB0 : Below w.heap.size w w := Below.refl _ _
      go_enter Try.func20, Try.ntmps20
      go_wp2_with fail
      refine (ref_Span _ _ _ _).mono ?_
      rintro e w1 ⟨rfl, hb1⟩
      have hB1 : Below w.heap.size w w1 := below_chain (below_alloc (below_alloc (hB0) _) _) hb1
      have hz1 := hb1.size
      simp only [World.size_alloc] at hz1
      have hl1_0 : w.heap.size < w1.heap.size := by omega
      have hm1_0 : w.heap.size ≤ w1.heap.size := by omega
      have hl1_1 : w.heap.size + 1 < w1.heap.size := by omega
      have hm1_1 : w.heap.size + 1 ≤ w1.heap.size := by omega
      obtain ⟨hc1, hf1⟩ := bcell hb1
      clear hb1
      go_wp2_with fail
      refine (ref_ValidGranularity _ _ _).mono ?_
      rintro e w2 ⟨rfl, hb2⟩
      have hB2 : Below w.heap.size w w2 := below_chain (below_alloc (hB1) _) hb2
      have hz2 := hb2.size
      simp only [World.size_alloc] at hz2
      have hl2_0 : w.heap.size < w2.heap.size := by omega
      have hm2_0 : w.heap.size ≤ w2.heap.size := by omega
      have hl2_1 : w.heap.size + 1 < w2.heap.size := by omega
      have hm2_1 : w.heap.size + 1 ≤ w2.heap.size := by omega
      have hl2_2 : w1.heap.size < w2.heap.size := by omega
      have hm2_2 : w1.heap.size ≤ w2.heap.size := by omega
      obtain ⟨hc2, hf2⟩ := bcell hb2
      clear hb2
      go_wp2_with fail
      go_ret3
      exact ⟨by rw [← HV.out]; unfold cv1 cv2; rw [HF.out]; rfl, hB2⟩
    | true =>
      have HF := Lib.hid (show cvB k s i k2 s2 = true by unfold cvB; rw [hg, hs]; rfl)
      have HG := Lib.hid hg
      have io1 : ioB k2 s2 (spF k s i) = true := by unfold ioB; rw [hg, (Cal.isDay_iff _).2 ⟨b1, b2⟩]; rfl
      have io2 : ioB k2 s2 (spT k s i - 1) = true := by unfold ioB; rw [hg, (Cal.isDay_iff _).2 ⟨by omega, by omega⟩]; rfl
      have io3 := Lib.hid (show ioN k2 s2 (spF k s i) = Gr.idx k2 s2 (spF k s i) by unfold ioN; rw [if_pos io1])
      have io4 := Lib.hid (show ioN k2 s2 (spT k s i - 1) = Gr.idx k2 s2 (spT k s i - 1) by unfold ioN; rw [if_pos io2])
      have hB0 : Below w.heap.size w w := Below.refl _ _
      go_enter Try.func20, Try.ntmps20
      go_wp2_with fail
      refine (ref_Span _ _ _ _).mono ?_
      rintro e w1 ⟨rfl, hb1⟩
      have hB1 : Below w.heap.size w w1 := below_chain (below_alloc (below_alloc (hB0) _) _) hb1
      have hz1 := hb1.size
      simp only [World.size_alloc] at hz1
      have hl1_0 : w.heap.size < w1.heap.size := by omega
      have hm1_0 : w.heap.size ≤ w1.heap.size := by omega
      have hl1_1 : w.heap.size + 1 < w1.heap.size := by omega
      have hm1_1 : w.heap.size + 1 ≤ w1.heap.size := by omega
      obtain ⟨hc1, hf1⟩ := bcell hb1
      clear hb1
      go_wp2_with fail
      refine (ref_ValidGranularity _ _ _).mono ?_
      rintro e w2 ⟨rfl, hb2⟩
      have hB2 : Below w.heap.size w w2 := below_chain (below_alloc (hB1) _) hb2
      have hz2 := hb2.size
      simp only [World.size_alloc] at hz2
      have hl2_0 : w.heap.size < w2.heap.size := by omega
      have hm2_0 : w.heap.size ≤ w2.heap.size := by omega
      have hl2_1 : w.heap.size + 1 < w2.heap.size := by omega
      have hm2_1 : w.heap.size + 1 ≤ w2.heap.size := by omega
      have hl2_2 : w1.heap.size < w2.heap.size := by omega
      have hm2_2 : w1.heap.size ≤ w2.heap.size := by omega
      obtain ⟨hc2, hf2⟩ := bcell hb2
      clear hb2
      go_wp2_with fail
      refine (ref_IndexOf _ _ _ _).mono ?_
      rintro e w3 ⟨rfl, hb3⟩
      have hB3 : Below w.heap.size w w3 := below_chain (hB2) hb3
      have hz3 := hb3.size
      have hl3_0 : w.heap.size < w3.heap.size := by omega
      have hm3_0 : w.heap.size ≤ w3.heap.size := by omega
      have hl3_1 : w.heap.size + 1 < w3.heap.size := by omega
      have hm3_1 : w.heap.size + 1 ≤ w3.heap.size := by omega
      have hl3_2 : w1.heap.size < w3.heap.size := by omega
      have hm3_2 : w1.heap.size ≤ w3.heap.size := by omega
      obtain ⟨hc3, hf3⟩ := bcell hb3
      clear hb3
      go_wp2_with fail
      refine (ref_IndexOf _ _ _ _).mono ?_
      rintro e w4 ⟨rfl, hb4⟩
      have hB4 : Below w.heap.size w w4 := below_chain (hB3) hb4
      have hz4 := hb4.size
      have hl4_0 : w.heap.size < w4.heap.size := by omega
      have hm4_0 : w.heap.size ≤ w4.heap.size := by omega
      have hl4_1 : w.heap.size + 1 < w4.heap.size := by omega
      have hm4_1 : w.heap.size + 1 ≤ w4.heap.size := by omega
      have hl4_2 : w1.heap.size < w4.heap.size := by omega
      have hm4_2 : w1.heap.size ≤ w4.heap.size := by omega
      obtain ⟨hc4, hf4⟩ := bcell hb4
      clear hb4
      go_wp2_with fail
      go_ret3
      exact ⟨by rw [← HV.out]; unfold cv1 cv2; rw [HF.out, if_pos rfl, if_pos rfl, ← io3.out, ← io4.out]; rfl, hB4⟩

set_option maxRecDepth 100000 in
set_option maxHeartbeats 2000000 in
theorem covering_walk (k s i k2 s2 : Int) (w : World) : Calls Try.prog 8 #[.agg #[.int .i64 k, .int .i64 s], .int .i64 i, .agg #[.int .i64 k2, .int .i64 s2]] w (Holds w) := by
  have hB0 : Below w.heap.size w w := Below.refl _ _
  go_enter Try.func8, Try.ntmps8
  go_wp2_with fail
  refine (gran_Covering _ _ _ _ _ _).mono ?_
  rintro e w1 ⟨rfl, hb1⟩
  have hB1 : Below w.heap.size w w1 := below_chain (below_alloc (below_alloc (hB0) _) _) hb1
  have hz1 := hb1.size
  simp only [World.size_alloc] at hz1
  have hl1_0 : w.heap.size < w1.heap.size := by omega
  have hm1_0 : w.heap.size ≤ w1.heap.size := by omega
  have hl1_1 : w.heap.size + 1 < w1.heap.size := by omega
  have hm1_1 : w.heap.size + 1 ≤ w1.heap.size := by omega
  obtain ⟨hc1, hf1⟩ := bcell hb1
  clear hb1
  go_wp2_with fail
  refine (ref_Covering _ _ _ _ _ _).mono ?_
  rintro e w2 ⟨rfl, hb2⟩
  have hB2 : Below w.heap.size w w2 := below_chain (hB1) hb2
  have hz2 := hb2.size
  have hl2_0 : w.heap.size < w2.heap.size := by omega
  have hm2_0 : w.heap.size ≤ w2.heap.size := by omega
  have hl2_1 : w.heap.size + 1 < w2.heap.size := by omega
  have hm2_1 : w.heap.size + 1 ≤ w2.heap.size := by omega
  obtain ⟨hc2, hf2⟩ := bcell hb2
  clear hb2
  go_wp2_with fail
  refine (awake_any _).mono ?_
  rintro e w3 ⟨rfl, hb3⟩
  have hB3 : Below w.heap.size w w3 := below_chain (hB2) hb3
  have hz3 := hb3.size
  have hl3_0 : w.heap.size < w3.heap.size := by omega
  have hm3_0 : w.heap.size ≤ w3.heap.size := by omega
  have hl3_1 : w.heap.size + 1 < w3.heap.size := by omega
  have hm3_1 : w.heap.size + 1 ≤ w3.heap.size := by omega
  obtain ⟨hc3, hf3⟩ := bcell hb3
  clear hb3
  go_wp2_with fail
  go_ret
  exact ⟨ret_bool (by first | rfl | (simp; done) | (simp; omega)), hB3⟩

set_option maxRecDepth 100000 in
set_option maxHeartbeats 4000000 in
theorem monotone_walk (k s n : Int) (w : World) : Calls Try.prog 6 #[.agg #[.int .i64 k, .int .i64 s], .int .i64 n] w (Holds w) := by
  cases hg : Gr.vg k s with
  | false =>
    have hB0 : Below w.heap.size w w := Below.refl _ _
    go_enter Try.func6, Try.ntmps6
    go_wp2_with fail
    refine (ref_ValidGranularity _ _ _).mono ?_
    rintro e w1 ⟨rfl, hb1⟩
    have hB1 : Below w.heap.size w w1 := below_chain (below_alloc (hB0) _) hb1
    have hz1 := hb1.size
    simp only [World.size_alloc] at hz1
    have hl1_0 : w.heap.size < w1.heap.size := by omega
    have hm1_0 : w.heap.size ≤ w1.heap.size := by omega
    obtain ⟨hc1, hf1⟩ := bcell hb1
    clear hb1
    go_wp2_with fail
    refine (awake_any _).mono ?_
    rintro e w2 ⟨rfl, hb2⟩
    have hB2 : Below w.heap.size w w2 := below_chain (hB1) hb2
    have hz2 := hb2.size
    have hl2_0 : w.heap.size < w2.heap.size := by omega
    have hm2_0 : w.heap.size ≤ w2.heap.size := by omega
    obtain ⟨hc2, hf2⟩ := bcell hb2
    clear hb2
    go_wp2_with fail
    go_ret
    exact ⟨ret_bool (by first | rfl | (simp; done) | (simp; omega)), hB2⟩
  | true =>
    by_cases h0 : n < 0
    · have hB0 : Below w.heap.size w w := Below.refl _ _
      go_enter Try.func6, Try.ntmps6
      go_wp2_with fail
      refine (ref_ValidGranularity _ _ _).mono ?_
      rintro e w1 ⟨rfl, hb1⟩
      have hB1 : Below w.heap.size w w1 := below_chain (below_alloc (hB0) _) hb1
      have hz1 := hb1.size
      simp only [World.size_alloc] at hz1
      have hl1_0 : w.heap.size < w1.heap.size := by omega
      have hm1_0 : w.heap.size ≤ w1.heap.size := by omega
      obtain ⟨hc1, hf1⟩ := bcell hb1
      clear hb1
      go_wp2_with fail
      refine (awake_any _).mono ?_
      rintro e w2 ⟨rfl, hb2⟩
      have hB2 : Below w.heap.size w w2 := below_chain (hB1) hb2
      have hz2 := hb2.size
      have hl2_0 : w.heap.size < w2.heap.size := by omega
      have hm2_0 : w.heap.size ≤ w2.heap.size := by omega
      obtain ⟨hc2, hf2⟩ := bcell hb2
      clear hb2
      go_wp2_with fail
      go_ret
      exact ⟨ret_bool (by first | rfl | (simp; done) | (simp; omega)), hB2⟩
    by_cases h1 : 999999 ≤ n
    · have hB0 : Below w.heap.size w w := Below.refl _ _
      go_enter Try.func6, Try.ntmps6
      go_wp2_with fail
      refine (ref_ValidGranularity _ _ _).mono ?_
      rintro e w1 ⟨rfl, hb1⟩
      have hB1 : Below w.heap.size w w1 := below_chain (below_alloc (hB0) _) hb1
      have hz1 := hb1.size
      simp only [World.size_alloc] at hz1
      have hl1_0 : w.heap.size < w1.heap.size := by omega
      have hm1_0 : w.heap.size ≤ w1.heap.size := by omega
      obtain ⟨hc1, hf1⟩ := bcell hb1
      clear hb1
      go_wp2_with fail
      refine (awake_any _).mono ?_
      rintro e w2 ⟨rfl, hb2⟩
      have hB2 : Below w.heap.size w w2 := below_chain (hB1) hb2
      have hz2 := hb2.size
      have hl2_0 : w.heap.size < w2.heap.size := by omega
      have hm2_0 : w.heap.size ≤ w2.heap.size := by omega
      obtain ⟨hc2, hf2⟩ := bcell hb2
      clear hb2
      go_wp2_with fail
      go_ret
      exact ⟨ret_bool (by first | rfl | (simp; done) | (simp; omega)), hB2⟩
    obtain ⟨i0, i1⟩ := Gr.idx_bd (n := n) hg (by omega) (by omega)
    have hst := Gr.idx_step (n := n) hg (by omega) (by omega)
    have hk1 : k = 1 → Gr.idx k s (n + 1) = Gr.idx k s n + 1 := fun h => by subst h; rw [(Gr.idx_k s n).1, (Gr.idx_k s (n + 1)).1]
    have e1 : ioB k s n = true := by unfold ioB; rw [hg, (Cal.isDay_iff _).2 ⟨by omega, by omega⟩]; rfl
    have e2 : ioB k s (n + 1) = true := by unfold ioB; rw [hg, (Cal.isDay_iff _).2 ⟨by omega, by omega⟩]; rfl
    have e3 : ioN k s n = Gr.idx k s n := by unfold ioN; rw [if_pos e1]
    have e4 : ioN k s (n + 1) = Gr.idx k s (n + 1) := by unfold ioN; rw [if_pos e2]
    generalize Gr.idx k s n = i at *
    generalize Gr.idx k s (n + 1) = j at *
    rcases hst with hst | hst
    · subst hst
      have hk : (k != 1) = true := by rw [bne_iff_ne]; intro h; have := hk1 h; omega
      clear hk1
      have hB0 : Below w.heap.size w w := Below.refl _ _
      go_enter Try.func6, Try.ntmps6
      go_wp2_with fail
      refine (ref_ValidGranularity _ _ _).mono ?_
      rintro e w1 ⟨rfl, hb1⟩
      have hB1 : Below w.heap.size w w1 := below_chain (below_alloc (hB0) _) hb1
      have hz1 := hb1.size
      simp only [World.size_alloc] at hz1
      have hl1_0 : w.heap.size < w1.heap.size := by omega
      have hm1_0 : w.heap.size ≤ w1.heap.size := by omega
      obtain ⟨hc1, hf1⟩ := bcell hb1
      clear hb1
      go_wp2_with fail
      refine (gran_IndexOf _ _ _ _).mono ?_
      rintro e w2 ⟨rfl, hb2⟩
      have hB2 : Below w.heap.size w w2 := below_chain (hB1) hb2
      have hz2 := hb2.size
      have hl2_0 : w.heap.size < w2.heap.size := by omega
      have hm2_0 : w.heap.size ≤ w2.heap.size := by omega
      obtain ⟨hc2, hf2⟩ := bcell hb2
      clear hb2
      go_wp2_with fail
      refine (gran_IndexOf _ _ _ _).mono ?_
      rintro e w3 ⟨rfl, hb3⟩
      have hB3 : Below w.heap.size w w3 := below_chain (hB2) hb3
      have hz3 := hb3.size
      have hl3_0 : w.heap.size < w3.heap.size := by omega
      have hm3_0 : w.heap.size ≤ w3.heap.size := by omega
      obtain ⟨hc3, hf3⟩ := bcell hb3
      clear hb3
      go_wp2_with fail
      refine (awake_any _).mono ?_
      rintro e w4 ⟨rfl, hb4⟩
      have hB4 : Below w.heap.size w w4 := below_chain (hB3) hb4
      have hz4 := hb4.size
      have hl4_0 : w.heap.size < w4.heap.size := by omega
      have hm4_0 : w.heap.size ≤ w4.heap.size := by omega
      obtain ⟨hc4, hf4⟩ := bcell hb4
      clear hb4
      go_wp2_with fail
      go_ret
      exact ⟨ret_bool (by first | rfl | (simp; done) | (simp; omega)), hB4⟩
    · subst hst
      clear hk1
      by_cases hk : k = 1
      · subst hk
        have hB0 : Below w.heap.size w w := Below.refl _ _
        go_enter Try.func6, Try.ntmps6
        go_wp2_with fail
        refine (ref_ValidGranularity _ _ _).mono ?_
        rintro e w1 ⟨rfl, hb1⟩
        have hB1 : Below w.heap.size w w1 := below_chain (below_alloc (hB0) _) hb1
        have hz1 := hb1.size
        simp only [World.size_alloc] at hz1
        have hl1_0 : w.heap.size < w1.heap.size := by omega
        have hm1_0 : w.heap.size ≤ w1.heap.size := by omega
        obtain ⟨hc1, hf1⟩ := bcell hb1
        clear hb1
        go_wp2_with fail
        refine (gran_IndexOf _ _ _ _).mono ?_
        rintro e w2 ⟨rfl, hb2⟩
        have hB2 : Below w.heap.size w w2 := below_chain (hB1) hb2
        have hz2 := hb2.size
        have hl2_0 : w.heap.size < w2.heap.size := by omega
        have hm2_0 : w.heap.size ≤ w2.heap.size := by omega
        obtain ⟨hc2, hf2⟩ := bcell hb2
        clear hb2
        go_wp2_with fail
        refine (gran_IndexOf _ _ _ _).mono ?_
        rintro e w3 ⟨rfl, hb3⟩
        have hB3 : Below w.heap.size w w3 := below_chain (hB2) hb3
        have hz3 := hb3.size
        have hl3_0 : w.heap.size < w3.heap.size := by omega
        have hm3_0 : w.heap.size ≤ w3.heap.size := by omega
        obtain ⟨hc3, hf3⟩ := bcell hb3
        clear hb3
        go_wp2_with fail
        refine (awake_any _).mono ?_
        rintro e w4 ⟨rfl, hb4⟩
        have hB4 : Below w.heap.size w w4 := below_chain (hB3) hb4
        have hz4 := hb4.size
        have hl4_0 : w.heap.size < w4.heap.size := by omega
        have hm4_0 : w.heap.size ≤ w4.heap.size := by omega
        obtain ⟨hc4, hf4⟩ := bcell hb4
        clear hb4
        go_wp2_with fail
        go_ret
        exact ⟨ret_bool (by first | rfl | (simp; done) | (simp; omega)), hB4⟩
      · have hk : (k != 1) = true := by rw [bne_iff_ne]; exact hk
        have hB0 : Below w.heap.size w w := Below.refl _ _
        go_enter Try.func6, Try.ntmps6
        go_wp2_with fail
        refine (ref_ValidGranularity _ _ _).mono ?_
        rintro e w1 ⟨rfl, hb1⟩
        have hB1 : Below w.heap.size w w1 := below_chain (below_alloc (hB0) _) hb1
        have hz1 := hb1.size
        simp only [World.size_alloc] at hz1
        have hl1_0 : w.heap.size < w1.heap.size := by omega
        have hm1_0 : w.heap.size ≤ w1.heap.size := by omega
        obtain ⟨hc1, hf1⟩ := bcell hb1
        clear hb1
        go_wp2_with fail
        refine (gran_IndexOf _ _ _ _).mono ?_
        rintro e w2 ⟨rfl, hb2⟩
        have hB2 : Below w.heap.size w w2 := below_chain (hB1) hb2
        have hz2 := hb2.size
        have hl2_0 : w.heap.size < w2.heap.size := by omega
        have hm2_0 : w.heap.size ≤ w2.heap.size := by omega
        obtain ⟨hc2, hf2⟩ := bcell hb2
        clear hb2
        go_wp2_with fail
        refine (gran_IndexOf _ _ _ _).mono ?_
        rintro e w3 ⟨rfl, hb3⟩
        have hB3 : Below w.heap.size w w3 := below_chain (hB2) hb3
        have hz3 := hb3.size
        have hl3_0 : w.heap.size < w3.heap.size := by omega
        have hm3_0 : w.heap.size ≤ w3.heap.size := by omega
        obtain ⟨hc3, hf3⟩ := bcell hb3
        clear hb3
        go_wp2_with fail
        refine (awake_any _).mono ?_
        rintro e w4 ⟨rfl, hb4⟩
        have hB4 : Below w.heap.size w w4 := below_chain (hB3) hb4
        have hz4 := hb4.size
        have hl4_0 : w.heap.size < w4.heap.size := by omega
        have hm4_0 : w.heap.size ≤ w4.heap.size := by omega
        obtain ⟨hc4, hf4⟩ := bcell hb4
        clear hb4
        go_wp2_with fail
        go_ret
        exact ⟨ret_bool (by first | rfl | (simp; done) | (simp; omega)), hB4⟩

end Go.Proofs.Ytgimfajanmmkfaa
