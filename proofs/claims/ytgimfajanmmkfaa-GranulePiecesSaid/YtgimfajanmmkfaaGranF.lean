/-
  The walks of the laws on granules.
-/
import Derived.Test.YtgimfajanmmkfaaGranE
import Derived.Test.YtgimfajanmmkfaaFrame
namespace Go.Proofs.Ytgimfajanmmkfaa
open Go.RowKit

theorem td_small (n : Int) (h : 0 ≤ n ∧ n ≤ 2) : Cal.tdY n = 1600 := by
  have hi : Cal.isDay n = true := (Cal.isDay_iff n).2 (by omega)
  have hc : n = 0 ∨ n = 1 ∨ n = 2 := by omega
  rcases hc with rfl | rfl | rfl
  · exact (Cal.td_of (y := 1600) (m := 1) (d := 1) hi ⟨by omega, by omega, by omega, by omega, by decide⟩ (by decide)).1
  · exact (Cal.td_of (y := 1600) (m := 1) (d := 2) hi ⟨by omega, by omega, by omega, by omega, by decide⟩ (by decide)).1
  · exact (Cal.td_of (y := 1600) (m := 1) (d := 3) hi ⟨by omega, by omega, by omega, by omega, by decide⟩ (by decide)).1

theorem wk_small (n : Int) (h : 0 ≤ n ∧ n ≤ 2) : Gr.idx 2 0 n = if 2 ≤ n then 1 else 0 := by
  rw [(Gr.idx_k 0 n).2.1]
  unfold Gr.wk
  rw [td_small n h]
  have hc : n = 0 ∨ n = 1 ∨ n = 2 := by omega
  rcases hc with rfl | rfl | rfl <;> simp [Gr.yc]

theorem awake_facts : spB 2 0 0 = true ∧ spF 2 0 0 = 0 ∧ spT 2 0 0 = 2 ∧ ioB 5 4 100 = true ∧ ioN 5 4 100 = 1 ∧ Gr.vg 0 0 = false := by
  have hv : Gr.vg 2 0 = true := by decide
  have h0 := wk_small 0 (by omega)
  have h1 := wk_small 1 (by omega)
  have h2 := wk_small 2 (by omega)
  have hm := (Gr.idx_mono (k := 2) (s := 0) (a := 0) (b := 999999) hv (by omega) (by omega) (by omega)).1
  rw [Gr.idx_zero hv] at hm
  have hs : spB 2 0 0 = true := (spB_iff 2 0 0).2 ⟨hv, by omega, hm⟩
  have hf : Gr.fs 2 0 1 = 2 := Gr.fs_eq ⟨by omega, by omega, fun n a b => by
    have hc : n = 0 ∨ n = 1 := by omega
    rcases hc with rfl | rfl
    · rw [h0]; decide
    · rw [h1]; decide, fun _ => by rw [h2]; decide⟩
  have hi : Cal.isDay 100 = true := by decide
  obtain ⟨t1, t2, t3⟩ := Cal.td_of (y := 1600) (m := 4) (d := 10) hi ⟨by omega, by omega, by omega, by omega, by decide⟩ (by decide)
  have hb : ioB 5 4 100 = true := by unfold ioB; rw [hi]; decide
  refine ⟨hs, by rw [(sp_yes hs).1, Gr.fs_zero hv (by omega)], by rw [(sp_yes hs).2]; exact hf, hb, ?_, by decide⟩
  unfold ioN
  rw [if_pos hb, (Gr.idx_k 4 100).2.2.2.1]
  have hk : Gr.mk 100 = 3 := by unfold Gr.mk; rw [t1, t2]; rfl
  rw [hk]; decide

theorem below_chain {w w1 w2 : World} (h : Below w.heap.size w w1) (hb : Below w1.heap.size w1 w2) : Below w.heap.size w w2 := h.trans (hb.mono h.size)

set_option maxRecDepth 100000 in
set_option maxHeartbeats 1000000 in
theorem awake_any (w : World) : Calls Try.prog 13 #[] w (Holds w) := by
  obtain ⟨f1, f2, f3, f4, f5, f6⟩ := awake_facts
  go_enter Try.func13, Try.ntmps13
  go_wp2_with (first | (go_at_call 16; refine (gran_Span _ _ _ _).mono ?_; rintro e w1 ⟨rfl, hb⟩; obtain ⟨hc, hf⟩ := bcell hb) | (go_at_call 11; refine (gran_IndexOf _ _ _ _).mono ?_; rintro e w2 ⟨rfl, hb2⟩; obtain ⟨hc2, hf2⟩ := bcell hb2) | (go_at_call 14; refine (gran_Valid _ _ _).mono ?_; rintro e w3 ⟨rfl, hb3⟩))
  go_ret
  exact ⟨rfl, below_chain (below_chain hb (below_new hb2)) hb3⟩

theorem below_alloc {w w1 : World} (h : Below w.heap.size w w1) (o : Obj) : Below w.heap.size w (w1.alloc o) := h.alloc h.size o

set_option maxRecDepth 100000 in
set_option maxHeartbeats 2000000 in
theorem index_walk (k s n : Int) (w : World) : Calls Try.prog 3 #[.agg #[.int .i64 k, .int .i64 s], .int .i64 n] w (Holds w) := by
  have KEEP := Lib.hid (show ∀ W1 W2 : World, (W1.cell? ⟨w.heap.size, 0, none⟩ = some (.int .i64 k) ∧ W1.cell? ⟨w.heap.size, 1, none⟩ = some (.int .i64 s) ∧ Sp1 w W1 k s) → Below W1.heap.size W1 W2 →
    (W2.cell? ⟨w.heap.size, 0, none⟩ = some (.int .i64 k) ∧ W2.cell? ⟨w.heap.size, 1, none⟩ = some (.int .i64 s) ∧ Sp1 w W2 k s) from fun W1 W2 ⟨_, _, h⟩ hb => ⟨(h.keep hb).c0, (h.keep hb).c1, h.keep hb⟩)
  have H1 := Lib.hid (sp1_at w k s 23)
  go_enter Try.func3, Try.ntmps3
  go_wp2_with (first | (go_at_call 11; refine (gran_IndexOf _ _ _ _).mono ?_; rintro e w1 ⟨rfl, hb⟩; have H2 := H1.out.keep hb; obtain ⟨c0, c1, sz, bl⟩ := H2) | (go_at_call 12; refine (ref_IndexOf _ _ _ _).mono ?_; rintro e w2 ⟨rfl, hb2⟩; have H3 := (Sp1.mk c0 c1 sz bl).keep hb2; obtain ⟨d0, d1, sz2, bl2⟩ := H3))
  have INIT := Lib.hid (show (w2.drew.cell? ⟨w.heap.size, 0, none⟩ = some (.int .i64 k) ∧ w2.drew.cell? ⟨w.heap.size, 1, none⟩ = some (.int .i64 s) ∧ Sp1 w w2.drew k s) from ⟨d0, d1, (Sp1.mk d0 d1 sz2 bl2).keep ((Below.refl _ _).drew)⟩)
  go_region_held3 (fun w' => w'.cell? ⟨w.heap.size, 0, none⟩ = some (.int .i64 k) ∧ w'.cell? ⟨w.heap.size, 1, none⟩ = some (.int .i64 s) ∧ Sp1 w w' k s) (first | exact INIT.out | exact KEEP.out _ _ (by assumption) (by assumption) | exact ⟨by assumption, by assumption, by assumption⟩)
    (first | (go_at_call 13; refine (awake_any _).mono ?_; rintro e w4 ⟨rfl, hb4⟩) | (go_at_call 14; refine (gran_Valid k s _).mono ?_; rintro e w4 ⟨rfl, hb4⟩) | (go_at_call 15; refine (ref_ValidGranularity k s _).mono ?_; rintro e w4 ⟨rfl, hb4⟩))
  obtain ⟨_, _, H9⟩ := ‹_ ∧ _›
  go_wp2
  go_ret
  exact ⟨rfl, H9.bl⟩

set_option maxRecDepth 100000 in
set_option maxHeartbeats 2000000 in
theorem span_walk (k s i : Int) (w : World) : Calls Try.prog 4 #[.agg #[.int .i64 k, .int .i64 s], .int .i64 i] w (Holds w) := by
  have hB0 : Below w.heap.size w w := Below.refl _ _
  go_enter Try.func4, Try.ntmps4
  go_wp2_with fail
  refine (gran_Span _ _ _ _).mono ?_
  rintro e w1 ⟨rfl, hb1⟩
  have hB1 : Below w.heap.size w w1 := below_chain (below_alloc (hB0) _) hb1
  have hz1 := hb1.size
  simp only [World.size_alloc] at hz1
  have hl1_0 : w.heap.size < w1.heap.size := by omega
  have hm1_0 : w.heap.size ≤ w1.heap.size := by omega
  obtain ⟨hc1, hf1⟩ := bcell hb1
  clear hb1
  go_wp2_with fail
  refine (ref_Span _ _ _ _).mono ?_
  rintro e w2 ⟨rfl, hb2⟩
  have hB2 : Below w.heap.size w w2 := below_chain (below_alloc (hB1) _) hb2
  have hz2 := hb2.size
  simp only [World.size_alloc] at hz2
  have hl2_0 : w.heap.size < w2.heap.size := by omega
  have hm2_0 : w.heap.size ≤ w2.heap.size := by omega
  have hl2_1 : w1.heap.size < w2.heap.size := by omega
  have hm2_1 : w1.heap.size ≤ w2.heap.size := by omega
  obtain ⟨hc2, hf2⟩ := bcell hb2
  clear hb2
  go_wp2_with fail
  refine (awake_any _).mono ?_
  rintro e w3 ⟨rfl, hb3⟩
  have hB3 : Below w.heap.size w w3 := below_chain (below_alloc (hB2) _) hb3
  have hz3 := hb3.size
  simp only [World.size_alloc] at hz3
  have hl3_0 : w.heap.size < w3.heap.size := by omega
  have hm3_0 : w.heap.size ≤ w3.heap.size := by omega
  have hl3_1 : w1.heap.size < w3.heap.size := by omega
  have hm3_1 : w1.heap.size ≤ w3.heap.size := by omega
  have hl3_2 : w2.heap.size < w3.heap.size := by omega
  have hm3_2 : w2.heap.size ≤ w3.heap.size := by omega
  obtain ⟨hc3, hf3⟩ := bcell hb3
  clear hb3
  go_wp2_with fail
  go_ret
  exact ⟨ret_bool (by first | rfl | (simp; done) | (simp; omega)), hB3⟩

set_option maxRecDepth 100000 in
set_option maxHeartbeats 8000000 in
theorem partition_walk (k s n : Int) (w : World) : Calls Try.prog 5 #[.agg #[.int .i64 k, .int .i64 s], .int .i64 n] w (Holds w) := by
  cases hg : Gr.vg k s with
  | false =>
    have hB0 : Below w.heap.size w w := Below.refl _ _
    go_enter Try.func5, Try.ntmps5
    go_wp2_with fail
    refine (ref_ValidGranularity _ _ _).mono ?_
    rintro e w1 ⟨rfl, hb1⟩
    have hB1 : Below w.heap.size w w1 := below_chain (below_alloc (hB0) _) hb1
    have hz1 := hb1.size
    simp only [World.size_alloc] at hz1
    have hl1_0 : w.heap.size < w1.heap.size := by omega
    have hm1_0 : w.heap.size ≤ w1.heap.size := by omega
    obtain ⟨hc1, hf1⟩ := bcell hb1
    clear hb1
    go_wp2_with fail
    refine (awake_any _).mono ?_
    rintro e w2 ⟨rfl, hb2⟩
    have hB2 : Below w.heap.size w w2 := below_chain (hB1) hb2
    have hz2 := hb2.size
    have hl2_0 : w.heap.size < w2.heap.size := by omega
    have hm2_0 : w.heap.size ≤ w2.heap.size := by omega
    obtain ⟨hc2, hf2⟩ := bcell hb2
    clear hb2
    go_wp2_with fail
    go_ret
    exact ⟨ret_bool (by first | rfl | (simp; done) | (simp; omega)), hB2⟩
  | true =>
    cases hd : Cal.isDay n with
    | false =>
      have hB0 : Below w.heap.size w w := Below.refl _ _
      go_enter Try.func5, Try.ntmps5
      go_wp2_with fail
      refine (ref_ValidGranularity _ _ _).mono ?_
      rintro e w1 ⟨rfl, hb1⟩
      have hB1 : Below w.heap.size w w1 := below_chain (below_alloc (hB0) _) hb1
      have hz1 := hb1.size
      simp only [World.size_alloc] at hz1
      have hl1_0 : w.heap.size < w1.heap.size := by omega
      have hm1_0 : w.heap.size ≤ w1.heap.size := by omega
      obtain ⟨hc1, hf1⟩ := bcell hb1
      clear hb1
      go_wp2_with (go_at_call 18; refine (ref_IsDay _ _).mono ?_; rintro e w' ⟨rfl, rfl⟩)
      refine (awake_any _).mono ?_
      rintro e w2 ⟨rfl, hb2⟩
      have hB2 : Below w.heap.size w w2 := below_chain (hB1) hb2
      have hz2 := hb2.size
      have hl2_0 : w.heap.size < w2.heap.size := by omega
      have hm2_0 : w.heap.size ≤ w2.heap.size := by omega
      obtain ⟨hc2, hf2⟩ := bcell hb2
      clear hb2
      go_wp2_with fail
      go_ret
      exact ⟨ret_bool (by first | rfl | (simp; done) | (simp; omega)), hB2⟩
    | true =>
      obtain ⟨n0, n1⟩ := (Cal.isDay_iff n).1 hd
      obtain ⟨i, hi⟩ : ∃ i, i = Gr.idx k s n := ⟨_, rfl⟩
      obtain ⟨i0, i1⟩ := Gr.idx_bd hg n0 n1
      have hmono := (Gr.idx_mono hg n0 (show n ≤ 999999 by omega) (by omega)).1
      obtain ⟨d0, d1⟩ := Gr.fs_day hg n0 n1
      have e1 : ioB k s n = true := by unfold ioB; rw [hg, hd]; rfl
      have e2 : ioN k s n = i := by unfold ioN; rw [if_pos e1, hi]
      rw [← hi] at i0 i1 hmono d0 d1
      have e3 : spB k s i = true := (spB_iff k s i).2 ⟨hg, i0, hmono⟩
      obtain ⟨e4, e5⟩ := sp_yes e3
      have hpos := fun h => Gr.fs_pos (k := k) (s := s) (i := i) hg h
      have hzero := fun h => Gr.fs_zero (k := k) (s := s) (i := i) hg h
      have hge := fun h => Gr.fs_ge (k := k) (s := s) (i := i + 1) hg h
      have hlt := fun h => Gr.fs_lt (k := k) (s := s) (i := i + 1) hg h
      have hB1 := (Gr.fs_spec k s (i + 1)).2.1
      have q1 : 0 < i → spB k s (i - 1) = true ∧ spT k s (i - 1) = Gr.fs k s i := fun h => by
        have := (spB_iff k s (i - 1)).2 ⟨hg, by omega, by omega⟩
        exact ⟨this, by rw [(sp_yes this).2, show i - 1 + 1 = i by omega]⟩
      have q2 : ¬ 0 < i → spB k s (i - 1) = false := fun h => spB_no (fun g => by omega)
      have q3 : i + 1 ≤ Gr.idx k s 999999 → spB k s (i + 1) = true ∧ spF k s (i + 1) = Gr.fs k s (i + 1) := fun h => by
        have := (spB_iff k s (i + 1)).2 ⟨hg, by omega, h⟩
        exact ⟨this, (sp_yes this).1⟩
      have q4 : ¬ i + 1 ≤ Gr.idx k s 999999 → spB k s (i + 1) = false := fun h => spB_no (fun g => h g.2.2)
      generalize Gr.fs k s i = A at *
      generalize Gr.fs k s (i + 1) = B at *
      generalize Gr.idx k s 999999 = I9 at *
      clear hi
      by_cases c1 : 0 < i
      · obtain ⟨g1, g2⟩ := q1 c1
        have g3 := hpos c1
        clear q1 q2 hpos hzero
        by_cases c2 : i + 1 ≤ I9
        · obtain ⟨g4, g5⟩ := q3 c2
          have g6 := hlt c2
          clear q3 q4 hge hlt
          have hB0 : Below w.heap.size w w := Below.refl _ _
          go_enter Try.func5, Try.ntmps5
          go_wp2_with fail
          refine (ref_ValidGranularity _ _ _).mono ?_
          rintro e w1 ⟨rfl, hb1⟩
          have hB1 : Below w.heap.size w w1 := below_chain (below_alloc (hB0) _) hb1
          have hz1 := hb1.size
          simp only [World.size_alloc] at hz1
          have hl1_0 : w.heap.size < w1.heap.size := by omega
          have hm1_0 : w.heap.size ≤ w1.heap.size := by omega
          obtain ⟨hc1, hf1⟩ := bcell hb1
          clear hb1
          go_wp2_with (go_at_call 18; refine (ref_IsDay _ _).mono ?_; rintro e w' ⟨rfl, rfl⟩)
          refine (gran_IndexOf _ _ _ _).mono ?_
          rintro e w2 ⟨rfl, hb2⟩
          have hB2 : Below w.heap.size w w2 := below_chain (hB1) hb2
          have hz2 := hb2.size
          have hl2_0 : w.heap.size < w2.heap.size := by omega
          have hm2_0 : w.heap.size ≤ w2.heap.size := by omega
          obtain ⟨hc2, hf2⟩ := bcell hb2
          clear hb2
          go_wp2_with fail
          refine (gran_Span _ _ _ _).mono ?_
          rintro e w3 ⟨rfl, hb3⟩
          have hB3 : Below w.heap.size w w3 := below_chain (hB2) hb3
          have hz3 := hb3.size
          have hl3_0 : w.heap.size < w3.heap.size := by omega
          have hm3_0 : w.heap.size ≤ w3.heap.size := by omega
          obtain ⟨hc3, hf3⟩ := bcell hb3
          clear hb3
          go_wp2_with fail
          refine (gran_Span _ _ _ _).mono ?_
          rintro e w4 ⟨rfl, hb4⟩
          have hB4 : Below w.heap.size w w4 := below_chain (below_alloc (hB3) _) hb4
          have hz4 := hb4.size
          simp only [World.size_alloc] at hz4
          have hl4_0 : w.heap.size < w4.heap.size := by omega
          have hm4_0 : w.heap.size ≤ w4.heap.size := by omega
          have hl4_1 : w3.heap.size < w4.heap.size := by omega
          have hm4_1 : w3.heap.size ≤ w4.heap.size := by omega
          obtain ⟨hc4, hf4⟩ := bcell hb4
          clear hb4
          go_wp2_with fail
          refine (gran_Span _ _ _ _).mono ?_
          rintro e w5 ⟨rfl, hb5⟩
          have hB5 : Below w.heap.size w w5 := below_chain (below_alloc (hB4) _) hb5
          have hz5 := hb5.size
          simp only [World.size_alloc] at hz5
          have hl5_0 : w.heap.size < w5.heap.size := by omega
          have hm5_0 : w.heap.size ≤ w5.heap.size := by omega
          have hl5_1 : w3.heap.size < w5.heap.size := by omega
          have hm5_1 : w3.heap.size ≤ w5.heap.size := by omega
          have hl5_2 : w4.heap.size < w5.heap.size := by omega
          have hm5_2 : w4.heap.size ≤ w5.heap.size := by omega
          obtain ⟨hc5, hf5⟩ := bcell hb5
          clear hb5
          go_wp2_with fail
          refine (awake_any _).mono ?_
          rintro e w6 ⟨rfl, hb6⟩
          have hB6 : Below w.heap.size w w6 := below_chain (below_alloc (hB5) _) hb6
          have hz6 := hb6.size
          simp only [World.size_alloc] at hz6
          have hl6_0 : w.heap.size < w6.heap.size := by omega
          have hm6_0 : w.heap.size ≤ w6.heap.size := by omega
          have hl6_1 : w3.heap.size < w6.heap.size := by omega
          have hm6_1 : w3.heap.size ≤ w6.heap.size := by omega
          have hl6_2 : w4.heap.size < w6.heap.size := by omega
          have hm6_2 : w4.heap.size ≤ w6.heap.size := by omega
          have hl6_3 : w5.heap.size < w6.heap.size := by omega
          have hm6_3 : w5.heap.size ≤ w6.heap.size := by omega
          obtain ⟨hc6, hf6⟩ := bcell hb6
          clear hb6
          go_wp2_with fail
          go_ret
          exact ⟨ret_bool (by first | rfl | (simp; done) | (simp; omega)), hB6⟩
        · have g4 := q4 c2
          obtain rfl := hge (by omega)
          clear q3 q4 hge hlt
          have hB0 : Below w.heap.size w w := Below.refl _ _
          go_enter Try.func5, Try.ntmps5
          go_wp2_with fail
          refine (ref_ValidGranularity _ _ _).mono ?_
          rintro e w1 ⟨rfl, hb1⟩
          have hB1 : Below w.heap.size w w1 := below_chain (below_alloc (hB0) _) hb1
          have hz1 := hb1.size
          simp only [World.size_alloc] at hz1
          have hl1_0 : w.heap.size < w1.heap.size := by omega
          have hm1_0 : w.heap.size ≤ w1.heap.size := by omega
          obtain ⟨hc1, hf1⟩ := bcell hb1
          clear hb1
          go_wp2_with (go_at_call 18; refine (ref_IsDay _ _).mono ?_; rintro e w' ⟨rfl, rfl⟩)
          refine (gran_IndexOf _ _ _ _).mono ?_
          rintro e w2 ⟨rfl, hb2⟩
          have hB2 : Below w.heap.size w w2 := below_chain (hB1) hb2
          have hz2 := hb2.size
          have hl2_0 : w.heap.size < w2.heap.size := by omega
          have hm2_0 : w.heap.size ≤ w2.heap.size := by omega
          obtain ⟨hc2, hf2⟩ := bcell hb2
          clear hb2
          go_wp2_with fail
          refine (gran_Span _ _ _ _).mono ?_
          rintro e w3 ⟨rfl, hb3⟩
          have hB3 : Below w.heap.size w w3 := below_chain (hB2) hb3
          have hz3 := hb3.size
          have hl3_0 : w.heap.size < w3.heap.size := by omega
          have hm3_0 : w.heap.size ≤ w3.heap.size := by omega
          obtain ⟨hc3, hf3⟩ := bcell hb3
          clear hb3
          go_wp2_with fail
          refine (gran_Span _ _ _ _).mono ?_
          rintro e w4 ⟨rfl, hb4⟩
          have hB4 : Below w.heap.size w w4 := below_chain (below_alloc (hB3) _) hb4
          have hz4 := hb4.size
          simp only [World.size_alloc] at hz4
          have hl4_0 : w.heap.size < w4.heap.size := by omega
          have hm4_0 : w.heap.size ≤ w4.heap.size := by omega
          have hl4_1 : w3.heap.size < w4.heap.size := by omega
          have hm4_1 : w3.heap.size ≤ w4.heap.size := by omega
          obtain ⟨hc4, hf4⟩ := bcell hb4
          clear hb4
          go_wp2_with fail
          refine (gran_Span _ _ _ _).mono ?_
          rintro e w5 ⟨rfl, hb5⟩
          have hB5 : Below w.heap.size w w5 := below_chain (below_alloc (hB4) _) hb5
          have hz5 := hb5.size
          simp only [World.size_alloc] at hz5
          have hl5_0 : w.heap.size < w5.heap.size := by omega
          have hm5_0 : w.heap.size ≤ w5.heap.size := by omega
          have hl5_1 : w3.heap.size < w5.heap.size := by omega
          have hm5_1 : w3.heap.size ≤ w5.heap.size := by omega
          have hl5_2 : w4.heap.size < w5.heap.size := by omega
          have hm5_2 : w4.heap.size ≤ w5.heap.size := by omega
          obtain ⟨hc5, hf5⟩ := bcell hb5
          clear hb5
          go_wp2_with fail
          refine (awake_any _).mono ?_
          rintro e w6 ⟨rfl, hb6⟩
          have hB6 : Below w.heap.size w w6 := below_chain (below_alloc (hB5) _) hb6
          have hz6 := hb6.size
          simp only [World.size_alloc] at hz6
          have hl6_0 : w.heap.size < w6.heap.size := by omega
          have hm6_0 : w.heap.size ≤ w6.heap.size := by omega
          have hl6_1 : w3.heap.size < w6.heap.size := by omega
          have hm6_1 : w3.heap.size ≤ w6.heap.size := by omega
          have hl6_2 : w4.heap.size < w6.heap.size := by omega
          have hm6_2 : w4.heap.size ≤ w6.heap.size := by omega
          have hl6_3 : w5.heap.size < w6.heap.size := by omega
          have hm6_3 : w5.heap.size ≤ w6.heap.size := by omega
          obtain ⟨hc6, hf6⟩ := bcell hb6
          clear hb6
          go_wp2_with fail
          go_ret
          exact ⟨ret_bool (by first | rfl | (simp; done) | (simp; omega)), hB6⟩
      · have g1 := q2 c1
        obtain rfl := hzero (by omega)
        clear q1 q2 hpos hzero
        by_cases c2 : i + 1 ≤ I9
        · obtain ⟨g4, g5⟩ := q3 c2
          have g6 := hlt c2
          clear q3 q4 hge hlt
          have hB0 : Below w.heap.size w w := Below.refl _ _
          go_enter Try.func5, Try.ntmps5
          go_wp2_with fail
          refine (ref_ValidGranularity _ _ _).mono ?_
          rintro e w1 ⟨rfl, hb1⟩
          have hB1 : Below w.heap.size w w1 := below_chain (below_alloc (hB0) _) hb1
          have hz1 := hb1.size
          simp only [World.size_alloc] at hz1
          have hl1_0 : w.heap.size < w1.heap.size := by omega
          have hm1_0 : w.heap.size ≤ w1.heap.size := by omega
          obtain ⟨hc1, hf1⟩ := bcell hb1
          clear hb1
          go_wp2_with (go_at_call 18; refine (ref_IsDay _ _).mono ?_; rintro e w' ⟨rfl, rfl⟩)
          refine (gran_IndexOf _ _ _ _).mono ?_
          rintro e w2 ⟨rfl, hb2⟩
          have hB2 : Below w.heap.size w w2 := below_chain (hB1) hb2
          have hz2 := hb2.size
          have hl2_0 : w.heap.size < w2.heap.size := by omega
          have hm2_0 : w.heap.size ≤ w2.heap.size := by omega
          obtain ⟨hc2, hf2⟩ := bcell hb2
          clear hb2
          go_wp2_with fail
          refine (gran_Span _ _ _ _).mono ?_
          rintro e w3 ⟨rfl, hb3⟩
          have hB3 : Below w.heap.size w w3 := below_chain (hB2) hb3
          have hz3 := hb3.size
          have hl3_0 : w.heap.size < w3.heap.size := by omega
          have hm3_0 : w.heap.size ≤ w3.heap.size := by omega
          obtain ⟨hc3, hf3⟩ := bcell hb3
          clear hb3
          go_wp2_with fail
          refine (gran_Span _ _ _ _).mono ?_
          rintro e w4 ⟨rfl, hb4⟩
          have hB4 : Below w.heap.size w w4 := below_chain (below_alloc (hB3) _) hb4
          have hz4 := hb4.size
          simp only [World.size_alloc] at hz4
          have hl4_0 : w.heap.size < w4.heap.size := by omega
          have hm4_0 : w.heap.size ≤ w4.heap.size := by omega
          have hl4_1 : w3.heap.size < w4.heap.size := by omega
          have hm4_1 : w3.heap.size ≤ w4.heap.size := by omega
          obtain ⟨hc4, hf4⟩ := bcell hb4
          clear hb4
          go_wp2_with fail
          refine (gran_Span _ _ _ _).mono ?_
          rintro e w5 ⟨rfl, hb5⟩
          have hB5 : Below w.heap.size w w5 := below_chain (below_alloc (hB4) _) hb5
          have hz5 := hb5.size
          simp only [World.size_alloc] at hz5
          have hl5_0 : w.heap.size < w5.heap.size := by omega
          have hm5_0 : w.heap.size ≤ w5.heap.size := by omega
          have hl5_1 : w3.heap.size < w5.heap.size := by omega
          have hm5_1 : w3.heap.size ≤ w5.heap.size := by omega
          have hl5_2 : w4.heap.size < w5.heap.size := by omega
          have hm5_2 : w4.heap.size ≤ w5.heap.size := by omega
          obtain ⟨hc5, hf5⟩ := bcell hb5
          clear hb5
          go_wp2_with fail
          refine (awake_any _).mono ?_
          rintro e w6 ⟨rfl, hb6⟩
          have hB6 : Below w.heap.size w w6 := below_chain (below_alloc (hB5) _) hb6
          have hz6 := hb6.size
          simp only [World.size_alloc] at hz6
          have hl6_0 : w.heap.size < w6.heap.size := by omega
          have hm6_0 : w.heap.size ≤ w6.heap.size := by omega
          have hl6_1 : w3.heap.size < w6.heap.size := by omega
          have hm6_1 : w3.heap.size ≤ w6.heap.size := by omega
          have hl6_2 : w4.heap.size < w6.heap.size := by omega
          have hm6_2 : w4.heap.size ≤ w6.heap.size := by omega
          have hl6_3 : w5.heap.size < w6.heap.size := by omega
          have hm6_3 : w5.heap.size ≤ w6.heap.size := by omega
          obtain ⟨hc6, hf6⟩ := bcell hb6
          clear hb6
          go_wp2_with fail
          go_ret
          exact ⟨ret_bool (by first | rfl | (simp; done) | (simp; omega)), hB6⟩
        · have g4 := q4 c2
          obtain rfl := hge (by omega)
          clear q3 q4 hge hlt
          have hB0 : Below w.heap.size w w := Below.refl _ _
          go_enter Try.func5, Try.ntmps5
          go_wp2_with fail
          refine (ref_ValidGranularity _ _ _).mono ?_
          rintro e w1 ⟨rfl, hb1⟩
          have hB1 : Below w.heap.size w w1 := below_chain (below_alloc (hB0) _) hb1
          have hz1 := hb1.size
          simp only [World.size_alloc] at hz1
          have hl1_0 : w.heap.size < w1.heap.size := by omega
          have hm1_0 : w.heap.size ≤ w1.heap.size := by omega
          obtain ⟨hc1, hf1⟩ := bcell hb1
          clear hb1
          go_wp2_with (go_at_call 18; refine (ref_IsDay _ _).mono ?_; rintro e w' ⟨rfl, rfl⟩)
          refine (gran_IndexOf _ _ _ _).mono ?_
          rintro e w2 ⟨rfl, hb2⟩
          have hB2 : Below w.heap.size w w2 := below_chain (hB1) hb2
          have hz2 := hb2.size
          have hl2_0 : w.heap.size < w2.heap.size := by omega
          have hm2_0 : w.heap.size ≤ w2.heap.size := by omega
          obtain ⟨hc2, hf2⟩ := bcell hb2
          clear hb2
          go_wp2_with fail
          refine (gran_Span _ _ _ _).mono ?_
          rintro e w3 ⟨rfl, hb3⟩
          have hB3 : Below w.heap.size w w3 := below_chain (hB2) hb3
          have hz3 := hb3.size
          have hl3_0 : w.heap.size < w3.heap.size := by omega
          have hm3_0 : w.heap.size ≤ w3.heap.size := by omega
          obtain ⟨hc3, hf3⟩ := bcell hb3
          clear hb3
          go_wp2_with fail
          refine (gran_Span _ _ _ _).mono ?_
          rintro e w4 ⟨rfl, hb4⟩
          have hB4 : Below w.heap.size w w4 := below_chain (below_alloc (hB3) _) hb4
          have hz4 := hb4.size
          simp only [World.size_alloc] at hz4
          have hl4_0 : w.heap.size < w4.heap.size := by omega
          have hm4_0 : w.heap.size ≤ w4.heap.size := by omega
          have hl4_1 : w3.heap.size < w4.heap.size := by omega
          have hm4_1 : w3.heap.size ≤ w4.heap.size := by omega
          obtain ⟨hc4, hf4⟩ := bcell hb4
          clear hb4
          go_wp2_with fail
          refine (gran_Span _ _ _ _).mono ?_
          rintro e w5 ⟨rfl, hb5⟩
          have hB5 : Below w.heap.size w w5 := below_chain (below_alloc (hB4) _) hb5
          have hz5 := hb5.size
          simp only [World.size_alloc] at hz5
          have hl5_0 : w.heap.size < w5.heap.size := by omega
          have hm5_0 : w.heap.size ≤ w5.heap.size := by omega
          have hl5_1 : w3.heap.size < w5.heap.size := by omega
          have hm5_1 : w3.heap.size ≤ w5.heap.size := by omega
          have hl5_2 : w4.heap.size < w5.heap.size := by omega
          have hm5_2 : w4.heap.size ≤ w5.heap.size := by omega
          obtain ⟨hc5, hf5⟩ := bcell hb5
          clear hb5
          go_wp2_with fail
          refine (awake_any _).mono ?_
          rintro e w6 ⟨rfl, hb6⟩
          have hB6 : Below w.heap.size w w6 := below_chain (below_alloc (hB5) _) hb6
          have hz6 := hb6.size
          simp only [World.size_alloc] at hz6
          have hl6_0 : w.heap.size < w6.heap.size := by omega
          have hm6_0 : w.heap.size ≤ w6.heap.size := by omega
          have hl6_1 : w3.heap.size < w6.heap.size := by omega
          have hm6_1 : w3.heap.size ≤ w6.heap.size := by omega
          have hl6_2 : w4.heap.size < w6.heap.size := by omega
          have hm6_2 : w4.heap.size ≤ w6.heap.size := by omega
          have hl6_3 : w5.heap.size < w6.heap.size := by omega
          have hm6_3 : w5.heap.size ≤ w6.heap.size := by omega
          obtain ⟨hc6, hf6⟩ := bcell hb6
          clear hb6
          go_wp2_with fail
          go_ret
          exact ⟨ret_bool (by first | rfl | (simp; done) | (simp; omega)), hB6⟩

end Go.Proofs.Ytgimfajanmmkfaa
