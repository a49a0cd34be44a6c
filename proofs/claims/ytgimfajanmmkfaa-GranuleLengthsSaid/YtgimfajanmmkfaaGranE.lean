/-
  What the reference's firstDay, Span, IndexOf and granule.IndexOf return.
-/
import Derived.Test.YtgimfajanmmkfaaGranD
namespace Go.Proofs.Ytgimfajanmmkfaa
open Go.RowKit

/-- A granularity in a block of the call's own. -/
structure Sp1 (w w1 : World) (k s : Int) : Prop where
  c0 : w1.cell? ⟨w.heap.size, 0, none⟩ = some (.int .i64 k)
  c1 : w1.cell? ⟨w.heap.size, 1, none⟩ = some (.int .i64 s)
  sz : w.heap.size + 1 ≤ w1.heap.size
  bl : Below w.heap.size w w1

theorem Sp1.keep {w w3 w4 : World} {k s : Int} (h : Sp1 w w3 k s) (hb : Below w3.heap.size w3 w4) : Sp1 w w4 k s := by
  have hz := h.sz
  have hz' := hb.size
  exact ⟨(hb.cell (p := ⟨w.heap.size, 0, none⟩) (by simp; omega)).trans h.c0, (hb.cell (p := ⟨w.heap.size, 1, none⟩) (by simp; omega)).trans h.c1, by omega, h.bl.trans (hb.mono h.bl.size)⟩

theorem sp1_at (w : World) (k s : Int) (t1 : TypeId) : Sp1 w (w.alloc (.cells #[.int .i64 k, .int .i64 s] t1)) k s := by
  refine ⟨?_, ?_, ?_, ?_⟩
  · go_simp
  · go_simp
  · simp
  · exact (Below.refl _ _).alloc (Nat.le_refl _) _

set_option maxRecDepth 100000 in
set_option maxHeartbeats 2000000 in
theorem ref_firstDay (k s i : Int) (w : World) (hv : Gr.vg k s = true) :
    Calls Try.prog 30 #[.agg #[.int .i64 k, .int .i64 s], .int .i64 i] w fun e w' => e = .returned (.int .i64 (Gr.fs k s i)) ∧ Below w.heap.size w w' := by
  have HV := Lib.hid hv
  clear hv
  have HI := Lib.hid (sp1_at w k s 23)
  go_enter Try.func30, Try.ntmps30
  go_wp2
  go_loopw [5, 6] (fun s5 s6 wr => ∃ lo hi : Int, s5 = .int .i64 lo ∧ s6 = .int .i64 hi ∧ 0 ≤ lo ∧ lo ≤ hi ∧ hi ≤ 1000000 ∧ Sp1 w wr k s ∧ Hid ((∀ t, 0 ≤ t → t < lo → Gr.idx k s t < i) ∧ (hi < 1000000 → i ≤ Gr.idx k s hi))) (fun s5 s6 _ => (intOf s6 - intOf s5).toNat)
  case atStart => exact ⟨0, 1000000, rfl, rfl, by omega, by omega, by omega, HI.out, Lib.hid ⟨fun t a b => by omega, fun h => by omega⟩⟩
  case round =>
    obtain ⟨lo, hi, rfl, rfl, hl0, hlh, hin, HS, I⟩ := hrel
    obtain ⟨c0, c1, sz, bl⟩ := HS
    by_cases hlt : lo < hi
    · have hb1 := Gr.idx_bd (n := (lo + hi) / 2) HV.out (by omega) (by omega)
      obtain ⟨hx0, hx1⟩ := hb1
      by_cases hq : i ≤ Gr.idx k s ((lo + hi) / 2)
      · go_wp2_with (go_at_call 26; refine (ref_startsUpTo k s _ _ HV.out (by omega) (by omega)).mono ?_; rintro e w2 ⟨rfl, hb2⟩)
        go_roundw
        case measure => simp [intOf]; omega
        case rel => exact ⟨lo, (lo + hi) / 2, rfl, rfl, by omega, by omega, by omega, (Sp1.mk c0 c1 sz bl).keep hb2, Lib.hid ⟨I.out.1, fun _ => hq⟩⟩
      · go_wp2_with (go_at_call 26; refine (ref_startsUpTo k s _ _ HV.out (by omega) (by omega)).mono ?_; rintro e w2 ⟨rfl, hb2⟩)
        go_roundw
        case measure => simp [intOf]; omega
        case rel => exact ⟨(lo + hi) / 2 + 1, hi, rfl, rfl, by omega, by omega, by omega, (Sp1.mk c0 c1 sz bl).keep hb2, Lib.hid ⟨fun t a b => (by have := (Gr.idx_mono HV.out a (show t ≤ (lo + hi) / 2 by omega) (by omega)).1; omega), I.out.2⟩⟩
    · obtain rfl : hi = lo := by omega
      have HF := Lib.hid (Gr.fs_eq (k := k) (s := s) (i := i) (x := hi) ⟨hl0, hin, I.out.1, I.out.2⟩)
      go_wp2
      go_ret
      exact ⟨ret_int HF.out.symm, bl⟩

/-- A granularity and a result of two numbers in blocks of the call's own. -/
structure Sp2 (w w1 : World) (k s : Int) : Prop where
  c0 : w1.cell? ⟨w.heap.size, 0, none⟩ = some (.int .i64 k)
  c1 : w1.cell? ⟨w.heap.size, 1, none⟩ = some (.int .i64 s)
  c3 : w1.cell? ⟨w.heap.size + 1, 0, none⟩ = some (.int .i64 0)
  c4 : w1.cell? ⟨w.heap.size + 1, 1, none⟩ = some (.int .i64 0)
  f3 : w1.frozen? ⟨w.heap.size + 1, 0, none⟩ = false
  f4 : w1.frozen? ⟨w.heap.size + 1, 1, none⟩ = false
  sz : w.heap.size + 2 ≤ w1.heap.size
  bl : Below w.heap.size w w1

theorem Sp2.keep {w w3 w4 : World} {k s : Int} (h : Sp2 w w3 k s) (hb : Below w3.heap.size w3 w4) : Sp2 w w4 k s := by
  have hz := h.sz
  have hz' := hb.size
  exact ⟨(hb.cell (p := ⟨w.heap.size, 0, none⟩) (by simp; omega)).trans h.c0, (hb.cell (p := ⟨w.heap.size, 1, none⟩) (by simp; omega)).trans h.c1,
    (hb.cell (p := ⟨w.heap.size + 1, 0, none⟩) (by simp; omega)).trans h.c3, (hb.cell (p := ⟨w.heap.size + 1, 1, none⟩) (by simp; omega)).trans h.c4,
    (hb.frozen (p := ⟨w.heap.size + 1, 0, none⟩) (by simp; omega)).trans h.f3, (hb.frozen (p := ⟨w.heap.size + 1, 1, none⟩) (by simp; omega)).trans h.f4, by omega, h.bl.trans (hb.mono h.bl.size)⟩

theorem sp2_at (w : World) (k s : Int) (t1 t2 : TypeId) : Sp2 w ((w.alloc (.cells #[.int .i64 k, .int .i64 s] t1)).alloc (.cells #[.int .i64 0, .int .i64 0] t2)) k s := by
  refine ⟨?_, ?_, ?_, ?_, ?_, ?_, ?_, ?_⟩
  · go_simp
  · go_simp
  · go_simp
  · go_simp
  · go_simp
  · go_simp
  · simp
  · exact ((Below.refl _ _).alloc (Nat.le_refl _) _).alloc (by simp) _

set_option maxRecDepth 100000 in
set_option maxHeartbeats 4000000 in
theorem ref_Span (k s i : Int) (w : World) :
    Calls Try.prog 17 #[.agg #[.int .i64 k, .int .i64 s], .int .i64 i] w fun e w' => e = .returned (.tuple #[.agg #[.int .i64 (spF k s i), .int .i64 (spT k s i)], .bool (spB k s i)]) ∧ Below w.heap.size w w' := by
  generalize hv : (Value.tuple #[.agg #[.int .i64 (spF k s i), .int .i64 (spT k s i)], .bool (spB k s i)]) = V
  have HV := Lib.hid hv
  clear hv
  obtain ⟨w3, hw3⟩ : ∃ w3 : World, w3 = (w.alloc (.cells #[.int .i64 k, .int .i64 s] 23)).alloc (.cells #[.int .i64 0, .int .i64 0] 30) := ⟨_, rfl⟩
  have S3 : Sp2 w w3 k s := by rw [hw3]; exact sp2_at _ _ _ _ _
  have HW := Lib.hid hw3
  clear hw3
  obtain ⟨c0, c1, c3, c4, f3, f4, sz, bl⟩ := S3
  cases hg : Gr.vg k s with
  | false =>
    have HF := Lib.hid (spB_no (k := k) (s := s) (i := i) (fun h => by rw [hg] at h; cases h.1))
    go_enter Try.func17, Try.ntmps17
    go_wp2_with fail
    rw [← HW.out]
    go_wp2_with (go_at_call 15; refine (ref_ValidGranularity k s _).mono ?_; rintro e w2 ⟨rfl, hb⟩; obtain ⟨d0, d1, d3, d4, g3, g4, sz', bl'⟩ := (Sp2.mk c0 c1 c3 c4 f3 f4 sz bl).keep hb)
    refine bodyPost_ret (v := .tuple #[.agg #[.int .i64 0, .int .i64 0], .bool false]) (by simp [results, Try.results17, go_sem, *]) rfl ⟨by rw [← HV.out, (sp_no HF.out).1, (sp_no HF.out).2, HF.out], ?_⟩
    exact (bl'.setCell (by simp <;> omega) _).setCell (by simp <;> omega) _
  | true =>
    have HG := Lib.hid hg
    have h99 := Gr.idx_bd (n := 999999) hg (by omega) (by omega)
    obtain ⟨h99a, h99b⟩ := h99
    by_cases hi0 : i < 0
    · have HF := Lib.hid (spB_no (k := k) (s := s) (i := i) (fun h => by omega))
      go_enter Try.func17, Try.ntmps17
      go_wp2_with fail
      rw [← HW.out]
      go_wp2_with (go_at_call 15; refine (ref_ValidGranularity k s _).mono ?_; rintro e w2 ⟨rfl, hb⟩; obtain ⟨d0, d1, d3, d4, g3, g4, sz', bl'⟩ := (Sp2.mk c0 c1 c3 c4 f3 f4 sz bl).keep hb)
      refine bodyPost_ret (v := .tuple #[.agg #[.int .i64 0, .int .i64 0], .bool false]) (by simp [results, Try.results17, go_sem, *]) rfl ⟨by rw [← HV.out, (sp_no HF.out).1, (sp_no HF.out).2, HF.out], ?_⟩
      exact (bl'.setCell (by simp <;> omega) _).setCell (by simp <;> omega) _
    by_cases hi9 : Gr.idx k s 999999 < i
    · have HF := Lib.hid (spB_no (k := k) (s := s) (i := i) (fun h => by omega))
      go_enter Try.func17, Try.ntmps17
      go_wp2_with fail
      rw [← HW.out]
      go_wp2_with (first | (go_at_call 15; refine (ref_ValidGranularity k s _).mono ?_; rintro e w2 ⟨rfl, hb⟩; obtain ⟨d0, d1, d3, d4, g3, g4, sz', bl'⟩ := (Sp2.mk c0 c1 c3 c4 f3 f4 sz bl).keep hb) | (go_at_call 26; refine (ref_startsUpTo k s _ _ HG.out (by omega) (by omega)).mono ?_; rintro e w4 ⟨rfl, hb4⟩; obtain ⟨e0, e1, e3, e4, h3, h4, sz4, bl4⟩ := (Sp2.mk d0 d1 d3 d4 g3 g4 sz' bl').keep hb4))
      refine bodyPost_ret (v := .tuple #[.agg #[.int .i64 0, .int .i64 0], .bool false]) (by simp [results, Try.results17, go_sem, *]) rfl ⟨by rw [← HV.out, (sp_no HF.out).1, (sp_no HF.out).2, HF.out], ?_⟩
      exact (bl4.setCell (by simp <;> omega) _).setCell (by simp <;> omega) _
    · have HF := Lib.hid ((spB_iff k s i).2 ⟨hg, by omega, by omega⟩)
      go_enter Try.func17, Try.ntmps17
      go_wp2_with fail
      rw [← HW.out]
      go_wp2_with (first | (go_at_call 15; refine (ref_ValidGranularity k s _).mono ?_; rintro e w2 ⟨rfl, hb⟩; obtain ⟨d0, d1, d3, d4, g3, g4, sz', bl'⟩ := (Sp2.mk c0 c1 c3 c4 f3 f4 sz bl).keep hb) | (go_at_call 26; refine (ref_startsUpTo k s _ _ HG.out (by omega) (by omega)).mono ?_; rintro e w4 ⟨rfl, hb4⟩; obtain ⟨e0, e1, e3, e4, h3, h4, sz4, bl4⟩ := (Sp2.mk d0 d1 d3 d4 g3 g4 sz' bl').keep hb4))
      have H2 := Lib.hid (Sp2.mk e0 e1 e3 e4 h3 h4 sz4 bl4)
      have hwr : IntKind.i64.wrap (i + 1) = i + 1 := IntWalk.i64_in _ (by omega)
      go_region_with (go_at_call 30; refine (ref_firstDay k s _ _ HG.out).mono ?_; rintro e w6 ⟨rfl, hb6⟩; obtain ⟨k0, k1, k3, k4, l3, l4, sz6, bl6⟩ := (Sp2.keep (by first | assumption | exact H2.out.keep ((Below.refl _ _).drew) | exact ⟨k0, k1, k3, k4, l3, l4, sz6, bl6⟩) hb6))
      all_goals
        clear hwr
        go_wp2
        refine bodyPost_ret (v := .tuple #[.agg #[.int .i64 (Gr.fs k s i), .int .i64 (Gr.fs k s (i + 1))], .bool true]) (by simp [results, Try.results17, go_sem, *]) rfl ⟨by rw [← HV.out, (sp_yes HF.out).1, (sp_yes HF.out).2, HF.out], ?_⟩
        exact (bl6.setCell (by simp <;> omega) _).setCell (by simp <;> omega) _

noncomputable def ioB (k s n : Int) : Bool := Gr.vg k s && Cal.isDay n
noncomputable def ioN (k s n : Int) : Int := if ioB k s n = true then Gr.idx k s n else 0

set_option maxRecDepth 100000 in
set_option maxHeartbeats 4000000 in
theorem gran_IndexOf (k s n : Int) (w : World) :
    Calls Try.prog 11 #[.agg #[.int .i64 k, .int .i64 s], .int .i64 n] w fun e w' => e = .returned (.tuple #[.int .i64 (ioN k s n), .bool (ioB k s n)]) ∧ Below w.heap.size w w' := by
  generalize hv : (Value.tuple #[.int .i64 (ioN k s n), .bool (ioB k s n)]) = V
  have HV := Lib.hid hv
  clear hv
  obtain ⟨c0, c1, sz, bl⟩ := sp1_at w k s 23
  have H1 := Lib.hid (Sp1.mk c0 c1 sz bl)
  clear c0 c1 sz bl
  cases hg : Gr.vg k s with
  | false =>
    have HF := Lib.hid (show ioB k s n = false by unfold ioB; rw [hg]; rfl)
    go_enter Try.func11, Try.ntmps11
    go_wp2_with (go_at_call 14; refine (gran_Valid k s _).mono ?_; rintro e w2 ⟨rfl, hb⟩; obtain ⟨d0, d1, sz', bl'⟩ := H1.out.keep hb)
    go_ret2
    exact ⟨by rw [← HV.out]; unfold ioN; rw [HF.out]; rfl, bl'⟩
  | true =>
    have HG := Lib.hid hg
    cases hd : Cal.isDay n with
    | false =>
      have HF := Lib.hid (show ioB k s n = false by unfold ioB; rw [hd]; simp)
      go_enter Try.func11, Try.ntmps11
      go_wp2_with (first | (go_at_call 14; refine (gran_Valid k s _).mono ?_; rintro e w2 ⟨rfl, hb⟩; obtain ⟨d0, d1, sz', bl'⟩ := H1.out.keep hb) | (go_at_call 24; refine (gran_isDay _ _).mono ?_; rintro e w' ⟨rfl, rfl⟩))
      go_ret2
      exact ⟨by rw [← HV.out]; unfold ioN; rw [HF.out]; rfl, bl'⟩
    | true =>
      have HF := Lib.hid (show ioB k s n = true by unfold ioB; rw [hd, hg]; rfl)
      obtain ⟨n0, n1⟩ := (Cal.isDay_iff n).1 hd
      go_enter Try.func11, Try.ntmps11
      go_wp2_with (first | (go_at_call 14; refine (gran_Valid k s _).mono ?_; rintro e w2 ⟨rfl, hb⟩; obtain ⟨d0, d1, sz', bl'⟩ := H1.out.keep hb) | (go_at_call 24; refine (gran_isDay _ _).mono ?_; rintro e w' ⟨rfl, rfl⟩) | (go_at_call 25; refine (gran_index k s _ _ HG.out n0 n1).mono ?_; rintro e w4 ⟨rfl, hb4⟩))
      go_ret2
      exact ⟨by rw [← HV.out]; unfold ioN; rw [HF.out, if_pos rfl]; rfl, bl'.trans (hb4.mono bl'.size)⟩

set_option maxRecDepth 100000 in
set_option maxHeartbeats 4000000 in
theorem ref_IndexOf (k s n : Int) (w : World) :
    Calls Try.prog 12 #[.agg #[.int .i64 k, .int .i64 s], .int .i64 n] w fun e w' => e = .returned (.tuple #[.int .i64 (ioN k s n), .bool (ioB k s n)]) ∧ Below w.heap.size w w' := by
  generalize hv : (Value.tuple #[.int .i64 (ioN k s n), .bool (ioB k s n)]) = V
  have HV := Lib.hid hv
  clear hv
  obtain ⟨c0, c1, sz, bl⟩ := sp1_at w k s 23
  have H1 := Lib.hid (Sp1.mk c0 c1 sz bl)
  clear c0 c1 sz bl
  cases hg : Gr.vg k s with
  | false =>
    have HF := Lib.hid (show ioB k s n = false by unfold ioB; rw [hg]; rfl)
    go_enter Try.func12, Try.ntmps12
    go_wp2_with (go_at_call 15; refine (ref_ValidGranularity k s _).mono ?_; rintro e w2 ⟨rfl, hb⟩; obtain ⟨d0, d1, sz', bl'⟩ := H1.out.keep hb)
    go_ret2
    exact ⟨by rw [← HV.out]; unfold ioN; rw [HF.out]; rfl, bl'⟩
  | true =>
    have HG := Lib.hid hg
    cases hd : Cal.isDay n with
    | false =>
      have HF := Lib.hid (show ioB k s n = false by unfold ioB; rw [hd]; simp)
      go_enter Try.func12, Try.ntmps12
      go_wp2_with (first | (go_at_call 15; refine (ref_ValidGranularity k s _).mono ?_; rintro e w2 ⟨rfl, hb⟩; obtain ⟨d0, d1, sz', bl'⟩ := H1.out.keep hb) | (go_at_call 18; refine (ref_IsDay _ _).mono ?_; rintro e w' ⟨rfl, rfl⟩))
      go_ret2
      exact ⟨by rw [← HV.out]; unfold ioN; rw [HF.out]; rfl, bl'⟩
    | true =>
      have HF := Lib.hid (show ioB k s n = true by unfold ioB; rw [hd, hg]; rfl)
      obtain ⟨n0, n1⟩ := (Cal.isDay_iff n).1 hd
      have hb99 := Gr.idx_bd (n := n) hg n0 n1
      obtain ⟨x0, x1⟩ := hb99
      go_enter Try.func12, Try.ntmps12
      go_wp2_with (first | (go_at_call 15; refine (ref_ValidGranularity k s _).mono ?_; rintro e w2 ⟨rfl, hb⟩; obtain ⟨d0, d1, sz', bl'⟩ := H1.out.keep hb) | (go_at_call 18; refine (ref_IsDay _ _).mono ?_; rintro e w' ⟨rfl, rfl⟩) | (go_at_call 26; refine (ref_startsUpTo k s _ _ HG.out n0 n1).mono ?_; rintro e w4 ⟨rfl, hb4⟩))
      go_ret2
      exact ⟨by rw [← HV.out]; unfold ioN; rw [HF.out, if_pos rfl]; rfl, bl'.trans (hb4.mono bl'.size)⟩

end Go.Proofs.Ytgimfajanmmkfaa
