/-
  FormatDay and FormatPeriod, the program's and the reference's.
-/
import Derived.Test.YtllbfbgkeajkeaaDateB
import Derived.Test.YtllbfbgkeajkeaaMem
import Derived.Deep.RegionHeld3
import Derived.Shelf.RegionOpenPlain
namespace Go.Proofs.Ytllbfbgkeajkeaa
open Go.RowKit

theorem bcell {W w1 : World} (hb : Below W.heap.size W w1) : (∀ b o, b < W.heap.size → w1.cell? ⟨b, o, none⟩ = W.cell? ⟨b, o, none⟩) ∧ (∀ b o, b < W.heap.size → w1.frozen? ⟨b, o, none⟩ = W.frozen? ⟨b, o, none⟩) :=
  ⟨fun b o h => hb.cell (p := ⟨b, o, none⟩) h, fun b o h => hb.frozen (p := ⟨b, o, none⟩) h⟩

theorem below_new {w w1 : World} {o : Obj} (hb : Below (w.alloc o).heap.size (w.alloc o) w1) : Below w.heap.size w w1 :=
  ((Below.refl _ w).alloc (Nat.le_refl _) o).trans (hb.mono (by simp))

theorem below_chain {w w1 w2 : World} (h : Below w.heap.size w w1) (hb : Below w1.heap.size w1 w2) : Below w.heap.size w w2 := h.trans (hb.mono h.size)

theorem below_alloc {w w1 : World} (h : Below w.heap.size w w1) (o : Obj) : Below w.heap.size w (w1.alloc o) := h.alloc h.size o

def B4 (n : Int) : ByteArray := ⟨(D4 n).toArray⟩
def B2 (n : Int) : ByteArray := ⟨(D2 n).toArray⟩
theorem B4_size (n : Int) : (B4 n).size = 4 := rfl
theorem B2_size (n : Int) : (B2 n).size = 2 := rfl

/-- The text of a day. -/
noncomputable def fdT (n : Int) : ByteArray :=
  if n = 1000000 then ⟨#[102, 111, 114, 101, 118, 101, 114]⟩ else if Cal.isDay n = true then B4 (Cal.tdY n) ++ ⟨#[45]⟩ ++ B2 (Cal.tdM n) ++ ⟨#[45]⟩ ++ B2 (Cal.tdD n) else ⟨#[]⟩

theorem fdT_fev : fdT 1000000 = ⟨#[102, 111, 114, 101, 118, 101, 114]⟩ := by unfold fdT; rw [if_pos rfl]
theorem fdT_day {n : Int} (h : Cal.isDay n = true) : fdT n = B4 (Cal.tdY n) ++ ⟨#[45]⟩ ++ B2 (Cal.tdM n) ++ ⟨#[45]⟩ ++ B2 (Cal.tdD n) := by
  have := (Cal.isDay_iff n).1 h
  unfold fdT; rw [if_neg (by omega), if_pos h]
theorem fdT_no {n : Int} (h1 : n ≠ 1000000) (h : Cal.isDay n = false) : fdT n = ⟨#[]⟩ := by
  unfold fdT; rw [if_neg h1, h]; rfl

theorem fdT_size_day {n : Int} (h : Cal.isDay n = true) : (fdT n).size = 10 := by
  rw [fdT_day h]; simp only [ByteArray.size_append, B4_size, B2_size]; decide

theorem fdT_size (n : Int) : (fdT n).size ≤ 10 := by
  unfold fdT
  split
  · decide
  · split
    · simp only [ByteArray.size_append, B4_size, B2_size]; decide
    · decide

set_option maxRecDepth 100000 in
theorem datefmt_FormatDay (n : Int) (w : World) : Calls Try.prog 15 #[.int .i64 n] w fun e w' => e = .returned (.string (fdT n)) ∧ Below w.heap.size w w' := by
  generalize hv : (Value.string (fdT n)) = V
  have HV := Lib.hid hv
  clear hv
  have hB : Below w.heap.size w w := Below.refl _ _
  by_cases c1 : n = 1000000
  · subst c1
    go_enter Try.func15, Try.ntmps15
    go_wp2
    go_ret
    exact ⟨by rw [← HV.out, fdT_fev]; rfl, hB⟩
  by_cases c2 : Cal.isDay n = true
  · have HD := Lib.hid (fdT_day c2)
    have hy := Cal.td_bounds c2
    obtain ⟨y0, y1, m0, m1, d0, d1⟩ := hy
    have HT := Lib.hid (fun w => civil_ToDate n w)
    generalize Cal.tdY n = y at *
    generalize Cal.tdM n = m at *
    generalize Cal.tdD n = d at *
    obtain ⟨Y, hY⟩ : ∃ Y, B4 y = Y := ⟨_, rfl⟩
    obtain ⟨M, hM⟩ : ∃ Y, B2 m = Y := ⟨_, rfl⟩
    obtain ⟨D, hD⟩ : ∃ Y, B2 d = Y := ⟨_, rfl⟩
    have sY : Y.size = 4 := by rw [← hY]; rfl
    have sM : M.size = 2 := by rw [← hM]; rfl
    have sD : D.size = 2 := by rw [← hD]; rfl
    rw [hY, hM, hD] at HD
    have HY := Lib.hid (fun w => datefmt_digits4 y w (by omega) (by omega))
    have HM := Lib.hid (fun w => datefmt_digits2 m w (by omega) (by omega))
    have HE := Lib.hid (fun w => datefmt_digits2 d w (by omega) (by omega))
    simp only [show (⟨(D4 y).toArray⟩ : ByteArray) = Y from hY] at HY
    simp only [show (⟨(D2 m).toArray⟩ : ByteArray) = M from hM] at HM
    simp only [show (⟨(D2 d).toArray⟩ : ByteArray) = D from hD] at HE
    clear hY hM hD
    go_enter Try.func15, Try.ntmps15
    go_wp2_with fail
    refine (HT.out _).mono ?_; rintro e w1 ⟨rfl, rfl⟩
    go_wp2_with fail
    refine (HY.out _).mono ?_; rintro e w2 ⟨rfl, hb2⟩; replace hB := hB.trans (hb2.mono hB.size); clear hb2
    go_wp2_with fail
    refine (HM.out _).mono ?_; rintro e w3 ⟨rfl, hb2⟩; replace hB := hB.trans (hb2.mono hB.size); clear hb2
    go_wp2_with fail
    refine (HE.out _).mono ?_; rintro e w4 ⟨rfl, hb2⟩; replace hB := hB.trans (hb2.mono hB.size); clear hb2
    go_wp2_with fail
    go_ret
    refine ⟨?_, hB⟩
    rw [← HV.out, HD.out]
    rfl
  · have c2 : Cal.isDay n = false := by simpa using c2
    have HD := Lib.hid (fdT_no c1 c2)
    go_enter Try.func15, Try.ntmps15
    go_wp2_with (first | (go_at_call 28; refine (civil_ToDate _ _).mono ?_; rintro e w1 ⟨rfl, rfl⟩))
    go_ret
    exact ⟨by rw [← HV.out, HD.out]; rfl, hB⟩

set_option maxRecDepth 100000 in
theorem ref_FormatDay (n : Int) (w : World) : Calls Try.prog 16 #[.int .i64 n] w fun e w' => e = .returned (.string (fdT n)) ∧ Below w.heap.size w w' := by
  generalize hv : (Value.string (fdT n)) = V
  have HV := Lib.hid hv
  clear hv
  have hB : Below w.heap.size w w := Below.refl _ _
  by_cases c1 : n = 1000000
  · subst c1
    go_enter Try.func16, Try.ntmps16
    go_wp2
    go_ret
    exact ⟨by rw [← HV.out, fdT_fev]; rfl, hB⟩
  by_cases c2 : Cal.isDay n = true
  · have HD := Lib.hid (fdT_day c2)
    have hy := Cal.td_bounds c2
    obtain ⟨y0, y1, m0, m1, d0, d1⟩ := hy
    have HT := Lib.hid (fun w => ref_ToDate n w)
    generalize Cal.tdY n = y at *
    generalize Cal.tdM n = m at *
    generalize Cal.tdD n = d at *
    obtain ⟨Y, hY⟩ : ∃ Y, B4 y = Y := ⟨_, rfl⟩
    obtain ⟨M, hM⟩ : ∃ Y, B2 m = Y := ⟨_, rfl⟩
    obtain ⟨D, hD⟩ : ∃ Y, B2 d = Y := ⟨_, rfl⟩
    have sY : Y.size = 4 := by rw [← hY]; rfl
    have sM : M.size = 2 := by rw [← hM]; rfl
    have sD : D.size = 2 := by rw [← hD]; rfl
    rw [hY, hM, hD] at HD
    have HY := Lib.hid (fun w => ref_digits4 y w (by omega) (by omega))
    have HM := Lib.hid (fun w => ref_digits2 m w (by omega) (by omega))
    have HE := Lib.hid (fun w => ref_digits2 d w (by omega) (by omega))
    simp only [show (⟨(D4 y).toArray⟩ : ByteArray) = Y from hY] at HY
    simp only [show (⟨(D2 m).toArray⟩ : ByteArray) = M from hM] at HM
    simp only [show (⟨(D2 d).toArray⟩ : ByteArray) = D from hD] at HE
    clear hY hM hD
    go_enter Try.func16, Try.ntmps16
    go_wp2_with fail
    refine (HT.out _).mono ?_; rintro e w1 ⟨rfl, hb2⟩; replace hB := hB.trans (hb2.mono hB.size); clear hb2
    go_wp2_with fail
    refine (HY.out _).mono ?_; rintro e w2 ⟨rfl, hb2⟩; replace hB := hB.trans (hb2.mono hB.size); clear hb2
    go_wp2_with fail
    refine (HM.out _).mono ?_; rintro e w3 ⟨rfl, hb2⟩; replace hB := hB.trans (hb2.mono hB.size); clear hb2
    go_wp2_with fail
    refine (HE.out _).mono ?_; rintro e w4 ⟨rfl, hb2⟩; replace hB := hB.trans (hb2.mono hB.size); clear hb2
    go_wp2_with fail
    go_ret
    refine ⟨?_, hB⟩
    rw [← HV.out, HD.out]
    rfl
  · have c2 : Cal.isDay n = false := by simpa using c2
    have HD := Lib.hid (fdT_no c1 c2)
    go_enter Try.func16, Try.ntmps16
    go_wp2_with (first | (go_at_call 30; refine (ref_ToDate _ _).mono ?_; rintro e w1 ⟨rfl, hb2⟩; replace hB := hB.trans (hb2.mono hB.size); clear hb2))
    go_ret
    exact ⟨by rw [← HV.out, HD.out]; rfl, hB⟩


/-- The text of a period. -/
noncomputable def fpT (f t : Int) : ByteArray :=
  if 0 ≤ f ∧ f < t ∧ t ≤ 1000000 then ⟨#[91]⟩ ++ fdT f ++ ⟨#[44, 32]⟩ ++ fdT t ++ ⟨#[41]⟩ else ⟨#[]⟩

theorem fpT_no {f t : Int} (h : ¬ (0 ≤ f ∧ f < t ∧ t ≤ 1000000)) : fpT f t = ⟨#[]⟩ := by unfold fpT; rw [if_neg h]
theorem fpT_yes {f t : Int} (h : 0 ≤ f ∧ f < t ∧ t ≤ 1000000) : fpT f t = ⟨#[91]⟩ ++ fdT f ++ ⟨#[44, 32]⟩ ++ fdT t ++ ⟨#[41]⟩ := by unfold fpT; rw [if_pos h]

def ValidDays (f t : Int) : Bool := decide (0 ≤ f) && (decide (f < t) && decide (t ≤ 1000000))

set_option maxRecDepth 100000 in
theorem ref_Valid (f t : Int) (w : World) : Calls Try.prog 32 #[.agg #[.int .i64 f, .int .i64 t]] w fun e w' => e = .returned (.bool (decide (0 ≤ f) && (decide (f < t) && decide (t ≤ 1099511627776)))) ∧ Below w.heap.size w w' := by
  by_cases h1 : 0 ≤ f <;> by_cases h2 : f < t <;> by_cases h3 : t ≤ 1099511627776
  all_goals first | (exfalso; omega) | (
    simp only [h1, h2, h3, decide_true, decide_false, Bool.and_true, Bool.and_false]
    go_enter Try.func32, Try.ntmps32
    go_wp2
    go_ret
    exact ⟨by first | rfl | (simp; done) | (simp; omega), below_alloc (Below.refl _ _) _⟩)

set_option maxRecDepth 100000 in
theorem ref_ValidDays (f t : Int) (w : World) : Calls Try.prog 19 #[.agg #[.int .i64 f, .int .i64 t]] w fun e w' => e = .returned (.bool (ValidDays f t)) ∧ Below w.heap.size w w' := by
  unfold ValidDays
  by_cases h1 : 0 ≤ f <;> by_cases h2 : f < t <;> by_cases h3 : t ≤ 1000000 <;> by_cases h4 : t ≤ 1099511627776
  all_goals first | (exfalso; omega) | (
    simp only [h1, h2, h3, decide_true, decide_false, Bool.and_true, Bool.and_false]
    go_enter Try.func19, Try.ntmps19
    go_wp2_with (first | (go_at_call 32; refine (ref_Valid _ _ _).mono ?_; rintro e w1 ⟨rfl, hb⟩; obtain ⟨hc, hf⟩ := bcell hb))
    go_ret
    exact ⟨by first | rfl | (simp; done) | (simp; omega), below_new hb⟩)

set_option maxRecDepth 100000 in
theorem datefmt_FormatPeriod (f t : Int) (w : World) : Calls Try.prog 17 #[.agg #[.int .i64 f, .int .i64 t]] w fun e w' => e = .returned (.string (fpT f t)) ∧ Below w.heap.size w w' := by
  generalize hv : (Value.string (fpT f t)) = V
  have HV := Lib.hid hv
  clear hv
  by_cases c1 : 0 ≤ f ∧ f < t ∧ t ≤ 1000000
  · have HD := Lib.hid (fpT_yes c1)
    have hV : ValidDays f t = true := by unfold ValidDays; simp [c1]
    have c1' := c1
    obtain ⟨g1, g2, g3⟩ := c1'
    have s1 : (fdT f).size = 10 := fdT_size_day ((Cal.isDay_iff f).2 (by omega))
    have s2 : (fdT t).size = 7 ∨ (fdT t).size = 10 := by
      by_cases e : t = 1000000
      · left; rw [e, fdT_fev]; rfl
      · right; exact fdT_size_day ((Cal.isDay_iff t).2 (by omega))
    rcases s2 with s2 | s2
    all_goals (
    go_enter Try.func17, Try.ntmps17
    go_wp2_with (first | fail)
    obtain ⟨w3, hw3⟩ : ∃ w3 : World, w3 = w.alloc (.cells #[.int .i64 f, .int .i64 t] 30) := ⟨_, rfl⟩
    rw [← hw3]
    have d0 : w3.cell? ⟨w.heap.size, 0, none⟩ = some (.int .i64 f) := by rw [hw3]; go_simp
    have d1 : w3.cell? ⟨w.heap.size, 1, none⟩ = some (.int .i64 t) := by rw [hw3]; go_simp
    have bl : Below w.heap.size w w3 := by rw [hw3]; exact below_alloc (Below.refl _ _) _
    have sz : w.heap.size < w3.heap.size := by rw [hw3]; simp
    clear hw3
    have hi0_0 : w3.cell? ⟨w.heap.size, 0, none⟩ = some (.int .i64 f) := by go_simp
    have hi0_1 : w3.cell? ⟨w.heap.size, 1, none⟩ = some (.int .i64 t) := by go_simp
    have KEEP0 := Lib.hid (show ∀ W1 W2 : World, (W1.cell? ⟨w.heap.size, 0, none⟩ = some (.int .i64 f) ∧ W1.cell? ⟨w.heap.size, 1, none⟩ = some (.int .i64 t) ∧ w3.heap.size ≤ W1.heap.size ∧ Below w.heap.size w W1) → Below W1.heap.size W1 W2 → (W2.cell? ⟨w.heap.size, 0, none⟩ = some (.int .i64 f) ∧ W2.cell? ⟨w.heap.size, 1, none⟩ = some (.int .i64 t) ∧ w3.heap.size ≤ W2.heap.size ∧ Below w.heap.size w W2) from fun W1 W2 ⟨a0, a1, hs, hB⟩ hb => ⟨(hb.cell (p := ⟨w.heap.size, 0, none⟩) (show w.heap.size < W1.heap.size by omega)).trans a0, (hb.cell (p := ⟨w.heap.size, 1, none⟩) (show w.heap.size < W1.heap.size by omega)).trans a1, Nat.le_trans hs hb.size, hB.trans (hb.mono hB.size)⟩)
    have INIT0 := Lib.hid (show (w3.drew.cell? ⟨w.heap.size, 0, none⟩ = some (.int .i64 f) ∧ w3.drew.cell? ⟨w.heap.size, 1, none⟩ = some (.int .i64 t) ∧ w3.heap.size ≤ w3.drew.heap.size ∧ Below w.heap.size w w3.drew) from ⟨hi0_0, hi0_1, Nat.le_refl _, bl.drew⟩)
    go_region_held3 (fun w' => (w'.cell? ⟨w.heap.size, 0, none⟩ = some (.int .i64 f) ∧ w'.cell? ⟨w.heap.size, 1, none⟩ = some (.int .i64 t) ∧ w3.heap.size ≤ w'.heap.size ∧ Below w.heap.size w w')) (first | assumption | exact INIT0.out | exact KEEP0.out _ _ (by assumption) (by assumption))
      (first | (go_at_call 15; refine (datefmt_FormatDay _ _).mono ?_; rintro e w9 ⟨rfl, hb9⟩))
    obtain ⟨hr0_0, hr0_1, hsz0, hBr0⟩ := ‹_ ∧ _›
    go_wp2
    go_ret
    exact ⟨by rw [← HV.out, HD.out]; rfl, hBr0⟩)
  · have HD := Lib.hid (fpT_no c1)
    have hV : ValidDays f t = false := by unfold ValidDays; simp only [Bool.and_eq_false_iff, decide_eq_false_iff_not]; omega
    by_cases g1 : 0 ≤ f
    · by_cases g2 : f < t
      · have g3 : ¬ t ≤ 1000000 := by omega
        go_enter Try.func17, Try.ntmps17
        go_wp2_with (first | fail)
        go_ret
        exact ⟨by rw [← HV.out, HD.out]; rfl, below_alloc (Below.refl _ _) _⟩
      · go_enter Try.func17, Try.ntmps17
        go_wp2_with (first | fail)
        go_ret
        exact ⟨by rw [← HV.out, HD.out]; rfl, below_alloc (Below.refl _ _) _⟩
    · go_enter Try.func17, Try.ntmps17
      go_wp2_with (first | fail)
      go_ret
      exact ⟨by rw [← HV.out, HD.out]; rfl, below_alloc (Below.refl _ _) _⟩

set_option maxRecDepth 100000 in
theorem ref_FormatPeriod (f t : Int) (w : World) : Calls Try.prog 18 #[.agg #[.int .i64 f, .int .i64 t]] w fun e w' => e = .returned (.string (fpT f t)) ∧ Below w.heap.size w w' := by
  generalize hv : (Value.string (fpT f t)) = V
  have HV := Lib.hid hv
  clear hv
  by_cases c1 : 0 ≤ f ∧ f < t ∧ t ≤ 1000000
  · have HD := Lib.hid (fpT_yes c1)
    have hV : ValidDays f t = true := by unfold ValidDays; simp [c1]
    have c1' := c1
    obtain ⟨g1, g2, g3⟩ := c1'
    have s1 : (fdT f).size = 10 := fdT_size_day ((Cal.isDay_iff f).2 (by omega))
    have s2 : (fdT t).size = 7 ∨ (fdT t).size = 10 := by
      by_cases e : t = 1000000
      · left; rw [e, fdT_fev]; rfl
      · right; exact fdT_size_day ((Cal.isDay_iff t).2 (by omega))
    rcases s2 with s2 | s2
    all_goals (
    go_enter Try.func18, Try.ntmps18
    go_wp2_with (first | fail | (go_at_call 19; refine (ref_ValidDays _ _ _).mono ?_; rintro e w1 ⟨rfl, hb⟩; obtain ⟨hc, hf⟩ := bcell hb))
    obtain ⟨w3, hw3⟩ : ∃ w3 : World, w3 = w1 := ⟨_, rfl⟩
    rw [← hw3]
    have d0 : w3.cell? ⟨w.heap.size, 0, none⟩ = some (.int .i64 f) := by rw [hw3]; go_simp
    have d1 : w3.cell? ⟨w.heap.size, 1, none⟩ = some (.int .i64 t) := by rw [hw3]; go_simp
    have bl : Below w.heap.size w w3 := by rw [hw3]; exact below_new hb
    have sz : w.heap.size < w3.heap.size := by rw [hw3]; have := hb.size; simp at this; omega
    clear hw3 hc hf hb
    have hi0_0 : w3.cell? ⟨w.heap.size, 0, none⟩ = some (.int .i64 f) := by go_simp
    have hi0_1 : w3.cell? ⟨w.heap.size, 1, none⟩ = some (.int .i64 t) := by go_simp
    have KEEP0 := Lib.hid (show ∀ W1 W2 : World, (W1.cell? ⟨w.heap.size, 0, none⟩ = some (.int .i64 f) ∧ W1.cell? ⟨w.heap.size, 1, none⟩ = some (.int .i64 t) ∧ w3.heap.size ≤ W1.heap.size ∧ Below w.heap.size w W1) → Below W1.heap.size W1 W2 → (W2.cell? ⟨w.heap.size, 0, none⟩ = some (.int .i64 f) ∧ W2.cell? ⟨w.heap.size, 1, none⟩ = some (.int .i64 t) ∧ w3.heap.size ≤ W2.heap.size ∧ Below w.heap.size w W2) from fun W1 W2 ⟨a0, a1, hs, hB⟩ hb => ⟨(hb.cell (p := ⟨w.heap.size, 0, none⟩) (show w.heap.size < W1.heap.size by omega)).trans a0, (hb.cell (p := ⟨w.heap.size, 1, none⟩) (show w.heap.size < W1.heap.size by omega)).trans a1, Nat.le_trans hs hb.size, hB.trans (hb.mono hB.size)⟩)
    have INIT0 := Lib.hid (show (w3.drew.cell? ⟨w.heap.size, 0, none⟩ = some (.int .i64 f) ∧ w3.drew.cell? ⟨w.heap.size, 1, none⟩ = some (.int .i64 t) ∧ w3.heap.size ≤ w3.drew.heap.size ∧ Below w.heap.size w w3.drew) from ⟨hi0_0, hi0_1, Nat.le_refl _, bl.drew⟩)
    go_region_held3 (fun w' => (w'.cell? ⟨w.heap.size, 0, none⟩ = some (.int .i64 f) ∧ w'.cell? ⟨w.heap.size, 1, none⟩ = some (.int .i64 t) ∧ w3.heap.size ≤ w'.heap.size ∧ Below w.heap.size w w')) (first | assumption | exact INIT0.out | exact KEEP0.out _ _ (by assumption) (by assumption))
      (first | (go_at_call 16; refine (ref_FormatDay _ _).mono ?_; rintro e w9 ⟨rfl, hb9⟩))
    obtain ⟨hr0_0, hr0_1, hsz0, hBr0⟩ := ‹_ ∧ _›
    go_wp2
    go_ret
    exact ⟨by rw [← HV.out, HD.out]; rfl, hBr0⟩)
  · have HD := Lib.hid (fpT_no c1)
    have hV : ValidDays f t = false := by unfold ValidDays; simp only [Bool.and_eq_false_iff, decide_eq_false_iff_not]; omega
    by_cases g1 : 0 ≤ f
    · by_cases g2 : f < t
      · have g3 : ¬ t ≤ 1000000 := by omega
        go_enter Try.func18, Try.ntmps18
        go_wp2_with (first | fail | (go_at_call 19; refine (ref_ValidDays _ _ _).mono ?_; rintro e w1 ⟨rfl, hb⟩; obtain ⟨hc, hf⟩ := bcell hb))
        go_ret
        exact ⟨by rw [← HV.out, HD.out]; rfl, below_new hb⟩
      · go_enter Try.func18, Try.ntmps18
        go_wp2_with (first | fail | (go_at_call 19; refine (ref_ValidDays _ _ _).mono ?_; rintro e w1 ⟨rfl, hb⟩; obtain ⟨hc, hf⟩ := bcell hb))
        go_ret
        exact ⟨by rw [← HV.out, HD.out]; rfl, below_new hb⟩
    · go_enter Try.func18, Try.ntmps18
      go_wp2_with (first | fail | (go_at_call 19; refine (ref_ValidDays _ _ _).mono ?_; rintro e w1 ⟨rfl, hb⟩; obtain ⟨hc, hf⟩ := bcell hb))
      go_ret
      exact ⟨by rw [← HV.out, HD.out]; rfl, below_new hb⟩

end Go.Proofs.Ytllbfbgkeajkeaa
