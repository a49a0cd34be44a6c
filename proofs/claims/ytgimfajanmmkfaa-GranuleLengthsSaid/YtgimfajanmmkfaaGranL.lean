/-
  The lengths of granules, in plain integers.
-/
import Derived.Test.YtgimfajanmmkfaaGran
namespace Go.Proofs.Ytgimfajanmmkfaa.Gr
open Cal

/-- A granule behind the first one begins at a start. -/
theorem fs_start {k s i : Int} (hv : vg k s = true) (h0 : 0 < fs k s i) (h1 : fs k s i < 1000000) : St k s (fs k s i) := by
  obtain ⟨f1, f2, f3, f4⟩ := fs_spec k s i
  have a := f3 (fs k s i - 1) (by omega) (by omega)
  have b := f4 h1
  have e := idx_succ (n := fs k s i - 1) hv (by omega) (by omega)
  rw [show fs k s i - 1 + 1 = fs k s i by omega] at e
  by_cases c : St k s (fs k s i)
  · exact c
  · rw [if_neg c] at e; omega

/-- The lengths that a kind allows. -/
def low (k : Int) : Int := if k = 3 then 28 else if k = 4 then 89 else if k = 5 then 365 else 1
def high (k : Int) : Int := if k = 1 then 1 else if k = 2 then 7 else if k = 3 then 31 else if k = 4 then 92 else 366

theorem fdN_lt {y m d : Int} (h : (if fdB y m d = true then fdN y m d else 1000000) < 1000000) : fdB y m d = true ∧ (if fdB y m d = true then fdN y m d else 1000000) = num y m d := by
  cases e : fdB y m d with
  | false => rw [e] at h; simp at h
  | true => exact ⟨rfl, by rw [if_pos rfl, fdN_yes e]⟩

theorem lengths {k s i : Int} (hv : vg k s = true) (h0 : 0 < fs k s i) (h1 : fs k s (i + 1) < 1000000) (hi : 0 ≤ i) (hl : fs k s i < 1000000) :
    low k ≤ fs k s (i + 1) - fs k s i ∧ fs k s (i + 1) - fs k s i ≤ high k := by
  have hst := fs_start hv h0 hl
  have hid := fs_idx hv hi hl
  generalize hA : fs k s i = A at *
  have hday : isDay A = true := (isDay_iff A).2 ⟨by omega, hl⟩
  obtain ⟨v, e⟩ := date_day A hday
  obtain ⟨c1, c2, c3, c4⟩ := mk_nonneg hday
  rw [← hid] at h1 ⊢
  have m1 := v.m1; have m12 := v.m12
  rcases (vg_iff k s).1 hv with ⟨rfl | rfl, rfl⟩ | ⟨rfl, a, b⟩ | ⟨rfl | rfl, a, b⟩
  · rw [next_days hv hday]; simp [low, high]; omega
  · have hn := next_weeks hv hday
    have hf := fs_day hv (by omega : (0 : Int) ≤ A) hl
    have hw : wd A = (A + 5) % 7 + 1 := by unfold wd; rw [if_pos hday]
    simp [low, high]
    generalize fs 2 0 (idx 2 0 A + 1) = B at *
    split at hn <;> omega
  · have hd := (st_k s A).2.2.1.1 hst
    have hn := next_months hv hday
    simp only [if_neg (show ¬ tdD A < s by omega)] at hn
    rw [hn] at h1 ⊢
    obtain ⟨_, e2⟩ := fdN_lt h1
    rw [e2]
    rw [hd] at e
    have hs := cum_succ (tdY A) (tdM A) m1 m12
    have hdm := dim_pos (tdY A) (tdM A) m1 m12
    have hdm' := dim_01 (tdY A) (tdM A)
    simp [low, high]
    by_cases cm : tdM A = 12
    · rw [show 1600 + (mk A + 1) / 12 = tdY A + 1 by omega, show (mk A + 1) % 12 + 1 = 1 by omega]
      have hy := ys_succ (tdY A)
      have h13 := cum_13 (tdY A)
      have h1' := cum_one (tdY A + 1)
      rw [cm, show (12 : Int) + 1 = 13 from rfl] at hs
      rw [cm] at hdm hdm' e
      unfold num at e ⊢; omega
    · rw [show 1600 + (mk A + 1) / 12 = tdY A by omega, show (mk A + 1) % 12 + 1 = tdM A + 1 by omega]
      unfold num at e ⊢; omega
  · have hd := (st_k s A).2.2.2.1.1 hst
    have hn := next_quarters (q := mk A + 3) hv hday (by omega) (by omega) (by omega)
    rw [hn] at h1 ⊢
    obtain ⟨_, e2⟩ := fdN_lt h1
    rw [e2]
    rw [hd.1] at e
    have l0 := lp_01 (tdY A); have l1 := lp_01 (tdY A + 1)
    have hy := ys_succ (tdY A)
    simp [low, high]
    have hc : tdM A = 1 ∨ tdM A = 2 ∨ tdM A = 3 ∨ tdM A = 4 ∨ tdM A = 5 ∨ tdM A = 6 ∨ tdM A = 7 ∨ tdM A = 8 ∨ tdM A = 9 ∨ tdM A = 10 ∨ tdM A = 11 ∨ tdM A = 12 := by omega
    rcases hc with h | h | h | h | h | h | h | h | h | h | h | h
    all_goals
      rw [h] at e
      first
        | (rw [show 1600 + (mk A + 3) / 12 = tdY A by omega, show (mk A + 3) % 12 + 1 = tdM A + 3 by omega, h]; simp [num, cum] at e ⊢; omega)
        | (rw [show 1600 + (mk A + 3) / 12 = tdY A + 1 by omega, show (mk A + 3) % 12 + 1 = tdM A - 9 by omega, h]; simp [num, cum] at e ⊢; omega)
  · have hd := (st_k s A).2.2.2.2.1 hst
    have hn := next_years (q := mk A + 12) hv hday (by omega) (by omega) (by omega)
    rw [hn] at h1 ⊢
    obtain ⟨_, e2⟩ := fdN_lt h1
    rw [e2]
    rw [hd.1] at e
    have l0 := lp_01 (tdY A); have l1 := lp_01 (tdY A + 1)
    have hy := ys_succ (tdY A)
    rw [show 1600 + (mk A + 12) / 12 = tdY A + 1 by omega, show (mk A + 12) % 12 + 1 = tdM A by omega]
    simp [low, high]
    unfold num cum at e ⊢
    by_cases c : tdM A ≤ 2
    · rw [if_pos c] at e ⊢; omega
    · rw [if_neg c] at e ⊢; omega

end Go.Proofs.Ytgimfajanmmkfaa.Gr
