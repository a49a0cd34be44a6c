/-
  Granules in plain integers: starts, their count, the next start, the first day of a granule.
-/
import Derived.Test.YtgimfajanmmkfaaCalB
namespace Go.Proofs.Ytgimfajanmmkfaa.Gr
open Cal

/-- Is this kind and start a valid granularity? -/
def vg (k s : Int) : Bool :=
  (decide (k = 1 ∨ k = 2) && decide (s = 0)) || (decide (k = 3) && decide (1 ≤ s ∧ s ≤ 28)) || (decide (k = 4 ∨ k = 5) && decide (1 ≤ s ∧ s ≤ 12))

theorem vg_iff (k s : Int) : vg k s = true ↔ ((k = 1 ∨ k = 2) ∧ s = 0) ∨ (k = 3 ∧ 1 ≤ s ∧ s ≤ 28) ∨ ((k = 4 ∨ k = 5) ∧ 1 ≤ s ∧ s ≤ 12) := by
  unfold vg; simp [or_assoc]

/-- Months since January 1600. -/
noncomputable def mk (n : Int) : Int := 12 * (tdY n - 1600) + tdM n - 1

/-- How many of 1..n are r modulo k. -/
def al (n r k : Int) : Int := if r = 0 then n / k else if n < r then 0 else (n - r) / k + 1

/-- Years from 1601 on, j of them, that do not begin on a Monday. -/
def yc : Nat → Int
  | 0 => 0
  | j + 1 => yc j + if wd (ys (1600 + j + 1)) = 1 then 0 else 1

/-- Week starts in 1..n. -/
noncomputable def wk (n : Int) : Int := (if 2 ≤ n then (n - 2) / 7 + 1 else 0) + yc (tdY n - 1600).toNat

/-- The number of a day's granule. -/
noncomputable def idx (k s n : Int) : Int :=
  if k = 1 then n else if k = 2 then wk n else if k = 4 then al (mk n) ((s - 1) % 3) 3 else if k = 5 then al (mk n) (s - 1) 12
  else mk n + (if s ≤ tdD n then 1 else 0) - if s = 1 then 1 else 0

/-- Does a granule start on day n, from 1 on? -/
noncomputable def St (k s n : Int) : Prop :=
  k = 1 ∨ (k = 2 ∧ (wd n = 1 ∨ (tdM n = 1 ∧ tdD n = 1))) ∨ (k = 3 ∧ tdD n = s) ∨ (k = 4 ∧ tdD n = 1 ∧ (tdM n - s) % 3 = 0) ∨ (k = 5 ∧ tdD n = 1 ∧ tdM n = s)

theorem td_zero : tdY 0 = 1600 ∧ tdM 0 = 1 ∧ tdD 0 = 1 :=
  td_of (by decide) ⟨by omega, by omega, by omega, by omega, by decide⟩ (by decide)

theorem idx_k (s n : Int) : idx 1 s n = n ∧ idx 2 s n = wk n ∧ idx 4 s n = al (mk n) ((s - 1) % 3) 3 ∧ idx 5 s n = al (mk n) (s - 1) 12 ∧ idx 3 s n = mk n + (if s ≤ tdD n then 1 else 0) - if s = 1 then 1 else 0 := by
  simp [idx]

theorem idx_zero {k s : Int} (hv : vg k s = true) : idx k s 0 = 0 := by
  obtain ⟨h1, h2, h3⟩ := td_zero
  have hm : mk 0 = 0 := by unfold mk; omega
  unfold idx
  rcases (vg_iff k s).1 hv with ⟨rfl | rfl, rfl⟩ | ⟨rfl, a, b⟩ | ⟨rfl | rfl, a, b⟩
  · simp
  · simp [wk, h1, yc]
  · simp only [hm, h3]; simp; split <;> split <;> omega
  · simp only [hm]; simp [al]; try omega
  · simp only [hm]; simp [al]; try omega

/-- From a day to the next: the month's number and the day of the month. -/
theorem mk_next {n : Int} (h0 : 0 ≤ n) (h1 : n < 999999) :
    (mk (n + 1) = mk n ∧ tdY (n + 1) = tdY n ∧ tdM (n + 1) = tdM n ∧ tdD (n + 1) = tdD n + 1) ∨ (mk (n + 1) = mk n + 1 ∧ tdD (n + 1) = 1 ∧ 28 ≤ tdD n ∧ ((tdY (n + 1) = tdY n ∧ tdM (n + 1) = tdM n + 1) ∨ (tdY (n + 1) = tdY n + 1 ∧ tdM (n + 1) = 1 ∧ tdM n = 12))) := by
  have hi : isDay n = true := (isDay_iff n).2 ⟨h0, by omega⟩
  obtain ⟨b1, b2, b3, b4, b5, b6⟩ := td_bounds hi
  have hd := dim_pos (tdY n) (tdM n) b3 b4
  unfold mk
  rcases next_day h0 h1 with ⟨g1, g2, g3, g4⟩ | ⟨g1, g2, g3, g4, g5⟩ | ⟨g1, g2, g3, g4, g5⟩
  · exact .inl ⟨by omega, g2, g3, g4⟩
  · exact .inr ⟨by omega, g5, by omega, .inl ⟨g3, g4⟩⟩
  · exact .inr ⟨by omega, g5, by omega, .inr ⟨g3, g4, g2⟩⟩

theorem mk_nonneg {n : Int} (hi : isDay n = true) : 0 ≤ mk n ∧ mk n < 33600 ∧ tdM n = mk n % 12 + 1 ∧ tdY n = 1600 + mk n / 12 := by
  obtain ⟨b1, b2, b3, b4, b5, b6⟩ := td_bounds hi
  unfold mk; omega

/-- New Year's day. -/
theorem year_start {n : Int} (hi : isDay n = true) (h1 : tdM n = 1) (h2 : tdD n = 1) : n = ys (tdY n) := by
  obtain ⟨v, e⟩ := date_day n hi
  rw [h1, h2] at e
  unfold num at e
  rw [cum_one] at e; omega

open Classical in
theorem idx_succ {k s n : Int} (hv : vg k s = true) (h0 : 0 ≤ n) (h1 : n < 999999) : idx k s (n + 1) = idx k s n + if St k s (n + 1) then 1 else 0 := by
  have hi : isDay n = true := (isDay_iff n).2 ⟨h0, by omega⟩
  have hi' : isDay (n + 1) = true := (isDay_iff _).2 ⟨by omega, by omega⟩
  obtain ⟨b1, b2, b3, b4, b5, b6⟩ := td_bounds hi
  obtain ⟨c1, c2, c3, c4⟩ := mk_nonneg hi
  obtain ⟨d1, d2, d3, d4⟩ := mk_nonneg hi'
  have hn := mk_next h0 h1
  rcases (vg_iff k s).1 hv with ⟨rfl | rfl, rfl⟩ | ⟨rfl, a, b⟩ | ⟨rfl | rfl, a, b⟩
  · have hs : St 1 0 (n + 1) := .inl rfl
    rw [if_pos hs]; simp [idx]
  · have hw : wd (n + 1) = (n + 1 + 5) % 7 + 1 := by unfold wd; rw [if_pos hi']
    have hst : St 2 0 (n + 1) ↔ (wd (n + 1) = 1 ∨ (tdM (n + 1) = 1 ∧ tdD (n + 1) = 1)) := by
      unfold St; constructor
      · rintro (h | ⟨_, h⟩ | ⟨h, _⟩ | ⟨h, _⟩ | ⟨h, _⟩)
        · omega
        · exact h
        · omega
        · omega
        · omega
      · intro h; exact .inr (.inl ⟨rfl, h⟩)
    have hk : idx 2 0 (n + 1) = wk (n + 1) := by simp [idx]
    have hk' : idx 2 0 n = wk n := by simp [idx]
    rw [hk, hk']
    unfold wk
    rcases hn with ⟨_, g1, g2, g3⟩ | ⟨_, g1, _, ⟨g2, g3⟩ | ⟨g2, g3, g4⟩⟩
    · have : St 2 0 (n + 1) ↔ wd (n + 1) = 1 := by rw [hst]; constructor <;> intro h <;> omega
      rw [g1]
      by_cases hm : wd (n + 1) = 1
      · rw [if_pos (this.2 hm)]; split <;> split <;> omega
      · rw [if_neg (fun h => hm (this.1 h))]; split <;> split <;> omega
    · have : St 2 0 (n + 1) ↔ wd (n + 1) = 1 := by rw [hst]; constructor <;> intro h <;> omega
      rw [g2]
      by_cases hm : wd (n + 1) = 1
      · rw [if_pos (this.2 hm)]; split <;> split <;> omega
      · rw [if_neg (fun h => hm (this.1 h))]; split <;> split <;> omega
    · have hS : St 2 0 (n + 1) := hst.2 (.inr ⟨g3, g1⟩)
      have he := year_start hi' g3 g1
      rw [if_pos hS, g2]
      obtain ⟨j, hj⟩ : ∃ j : Nat, tdY n = 1600 + j := ⟨(tdY n - 1600).toNat, by omega⟩
      have e1 : (tdY n + 1 - 1600).toNat = j + 1 := by omega
      have e2 : (tdY n - 1600).toNat = j := by omega
      rw [e1, e2]
      have e3 : ys (1600 + j + 1) = n + 1 := by rw [he, g2, hj]
      simp only [yc, e3]
      by_cases hm : wd (n + 1) = 1
      · rw [if_pos hm]; split <;> split <;> omega
      · rw [if_neg hm]; split <;> split <;> omega
  · have hst : St 3 s (n + 1) ↔ tdD (n + 1) = s := by
      unfold St; constructor
      · rintro (h | ⟨h, _⟩ | ⟨_, h⟩ | ⟨h, _⟩ | ⟨h, _⟩)
        · omega
        · omega
        · exact h
        · omega
        · omega
      · intro h; exact .inr (.inr (.inl ⟨rfl, h⟩))
    have hk : ∀ m, idx 3 s m = mk m + (if s ≤ tdD m then 1 else 0) - if s = 1 then 1 else 0 := by intro m; simp [idx]
    rw [hk, hk]
    by_cases hm : tdD (n + 1) = s
    · rw [if_pos (hst.2 hm)]
      rcases hn with ⟨g0, _, _, g3⟩ | ⟨g0, g1, g2, _⟩
      · rw [if_pos (by omega), if_neg (c := s ≤ tdD n) (by omega)]; split <;> omega
      · rw [if_pos (by omega), if_pos (c := s ≤ tdD n) (by omega)]; split <;> omega
    · rw [if_neg (fun h => hm (hst.1 h))]
      rcases hn with ⟨g0, _, _, g3⟩ | ⟨g0, g1, g2, _⟩
      · by_cases c : s ≤ tdD n
        · rw [if_pos (by omega), if_pos c]; split <;> omega
        · rw [if_neg (by omega), if_neg c]; split <;> omega
      · rw [if_neg (by omega), if_pos (c := s ≤ tdD n) (by omega)]; split <;> omega
  · have hst : St 4 s (n + 1) ↔ (tdD (n + 1) = 1 ∧ (tdM (n + 1) - s) % 3 = 0) := by
      unfold St; constructor
      · rintro (h | ⟨h, _⟩ | ⟨h, _⟩ | ⟨_, h⟩ | ⟨h, _⟩)
        · omega
        · omega
        · omega
        · exact h
        · omega
      · intro h; exact .inr (.inr (.inr (.inl ⟨rfl, h⟩)))
    have hk : ∀ m, idx 4 s m = al (mk m) ((s - 1) % 3) 3 := by intro m; simp [idx]
    rw [hk, hk]
    rcases hn with ⟨g0, _, _, g3⟩ | ⟨g0, g1, g2, _⟩
    · rw [if_neg (fun h => by have := (hst.1 h).1; omega), g0]; omega
    · rw [g0]
      unfold al
      by_cases hm : (tdM (n + 1) - s) % 3 = 0
      · rw [if_pos (hst.2 ⟨g1, hm⟩)]; (repeat' split) <;> omega
      · rw [if_neg (fun h => hm (hst.1 h).2)]; (repeat' split) <;> omega
  · have hst : St 5 s (n + 1) ↔ (tdD (n + 1) = 1 ∧ tdM (n + 1) = s) := by
      unfold St; constructor
      · rintro (h | ⟨h, _⟩ | ⟨h, _⟩ | ⟨h, _⟩ | ⟨_, h⟩)
        · omega
        · omega
        · omega
        · omega
        · exact h
      · intro h; exact .inr (.inr (.inr (.inr ⟨rfl, h⟩)))
    have hk : ∀ m, idx 5 s m = al (mk m) (s - 1) 12 := by intro m; simp [idx]
    rw [hk, hk]
    rcases hn with ⟨g0, _, _, g3⟩ | ⟨g0, g1, g2, _⟩
    · rw [if_neg (fun h => by have := (hst.1 h).1; omega), g0]; omega
    · rw [g0]
      unfold al
      by_cases hm : tdM (n + 1) = s
      · rw [if_pos (hst.2 ⟨g1, hm⟩)]; (repeat' split) <;> omega
      · rw [if_neg (fun h => hm (hst.1 h).2)]; (repeat' split) <;> omega

theorem idx_step {k s n : Int} (hv : vg k s = true) (h0 : 0 ≤ n) (h1 : n < 999999) : idx k s (n + 1) = idx k s n ∨ idx k s (n + 1) = idx k s n + 1 := by
  rw [idx_succ hv h0 h1]; split <;> omega

theorem idx_mono {k s a b : Int} (hv : vg k s = true) (h0 : 0 ≤ a) (h : a ≤ b) (h1 : b < 1000000) : idx k s a ≤ idx k s b ∧ idx k s b ≤ idx k s a + (b - a) := by
  obtain ⟨j, rfl⟩ : ∃ j : Nat, b = a + j := ⟨(b - a).toNat, by omega⟩
  clear h
  induction j with
  | zero => simp
  | succ j ih =>
    have g := ih (by omega)
    have e := idx_step (n := a + j) hv (by omega) (by omega)
    rw [show a + ((j + 1 : Nat) : Int) = a + j + 1 by omega]
    omega

theorem idx_bd {k s n : Int} (hv : vg k s = true) (h0 : 0 ≤ n) (h1 : n < 1000000) : 0 ≤ idx k s n ∧ idx k s n ≤ n := by
  have h := idx_mono hv (Int.le_refl 0) h0 h1
  rw [idx_zero hv] at h; omega

/-- x is the first day whose granule has a number of i or more, or Forever. -/
def IsFirst (k s i x : Int) : Prop := 0 ≤ x ∧ x ≤ 1000000 ∧ (∀ n, 0 ≤ n → n < x → idx k s n < i) ∧ (x < 1000000 → i ≤ idx k s x)

theorem IsFirst.unique {k s i x y : Int} (h : IsFirst k s i x) (g : IsFirst k s i y) : x = y := by
  obtain ⟨h1, h2, h3, h4⟩ := h
  obtain ⟨g1, g2, g3, g4⟩ := g
  rcases Int.lt_trichotomy x y with c | c | c
  · have := g3 x h1 c; have := h4 (by omega); omega
  · exact c
  · have := h3 y g1 c; have := g4 (by omega); omega

theorem first_ex (k s i : Int) : ∃ x, IsFirst k s i x := by
  have H : ∀ m : Nat, m ≤ 1000000 → (∃ x, IsFirst k s i x) ∨ (∀ n : Int, 0 ≤ n → n < m → idx k s n < i) := by
    intro m
    induction m with
    | zero => intro _; exact .inr (fun n a b => by omega)
    | succ m ih =>
      intro hm
      rcases ih (by omega) with h | h
      · exact .inl h
      · by_cases c : i ≤ idx k s m
        · exact .inl ⟨m, by omega, by omega, h, fun _ => c⟩
        · refine .inr (fun n a b => ?_)
          rcases Int.lt_or_eq_of_le (show n ≤ m by omega) with d | d
          · exact h n a d
          · subst d; omega
  rcases H 1000000 (Nat.le_refl _) with h | h
  · exact h
  · exact ⟨1000000, by omega, by omega, h, fun c => by omega⟩

/-- The first day of granule i, or Forever. -/
noncomputable def fs (k s i : Int) : Int := Classical.choose (first_ex k s i)
theorem fs_spec (k s i : Int) : IsFirst k s i (fs k s i) := Classical.choose_spec (first_ex k s i)
theorem fs_eq {k s i x : Int} (h : IsFirst k s i x) : fs k s i = x := (fs_spec k s i).unique h

theorem fs_idx {k s i : Int} (hv : vg k s = true) (h0 : 0 ≤ i) (h1 : fs k s i < 1000000) : idx k s (fs k s i) = i := by
  obtain ⟨f1, f2, f3, f4⟩ := fs_spec k s i
  have g := f4 h1
  by_cases c : fs k s i = 0
  · rw [c] at g ⊢; rw [idx_zero hv] at g ⊢; omega
  · have a := f3 (fs k s i - 1) (by omega) (by omega)
    have b := idx_step (n := fs k s i - 1) hv (by omega) (by omega)
    rw [show fs k s i - 1 + 1 = fs k s i by omega] at b
    omega

theorem fs_lt {k s i : Int} (_ : vg k s = true) (h1 : i ≤ idx k s 999999) : fs k s i < 1000000 := by
  obtain ⟨f1, f2, f3, f4⟩ := fs_spec k s i
  rcases Int.lt_or_le (fs k s i) 1000000 with c | c
  · exact c
  · have := f3 999999 (by omega) (by omega); omega

theorem fs_ge {k s i : Int} (hv : vg k s = true) (h1 : idx k s 999999 < i) : fs k s i = 1000000 := by
  obtain ⟨f1, f2, f3, f4⟩ := fs_spec k s i
  rcases Int.lt_or_le (fs k s i) 1000000 with c | c
  · have := f4 c; have := (idx_mono hv f1 (show fs k s i ≤ 999999 by omega) (by omega)).1; omega
  · omega

theorem fs_zero {k s i : Int} (hv : vg k s = true) (h : i ≤ 0) : fs k s i = 0 :=
  fs_eq ⟨by omega, by omega, fun n a b => by omega, fun _ => by rw [idx_zero hv]; exact h⟩

theorem fs_pos {k s i : Int} (hv : vg k s = true) (h : 0 < i) : 0 < fs k s i := by
  obtain ⟨f1, f2, f3, f4⟩ := fs_spec k s i
  rcases Int.lt_or_eq_of_le f1 with c | c
  · exact c
  · have := f4 (by omega); rw [← c, idx_zero hv] at this; omega

/-- A day lies between its granule's first day and the next granule's. -/
theorem fs_day {k s n : Int} (hv : vg k s = true) (h0 : 0 ≤ n) (h1 : n < 1000000) : fs k s (idx k s n) ≤ n ∧ n < fs k s (idx k s n + 1) := by
  obtain ⟨f1, f2, f3, f4⟩ := fs_spec k s (idx k s n)
  obtain ⟨g1, g2, g3, g4⟩ := fs_spec k s (idx k s n + 1)
  constructor
  · rcases Int.lt_or_le n (fs k s (idx k s n)) with c | c
    · have := f3 n h0 c; omega
    · exact c
  · rcases Int.lt_or_le n (fs k s (idx k s n + 1)) with c | c
    · exact c
    · have := g4 (by omega); have := (idx_mono hv g1 c h1).1; omega

/-- What makes a day the next start behind n. -/
theorem fs_next {k s n x : Int} (hv : vg k s = true) (h0 : 0 ≤ n) (h1 : n < 1000000) (hx : n < x) (hx1 : x ≤ 1000000) (hno : ∀ m, n < m → m < x → ¬ St k s m) (hst : x < 1000000 → St k s x) :
    fs k s (idx k s n + 1) = x := by
  have hc : ∀ j : Nat, n + j < x → idx k s (n + j) = idx k s n := by
    intro j
    induction j with
    | zero => intro _; simp
    | succ j ih =>
      intro h
      have e := ih (by omega)
      have g := idx_succ (n := n + j) hv (by omega) (by omega)
      rw [show n + ((j + 1 : Nat) : Int) = n + j + 1 by omega, g, if_neg (hno _ (by omega) (by omega)), e]; omega
  refine fs_eq ⟨by omega, hx1, fun m a b => ?_, fun hlt => ?_⟩
  · rcases Int.lt_or_le m n with c | c
    · have := (idx_mono hv a (Int.le_of_lt c) h1).1; omega
    · have e := hc (m - n).toNat (by omega)
      rw [show n + ((m - n).toNat : Int) = m by omega] at e; omega
  · have e := hc (x - 1 - n).toNat (by omega)
    rw [show n + ((x - 1 - n).toNat : Int) = x - 1 by omega] at e
    have g := idx_succ (n := x - 1) hv (by omega) (by omega)
    rw [show x - 1 + 1 = x by omega, if_pos (hst hlt)] at g
    omega

/-- The month behind m, of a year that begins at month index 0. -/
theorem lt_mi {y m d y' m' d' : Int} (h : Vld y m d) (h' : Vld y' m' d') :
    num y m d < num y' m' d' ↔ (12 * (y - 1600) + m - 1 < 12 * (y' - 1600) + m' - 1 ∨ (12 * (y - 1600) + m - 1 = 12 * (y' - 1600) + m' - 1 ∧ d < d')) := by
  rw [h.lt_iff h']
  have := h.m1; have := h.m12; have := h'.m1; have := h'.m12
  omega

/-- The next start behind day n lies in the month with index q, on day t of it, whatever kind. -/
theorem next_at {k s n q t : Int} (hv : vg k s = true) (hi : isDay n = true) (ht : 1 ≤ t ∧ t ≤ 28) (hq : 0 ≤ q)
    (h1 : mk n < q ∨ (mk n = q ∧ tdD n < t))
    (hno : ∀ m, isDay m = true → (mk n < mk m ∨ (mk n = mk m ∧ tdD n < tdD m)) → (mk m < q ∨ (mk m = q ∧ tdD m < t)) → ¬ St k s m)
    (hst : ∀ m, isDay m = true → mk m = q → tdD m = t → St k s m) :
    fs k s (idx k s n + 1) = if fdB (1600 + q / 12) (q % 12 + 1) t = true then fdN (1600 + q / 12) (q % 12 + 1) t else 1000000 := by
  have hb := (isDay_iff n).1 hi
  obtain ⟨v, e⟩ := date_day n hi
  have hd := dim_pos (1600 + q / 12) (q % 12 + 1) (by omega) (by omega)
  have v' : Vld (1600 + q / 12) (q % 12 + 1) t := ⟨by omega, by omega, by omega, ht.1, by omega⟩
  have hlt := (lt_mi v v').2 (by unfold mk at h1; omega)
  rw [e] at hlt
  have key : ∀ m, n < m → m < 1000000 → m < num (1600 + q / 12) (q % 12 + 1) t → ¬ St k s m := by
    intro m c1 c2 c3
    have him : isDay m = true := (isDay_iff m).2 ⟨by omega, c2⟩
    obtain ⟨vm, em⟩ := date_day m him
    refine hno m him ?_ ?_
    · have := (lt_mi v vm).1 (by omega); unfold mk; exact this
    · have := (lt_mi vm v').1 (by omega); unfold mk; omega
  by_cases hf : num (1600 + q / 12) (q % 12 + 1) t < 1000000
  · have hfd := (fdB_iff _ _ _).2 ⟨v', hf⟩
    rw [if_pos hfd, fdN_yes hfd]
    have hi' : isDay (num (1600 + q / 12) (q % 12 + 1) t) = true := (isDay_iff _).2 ⟨by omega, hf⟩
    obtain ⟨t1, t2, t3⟩ := td_of hi' v' rfl
    exact fs_next hv hb.1 hb.2 hlt (by omega) (fun m a b => key m a (by omega) b) (fun _ => hst _ hi' (by unfold mk; rw [t1, t2]; omega) t3)
  · have hfd : fdB (1600 + q / 12) (q % 12 + 1) t = false := fdB_no (fun g => hf g.2)
    rw [hfd, if_neg (by simp)]
    exact fs_next hv hb.1 hb.2 hb.2 (Int.le_refl _) (fun m a b => key m a b (by omega)) (fun g => by omega)

theorem st_k (s n : Int) : St 1 s n ∧ (St 2 s n ↔ (wd n = 1 ∨ (tdM n = 1 ∧ tdD n = 1))) ∧ (St 3 s n ↔ tdD n = s) ∧ (St 4 s n ↔ (tdD n = 1 ∧ (tdM n - s) % 3 = 0)) ∧ (St 5 s n ↔ (tdD n = 1 ∧ tdM n = s)) := by
  unfold St; simp

/-- Months: the first day s behind n. -/
theorem next_months {s n : Int} (hv : vg 3 s = true) (hi : isDay n = true) :
    fs 3 s (idx 3 s n + 1) = (let q := if tdD n < s then mk n else mk n + 1; if fdB (1600 + q / 12) (q % 12 + 1) s = true then fdN (1600 + q / 12) (q % 12 + 1) s else 1000000) := by
  have hs : 1 ≤ s ∧ s ≤ 28 := by have := (vg_iff 3 s).1 hv; omega
  obtain ⟨c1, c2, c3, c4⟩ := mk_nonneg hi
  refine next_at hv hi hs ?_ ?_ ?_ ?_
  · split <;> omega
  · split <;> omega
  · intro m him g1 g2 hst
    have := (st_k s m).2.2.1.1 hst
    split at g2 <;> omega
  · intro m him g1 g2; exact (st_k s m).2.2.1.2 g2

/-- Quarters: the first of the next month that is s modulo 3. -/
theorem next_quarters {s n q : Int} (hv : vg 4 s = true) (hi : isDay n = true) (h1 : mk n < q) (h2 : q ≤ mk n + 3) (h3 : (q % 12 + 1 - s) % 3 = 0) :
    fs 4 s (idx 4 s n + 1) = if fdB (1600 + q / 12) (q % 12 + 1) 1 = true then fdN (1600 + q / 12) (q % 12 + 1) 1 else 1000000 := by
  obtain ⟨c1, c2, c3, c4⟩ := mk_nonneg hi
  have hb := td_bounds hi
  refine next_at hv hi (by omega) (by omega) (.inl h1) ?_ ?_
  · intro m him g1 g2 hst
    have := (st_k s m).2.2.2.1.1 hst
    obtain ⟨d1, d2, d3, d4⟩ := mk_nonneg him
    have hm := td_bounds him
    omega
  · intro m him g1 g2
    obtain ⟨d1, d2, d3, d4⟩ := mk_nonneg him
    exact (st_k s m).2.2.2.1.2 ⟨g2, by omega⟩

/-- Years: the first of the next month s. -/
theorem next_years {s n q : Int} (hv : vg 5 s = true) (hi : isDay n = true) (h1 : mk n < q) (h2 : q ≤ mk n + 12) (h3 : q % 12 + 1 = s) :
    fs 5 s (idx 5 s n + 1) = if fdB (1600 + q / 12) (q % 12 + 1) 1 = true then fdN (1600 + q / 12) (q % 12 + 1) 1 else 1000000 := by
  obtain ⟨c1, c2, c3, c4⟩ := mk_nonneg hi
  have hb := td_bounds hi
  refine next_at hv hi (by omega) (by omega) (.inl h1) ?_ ?_
  · intro m him g1 g2 hst
    have := (st_k s m).2.2.2.2.1 hst
    obtain ⟨d1, d2, d3, d4⟩ := mk_nonneg him
    have hm := td_bounds him
    omega
  · intro m him g1 g2
    obtain ⟨d1, d2, d3, d4⟩ := mk_nonneg him
    exact (st_k s m).2.2.2.2.2 ⟨g2, by omega⟩

theorem next_days {s n : Int} (hv : vg 1 s = true) (hi : isDay n = true) : fs 1 s (idx 1 s n + 1) = n + 1 := by
  have hb := (isDay_iff n).1 hi
  exact fs_next hv hb.1 hb.2 (by omega) (by omega) (fun m a b => by omega) (fun _ => (st_k s _).1)

/-- Weeks: the next Monday or New Year. -/
theorem next_weeks {s n : Int} (hv : vg 2 s = true) (hi : isDay n = true) :
    fs 2 s (idx 2 s n + 1) = if fdB (tdY n + 1) 1 1 = true then min (min (n + 8 - wd n) 1000000) (fdN (tdY n + 1) 1 1) else min (n + 8 - wd n) 1000000 := by
  have hb := (isDay_iff n).1 hi
  obtain ⟨v, e⟩ := date_day n hi
  have hy := v.in_year
  rw [e] at hy
  have hw : wd n = (n + 5) % 7 + 1 := by unfold wd; rw [if_pos hi]
  have v' : Vld (tdY n + 1) 1 1 := ⟨by have := v.y0; omega, by omega, by omega, by omega, by have := dim_pos (tdY n + 1) 1 (by omega) (by omega); omega⟩
  have hno : ∀ m, n < m → m < 1000000 → m < n + 8 - wd n → m < ys (tdY n + 1) → ¬ St 2 s m := by
    intro m a1 a2 a3 a4 hst
    have him : isDay m = true := (isDay_iff m).2 ⟨by omega, a2⟩
    have hwm : wd m = (m + 5) % 7 + 1 := by unfold wd; rw [if_pos him]
    rcases (st_k s m).2.1.1 hst with g | ⟨g1, g2⟩
    · omega
    · have e1 := year_start him g1 g2
      rcases Int.lt_or_le (tdY n) (tdY m) with c | c
      · have := ys_mono (a := tdY n + 1) (b := tdY m) (by omega); omega
      · have := ys_mono c; omega
  have hwd : ∀ x, isDay x = true → wd x = (x + 5) % 7 + 1 := fun x hx => by unfold wd; rw [if_pos hx]
  by_cases hf : ys (tdY n + 1) < 1000000
  · have hfd := (fdB_iff (tdY n + 1) 1 1).2 ⟨v', by rw [num_jan1]; exact hf⟩
    rw [if_pos hfd, fdN_yes hfd, num_jan1]
    refine fs_next hv hb.1 hb.2 (by omega) (by omega) (fun m a b => hno m a (by omega) (by omega) (by omega)) (fun c => ?_)
    have hi' : isDay (min (min (n + 8 - wd n) 1000000) (ys (tdY n + 1))) = true := (isDay_iff _).2 ⟨by omega, c⟩
    refine (st_k s _).2.1.2 ?_
    by_cases c2 : n + 8 - wd n ≤ ys (tdY n + 1)
    · left
      rw [hwd _ hi']; omega
    · right
      have e2 : min (min (n + 8 - wd n) 1000000) (ys (tdY n + 1)) = ys (tdY n + 1) := by omega
      rw [e2] at hi' ⊢
      obtain ⟨t1, t2, t3⟩ := td_of hi' v' (num_jan1 _)
      exact ⟨t2, t3⟩
  · have hfd : fdB (tdY n + 1) 1 1 = false := fdB_no (fun g => by have := g.2; rw [num_jan1] at this; omega)
    rw [hfd, if_neg (by simp)]
    refine fs_next hv hb.1 hb.2 (by omega) (by omega) (fun m a b => hno m a (by omega) (by omega) (by omega)) (fun c => ?_)
    have e2 : min (n + 8 - wd n) 1000000 = n + 8 - wd n := by omega
    rw [e2] at c ⊢
    have hi' : isDay (n + 8 - wd n) = true := (isDay_iff _).2 ⟨by omega, by omega⟩
    refine (st_k s _).2.1.2 (.inl ?_)
    rw [hwd _ hi']; omega

end Go.Proofs.Ytgimfajanmmkfaa.Gr
