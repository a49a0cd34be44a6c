/-
  The proleptic Gregorian calendar from 1600 on, in plain integers: no program in sight.
-/
namespace Go.Proofs.Ytllbfbgkeajkeaa.Cal

/-- Is y a leap year? -/
def leap (y : Int) : Bool := (y % 4 == 0 && y % 100 != 0) || y % 400 == 0

/-- 1 in a leap year, else 0. -/
def lp (y : Int) : Int := if leap y = true then 1 else 0

/-- The days of a month; 0 if there is no such month. -/
def dim (y m : Int) : Int :=
  if m = 2 then 28 + lp y
  else if m = 4 ∨ m = 6 ∨ m = 9 ∨ m = 11 then 30
  else if 1 ≤ m ∧ m ≤ 12 then 31 else 0

/-- The day number of 1 January of y. -/
def ys (y : Int) : Int := 365 * (y - 1600) + (y - 1600 + 3) / 4 - (y - 1600 + 99) / 100 + (y - 1600 + 399) / 400

/-- The days of a year ahead of month m (1 to 13). -/
def cum (y m : Int) : Int := (367 * m - 362) / 12 + if m ≤ 2 then 0 else lp y - 2

theorem lp_01 (y : Int) : 0 ≤ lp y ∧ lp y ≤ 1 := by unfold lp; split <;> omega

theorem leap_iff (y : Int) : leap y = true ↔ (y % 4 = 0 ∧ y % 100 ≠ 0) ∨ y % 400 = 0 := by
  unfold leap; simp

theorem ys_succ (y : Int) : ys (y + 1) = ys y + 365 + lp y := by
  have h := leap_iff y
  unfold lp ys
  by_cases hl : leap y = true
  · rw [if_pos hl]; have := h.1 hl; omega
  · rw [if_neg hl]
    have : ¬ ((y % 4 = 0 ∧ y % 100 ≠ 0) ∨ y % 400 = 0) := fun g => hl (h.2 g)
    omega

theorem ys_mono {a b : Int} (h : a ≤ b) : ys a ≤ ys b := by unfold ys; omega

theorem ys_lt {a b : Int} (h : a < b) : ys a + 365 ≤ ys b := by
  have h1 := ys_succ a
  have h2 := ys_mono (a := a + 1) (b := b) (by omega)
  have := lp_01 a
  omega

theorem dim_01 (y m : Int) : 0 ≤ dim y m ∧ dim y m ≤ 31 := by
  have := lp_01 y
  unfold dim; split <;> (try split) <;> (try split) <;> omega

theorem dim_pos (y m : Int) (h1 : 1 ≤ m) (h2 : m ≤ 12) : 28 ≤ dim y m := by
  have := lp_01 y
  unfold dim; split <;> (try split) <;> (try split) <;> omega

theorem dim_out (y m : Int) (h : m < 1 ∨ 12 < m) : dim y m = 0 := by
  unfold dim; split <;> (try split) <;> (try split) <;> omega

theorem dim_in (y m : Int) (h : 1 ≤ dim y m) : 1 ≤ m ∧ m ≤ 12 := by
  by_cases g : m < 1 ∨ 12 < m
  · have := dim_out y m g; omega
  · omega

theorem cum_one (y : Int) : cum y 1 = 0 := by simp [cum]

theorem cum_succ (y m : Int) (h1 : 1 ≤ m) (h2 : m ≤ 12) : cum y (m + 1) = cum y m + dim y m := by
  have hc : m = 1 ∨ m = 2 ∨ m = 3 ∨ m = 4 ∨ m = 5 ∨ m = 6 ∨ m = 7 ∨ m = 8 ∨ m = 9 ∨ m = 10 ∨ m = 11 ∨ m = 12 := by omega
  rcases hc with h | h | h | h | h | h | h | h | h | h | h | h <;> subst h <;> simp [cum, dim] <;> omega

theorem cum_13 (y : Int) : cum y 13 = 365 + lp y := by simp [cum]; omega

theorem cum_bd (y m : Int) (h1 : 1 ≤ m) (h2 : m ≤ 13) : 0 ≤ cum y m ∧ cum y m ≤ 366 := by
  have := lp_01 y
  unfold cum
  split <;> omega

theorem cum_mono (y : Int) {a b : Int} (h : a ≤ b) : cum y a ≤ cum y b := by
  have := lp_01 y
  unfold cum
  split <;> split <;> omega

/-- The number of a date. -/
def num (y m d : Int) : Int := ys y + cum y m + d - 1

/-- There is such a date, from 1600 on. -/
structure Vld (y m d : Int) : Prop where
  y0 : 1600 ≤ y
  m1 : 1 ≤ m
  m12 : m ≤ 12
  d1 : 1 ≤ d
  dm : d ≤ dim y m

theorem Vld.in_year {y m d : Int} (h : Vld y m d) : ys y ≤ num y m d ∧ num y m d < ys (y + 1) := by
  have h1 := cum_succ y m h.m1 h.m12
  have h2 := cum_mono y (a := m + 1) (b := 13) (by have := h.m12; omega)
  have h3 := cum_13 y
  have h4 := ys_succ y
  have h5 := cum_bd y m h.m1 (by have := h.m12; omega)
  have := h.d1; have := h.dm
  unfold num; omega

/-- A day's date is one alone. -/
theorem Vld.unique {y m d y' m' d' : Int} (h : Vld y m d) (h' : Vld y' m' d') (e : num y m d = num y' m' d') : y = y' ∧ m = m' ∧ d = d' := by
  have g := h.in_year
  have g' := h'.in_year
  have hy : y = y' := by
    rcases Int.lt_trichotomy y y' with c | c | c
    · have := ys_mono (a := y + 1) (b := y') (by omega); omega
    · exact c
    · have := ys_mono (a := y' + 1) (b := y) (by omega); omega
  subst hy
  have hd := h.d1; have hm := h.dm; have hd' := h'.d1; have hm' := h'.dm
  have hm : m = m' := by
    rcases Int.lt_trichotomy m m' with c | c | c
    · have e1 := cum_succ y m h.m1 h.m12
      have := cum_mono y (a := m + 1) (b := m') (by omega)
      unfold num at e; omega
    · exact c
    · have e1 := cum_succ y m' h'.m1 h'.m12
      have := cum_mono y (a := m' + 1) (b := m) (by omega)
      unfold num at e; omega
  subst hm
  exact ⟨rfl, rfl, by unfold num at e; omega⟩

/-- A later day has a later date, in the order of year, month, day. -/
theorem Vld.lt_iff {y m d y' m' d' : Int} (h : Vld y m d) (h' : Vld y' m' d') :
    num y m d < num y' m' d' ↔ (y < y' ∨ (y = y' ∧ (m < m' ∨ (m = m' ∧ d < d')))) := by
  have g := h.in_year
  have g' := h'.in_year
  have hd := h.d1; have hm := h.dm; have hd' := h'.d1; have hm' := h'.dm
  rcases Int.lt_trichotomy y y' with c | c | c
  · have := ys_mono (a := y + 1) (b := y') (by omega)
    constructor
    · intro _; exact .inl c
    · intro _; omega
  · subst c
    rcases Int.lt_trichotomy m m' with c | c | c
    · have e1 := cum_succ y m h.m1 h.m12
      have := cum_mono y (a := m + 1) (b := m') (by omega)
      constructor
      · intro _; exact .inr ⟨rfl, .inl c⟩
      · intro _; unfold num; omega
    · subst c
      unfold num
      constructor
      · intro _; exact .inr ⟨rfl, .inr ⟨rfl, by omega⟩⟩
      · intro _; omega
    · have e1 := cum_succ y m' h'.m1 h'.m12
      have := cum_mono y (a := m' + 1) (b := m) (by omega)
      constructor
      · intro x; unfold num at x; omega
      · intro x; omega
  · have := ys_mono (a := y' + 1) (b := y) (by omega)
    constructor
    · intro x; omega
    · intro x; omega

/-- Is d the number of a day? -/
def isDay (d : Int) : Bool := decide (0 ≤ d) && decide (d < 1000000)

/-- Is there such a date, with a number that is a day's? -/
def fdB (y m d : Int) : Bool := decide (1600 ≤ y) && decide (1 ≤ d) && decide (d ≤ dim y m) && decide (num y m d < 1000000)

/-- The number that FromDate returns. -/
def fdN (y m d : Int) : Int := if fdB y m d = true then num y m d else 0

theorem fdB_iff (y m d : Int) : fdB y m d = true ↔ Vld y m d ∧ num y m d < 1000000 := by
  unfold fdB
  simp only [Bool.and_eq_true, decide_eq_true_eq]
  constructor
  · rintro ⟨⟨⟨a, b⟩, c⟩, e⟩
    have := dim_in y m (by omega)
    exact ⟨⟨a, this.1, this.2, b, c⟩, e⟩
  · rintro ⟨h, e⟩
    exact ⟨⟨⟨h.y0, h.d1⟩, h.dm⟩, e⟩

theorem fdN_no {y m d : Int} (h : fdB y m d = false) : fdN y m d = 0 := by unfold fdN; rw [h]; rfl
theorem fdN_yes {y m d : Int} (h : fdB y m d = true) : fdN y m d = num y m d := by unfold fdN; rw [if_pos h]

theorem fdB_no {y m d : Int} (h : ¬ (Vld y m d ∧ num y m d < 1000000)) : fdB y m d = false := by
  cases e : fdB y m d with
  | false => rfl
  | true => exact absurd ((fdB_iff y m d).1 e) h

theorem ys_guess (n : Int) (h : 0 ≤ n) : ys (1600 + n / 366) ≤ n := by unfold ys; omega

theorem ys_end : ys 4400 = 1022679 := by decide
theorem ys_1600 : ys 1600 = 0 := by decide
/-- The day behind a date has a date. -/
theorem next_ex {y m d : Int} (h : Vld y m d) :
    (d < dim y m ∧ Vld y m (d + 1) ∧ num y m (d + 1) = num y m d + 1) ∨
    (d = dim y m ∧ m < 12 ∧ Vld y (m + 1) 1 ∧ num y (m + 1) 1 = num y m d + 1) ∨
    (d = dim y m ∧ m = 12 ∧ Vld (y + 1) 1 1 ∧ num (y + 1) 1 1 = num y m d + 1) := by
  have h1 := h.m1; have h2 := h.m12; have h3 := h.d1; have h4 := h.dm; have h0 := h.y0
  by_cases c : d < dim y m
  · exact .inl ⟨c, ⟨h0, h1, h2, by omega, by omega⟩, by unfold num; omega⟩
  · have hs := cum_succ y m h1 h2
    by_cases c2 : m < 12
    · have := dim_pos y (m + 1) (by omega) (by omega)
      exact .inr (.inl ⟨by omega, c2, ⟨h0, by omega, by omega, by omega, by omega⟩, by unfold num; omega⟩)
    · obtain rfl : m = 12 := by omega
      have h13 := cum_13 y
      have hy := ys_succ y
      have hp := dim_pos (y + 1) 1 (by omega) (by omega)
      have hc := cum_one (y + 1)
      exact .inr (.inr ⟨by omega, rfl, ⟨by omega, by omega, by omega, by omega, by omega⟩, by unfold num; rw [show (12 : Int) + 1 = 13 from rfl] at hs; omega⟩)

theorem date_ex (n : Int) (h : 0 ≤ n) : ∃ y m d, Vld y m d ∧ num y m d = n := by
  obtain ⟨k, rfl⟩ := Int.eq_ofNat_of_zero_le h
  clear h
  induction k with
  | zero => exact ⟨1600, 1, 1, ⟨by omega, by omega, by omega, by omega, by decide⟩, by decide⟩
  | succ k ih =>
    obtain ⟨y, m, d, hv, hn⟩ := ih
    rcases next_ex hv with ⟨_, v, e⟩ | ⟨_, _, v, e⟩ | ⟨_, _, v, e⟩ <;> exact ⟨_, _, _, v, by omega⟩

open Classical in
/-- The date of a day; zeros if it is none. -/
noncomputable def date (n : Int) : Int × Int × Int :=
  if h : isDay n = true ∧ ∃ p : Int × Int × Int, Vld p.1 p.2.1 p.2.2 ∧ num p.1 p.2.1 p.2.2 = n then choose h.2 else (0, 0, 0)

noncomputable def tdY (n : Int) : Int := (date n).1
noncomputable def tdM (n : Int) : Int := (date n).2.1
noncomputable def tdD (n : Int) : Int := (date n).2.2

theorem date_eq {y m d n : Int} (hi : isDay n = true) (h : Vld y m d) (e : num y m d = n) : date n = (y, m, d) := by
  have hx : ∃ p : Int × Int × Int, Vld p.1 p.2.1 p.2.2 ∧ num p.1 p.2.1 p.2.2 = n := ⟨(y, m, d), h, e⟩
  unfold date
  rw [dif_pos ⟨hi, hx⟩]
  have g := Classical.choose_spec hx
  generalize Classical.choose hx = p at g ⊢
  obtain ⟨a, b, c⟩ := p
  obtain ⟨e1, e2, e3⟩ := Vld.unique g.1 h (g.2.trans e.symm)
  simp only at e1 e2 e3
  rw [e1, e2, e3]

theorem date_no {n : Int} (hi : isDay n = false) : date n = (0, 0, 0) := by
  unfold date; rw [dif_neg]; rintro ⟨h, _⟩; rw [hi] at h; cases h

theorem isDay_iff (n : Int) : isDay n = true ↔ 0 ≤ n ∧ n < 1000000 := by unfold isDay; simp
theorem isDay_no {n : Int} (h : ¬ (0 ≤ n ∧ n < 1000000)) : isDay n = false := by
  cases e : isDay n with
  | false => rfl
  | true => exact absurd ((isDay_iff n).1 e) h

/-- A day's date, as three numbers. -/
theorem date_day (n : Int) (h : isDay n = true) : Vld (tdY n) (tdM n) (tdD n) ∧ num (tdY n) (tdM n) (tdD n) = n := by
  obtain ⟨y, m, d, hv, hn⟩ := date_ex n ((isDay_iff n).1 h).1
  have e := date_eq h hv hn
  unfold tdY tdM tdD; rw [e]; exact ⟨hv, hn⟩

theorem Vld.year_lt {y m d : Int} (h : Vld y m d) (g : num y m d < 1000000) : y < 4400 := by
  have h1 := h.in_year
  rcases Int.lt_or_le y 4400 with c | c
  · exact c
  · have := ys_mono c; have := ys_end; omega

theorem year_lt {y n : Int} (h : ys y ≤ n) (g : n < 1000000) : y < 4400 := by
  rcases Int.lt_or_le y 4400 with c | c
  · exact c
  · have := ys_mono c; have := ys_end; omega

/-- Months since January 1600 of the month that lies mo months behind that of day n. -/
noncomputable def amK (n mo : Int) : Int := 12 * (tdY n - 1600) + tdM n - 1 + mo
noncomputable def amD (n mo : Int) : Int := min (tdD n) (dim (1600 + amK n mo / 12) (amK n mo % 12 + 1))
noncomputable def amB (n mo : Int) : Bool := isDay n && fdB (1600 + amK n mo / 12) (amK n mo % 12 + 1) (amD n mo)
noncomputable def amN (n mo : Int) : Int := if isDay n = true then fdN (1600 + amK n mo / 12) (amK n mo % 12 + 1) (amD n mo) else 0

theorem td_bounds {n : Int} (h : isDay n = true) : 1600 ≤ tdY n ∧ tdY n < 4400 ∧ 1 ≤ tdM n ∧ tdM n ≤ 12 ∧ 1 ≤ tdD n ∧ tdD n ≤ 31 := by
  obtain ⟨v, e⟩ := date_day n h
  have hb := (isDay_iff n).1 h
  have h1 := v.year_lt (by omega)
  have h2 := dim_01 (tdY n) (tdM n)
  exact ⟨v.y0, h1, v.m1, v.m12, v.d1, by have := v.dm; omega⟩

theorem td_not {n : Int} (h : isDay n = false) : tdY n = 0 ∧ tdM n = 0 ∧ tdD n = 0 := by
  unfold tdY tdM tdD; rw [date_no h]; exact ⟨rfl, rfl, rfl⟩

theorem fdB_early {y m d : Int} (h : y < 1600) : fdB y m d = false := fdB_no (fun g => by have := g.1.y0; omega)
theorem fdB_late {y m d : Int} (h : 4400 ≤ y) : fdB y m d = false := fdB_no (fun g => by have := g.1.year_lt g.2; omega)

theorem am_no {n mo : Int} (h : isDay n = false) : amB n mo = false ∧ amN n mo = 0 := by
  unfold amB amN; rw [h]; exact ⟨rfl, rfl⟩

theorem am_yes {n mo : Int} (h : isDay n = true) : amB n mo = fdB (1600 + amK n mo / 12) (amK n mo % 12 + 1) (amD n mo) ∧ amN n mo = fdN (1600 + amK n mo / 12) (amK n mo % 12 + 1) (amD n mo) := by
  unfold amB amN; rw [h, if_pos rfl]; exact ⟨by simp, rfl⟩

theorem am_out {n mo : Int} (h : mo < -33600 ∨ 33600 < mo) : amB n mo = false ∧ amN n mo = 0 := by
  cases hd : isDay n with
  | false => exact am_no hd
  | true =>
    have hb := td_bounds hd
    have hk : amK n mo < 0 ∨ 33600 ≤ amK n mo := by unfold amK; omega
    obtain ⟨e1, e2⟩ := am_yes (mo := mo) hd
    have hf : fdB (1600 + amK n mo / 12) (amK n mo % 12 + 1) (amD n mo) = false := by
      rcases hk with hk | hk
      · exact fdB_early (by omega)
      · exact fdB_late (by omega)
    rw [e1, e2, fdN_no hf, hf]; exact ⟨rfl, rfl⟩

theorem am_neg {n mo : Int} (h : amK n mo < 0) : amB n mo = false ∧ amN n mo = 0 := by
  cases hd : isDay n with
  | false => exact am_no hd
  | true =>
    obtain ⟨e1, e2⟩ := am_yes (mo := mo) hd
    have hf : fdB (1600 + amK n mo / 12) (amK n mo % 12 + 1) (amD n mo) = false := fdB_early (by omega)
    rw [e1, e2, fdN_no hf, hf]; exact ⟨rfl, rfl⟩

theorem lp_period (y : Int) : lp (y + 400) = lp y := by
  unfold lp leap
  rw [show (y + 400) % 4 = y % 4 by omega, show (y + 400) % 100 = y % 100 by omega, show (y + 400) % 400 = y % 400 by omega]
theorem ys_period (y : Int) : ys (y + 400) = ys y + 146097 := by unfold ys; omega
theorem dim_period (y m : Int) : dim (y + 400) m = dim y m := by unfold dim; rw [lp_period]
theorem cum_period (y m : Int) : cum (y + 400) m = cum y m := by unfold cum; rw [lp_period]

end Go.Proofs.Ytllbfbgkeajkeaa.Cal
