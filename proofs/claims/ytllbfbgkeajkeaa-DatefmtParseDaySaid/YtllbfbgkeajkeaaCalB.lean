/-
  The laws of the calendar, in plain integers.
-/
import Derived.Test.YtllbfbgkeajkeaaCal
namespace Go.Proofs.Ytllbfbgkeajkeaa.Cal

/-- 1 for Monday to 7 for Sunday; 0 if n is no day. -/
def wd (n : Int) : Int := if isDay n = true then (n + 5) % 7 + 1 else 0

theorem num_jan1 (y : Int) : num y 1 1 = ys y := by unfold num; rw [cum_one]; omega

theorem round_day {n : Int} (h : isDay n = true) : fdB (tdY n) (tdM n) (tdD n) = true ∧ fdN (tdY n) (tdM n) (tdD n) = n := by
  obtain ⟨v, e⟩ := date_day n h
  have hb := (isDay_iff n).1 h
  have hf := (fdB_iff (tdY n) (tdM n) (tdD n)).2 ⟨v, by omega⟩
  exact ⟨hf, by rw [fdN_yes hf, e]⟩

theorem Vld.num_nonneg {y m d : Int} (h : Vld y m d) : 0 ≤ num y m d := by
  have h1 := h.in_year
  have h2 := ys_mono h.y0
  rw [ys_1600] at h2; omega

theorem round_date {y m d : Int} (h : fdB y m d = true) : isDay (fdN y m d) = true ∧ tdY (fdN y m d) = y ∧ tdM (fdN y m d) = m ∧ tdD (fdN y m d) = d := by
  rw [fdN_yes h]
  obtain ⟨v, e⟩ := (fdB_iff y m d).1 h
  have hi : isDay (num y m d) = true := (isDay_iff _).2 ⟨v.num_nonneg, e⟩
  have hd := date_eq hi v rfl
  refine ⟨hi, ?_, ?_, ?_⟩
  · unfold tdY; rw [hd]
  · unfold tdM; rw [hd]
  · unfold tdD; rw [hd]

theorem td_of {y m d n : Int} (hi : isDay n = true) (v : Vld y m d) (e : num y m d = n) : tdY n = y ∧ tdM n = m ∧ tdD n = d := by
  have hd := date_eq hi v e
  refine ⟨?_, ?_, ?_⟩
  · unfold tdY; rw [hd]
  · unfold tdM; rw [hd]
  · unfold tdD; rw [hd]

/-- The date of the next day. -/
theorem next_day {n : Int} (h0 : 0 ≤ n) (h1 : n < 999999) :
    (tdD n < dim (tdY n) (tdM n) ∧ tdY (n + 1) = tdY n ∧ tdM (n + 1) = tdM n ∧ tdD (n + 1) = tdD n + 1) ∨
    (tdD n = dim (tdY n) (tdM n) ∧ tdM n < 12 ∧ tdY (n + 1) = tdY n ∧ tdM (n + 1) = tdM n + 1 ∧ tdD (n + 1) = 1) ∨
    (tdD n = dim (tdY n) (tdM n) ∧ tdM n = 12 ∧ tdY (n + 1) = tdY n + 1 ∧ tdM (n + 1) = 1 ∧ tdD (n + 1) = 1) := by
  have hi : isDay n = true := (isDay_iff n).2 ⟨h0, by omega⟩
  have hi' : isDay (n + 1) = true := (isDay_iff _).2 ⟨by omega, by omega⟩
  obtain ⟨v, e⟩ := date_day n hi
  rcases next_ex v with ⟨g, v', e'⟩ | ⟨g, g', v', e'⟩ | ⟨g, g', v', e'⟩
  · exact .inl ⟨g, td_of hi' v' (by omega)⟩
  · exact .inr (.inl ⟨g, g', td_of hi' v' (by omega)⟩)
  · exact .inr (.inr ⟨g, g', td_of hi' v' (by omega)⟩)

theorem wd_next {n : Int} (h0 : 0 ≤ n) (h1 : n < 999999) : wd (n + 1) = wd n % 7 + 1 := by
  unfold wd
  rw [if_pos ((isDay_iff n).2 ⟨h0, by omega⟩), if_pos ((isDay_iff (n + 1)).2 ⟨by omega, by omega⟩)]
  omega

theorem lp_period_k (y : Int) (k : Nat) : lp (y + 400 * k) = lp y := by
  induction k with
  | zero => simp
  | succ k ih => rw [show y + 400 * ((k + 1 : Nat) : Int) = y + 400 * k + 400 by omega, lp_period, ih]

theorem ys_period_k (y k : Int) : ys (y + 400 * k) = ys y + 146097 * k := by unfold ys; omega
theorem dim_period_k (y m : Int) (k : Nat) : dim (y + 400 * k) m = dim y m := by unfold dim; rw [lp_period_k]
theorem cum_period_k (y m : Int) (k : Nat) : cum (y + 400 * k) m = cum y m := by unfold cum; rw [lp_period_k]

/-- 4800 months are 400 years, and 146097 days, which are whole weeks. -/
theorem years {n : Int} (h : isDay n = true) (k : Nat) :
    amB n (4800 * k) = decide (n + 146097 * k < 1000000) ∧
    (n + 146097 * k < 1000000 → amN n (4800 * k) = n + 146097 * k ∧ tdM (n + 146097 * k) = tdM n ∧ tdD (n + 146097 * k) = tdD n ∧ wd (n + 146097 * k) = wd n) := by
  obtain ⟨v, e⟩ := date_day n h
  have hb := (isDay_iff n).1 h
  obtain ⟨e1, e2⟩ := am_yes (mo := 4800 * k) h
  have m1 := v.m1; have m12 := v.m12
  have hk : amK n (4800 * k) = 12 * (tdY n + 400 * k - 1600) + (tdM n - 1) := by unfold amK; omega
  have hq : 1600 + amK n (4800 * k) / 12 = tdY n + 400 * k := by rw [hk]; omega
  have hr : amK n (4800 * k) % 12 + 1 = tdM n := by rw [hk]; omega
  have hd : amD n (4800 * k) = tdD n := by
    unfold amD; rw [hq, hr, dim_period_k]; exact Int.min_eq_left v.dm
  rw [hq, hr, hd] at e1 e2
  have v' : Vld (tdY n + 400 * k) (tdM n) (tdD n) := ⟨by have := v.y0; omega, v.m1, v.m12, v.d1, by rw [dim_period_k]; exact v.dm⟩
  have en : num (tdY n + 400 * k) (tdM n) (tdD n) = n + 146097 * k := by
    have : num (tdY n) (tdM n) (tdD n) = n := e
    unfold num at this ⊢; rw [ys_period_k, cum_period_k]; omega
  constructor
  · rw [e1]
    by_cases c : n + 146097 * (k : Int) < 1000000
    · rw [decide_eq_true c]; exact (fdB_iff _ _ _).2 ⟨v', by omega⟩
    · rw [decide_eq_false c]; exact fdB_no (fun g => by omega)
  · intro c
    have hf := (fdB_iff _ _ _).2 ⟨v', (by omega : num (tdY n + 400 * k) (tdM n) (tdD n) < 1000000)⟩
    have hi' : isDay (n + 146097 * k) = true := (isDay_iff _).2 ⟨by omega, c⟩
    obtain ⟨t1, t2, t3⟩ := td_of hi' v' en
    refine ⟨by rw [e2, fdN_yes hf, en], t2, t3, ?_⟩
    unfold wd
    rw [if_pos h, if_pos hi']; omega

theorem am_true {n mo : Int} (h : amB n mo = true) : isDay n = true ∧ fdB (1600 + amK n mo / 12) (amK n mo % 12 + 1) (amD n mo) = true ∧ amN n mo = num (1600 + amK n mo / 12) (amK n mo % 12 + 1) (amD n mo) := by
  cases hd : isDay n with
  | false => rw [(am_no hd).1] at h; cases h
  | true =>
    obtain ⟨e1, e2⟩ := am_yes (mo := mo) hd
    rw [e1] at h
    exact ⟨rfl, h, by rw [e2, fdN_yes h]⟩

/-- Adding months keeps the order of days. -/
theorem am_mono {a b mo : Int} (ha : amB a mo = true) (hb : amB b mo = true) (h : a ≤ b) : amN a mo ≤ amN b mo := by
  obtain ⟨da, fa, na⟩ := am_true ha
  obtain ⟨db, fb, nb⟩ := am_true hb
  rw [na, nb]
  obtain ⟨va, ea⟩ := date_day a da
  obtain ⟨vb, eb⟩ := date_day b db
  obtain ⟨wa, _⟩ := (fdB_iff _ _ _).1 fa
  obtain ⟨wb, _⟩ := (fdB_iff _ _ _).1 fb
  have hl := va.lt_iff vb
  have hl' := vb.lt_iff va
  have hm1 := va.m1; have hm2 := va.m12; have hm3 := vb.m1; have hm4 := vb.m12
  rw [ea, eb] at hl hl'
  have hk : amK a mo < amK b mo ∨ (amK a mo = amK b mo ∧ tdD a ≤ tdD b) := by
    unfold amK
    rcases Int.lt_or_eq_of_le h with c | c
    · have := hl.1 c; omega
    · subst c; exact .inr ⟨rfl, by omega⟩
  rcases hk with hk | ⟨hk, hd⟩
  · have g := (wa.lt_iff wb).2 (by omega)
    omega
  · unfold amD
    rw [hk]
    unfold num
    have : min (tdD a) (dim (1600 + amK b mo / 12) (amK b mo % 12 + 1)) ≤ min (tdD b) (dim (1600 + amK b mo / 12) (amK b mo % 12 + 1)) := by omega
    omega

end Go.Proofs.Ytllbfbgkeajkeaa.Cal
