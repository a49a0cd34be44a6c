/-
  Texts of days and periods: plain laws (round trips, order, uniqueness). No program in sight.
-/
import Derived.Test.YtllbfbgkeajkeaaDateF
namespace Go.Proofs.Ytllbfbgkeajkeaa
open Go.RowKit

theorem dgv_append (a b : ByteArray) (j : Nat) : dgv (a ++ b) j = if j < a.size then dgv a j else dgv b (j - a.size) := by
  unfold dgv
  rw [ByteArray.data_append, Array.toList_append, List.getD_eq_getElem?_getD, List.getElem?_append, List.getD_eq_getElem?_getD, List.getD_eq_getElem?_getD]
  have e : a.data.toList.length = a.size := rfl
  rw [e]
  split <;> rfl

theorem dgv_left {a b : ByteArray} {j : Nat} (h : j < a.size) : dgv (a ++ b) j = dgv a j := by rw [dgv_append, if_pos h]
theorem dgv_right {a b : ByteArray} {j : Nat} (h : a.size ≤ j) : dgv (a ++ b) j = dgv b (j - a.size) := by rw [dgv_append, if_neg (by omega)]

theorem dgv_ext {a b : ByteArray} (hz : a.size = b.size) (h : ∀ j, j < a.size → dgv a j = dgv b j) : a = b := by
  refine ByteArray.ext_getElem hz fun i h1 h2 => ?_
  have := h i h1
  rw [← dgv_get a i h1, ← dgv_get b i h2] at this
  exact UInt8.toNat_inj.1 (by omega)

theorem dig_back {c : UInt8} {x : Int} (h : x = (c.toNat : Int) - 48) (h48 : 48 ≤ (c.toNat : Int)) : dig x = c := by
  unfold dig
  have e : (48 + x).toNat = c.toNat := by omega
  rw [e]
  simp

theorem of_ten {s : ByteArray} (h : s.size = 10) : ∃ c0 c1 c2 c3 c4 c5 c6 c7 c8 c9 : UInt8, s = ⟨#[c0, c1, c2, c3, c4, c5, c6, c7, c8, c9]⟩ := by
  obtain ⟨⟨l⟩⟩ := s
  have h : l.length = 10 := h
  match l, h with
  | [c0, c1, c2, c3, c4, c5, c6, c7, c8, c9], _ => exact ⟨c0, c1, c2, c3, c4, c5, c6, c7, c8, c9, rfl⟩

theorem fdT_form (y m d : Int) : B4 y ++ ⟨#[45]⟩ ++ B2 m ++ ⟨#[45]⟩ ++ B2 d =
    ⟨#[dig (y / 10 / 10 / 10 % 10), dig (y / 10 / 10 % 10), dig (y / 10 % 10), dig (y % 10), 45, dig (m / 10 % 10), dig (m % 10), 45, dig (d / 10 % 10), dig (d % 10)]⟩ := rfl

theorem toList_data (s : ByteArray) : s.toList = s.data.toList := ByteArray.toList_eq s

theorem fev_iff (s : ByteArray) : s.toList = fevL ↔ s = ⟨#[102, 111, 114, 101, 118, 101, 114]⟩ := by
  rw [toList_data]
  constructor
  · intro h
    obtain ⟨⟨l⟩⟩ := s
    have h : l = fevL := h
    rw [h]; rfl
  · rintro rfl; rfl

theorem dig_rng {x : Int} (h : 0 ≤ x ∧ x ≤ 9) : 48 ≤ ((dig x).toNat : Int) ∧ ((dig x).toNat : Int) ≤ 57 := by
  have := dig_toNat h; omega

/-- A date's text: its parts. -/
theorem ten_parts {a0 a1 a2 a3 b0 b1 d0 d1 : Int} (h0 : 0 ≤ a0 ∧ a0 ≤ 9) (h1 : 0 ≤ a1 ∧ a1 ≤ 9) (h2 : 0 ≤ a2 ∧ a2 ≤ 9) (h3 : 0 ≤ a3 ∧ a3 ≤ 9) (h4 : 0 ≤ b0 ∧ b0 ≤ 9) (h5 : 0 ≤ b1 ∧ b1 ≤ 9) (h6 : 0 ≤ d0 ∧ d0 ≤ 9) (h7 : 0 ≤ d1 ∧ d1 ≤ 9)
    (s : ByteArray) (hs : s = ⟨#[dig a0, dig a1, dig a2, dig a3, 45, dig b0, dig b1, 45, dig d0, dig d1]⟩) :
    pform s = true ∧ s.toList ≠ fevL ∧ pdy s = 1000 * a0 + 100 * a1 + 10 * a2 + a3 ∧ pdm s = 10 * b0 + b1 ∧ pdd s = 10 * d0 + d1 := by
  have v0 : dgv s 0 = ((dig a0).toNat : Int) := by rw [hs]; rfl
  have v1 : dgv s 1 = ((dig a1).toNat : Int) := by rw [hs]; rfl
  have v2 : dgv s 2 = ((dig a2).toNat : Int) := by rw [hs]; rfl
  have v3 : dgv s 3 = ((dig a3).toNat : Int) := by rw [hs]; rfl
  have v4 : dgv s 4 = 45 := by rw [hs]; rfl
  have v5 : dgv s 5 = ((dig b0).toNat : Int) := by rw [hs]; rfl
  have v6 : dgv s 6 = ((dig b1).toNat : Int) := by rw [hs]; rfl
  have v7 : dgv s 7 = 45 := by rw [hs]; rfl
  have v8 : dgv s 8 = ((dig d0).toNat : Int) := by rw [hs]; rfl
  have v9 : dgv s 9 = ((dig d1).toNat : Int) := by rw [hs]; rfl
  rw [dig_toNat h0] at v0; rw [dig_toNat h1] at v1; rw [dig_toNat h2] at v2; rw [dig_toNat h3] at v3
  rw [dig_toNat h4] at v5; rw [dig_toNat h5] at v6; rw [dig_toNat h6] at v8; rw [dig_toNat h7] at v9
  refine ⟨(pform_iff s).2 ⟨by rw [hs]; rfl, v4, v7, ?_⟩, ?_, ?_, ?_, ?_⟩
  · unfold dok isd
    simp only [v0, v1, v2, v3, v5, v6, v8, v9, Bool.and_eq_true, decide_eq_true_eq]
    omega
  · intro h
    have := fev_size h
    rw [hs] at this
    cases this
  · unfold pdy; omega
  · unfold pdm; omega
  · unfold pdd; omega

/-- The text of a day is read as that day. -/
theorem pd_day {n : Int} (h : Cal.isDay n = true) : pd (fdT n) = (n, 0) := by
  obtain ⟨t1, t2, t3, t4, t5, t6⟩ := Cal.td_bounds h
  obtain ⟨r1, r2⟩ := Cal.round_day h
  have e := (fdT_day h).trans (fdT_form _ _ _)
  obtain ⟨p1, p2, p3, p4, p5⟩ := ten_parts (by omega) (by omega) (by omega) (by omega) (by omega) (by omega) (by omega) (by omega) _ e
  have q1 : pdy (fdT n) = Cal.tdY n := by rw [p3]; omega
  have q2 : pdm (fdT n) = Cal.tdM n := by rw [p4]; omega
  have q3 : pdd (fdT n) = Cal.tdD n := by rw [p5]; omega
  rw [pd_ok p2 p1 (by rw [q1, q2, q3]; exact r1), q1, q2, q3, r2]

theorem pd_fdT {n : Int} (h : 0 ≤ n ∧ n ≤ 1000000) : pd (fdT n) = (n, 0) := by
  by_cases e : n = 1000000
  · subst e
    exact pd_fev ((fev_iff _).2 fdT_fev)
  · exact pd_day ((Cal.isDay_iff n).2 (by omega))

/-- What is read as a day is the text of that day. -/
theorem fdT_pd {s : ByteArray} (h : (pd s).2 = 0) : fdT (pd s).1 = s ∧ 0 ≤ (pd s).1 ∧ (pd s).1 ≤ 1000000 := by
  by_cases e : s.toList = fevL
  · rw [pd_fev e]
    exact ⟨by rw [fdT_fev, (fev_iff s).1 e], by decide, by decide⟩
  cases c : pform s with
  | false => rw [pd_syn e c] at h; cases h
  | true =>
  cases g : Cal.fdB (pdy s) (pdm s) (pdd s) with
  | false => rw [pd_range e c g] at h; cases h
  | true =>
    rw [pd_ok e c g]
    obtain ⟨r1, r2, r3, r4⟩ := Cal.round_date g
    have r5 := (Cal.isDay_iff _).1 r1
    refine ⟨?_, by omega, by omega⟩
    show fdT (Cal.fdN (pdy s) (pdm s) (pdd s)) = s
    rw [fdT_day r1, r2, r3, r4, fdT_form]
    obtain ⟨z, v4, v7, hd⟩ := (pform_iff s).1 c
    obtain ⟨c0, c1, c2, c3, c4, c5, c6, c7, c8, c9, rfl⟩ := of_ten z
    unfold dok isd at hd
    have w4 : (c4.toNat : Int) = 45 := v4
    have w7 : (c7.toNat : Int) = 45 := v7
    have u4 : c4 = 45 := UInt8.toNat_inj.1 (by show c4.toNat = 45; omega)
    have u7 : c7 = 45 := UInt8.toNat_inj.1 (by show c7.toNat = 45; omega)
    subst u4 u7
    clear v4 v7 w4 w7 z e c r1 r2 r3 r4 r5 g h
    unfold pdy pdm pdd
    change (decide (48 ≤ (c0.toNat : Int)) && decide ((c0.toNat : Int) ≤ 57) && (decide (48 ≤ (c1.toNat : Int)) && decide ((c1.toNat : Int) ≤ 57)) && (decide (48 ≤ (c2.toNat : Int)) && decide ((c2.toNat : Int) ≤ 57)) && (decide (48 ≤ (c3.toNat : Int)) && decide ((c3.toNat : Int) ≤ 57)) && (decide (48 ≤ (c5.toNat : Int)) && decide ((c5.toNat : Int) ≤ 57)) && (decide (48 ≤ (c6.toNat : Int)) && decide ((c6.toNat : Int) ≤ 57)) && (decide (48 ≤ (c8.toNat : Int)) && decide ((c8.toNat : Int) ≤ 57)) && (decide (48 ≤ (c9.toNat : Int)) && decide ((c9.toNat : Int) ≤ 57))) = true at hd
    simp only [Bool.and_eq_true, decide_eq_true_eq] at hd
    change (⟨#[dig ((1000 * ((c0.toNat : Int) - 48) + 100 * ((c1.toNat : Int) - 48) + 10 * ((c2.toNat : Int) - 48) + ((c3.toNat : Int) - 48)) / 10 / 10 / 10 % 10), dig ((1000 * ((c0.toNat : Int) - 48) + 100 * ((c1.toNat : Int) - 48) + 10 * ((c2.toNat : Int) - 48) + ((c3.toNat : Int) - 48)) / 10 / 10 % 10), dig ((1000 * ((c0.toNat : Int) - 48) + 100 * ((c1.toNat : Int) - 48) + 10 * ((c2.toNat : Int) - 48) + ((c3.toNat : Int) - 48)) / 10 % 10), dig ((1000 * ((c0.toNat : Int) - 48) + 100 * ((c1.toNat : Int) - 48) + 10 * ((c2.toNat : Int) - 48) + ((c3.toNat : Int) - 48)) % 10), 45, dig ((10 * ((c5.toNat : Int) - 48) + ((c6.toNat : Int) - 48)) / 10 % 10), dig ((10 * ((c5.toNat : Int) - 48) + ((c6.toNat : Int) - 48)) % 10), 45, dig ((10 * ((c8.toNat : Int) - 48) + ((c9.toNat : Int) - 48)) / 10 % 10), dig ((10 * ((c8.toNat : Int) - 48) + ((c9.toNat : Int) - 48)) % 10)]⟩ : ByteArray) = _
    rw [dig_back (c := c0) (by omega) (by omega), dig_back (c := c1) (by omega) (by omega), dig_back (c := c2) (by omega) (by omega), dig_back (c := c3) (by omega) (by omega), dig_back (c := c5) (by omega) (by omega), dig_back (c := c6) (by omega) (by omega), dig_back (c := c8) (by omega) (by omega), dig_back (c := c9) (by omega) (by omega)]

/-- The bytes of a day's text: digits, hyphens, letters; none of them is a comma, a bracket or a blank. -/
theorem fdT_byte {n : Int} (h : 0 ≤ n ∧ n ≤ 1000000) (j : Nat) (hj : j < (fdT n).size) : 45 ≤ dgv (fdT n) j ∧ dgv (fdT n) j ≠ 91 := by
  by_cases e : n = 1000000
  · subst e
    rw [fdT_fev] at hj ⊢
    have hj : j < 7 := hj
    match j, hj with
    | 0, _ | 1, _ | 2, _ | 3, _ | 4, _ | 5, _ | 6, _ => decide
  · have hd := (Cal.isDay_iff n).2 (by omega)
    obtain ⟨t1, t2, t3, t4, t5, t6⟩ := Cal.td_bounds hd
    rw [fdT_size_day hd] at hj
    have e2 := (fdT_day hd).trans (fdT_form _ _ _)
    rw [e2]
    match j, hj with
    | 0, _ | 1, _ | 2, _ | 3, _ | 5, _ | 6, _ | 8, _ | 9, _ =>
      have := fun (x : Int) (hx : 0 ≤ x ∧ x ≤ 9) => dig_rng hx
      first
        | (show 45 ≤ ((dig (Cal.tdY n / 10 / 10 / 10 % 10)).toNat : Int) ∧ ((dig (Cal.tdY n / 10 / 10 / 10 % 10)).toNat : Int) ≠ 91; have := this (Cal.tdY n / 10 / 10 / 10 % 10) (by omega); omega)
        | (show 45 ≤ ((dig (Cal.tdY n / 10 / 10 % 10)).toNat : Int) ∧ ((dig (Cal.tdY n / 10 / 10 % 10)).toNat : Int) ≠ 91; have := this (Cal.tdY n / 10 / 10 % 10) (by omega); omega)
        | (show 45 ≤ ((dig (Cal.tdY n / 10 % 10)).toNat : Int) ∧ ((dig (Cal.tdY n / 10 % 10)).toNat : Int) ≠ 91; have := this (Cal.tdY n / 10 % 10) (by omega); omega)
        | (show 45 ≤ ((dig (Cal.tdY n % 10)).toNat : Int) ∧ ((dig (Cal.tdY n % 10)).toNat : Int) ≠ 91; have := this (Cal.tdY n % 10) (by omega); omega)
        | (show 45 ≤ ((dig (Cal.tdM n / 10 % 10)).toNat : Int) ∧ ((dig (Cal.tdM n / 10 % 10)).toNat : Int) ≠ 91; have := this (Cal.tdM n / 10 % 10) (by omega); omega)
        | (show 45 ≤ ((dig (Cal.tdM n % 10)).toNat : Int) ∧ ((dig (Cal.tdM n % 10)).toNat : Int) ≠ 91; have := this (Cal.tdM n % 10) (by omega); omega)
        | (show 45 ≤ ((dig (Cal.tdD n / 10 % 10)).toNat : Int) ∧ ((dig (Cal.tdD n / 10 % 10)).toNat : Int) ≠ 91; have := this (Cal.tdD n / 10 % 10) (by omega); omega)
        | (show 45 ≤ ((dig (Cal.tdD n % 10)).toNat : Int) ∧ ((dig (Cal.tdD n % 10)).toNat : Int) ≠ 91; have := this (Cal.tdD n % 10) (by omega); omega)
    | 4, _ | 7, _ => (show (45 : Int) ≤ 45 ∧ (45 : Int) ≠ 91; exact ⟨by decide, by decide⟩)

theorem fdT_pos {n : Int} (h : 0 ≤ n ∧ n ≤ 1000000) : 7 ≤ (fdT n).size := by
  by_cases e : n = 1000000
  · subst e; rw [fdT_fev]; decide
  · rw [fdT_size_day ((Cal.isDay_iff n).2 (by omega))]; omega

/-- A period's text out of its parts. -/
def wrapT (a b : ByteArray) : ByteArray := ⟨#[91]⟩ ++ a ++ ⟨#[44, 32]⟩ ++ b ++ ⟨#[41]⟩

theorem wrapT_size (a b : ByteArray) : (wrapT a b).size = a.size + b.size + 4 := by
  unfold wrapT
  simp only [ByteArray.size_append]
  have e1 : (⟨#[91]⟩ : ByteArray).size = 1 := rfl
  have e2 : (⟨#[44, 32]⟩ : ByteArray).size = 2 := rfl
  have e3 : (⟨#[41]⟩ : ByteArray).size = 1 := rfl
  omega

theorem wrapT_0 (a b : ByteArray) : dgv (wrapT a b) 0 = 91 := by
  have e1 : (⟨#[91]⟩ : ByteArray).size = 1 := rfl
  unfold wrapT
  rw [dgv_left (by simp only [ByteArray.size_append]; omega), dgv_left (by simp only [ByteArray.size_append]; omega), dgv_left (by simp only [ByteArray.size_append]; omega), dgv_left (by omega)]; rfl

theorem wrapT_a (a b : ByteArray) (j : Nat) (h : j < a.size) : dgv (wrapT a b) (1 + j) = dgv a j := by
  have e1 : (⟨#[91]⟩ : ByteArray).size = 1 := rfl
  unfold wrapT
  rw [dgv_left (by simp only [ByteArray.size_append]; omega), dgv_left (by simp only [ByteArray.size_append]; omega), dgv_left (by simp only [ByteArray.size_append]; omega), dgv_right (by omega), e1]
  congr 1; omega

theorem wrapT_c (a b : ByteArray) : dgv (wrapT a b) (1 + a.size) = 44 ∧ dgv (wrapT a b) (1 + a.size + 1) = 32 := by
  have e1 : (⟨#[91]⟩ : ByteArray).size = 1 := rfl
  have e2 : (⟨#[44, 32]⟩ : ByteArray).size = 2 := rfl
  unfold wrapT
  constructor
  · rw [dgv_left (by simp only [ByteArray.size_append]; omega), dgv_left (by simp only [ByteArray.size_append]; omega), dgv_right (by simp only [ByteArray.size_append]; omega), ByteArray.size_append, e1, show 1 + a.size - (1 + a.size) = 0 by omega]; rfl
  · rw [dgv_left (by simp only [ByteArray.size_append]; omega), dgv_left (by simp only [ByteArray.size_append]; omega), dgv_right (by simp only [ByteArray.size_append]; omega), ByteArray.size_append, e1, show 1 + a.size + 1 - (1 + a.size) = 1 by omega]; rfl

theorem wrapT_b (a b : ByteArray) (j : Nat) (h : j < b.size) : dgv (wrapT a b) (a.size + 3 + j) = dgv b j := by
  have e1 : (⟨#[91]⟩ : ByteArray).size = 1 := rfl
  have e2 : (⟨#[44, 32]⟩ : ByteArray).size = 2 := rfl
  unfold wrapT
  rw [dgv_left (by simp only [ByteArray.size_append]; omega), dgv_right (by simp only [ByteArray.size_append]; omega)]
  simp only [ByteArray.size_append, e1, e2]
  congr 1; omega

theorem wrapT_l (a b : ByteArray) : dgv (wrapT a b) (a.size + 3 + b.size) = 41 := by
  have e1 : (⟨#[91]⟩ : ByteArray).size = 1 := rfl
  have e2 : (⟨#[44, 32]⟩ : ByteArray).size = 2 := rfl
  unfold wrapT
  rw [dgv_right (by simp only [ByteArray.size_append]; omega)]
  simp only [ByteArray.size_append, e1, e2]
  rw [show a.size + 3 + b.size - (1 + a.size + 2 + b.size) = 0 by omega]; rfl

/-- The text of a period is read as that period. -/
theorem pp_fpT {f t : Int} (h : 0 ≤ f ∧ f < t ∧ t ≤ 1000000) : pp (fpT f t) = (f, t, 0) := by
  have hf : 0 ≤ f ∧ f ≤ 1000000 := by omega
  have ht : 0 ≤ t ∧ t ≤ 1000000 := by omega
  rw [fpT_yes h]
  change pp (wrapT (fdT f) (fdT t)) = _
  have z := wrapT_size (fdT f) (fdT t)
  have za := fdT_pos hf
  have zb := fdT_pos ht
  have ba := fdT_byte hf
  have bb := fdT_byte ht
  have p : PF (wrapT (fdT f) (fdT t)) (1 + (fdT f).size) := by
    refine ⟨by omega, by omega, wrapT_0 _ _, (wrapT_c _ _).1, ?_, (wrapT_c _ _).2, ?_, ?_⟩
    · intro j j1 j2
      have := wrapT_a (fdT f) (fdT t) (j - 1) (by omega)
      rw [show 1 + (j - 1) = j by omega] at this
      rw [this]
      have := ba (j - 1) (by omega)
      omega
    · rw [z, show (fdT f).size + (fdT t).size + 4 - 1 = (fdT f).size + 3 + (fdT t).size by omega]; exact wrapT_l _ _
    · intro j j1 j2
      have := wrapT_b (fdT f) (fdT t) (j - ((fdT f).size + 3)) (by omega)
      rw [show (fdT f).size + 3 + (j - ((fdT f).size + 3)) = j by omega] at this
      rw [this]
      have := bb (j - ((fdT f).size + 3)) (by omega)
      omega
  have xa : (wrapT (fdT f) (fdT t)).extract 1 (1 + (fdT f).size) = fdT f := by
    have z1 : ((wrapT (fdT f) (fdT t)).extract 1 (1 + (fdT f).size)).size = (fdT f).size := by rw [ByteArray.size_extract]; omega
    refine dgv_ext z1 fun j hj => ?_
    rw [dgv_extract _ _ _ _ (by omega) (by omega)]
    exact wrapT_a _ _ _ (by omega)
  have xb : (wrapT (fdT f) (fdT t)).extract (1 + (fdT f).size + 2) ((wrapT (fdT f) (fdT t)).size - 1) = fdT t := by
    have z1 : ((wrapT (fdT f) (fdT t)).extract (1 + (fdT f).size + 2) ((wrapT (fdT f) (fdT t)).size - 1)).size = (fdT t).size := by rw [ByteArray.size_extract]; omega
    refine dgv_ext z1 fun j hj => ?_
    rw [dgv_extract _ _ _ _ (by omega) (by omega), show 1 + (fdT f).size + 2 + j = (fdT f).size + 3 + j by omega]
    exact wrapT_b _ _ _ (by omega)
  rw [pp_yes p, xa, xb, pd_fdT hf, pd_fdT ht]
  unfold ppair
  rw [if_neg (by simp), if_neg (by simp), if_neg (by simp; omega)]

/-- What is read as a period is the text of that period. -/
theorem fpT_pp {s : ByteArray} (h : (pp s).2.2 = 0) : fpT (pp s).1 (pp s).2.1 = s ∧ dgv s 0 = 91 := by
  by_cases hx : ∃ k, PF s k
  case neg =>
    rw [pp_no (fun k p => hx ⟨k, p⟩)] at h; cases h
  obtain ⟨k, p⟩ := hx
  have e := pp_yes p
  rw [e] at h ⊢
  generalize ha : s.extract 1 k = a at *
  generalize hb : s.extract (k + 2) (s.size - 1) = b at *
  obtain ⟨k1, k2, b0, bk, nk, sp, bl, nl⟩ := p
  refine ⟨?_, b0⟩
  by_cases c1 : (pd a).2 = 0
  case neg => exfalso; unfold ppair at h; rw [if_pos c1] at h; exact c1 h
  by_cases c2 : (pd b).2 = 0
  case neg => exfalso; unfold ppair at h; rw [if_neg (by simpa using c1), if_pos c2] at h; exact c2 h
  by_cases c3 : (pd b).1 ≤ (pd a).1
  · exfalso; unfold ppair at h; rw [if_neg (by simpa using c1), if_neg (by simpa using c2), if_pos c3] at h; cases h
  unfold ppair
  rw [if_neg (by simpa using c1), if_neg (by simpa using c2), if_neg c3]
  obtain ⟨fa, fa1, fa2⟩ := fdT_pd c1
  obtain ⟨fb, fb1, fb2⟩ := fdT_pd c2
  show fpT (pd a).1 (pd b).1 = s
  rw [fpT_yes (by omega), fa, fb]
  change wrapT a b = s
  have z := wrapT_size a b
  have za : a.size = k - 1 := by rw [← ha, ByteArray.size_extract]; omega
  have zb : b.size = s.size - k - 3 := by rw [← hb, ByteArray.size_extract]; omega
  have da : ∀ j, j < a.size → dgv a j = dgv s (1 + j) := fun j hj => by rw [← ha]; exact dgv_extract _ _ _ _ (by omega) (by omega)
  have db : ∀ j, j < b.size → dgv b j = dgv s (k + 2 + j) := fun j hj => by rw [← hb]; exact dgv_extract _ _ _ _ (by omega) (by omega)
  refine dgv_ext (by omega) fun j hj => ?_
  rw [z] at hj
  by_cases j0 : j = 0
  · subst j0; rw [wrapT_0, b0]
  by_cases j1 : j < k
  · have := wrapT_a a b (j - 1) (by omega)
    rw [da _ (by omega), show 1 + (j - 1) = j by omega] at this
    exact this
  obtain ⟨w1, w2⟩ := wrapT_c a b
  by_cases j2 : j = k
  · subst j2
    rw [show 1 + a.size = j by omega] at w1
    rw [w1, bk]
  by_cases j3 : j = k + 1
  · subst j3
    rw [show 1 + a.size + 1 = k + 1 by omega] at w2
    rw [w2, sp]
  by_cases j4 : j = s.size - 1
  · have := wrapT_l a b
    rw [show a.size + 3 + b.size = s.size - 1 by omega] at this
    rw [j4, this, bl]
  · have := wrapT_b a b (j - (k + 2)) (by omega)
    rw [db _ (by omega), show a.size + 3 + (j - (k + 2)) = j by omega, show k + 2 + (j - (k + 2)) = j by omega] at this
    exact this

/-- No text is both a day and a period. -/
theorem not_both {s : ByteArray} (h : (pd s).2 = 0) : (pp s).2.2 ≠ 0 := by
  intro g
  obtain ⟨_, g2⟩ := fpT_pp g
  obtain ⟨e, e1, e2⟩ := fdT_pd h
  have hz := fdT_pos ⟨e1, e2⟩
  have := (fdT_byte ⟨e1, e2⟩ 0 (by omega)).2
  rw [e] at this
  exact this g2

theorem less_dig {x y : Int} (hx : 0 ≤ x ∧ x ≤ 9) (hy : 0 ≤ y ∧ y ≤ 9) (p q : List UInt8) : Op.bytesLess (dig x :: p) (dig y :: q) = (decide (x < y) || (decide (x = y) && Op.bytesLess p q)) := by
  have h1 := dig_toNat hx
  have h2 := dig_toNat hy
  have e1 : decide (dig x < dig y) = decide (x < y) := by
    rw [Bool.eq_iff_iff]; simp only [decide_eq_true_eq, UInt8.lt_iff_toNat_lt]; omega
  have e2 : (dig x == dig y) = decide (x = y) := by
    rw [Bool.eq_iff_iff]; simp only [beq_iff_eq, decide_eq_true_eq]
    rw [← UInt8.toNat_inj]; omega
  show (decide (dig x < dig y) || (dig x == dig y && Op.bytesLess p q)) = _
  rw [e1, e2]

theorem less_same (c : UInt8) (p q : List UInt8) : Op.bytesLess (c :: p) (c :: q) = Op.bytesLess p q := by
  show (decide (c < c) || (c == c && Op.bytesLess p q)) = _
  have : decide (c < c) = false := by simp
  rw [this]; simp

theorem less_ten (y m d y' m' d' : Int) (hy : 0 ≤ y ∧ y < 10000) (hm : 0 ≤ m ∧ m < 100) (hd : 0 ≤ d ∧ d < 100) (hy' : 0 ≤ y' ∧ y' < 10000) (hm' : 0 ≤ m' ∧ m' < 100) (hd' : 0 ≤ d' ∧ d' < 100) :
    Op.bytesLess [dig (y / 10 / 10 / 10 % 10), dig (y / 10 / 10 % 10), dig (y / 10 % 10), dig (y % 10), 45, dig (m / 10 % 10), dig (m % 10), 45, dig (d / 10 % 10), dig (d % 10)]
      [dig (y' / 10 / 10 / 10 % 10), dig (y' / 10 / 10 % 10), dig (y' / 10 % 10), dig (y' % 10), 45, dig (m' / 10 % 10), dig (m' % 10), 45, dig (d' / 10 % 10), dig (d' % 10)] =
      decide (y < y' ∨ (y = y' ∧ (m < m' ∨ (m = m' ∧ d < d')))) := by
  rw [less_dig (by omega) (by omega), less_dig (by omega) (by omega), less_dig (by omega) (by omega), less_dig (by omega) (by omega), less_same, less_dig (by omega) (by omega), less_dig (by omega) (by omega), less_same,
    less_dig (by omega) (by omega), less_dig (by omega) (by omega)]
  have e : Op.bytesLess [] [] = false := rfl
  rw [e, Bool.eq_iff_iff]
  simp only [Bool.or_eq_true, Bool.and_eq_true, decide_eq_true_eq, Bool.and_false, Bool.false_eq_true, or_false]
  omega

/-- The texts of days are ordered as the days. -/
theorem less_days {a b : Int} (ha : Cal.isDay a = true) (hb : Cal.isDay b = true) : Op.bytesLess (fdT a).toList (fdT b).toList = decide (a < b) := by
  have ea := (fdT_day ha).trans (fdT_form _ _ _)
  have eb := (fdT_day hb).trans (fdT_form _ _ _)
  obtain ⟨va, na⟩ := Cal.date_day a ha
  obtain ⟨vb, nb⟩ := Cal.date_day b hb
  obtain ⟨t1, t2, t3, t4, t5, t6⟩ := Cal.td_bounds ha
  obtain ⟨u1, u2, u3, u4, u5, u6⟩ := Cal.td_bounds hb
  rw [toList_data, toList_data, ea, eb]
  refine (less_ten _ _ _ _ _ _ (by omega) (by omega) (by omega) (by omega) (by omega) (by omega)).trans ?_
  have := Cal.Vld.lt_iff va vb
  rw [na, nb] at this
  rw [Bool.eq_iff_iff, decide_eq_true_eq, decide_eq_true_eq, this]

/-- The fixed texts of the sanity check. -/
theorem awake_texts : fdT 59 = ⟨#[49, 54, 48, 48, 45, 48, 50, 45, 50, 57]⟩ ∧ pp ⟨#[91, 49, 54, 48, 48, 45, 48, 49, 45, 48, 49, 44, 32, 102, 111, 114, 101, 118, 101, 114, 41]⟩ = (0, 1000000, 0) ∧
    pd ⟨#[49, 54, 48, 48, 45, 48, 50, 45, 51, 48]⟩ = (0, 10) ∧ pd ⟨#[49, 54, 48, 48, 45, 49, 45, 48, 49]⟩ = (0, 5) := by
  have i59 : Cal.isDay 59 = true := by decide
  have i0 : Cal.isDay 0 = true := by decide
  obtain ⟨t1, t2, t3⟩ := Cal.td_of (y := 1600) (m := 2) (d := 29) i59 ⟨by omega, by omega, by omega, by omega, by decide⟩ (by decide)
  obtain ⟨u1, u2, u3⟩ := Cal.td_of (y := 1600) (m := 1) (d := 1) i0 ⟨by omega, by omega, by omega, by omega, by decide⟩ (by decide)
  have f0 : fdT 0 = ⟨#[49, 54, 48, 48, 45, 48, 49, 45, 48, 49]⟩ := by rw [fdT_day i0, u1, u2, u3]; rfl
  refine ⟨by rw [fdT_day i59, t1, t2, t3]; rfl, ?_, ?_, ?_⟩
  · have := pp_fpT (f := 0) (t := 1000000) (by omega)
    rw [fpT_yes (by omega), f0, fdT_fev] at this
    exact this
  · exact pd_range (by rw [toList_data]; decide) (by decide) (by decide)
  · exact pd_syn (by rw [toList_data]; decide) (by decide)

end Go.Proofs.Ytllbfbgkeajkeaa
