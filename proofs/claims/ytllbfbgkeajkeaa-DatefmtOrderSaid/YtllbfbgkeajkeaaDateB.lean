/-
  ParseDay, the program's and the reference's.
-/
import Derived.Test.YtllbfbgkeajkeaaDateA
namespace Go.Proofs.Ytllbfbgkeajkeaa
open Go.RowKit

def fevL : List UInt8 := [102, 111, 114, 101, 118, 101, 114]

/-- The byte is a digit. -/
def isd (s : ByteArray) (j : Nat) : Bool := decide (48 ≤ dgv s j) && decide (dgv s j ≤ 57)

theorem isd_iff (s : ByteArray) (j : Nat) : isd s j = true ↔ 48 ≤ dgv s j ∧ dgv s j ≤ 57 := by unfold isd; simp

/-- The eight digits of a date. -/
def dok (s : ByteArray) : Bool := isd s 0 && isd s 1 && isd s 2 && isd s 3 && isd s 5 && isd s 6 && isd s 8 && isd s 9

def pdy (s : ByteArray) : Int := 1000 * (dgv s 0 - 48) + 100 * (dgv s 1 - 48) + 10 * (dgv s 2 - 48) + (dgv s 3 - 48)
def pdm (s : ByteArray) : Int := 10 * (dgv s 5 - 48) + (dgv s 6 - 48)
def pdd (s : ByteArray) : Int := 10 * (dgv s 8 - 48) + (dgv s 9 - 48)

/-- The text has the form of a date. -/
def pform (s : ByteArray) : Bool := decide (s.size = 10) && (decide (dgv s 4 = 45) && (decide (dgv s 7 = 45) && dok s))

/-- What ParseDay returns: the day and the error. -/
def pd (s : ByteArray) : Int × Int :=
  if s.toList = fevL then (1000000, 0) else if pform s = true then (if Cal.fdB (pdy s) (pdm s) (pdd s) = true then (Cal.fdN (pdy s) (pdm s) (pdd s), 0) else (0, 10)) else (0, 5)

theorem pd_fev {s : ByteArray} (h : s.toList = fevL) : pd s = (1000000, 0) := by unfold pd; rw [if_pos h]
theorem pd_syn {s : ByteArray} (h : s.toList ≠ fevL) (h2 : pform s = false) : pd s = (0, 5) := by unfold pd; rw [if_neg h, h2]; rfl
theorem pd_ok {s : ByteArray} (h : s.toList ≠ fevL) (h2 : pform s = true) (h3 : Cal.fdB (pdy s) (pdm s) (pdd s) = true) : pd s = (Cal.fdN (pdy s) (pdm s) (pdd s), 0) := by unfold pd; rw [if_neg h, if_pos h2, if_pos h3]
theorem pd_range {s : ByteArray} (h : s.toList ≠ fevL) (h2 : pform s = true) (h3 : Cal.fdB (pdy s) (pdm s) (pdd s) = false) : pd s = (0, 10) := by unfold pd; rw [if_neg h, if_pos h2, h3]; rfl

/-- The value that ParseDay returns. -/
def pdR (s : ByteArray) : Value := .tuple #[.int .i64 (pd s).1, .int .i64 (pd s).2]

theorem pform_iff (s : ByteArray) : pform s = true ↔ s.size = 10 ∧ dgv s 4 = 45 ∧ dgv s 7 = 45 ∧ dok s = true := by unfold pform; simp

theorem dgv_extract (s : ByteArray) (a b j : Nat) (h : a + j < b) (hb : b ≤ s.size) : dgv (s.extract a b) j = dgv s (a + j) := by
  have hz : j < (s.extract a b).size := by rw [ByteArray.size_extract]; omega
  rw [← dgv_get _ j hz, ← dgv_get s (a + j) (by omega)]
  rw [ByteArray.getElem_extract]

theorem size_toList (s : ByteArray) : s.toList.length = s.size := by
  rw [ByteArray.toList_eq]; rfl

theorem fev_size {s : ByteArray} (h : s.toList = fevL) : s.size = 7 := by rw [← size_toList, h]; rfl

theorem numR_y (s : ByteArray) (b : Nat) (hb : b = 4) (h : s.size = 10) : numR (s.extract 0 b) = if (isd s 0 && isd s 1 && isd s 2 && isd s 3) = true then .tuple #[.int .i64 (pdy s), .bool true] else .tuple #[.int .i64 0, .bool false] := by
  subst hb
  have hz : (s.extract 0 4).size = 4 := by rw [ByteArray.size_extract]; omega
  have e0 : dgv (s.extract 0 4) 0 = dgv s 0 := dgv_extract s 0 4 0 (by omega) (by omega)
  have e1 : dgv (s.extract 0 4) 1 = dgv s 1 := dgv_extract s 0 4 1 (by omega) (by omega)
  have e2 : dgv (s.extract 0 4) 2 = dgv s 2 := dgv_extract s 0 4 2 (by omega) (by omega)
  have e3 : dgv (s.extract 0 4) 3 = dgv s 3 := dgv_extract s 0 4 3 (by omega) (by omega)
  have e : dgs (s.extract 0 4) 4 = (isd s 0 && isd s 1 && isd s 2 && isd s 3) := by simp only [dgs, isd, Bool.true_and, e0, e1, e2, e3]
  have hn : nv (s.extract 0 4) 4 = pdy s := by simp only [nv, e0, e1, e2, e3]; unfold pdy; omega
  unfold numR
  rw [hz, e, hn]

theorem numR_m (s : ByteArray) (b : Nat) (hb : b = 7) (h : s.size = 10) : numR (s.extract 5 b) = if (isd s 5 && isd s 6) = true then .tuple #[.int .i64 (pdm s), .bool true] else .tuple #[.int .i64 0, .bool false] := by
  subst hb
  have hz : (s.extract 5 7).size = 2 := by rw [ByteArray.size_extract]; omega
  have e0 : dgv (s.extract 5 7) 0 = dgv s 5 := dgv_extract s 5 7 0 (by omega) (by omega)
  have e1 : dgv (s.extract 5 7) 1 = dgv s 6 := dgv_extract s 5 7 1 (by omega) (by omega)
  have e : dgs (s.extract 5 7) 2 = (isd s 5 && isd s 6) := by simp only [dgs, isd, Bool.true_and, e0, e1]
  have hn : nv (s.extract 5 7) 2 = pdm s := by simp only [nv, e0, e1]; unfold pdm; omega
  unfold numR
  rw [hz, e, hn]

theorem numR_d (s : ByteArray) (b : Nat) (hb : b = 10) (h : s.size = 10) : numR (s.extract 8 b) = if (isd s 8 && isd s 9) = true then .tuple #[.int .i64 (pdd s), .bool true] else .tuple #[.int .i64 0, .bool false] := by
  subst hb
  have hz : (s.extract 8 10).size = 2 := by rw [ByteArray.size_extract]; omega
  have e0 : dgv (s.extract 8 10) 0 = dgv s 8 := dgv_extract s 8 10 0 (by omega) (by omega)
  have e1 : dgv (s.extract 8 10) 1 = dgv s 9 := dgv_extract s 8 10 1 (by omega) (by omega)
  have e : dgs (s.extract 8 10) 2 = (isd s 8 && isd s 9) := by simp only [dgs, isd, Bool.true_and, e0, e1]
  have hn : nv (s.extract 8 10) 2 = pdd s := by simp only [nv, e0, e1]; unfold pdd; omega
  unfold numR
  rw [hz, e, hn]

set_option maxRecDepth 100000 in
theorem datefmt_ParseDay (s : ByteArray) (w : World) : Calls Try.prog 9 #[.string s] w fun e w' => e = .returned (pdR s) ∧ Below w.heap.size w w' := by
  generalize hv : pdR s = V
  have HV := Lib.hid hv
  clear hv
  have hB : Below w.heap.size w w := Below.refl _ _
  by_cases c1 : s.toList = fevL
  · have HP := Lib.hid (pd_fev c1)
    have hc : (s.toList == [102, 111, 114, 101, 118, 101, 114]) = true := by rw [c1]; rfl
    clear c1
    go_enter Try.func9, Try.ntmps9
    go_wp2
    go_ret2
    exact ⟨by rw [← HV.out, pdR, HP.out]; rfl, hB⟩
  have hc : (s.toList == [102, 111, 114, 101, 118, 101, 114]) = false := by
    cases e : (s.toList == [102, 111, 114, 101, 118, 101, 114]) with
    | false => rfl
    | true => exact absurd (eq_of_beq e) c1
  have HC := Lib.hid c1
  clear c1
  by_cases c2 : s.size = 10
  case neg =>
    have HP := Lib.hid (pd_syn HC.out (by cases e : pform s with | false => rfl | true => exact absurd ((pform_iff s).1 e).1 c2))
    go_enter Try.func9, Try.ntmps9
    go_wp2
    go_ret2
    exact ⟨by rw [← HV.out, pdR, HP.out]; rfl, hB⟩
  obtain ⟨b4, hb4⟩ : ∃ x, ((s[4]'(by omega)).toNat : Int) = x := ⟨_, rfl⟩
  have HB4 := Lib.hid ((dgv_get s 4 (by omega)).symm.trans hb4)
  obtain ⟨b7, hb7⟩ : ∃ x, ((s[7]'(by omega)).toNat : Int) = x := ⟨_, rfl⟩
  have HB7 := Lib.hid ((dgv_get s 7 (by omega)).symm.trans hb7)
  by_cases c4 : b4 = 45
  case neg =>
    have HP := Lib.hid (pd_syn HC.out (by cases e : pform s with | false => rfl | true => exact absurd (HB4.out.symm.trans ((pform_iff s).1 e).2.1) c4))
    go_enter Try.func9, Try.ntmps9
    go_wp2
    go_ret2
    exact ⟨by rw [← HV.out, pdR, HP.out]; rfl, hB⟩
  subst c4
  by_cases c7 : b7 = 45
  case neg =>
    have HP := Lib.hid (pd_syn HC.out (by cases e : pform s with | false => rfl | true => exact absurd (HB7.out.symm.trans ((pform_iff s).1 e).2.2.1) c7))
    go_enter Try.func9, Try.ntmps9
    go_wp2
    go_ret2
    exact ⟨by rw [← HV.out, pdR, HP.out]; rfl, hB⟩
  subst c7
  have ny := numR_y s 4 rfl c2
  have nm := numR_m s 7 rfl c2
  have nd := numR_d s 10 rfl c2
  have HF := Lib.hid (show pform s = dok s by
    have h4 : dgv s 4 = 45 := HB4.out
    have h7 : dgv s 7 = 45 := HB7.out
    unfold pform; simp [c2, h4, h7])
  by_cases cy : (isd s 0 && isd s 1 && isd s 2 && isd s 3) = true
  case neg =>
    have HP := Lib.hid (pd_syn HC.out (by
      rw [HF.out]
      cases e : dok s with
      | false => rfl
      | true => exact absurd (by unfold dok at e; simp only [Bool.and_eq_true] at e ⊢; simp [e]) cy))
    rw [if_neg cy] at ny
    clear cy
    by_cases cm : (isd s 5 && isd s 6) = true <;> by_cases cd : (isd s 8 && isd s 9) = true
    all_goals
      simp only [cm, cd, if_true, if_false, Bool.false_eq_true] at nm nd
      clear cm cd
      go_enter Try.func9, Try.ntmps9
      go_wp2_with (first | (go_at_call 20; refine (datefmt_number _ _ (by simp only [ByteArray.size_extract]; omega)).mono ?_; rintro e w1 ⟨rfl, hb2⟩; replace hB := hB.trans (hb2.mono hB.size); clear hb2) | (go_at_call 21; refine (civil_FromDate _ _ _ _).mono ?_; rintro e w1 ⟨rfl, rfl⟩))
      go_ret2
      exact ⟨by rw [← HV.out, pdR, HP.out]; rfl, hB⟩
  have HY := Lib.hid cy
  rw [if_pos cy] at ny
  clear cy
  by_cases cm : (isd s 5 && isd s 6) = true
  case neg =>
    have HP := Lib.hid (pd_syn HC.out (by
      rw [HF.out]
      cases e : dok s with
      | false => rfl
      | true => exact absurd (by unfold dok at e; simp only [Bool.and_eq_true] at e ⊢; simp [e]) cm))
    rw [if_neg cm] at nm
    clear cm
    by_cases cd : (isd s 8 && isd s 9) = true
    all_goals
      simp only [cd, if_true, if_false, Bool.false_eq_true] at nd
      clear cd
      go_enter Try.func9, Try.ntmps9
      go_wp2_with (first | (go_at_call 20; refine (datefmt_number _ _ (by simp only [ByteArray.size_extract]; omega)).mono ?_; rintro e w1 ⟨rfl, hb2⟩; replace hB := hB.trans (hb2.mono hB.size); clear hb2) | (go_at_call 21; refine (civil_FromDate _ _ _ _).mono ?_; rintro e w1 ⟨rfl, rfl⟩))
      go_ret2
      exact ⟨by rw [← HV.out, pdR, HP.out]; rfl, hB⟩
  have HM := Lib.hid cm
  rw [if_pos cm] at nm
  clear cm
  by_cases cd : (isd s 8 && isd s 9) = true
  case neg =>
    have HP := Lib.hid (pd_syn HC.out (by
      rw [HF.out]
      cases e : dok s with
      | false => rfl
      | true => exact absurd (by unfold dok at e; simp only [Bool.and_eq_true] at e ⊢; simp [e]) cd))
    rw [if_neg cd] at nd
    clear cd
    go_enter Try.func9, Try.ntmps9
    go_wp2_with (first | (go_at_call 20; refine (datefmt_number _ _ (by simp only [ByteArray.size_extract]; omega)).mono ?_; rintro e w1 ⟨rfl, hb2⟩; replace hB := hB.trans (hb2.mono hB.size); clear hb2) | (go_at_call 21; refine (civil_FromDate _ _ _ _).mono ?_; rintro e w1 ⟨rfl, rfl⟩))
    go_ret2
    exact ⟨by rw [← HV.out, pdR, HP.out]; rfl, hB⟩
  have HO := Lib.hid (show pform s = true by
    have h1 := HY.out
    have h2 := HM.out
    simp only [Bool.and_eq_true] at h1 h2 cd
    rw [HF.out]; unfold dok; simp [h1, h2, cd])
  rw [if_pos cd] at nd
  clear cd
  by_cases cf : Cal.fdB (pdy s) (pdm s) (pdd s) = true
  · have HP := Lib.hid (pd_ok HC.out HO.out cf)
    go_enter Try.func9, Try.ntmps9
    go_wp2_with (first | (go_at_call 20; refine (datefmt_number _ _ (by simp only [ByteArray.size_extract]; omega)).mono ?_; rintro e w1 ⟨rfl, hb2⟩; replace hB := hB.trans (hb2.mono hB.size); clear hb2) | (go_at_call 21; refine (civil_FromDate _ _ _ _).mono ?_; rintro e w1 ⟨rfl, rfl⟩))
    go_ret2
    exact ⟨by rw [← HV.out, pdR, HP.out]; rfl, hB⟩
  · have cf : Cal.fdB (pdy s) (pdm s) (pdd s) = false := by simpa using cf
    have HP := Lib.hid (pd_range HC.out HO.out cf)
    go_enter Try.func9, Try.ntmps9
    go_wp2_with (first | (go_at_call 20; refine (datefmt_number _ _ (by simp only [ByteArray.size_extract]; omega)).mono ?_; rintro e w1 ⟨rfl, hb2⟩; replace hB := hB.trans (hb2.mono hB.size); clear hb2) | (go_at_call 21; refine (civil_FromDate _ _ _ _).mono ?_; rintro e w1 ⟨rfl, rfl⟩))
    go_ret2
    exact ⟨by rw [← HV.out, pdR, HP.out]; rfl, hB⟩

theorem ref_FromDate_eq (a b c y m d : Int) (w : World) (h1 : a = y) (h2 : b = m) (h3 : c = d) :
    Calls Try.prog 22 #[.int .i64 a, .int .i64 b, .int .i64 c] w fun e w' => e = .returned (.tuple #[.int .i64 (Cal.fdN y m d), .bool (Cal.fdB y m d)]) ∧ Below w.heap.size w w' := by
  subst h1; subst h2; subst h3; exact ref_FromDate _ _ _ _

set_option maxRecDepth 100000 in
set_option maxHeartbeats 2000000 in
theorem ref_ParseDay (s : ByteArray) (w : World) : Calls Try.prog 10 #[.string s] w fun e w' => e = .returned (pdR s) ∧ Below w.heap.size w w' := by
  generalize hv : pdR s = V
  have HV := Lib.hid hv
  clear hv
  have hB : Below w.heap.size w w := Below.refl _ _
  by_cases c1 : s.toList = fevL
  · have HP := Lib.hid (pd_fev c1)
    have hc : (s.toList == [102, 111, 114, 101, 118, 101, 114]) = true := by rw [c1]; rfl
    clear c1
    go_enter Try.func10, Try.ntmps10
    go_wp2
    go_ret2
    exact ⟨by rw [← HV.out, pdR, HP.out]; rfl, hB⟩
  have hc : (s.toList == [102, 111, 114, 101, 118, 101, 114]) = false := by
    cases e : (s.toList == [102, 111, 114, 101, 118, 101, 114]) with
    | false => rfl
    | true => exact absurd (eq_of_beq e) c1
  have HC := Lib.hid c1
  clear c1
  by_cases c2 : s.size = 10
  case neg =>
    have HP := Lib.hid (pd_syn HC.out (by cases e : pform s with | false => rfl | true => exact absurd ((pform_iff s).1 e).1 c2))
    go_enter Try.func10, Try.ntmps10
    go_wp2
    go_ret2
    exact ⟨by rw [← HV.out, pdR, HP.out]; rfl, hB⟩
  obtain ⟨b0, hb0⟩ : ∃ x, ((s[0]'(by omega)).toNat : Int) = x := ⟨_, rfl⟩
  have HB0 := Lib.hid ((dgv_get s 0 (by omega)).symm.trans hb0)
  obtain ⟨b1, hb1⟩ : ∃ x, ((s[1]'(by omega)).toNat : Int) = x := ⟨_, rfl⟩
  have HB1 := Lib.hid ((dgv_get s 1 (by omega)).symm.trans hb1)
  obtain ⟨b2, hb2⟩ : ∃ x, ((s[2]'(by omega)).toNat : Int) = x := ⟨_, rfl⟩
  have HB2 := Lib.hid ((dgv_get s 2 (by omega)).symm.trans hb2)
  obtain ⟨b3, hb3⟩ : ∃ x, ((s[3]'(by omega)).toNat : Int) = x := ⟨_, rfl⟩
  have HB3 := Lib.hid ((dgv_get s 3 (by omega)).symm.trans hb3)
  obtain ⟨b4, hb4⟩ : ∃ x, ((s[4]'(by omega)).toNat : Int) = x := ⟨_, rfl⟩
  have HB4 := Lib.hid ((dgv_get s 4 (by omega)).symm.trans hb4)
  obtain ⟨b5, hb5⟩ : ∃ x, ((s[5]'(by omega)).toNat : Int) = x := ⟨_, rfl⟩
  have HB5 := Lib.hid ((dgv_get s 5 (by omega)).symm.trans hb5)
  obtain ⟨b6, hb6⟩ : ∃ x, ((s[6]'(by omega)).toNat : Int) = x := ⟨_, rfl⟩
  have HB6 := Lib.hid ((dgv_get s 6 (by omega)).symm.trans hb6)
  obtain ⟨b7, hb7⟩ : ∃ x, ((s[7]'(by omega)).toNat : Int) = x := ⟨_, rfl⟩
  have HB7 := Lib.hid ((dgv_get s 7 (by omega)).symm.trans hb7)
  obtain ⟨b8, hb8⟩ : ∃ x, ((s[8]'(by omega)).toNat : Int) = x := ⟨_, rfl⟩
  have HB8 := Lib.hid ((dgv_get s 8 (by omega)).symm.trans hb8)
  obtain ⟨b9, hb9⟩ : ∃ x, ((s[9]'(by omega)).toNat : Int) = x := ⟨_, rfl⟩
  have HB9 := Lib.hid ((dgv_get s 9 (by omega)).symm.trans hb9)
  by_cases c4 : b4 = 45
  case neg =>
    have HP := Lib.hid (pd_syn HC.out (by cases e : pform s with | false => rfl | true => exact absurd (HB4.out.symm.trans ((pform_iff s).1 e).2.1) c4))
    go_enter Try.func10, Try.ntmps10
    go_wp2
    go_ret2
    exact ⟨by rw [← HV.out, pdR, HP.out]; rfl, hB⟩
  subst c4
  by_cases c7 : b7 = 45
  case neg =>
    have HP := Lib.hid (pd_syn HC.out (by cases e : pform s with | false => rfl | true => exact absurd (HB7.out.symm.trans ((pform_iff s).1 e).2.2.1) c7))
    go_enter Try.func10, Try.ntmps10
    go_wp2
    go_ret2
    exact ⟨by rw [← HV.out, pdR, HP.out]; rfl, hB⟩
  subst c7
  have hu0 : (0 : Int) ≤ b0 ∧ b0 < 256 := by rw [← hb0]; have := (s[0]'(by omega)).toNat_lt; omega
  have hu1 : (0 : Int) ≤ b1 ∧ b1 < 256 := by rw [← hb1]; have := (s[1]'(by omega)).toNat_lt; omega
  have hu2 : (0 : Int) ≤ b2 ∧ b2 < 256 := by rw [← hb2]; have := (s[2]'(by omega)).toNat_lt; omega
  have hu3 : (0 : Int) ≤ b3 ∧ b3 < 256 := by rw [← hb3]; have := (s[3]'(by omega)).toNat_lt; omega
  have hu5 : (0 : Int) ≤ b5 ∧ b5 < 256 := by rw [← hb5]; have := (s[5]'(by omega)).toNat_lt; omega
  have hu6 : (0 : Int) ≤ b6 ∧ b6 < 256 := by rw [← hb6]; have := (s[6]'(by omega)).toNat_lt; omega
  have hu8 : (0 : Int) ≤ b8 ∧ b8 < 256 := by rw [← hb8]; have := (s[8]'(by omega)).toNat_lt; omega
  have hu9 : (0 : Int) ≤ b9 ∧ b9 < 256 := by rw [← hb9]; have := (s[9]'(by omega)).toNat_lt; omega
  obtain ⟨hu0, hv0⟩ := hu0
  obtain ⟨hu1, hv1⟩ := hu1
  obtain ⟨hu2, hv2⟩ := hu2
  obtain ⟨hu3, hv3⟩ := hu3
  obtain ⟨hu5, hv5⟩ := hu5
  obtain ⟨hu6, hv6⟩ := hu6
  obtain ⟨hu8, hv8⟩ := hu8
  obtain ⟨hu9, hv9⟩ := hu9
  go_enter Try.func10, Try.ntmps10
  go_wp2
  go_loopw [5] (fun i wr => (i = .int .i64 0 ∧ wr = w.alloc (.cells #[Value.int .i64 0, Value.int .i64 0, Value.int .i64 0, Value.int .i64 0, Value.int .i64 0, Value.int .i64 0, Value.int .i64 0, Value.int .i64 0, Value.int .i64 0, Value.int .i64 0] 44)) ∨ (i = .int .i64 1 ∧ wr = w.alloc (.cells #[Value.int .i64 (b0 - 48), Value.int .i64 0, Value.int .i64 0, Value.int .i64 0, Value.int .i64 0, Value.int .i64 0, Value.int .i64 0, Value.int .i64 0, Value.int .i64 0, Value.int .i64 0] 44) ∧ 48 ≤ b0 ∧ b0 ≤ 57) ∨ (i = .int .i64 2 ∧ wr = w.alloc (.cells #[Value.int .i64 (b0 - 48), Value.int .i64 (b1 - 48), Value.int .i64 0, Value.int .i64 0, Value.int .i64 0, Value.int .i64 0, Value.int .i64 0, Value.int .i64 0, Value.int .i64 0, Value.int .i64 0] 44) ∧ 48 ≤ b0 ∧ b0 ≤ 57 ∧ 48 ≤ b1 ∧ b1 ≤ 57) ∨ (i = .int .i64 3 ∧ wr = w.alloc (.cells #[Value.int .i64 (b0 - 48), Value.int .i64 (b1 - 48), Value.int .i64 (b2 - 48), Value.int .i64 0, Value.int .i64 0, Value.int .i64 0, Value.int .i64 0, Value.int .i64 0, Value.int .i64 0, Value.int .i64 0] 44) ∧ 48 ≤ b0 ∧ b0 ≤ 57 ∧ 48 ≤ b1 ∧ b1 ≤ 57 ∧ 48 ≤ b2 ∧ b2 ≤ 57) ∨ (i = .int .i64 4 ∧ wr = w.alloc (.cells #[Value.int .i64 (b0 - 48), Value.int .i64 (b1 - 48), Value.int .i64 (b2 - 48), Value.int .i64 (b3 - 48), Value.int .i64 0, Value.int .i64 0, Value.int .i64 0, Value.int .i64 0, Value.int .i64 0, Value.int .i64 0] 44) ∧ 48 ≤ b0 ∧ b0 ≤ 57 ∧ 48 ≤ b1 ∧ b1 ≤ 57 ∧ 48 ≤ b2 ∧ b2 ≤ 57 ∧ 48 ≤ b3 ∧ b3 ≤ 57) ∨ (i = .int .i64 5 ∧ wr = w.alloc (.cells #[Value.int .i64 (b0 - 48), Value.int .i64 (b1 - 48), Value.int .i64 (b2 - 48), Value.int .i64 (b3 - 48), Value.int .i64 0, Value.int .i64 0, Value.int .i64 0, Value.int .i64 0, Value.int .i64 0, Value.int .i64 0] 44) ∧ 48 ≤ b0 ∧ b0 ≤ 57 ∧ 48 ≤ b1 ∧ b1 ≤ 57 ∧ 48 ≤ b2 ∧ b2 ≤ 57 ∧ 48 ≤ b3 ∧ b3 ≤ 57) ∨ (i = .int .i64 6 ∧ wr = w.alloc (.cells #[Value.int .i64 (b0 - 48), Value.int .i64 (b1 - 48), Value.int .i64 (b2 - 48), Value.int .i64 (b3 - 48), Value.int .i64 0, Value.int .i64 (b5 - 48), Value.int .i64 0, Value.int .i64 0, Value.int .i64 0, Value.int .i64 0] 44) ∧ 48 ≤ b0 ∧ b0 ≤ 57 ∧ 48 ≤ b1 ∧ b1 ≤ 57 ∧ 48 ≤ b2 ∧ b2 ≤ 57 ∧ 48 ≤ b3 ∧ b3 ≤ 57 ∧ 48 ≤ b5 ∧ b5 ≤ 57) ∨ (i = .int .i64 7 ∧ wr = w.alloc (.cells #[Value.int .i64 (b0 - 48), Value.int .i64 (b1 - 48), Value.int .i64 (b2 - 48), Value.int .i64 (b3 - 48), Value.int .i64 0, Value.int .i64 (b5 - 48), Value.int .i64 (b6 - 48), Value.int .i64 0, Value.int .i64 0, Value.int .i64 0] 44) ∧ 48 ≤ b0 ∧ b0 ≤ 57 ∧ 48 ≤ b1 ∧ b1 ≤ 57 ∧ 48 ≤ b2 ∧ b2 ≤ 57 ∧ 48 ≤ b3 ∧ b3 ≤ 57 ∧ 48 ≤ b5 ∧ b5 ≤ 57 ∧ 48 ≤ b6 ∧ b6 ≤ 57) ∨ (i = .int .i64 8 ∧ wr = w.alloc (.cells #[Value.int .i64 (b0 - 48), Value.int .i64 (b1 - 48), Value.int .i64 (b2 - 48), Value.int .i64 (b3 - 48), Value.int .i64 0, Value.int .i64 (b5 - 48), Value.int .i64 (b6 - 48), Value.int .i64 0, Value.int .i64 0, Value.int .i64 0] 44) ∧ 48 ≤ b0 ∧ b0 ≤ 57 ∧ 48 ≤ b1 ∧ b1 ≤ 57 ∧ 48 ≤ b2 ∧ b2 ≤ 57 ∧ 48 ≤ b3 ∧ b3 ≤ 57 ∧ 48 ≤ b5 ∧ b5 ≤ 57 ∧ 48 ≤ b6 ∧ b6 ≤ 57) ∨ (i = .int .i64 9 ∧ wr = w.alloc (.cells #[Value.int .i64 (b0 - 48), Value.int .i64 (b1 - 48), Value.int .i64 (b2 - 48), Value.int .i64 (b3 - 48), Value.int .i64 0, Value.int .i64 (b5 - 48), Value.int .i64 (b6 - 48), Value.int .i64 0, Value.int .i64 (b8 - 48), Value.int .i64 0] 44) ∧ 48 ≤ b0 ∧ b0 ≤ 57 ∧ 48 ≤ b1 ∧ b1 ≤ 57 ∧ 48 ≤ b2 ∧ b2 ≤ 57 ∧ 48 ≤ b3 ∧ b3 ≤ 57 ∧ 48 ≤ b5 ∧ b5 ≤ 57 ∧ 48 ≤ b6 ∧ b6 ≤ 57 ∧ 48 ≤ b8 ∧ b8 ≤ 57) ∨ (i = .int .i64 10 ∧ wr = w.alloc (.cells #[Value.int .i64 (b0 - 48), Value.int .i64 (b1 - 48), Value.int .i64 (b2 - 48), Value.int .i64 (b3 - 48), Value.int .i64 0, Value.int .i64 (b5 - 48), Value.int .i64 (b6 - 48), Value.int .i64 0, Value.int .i64 (b8 - 48), Value.int .i64 (b9 - 48)] 44) ∧ 48 ≤ b0 ∧ b0 ≤ 57 ∧ 48 ≤ b1 ∧ b1 ≤ 57 ∧ 48 ≤ b2 ∧ b2 ≤ 57 ∧ 48 ≤ b3 ∧ b3 ≤ 57 ∧ 48 ≤ b5 ∧ b5 ≤ 57 ∧ 48 ≤ b6 ∧ b6 ≤ 57 ∧ 48 ≤ b8 ∧ b8 ≤ 57 ∧ 48 ≤ b9 ∧ b9 ≤ 57)) (fun i _ => (10 - intOf i).toNat)
  case atStart => exact .inl ⟨rfl, rfl⟩
  case round =>
    rcases hrel with ⟨rfl, rfl⟩ | ⟨rfl, rfl, k0, l0⟩ | ⟨rfl, rfl, k0, l0, k1, l1⟩ | ⟨rfl, rfl, k0, l0, k1, l1, k2, l2⟩ | ⟨rfl, rfl, k0, l0, k1, l1, k2, l2, k3, l3⟩ | ⟨rfl, rfl, k0, l0, k1, l1, k2, l2, k3, l3⟩ | ⟨rfl, rfl, k0, l0, k1, l1, k2, l2, k3, l3, k5, l5⟩ | ⟨rfl, rfl, k0, l0, k1, l1, k2, l2, k3, l3, k5, l5, k6, l6⟩ | ⟨rfl, rfl, k0, l0, k1, l1, k2, l2, k3, l3, k5, l5, k6, l6⟩ | ⟨rfl, rfl, k0, l0, k1, l1, k2, l2, k3, l3, k5, l5, k6, l6, k8, l8⟩ | ⟨rfl, rfl, k0, l0, k1, l1, k2, l2, k3, l3, k5, l5, k6, l6, k8, l8, k9, l9⟩
    · by_cases h1 : 48 ≤ b0
      · by_cases h2 : b0 ≤ 57
        · go_wp2
          go_roundw
          case rel => exact .inr (.inl ⟨by first | rfl | trivial | assumption, by first | rfl | trivial | assumption, by first | rfl | trivial | assumption, by first | rfl | trivial | assumption⟩)
          case measure => simp [intOf]
        · go_wp2
          go_ret2
          have hb' := HB0.out
          have HP := Lib.hid (pd_syn HC.out (by cases e : pform s with | false => rfl | true => have := ((pform_iff s).1 e).2.2.2; unfold dok at this; simp only [Bool.and_eq_true] at this; have h9 := (isd_iff s 0).1 (by simp [this]); omega))
          exact ⟨by rw [← HV.out, pdR, HP.out]; rfl, hB.alloc (Nat.le_refl _) _⟩
      · go_wp2
        go_ret2
        have hb' := HB0.out
        have HP := Lib.hid (pd_syn HC.out (by cases e : pform s with | false => rfl | true => have := ((pform_iff s).1 e).2.2.2; unfold dok at this; simp only [Bool.and_eq_true] at this; have h9 := (isd_iff s 0).1 (by simp [this]); omega))
        exact ⟨by rw [← HV.out, pdR, HP.out]; rfl, hB.alloc (Nat.le_refl _) _⟩
    · by_cases h1 : 48 ≤ b1
      · by_cases h2 : b1 ≤ 57
        · go_wp2
          go_roundw
          case rel => exact .inr (.inr (.inl ⟨by first | rfl | trivial | assumption, by first | rfl | trivial | assumption, by first | rfl | trivial | assumption, by first | rfl | trivial | assumption, by first | rfl | trivial | assumption, by first | rfl | trivial | assumption⟩))
          case measure => simp [intOf]
        · go_wp2
          go_ret2
          have hb' := HB1.out
          have HP := Lib.hid (pd_syn HC.out (by cases e : pform s with | false => rfl | true => have := ((pform_iff s).1 e).2.2.2; unfold dok at this; simp only [Bool.and_eq_true] at this; have h9 := (isd_iff s 1).1 (by simp [this]); omega))
          exact ⟨by rw [← HV.out, pdR, HP.out]; rfl, hB.alloc (Nat.le_refl _) _⟩
      · go_wp2
        go_ret2
        have hb' := HB1.out
        have HP := Lib.hid (pd_syn HC.out (by cases e : pform s with | false => rfl | true => have := ((pform_iff s).1 e).2.2.2; unfold dok at this; simp only [Bool.and_eq_true] at this; have h9 := (isd_iff s 1).1 (by simp [this]); omega))
        exact ⟨by rw [← HV.out, pdR, HP.out]; rfl, hB.alloc (Nat.le_refl _) _⟩
    · by_cases h1 : 48 ≤ b2
      · by_cases h2 : b2 ≤ 57
        · go_wp2
          go_roundw
          case rel => exact .inr (.inr (.inr (.inl ⟨by first | rfl | trivial | assumption, by first | rfl | trivial | assumption, by first | rfl | trivial | assumption, by first | rfl | trivial | assumption, by first | rfl | trivial | assumption, by first | rfl | trivial | assumption, by first | rfl | trivial | assumption, by first | rfl | trivial | assumption⟩)))
          case measure => simp [intOf]
        · go_wp2
          go_ret2
          have hb' := HB2.out
          have HP := Lib.hid (pd_syn HC.out (by cases e : pform s with | false => rfl | true => have := ((pform_iff s).1 e).2.2.2; unfold dok at this; simp only [Bool.and_eq_true] at this; have h9 := (isd_iff s 2).1 (by simp [this]); omega))
          exact ⟨by rw [← HV.out, pdR, HP.out]; rfl, hB.alloc (Nat.le_refl _) _⟩
      · go_wp2
        go_ret2
        have hb' := HB2.out
        have HP := Lib.hid (pd_syn HC.out (by cases e : pform s with | false => rfl | true => have := ((pform_iff s).1 e).2.2.2; unfold dok at this; simp only [Bool.and_eq_true] at this; have h9 := (isd_iff s 2).1 (by simp [this]); omega))
        exact ⟨by rw [← HV.out, pdR, HP.out]; rfl, hB.alloc (Nat.le_refl _) _⟩
    · by_cases h1 : 48 ≤ b3
      · by_cases h2 : b3 ≤ 57
        · go_wp2
          go_roundw
          case rel => exact .inr (.inr (.inr (.inr (.inl ⟨by first | rfl | trivial | assumption, by first | rfl | trivial | assumption, by first | rfl | trivial | assumption, by first | rfl | trivial | assumption, by first | rfl | trivial | assumption, by first | rfl | trivial | assumption, by first | rfl | trivial | assumption, by first | rfl | trivial | assumption, by first | rfl | trivial | assumption, by first | rfl | trivial | assumption⟩))))
          case measure => simp [intOf]
        · go_wp2
          go_ret2
          have hb' := HB3.out
          have HP := Lib.hid (pd_syn HC.out (by cases e : pform s with | false => rfl | true => have := ((pform_iff s).1 e).2.2.2; unfold dok at this; simp only [Bool.and_eq_true] at this; have h9 := (isd_iff s 3).1 (by simp [this]); omega))
          exact ⟨by rw [← HV.out, pdR, HP.out]; rfl, hB.alloc (Nat.le_refl _) _⟩
      · go_wp2
        go_ret2
        have hb' := HB3.out
        have HP := Lib.hid (pd_syn HC.out (by cases e : pform s with | false => rfl | true => have := ((pform_iff s).1 e).2.2.2; unfold dok at this; simp only [Bool.and_eq_true] at this; have h9 := (isd_iff s 3).1 (by simp [this]); omega))
        exact ⟨by rw [← HV.out, pdR, HP.out]; rfl, hB.alloc (Nat.le_refl _) _⟩
    · go_wp2
      go_roundw
      case rel => exact .inr (.inr (.inr (.inr (.inr (.inl ⟨by first | rfl | trivial | assumption, by first | rfl | trivial | assumption, by first | rfl | trivial | assumption, by first | rfl | trivial | assumption, by first | rfl | trivial | assumption, by first | rfl | trivial | assumption, by first | rfl | trivial | assumption, by first | rfl | trivial | assumption, by first | rfl | trivial | assumption, by first | rfl | trivial | assumption⟩)))))
      case measure => simp [intOf]
    · by_cases h1 : 48 ≤ b5
      · by_cases h2 : b5 ≤ 57
        · go_wp2
          go_roundw
          case rel => exact .inr (.inr (.inr (.inr (.inr (.inr (.inl ⟨by first | rfl | trivial | assumption, by first | rfl | trivial | assumption, by first | rfl | trivial | assumption, by first | rfl | trivial | assumption, by first | rfl | trivial | assumption, by first | rfl | trivial | assumption, by first | rfl | trivial | assumption, by first | rfl | trivial | assumption, by first | rfl | trivial | assumption, by first | rfl | trivial | assumption, by first | rfl | trivial | assumption, by first | rfl | trivial | assumption⟩))))))
          case measure => simp [intOf]
        · go_wp2
          go_ret2
          have hb' := HB5.out
          have HP := Lib.hid (pd_syn HC.out (by cases e : pform s with | false => rfl | true => have := ((pform_iff s).1 e).2.2.2; unfold dok at this; simp only [Bool.and_eq_true] at this; have h9 := (isd_iff s 5).1 (by simp [this]); omega))
          exact ⟨by rw [← HV.out, pdR, HP.out]; rfl, hB.alloc (Nat.le_refl _) _⟩
      · go_wp2
        go_ret2
        have hb' := HB5.out
        have HP := Lib.hid (pd_syn HC.out (by cases e : pform s with | false => rfl | true => have := ((pform_iff s).1 e).2.2.2; unfold dok at this; simp only [Bool.and_eq_true] at this; have h9 := (isd_iff s 5).1 (by simp [this]); omega))
        exact ⟨by rw [← HV.out, pdR, HP.out]; rfl, hB.alloc (Nat.le_refl _) _⟩
    · by_cases h1 : 48 ≤ b6
      · by_cases h2 : b6 ≤ 57
        · go_wp2
          go_roundw
          case rel => exact .inr (.inr (.inr (.inr (.inr (.inr (.inr (.inl ⟨by first | rfl | trivial | assumption, by first | rfl | trivial | assumption, by first | rfl | trivial | assumption, by first | rfl | trivial | assumption, by first | rfl | trivial | assumption, by first | rfl | trivial | assumption, by first | rfl | trivial | assumption, by first | rfl | trivial | assumption, by first | rfl | trivial | assumption, by first | rfl | trivial | assumption, by first | rfl | trivial | assumption, by first | rfl | trivial | assumption, by first | rfl | trivial | assumption, by first | rfl | trivial | assumption⟩)))))))
          case measure => simp [intOf]
        · go_wp2
          go_ret2
          have hb' := HB6.out
          have HP := Lib.hid (pd_syn HC.out (by cases e : pform s with | false => rfl | true => have := ((pform_iff s).1 e).2.2.2; unfold dok at this; simp only [Bool.and_eq_true] at this; have h9 := (isd_iff s 6).1 (by simp [this]); omega))
          exact ⟨by rw [← HV.out, pdR, HP.out]; rfl, hB.alloc (Nat.le_refl _) _⟩
      · go_wp2
        go_ret2
        have hb' := HB6.out
        have HP := Lib.hid (pd_syn HC.out (by cases e : pform s with | false => rfl | true => have := ((pform_iff s).1 e).2.2.2; unfold dok at this; simp only [Bool.and_eq_true] at this; have h9 := (isd_iff s 6).1 (by simp [this]); omega))
        exact ⟨by rw [← HV.out, pdR, HP.out]; rfl, hB.alloc (Nat.le_refl _) _⟩
    · go_wp2
      go_roundw
      case rel => exact .inr (.inr (.inr (.inr (.inr (.inr (.inr (.inr (.inl ⟨by first | rfl | trivial | assumption, by first | rfl | trivial | assumption, by first | rfl | trivial | assumption, by first | rfl | trivial | assumption, by first | rfl | trivial | assumption, by first | rfl | trivial | assumption, by first | rfl | trivial | assumption, by first | rfl | trivial | assumption, by first | rfl | trivial | assumption, by first | rfl | trivial | assumption, by first | rfl | trivial | assumption, by first | rfl | trivial | assumption, by first | rfl | trivial | assumption, by first | rfl | trivial | assumption⟩))))))))
      case measure => simp [intOf]
    · by_cases h1 : 48 ≤ b8
      · by_cases h2 : b8 ≤ 57
        · go_wp2
          go_roundw
          case rel => exact .inr (.inr (.inr (.inr (.inr (.inr (.inr (.inr (.inr (.inl ⟨by first | rfl | trivial | assumption, by first | rfl | trivial | assumption, by first | rfl | trivial | assumption, by first | rfl | trivial | assumption, by first | rfl | trivial | assumption, by first | rfl | trivial | assumption, by first | rfl | trivial | assumption, by first | rfl | trivial | assumption, by first | rfl | trivial | assumption, by first | rfl | trivial | assumption, by first | rfl | trivial | assumption, by first | rfl | trivial | assumption, by first | rfl | trivial | assumption, by first | rfl | trivial | assumption, by first | rfl | trivial | assumption, by first | rfl | trivial | assumption⟩)))))))))
          case measure => simp [intOf]
        · go_wp2
          go_ret2
          have hb' := HB8.out
          have HP := Lib.hid (pd_syn HC.out (by cases e : pform s with | false => rfl | true => have := ((pform_iff s).1 e).2.2.2; unfold dok at this; simp only [Bool.and_eq_true] at this; have h9 := (isd_iff s 8).1 (by simp [this]); omega))
          exact ⟨by rw [← HV.out, pdR, HP.out]; rfl, hB.alloc (Nat.le_refl _) _⟩
      · go_wp2
        go_ret2
        have hb' := HB8.out
        have HP := Lib.hid (pd_syn HC.out (by cases e : pform s with | false => rfl | true => have := ((pform_iff s).1 e).2.2.2; unfold dok at this; simp only [Bool.and_eq_true] at this; have h9 := (isd_iff s 8).1 (by simp [this]); omega))
        exact ⟨by rw [← HV.out, pdR, HP.out]; rfl, hB.alloc (Nat.le_refl _) _⟩
    · by_cases h1 : 48 ≤ b9
      · by_cases h2 : b9 ≤ 57
        · go_wp2
          go_roundw
          case rel => exact .inr (.inr (.inr (.inr (.inr (.inr (.inr (.inr (.inr (.inr (⟨by first | rfl | trivial | assumption, by first | rfl | trivial | assumption, by first | rfl | trivial | assumption, by first | rfl | trivial | assumption, by first | rfl | trivial | assumption, by first | rfl | trivial | assumption, by first | rfl | trivial | assumption, by first | rfl | trivial | assumption, by first | rfl | trivial | assumption, by first | rfl | trivial | assumption, by first | rfl | trivial | assumption, by first | rfl | trivial | assumption, by first | rfl | trivial | assumption, by first | rfl | trivial | assumption, by first | rfl | trivial | assumption, by first | rfl | trivial | assumption, by first | rfl | trivial | assumption, by first | rfl | trivial | assumption⟩))))))))))
          case measure => simp [intOf]
        · go_wp2
          go_ret2
          have hb' := HB9.out
          have HP := Lib.hid (pd_syn HC.out (by cases e : pform s with | false => rfl | true => have := ((pform_iff s).1 e).2.2.2; unfold dok at this; simp only [Bool.and_eq_true] at this; have h9 := (isd_iff s 9).1 (by simp [this]); omega))
          exact ⟨by rw [← HV.out, pdR, HP.out]; rfl, hB.alloc (Nat.le_refl _) _⟩
      · go_wp2
        go_ret2
        have hb' := HB9.out
        have HP := Lib.hid (pd_syn HC.out (by cases e : pform s with | false => rfl | true => have := ((pform_iff s).1 e).2.2.2; unfold dok at this; simp only [Bool.and_eq_true] at this; have h9 := (isd_iff s 9).1 (by simp [this]); omega))
        exact ⟨by rw [← HV.out, pdR, HP.out]; rfl, hB.alloc (Nat.le_refl _) _⟩
    · have HO := Lib.hid (show pform s = true by
        have h4 : dgv s 4 = 45 := HB4.out
        have h7 : dgv s 7 = 45 := HB7.out
        have g0 := HB0.out; have g1 := HB1.out; have g2 := HB2.out; have g3 := HB3.out; have g5 := HB5.out; have g6 := HB6.out; have g8 := HB8.out; have g9 := HB9.out
        unfold pform dok isd; simp [*])
      have HY := Lib.hid (show pdy s = 1000 * (b0 - 48) + 100 * (b1 - 48) + 10 * (b2 - 48) + (b3 - 48) ∧ pdm s = 10 * (b5 - 48) + (b6 - 48) ∧ pdd s = 10 * (b8 - 48) + (b9 - 48) by
        have g0 := HB0.out; have g1 := HB1.out; have g2 := HB2.out; have g3 := HB3.out; have g5 := HB5.out; have g6 := HB6.out; have g8 := HB8.out; have g9 := HB9.out
        unfold pdy pdm pdd; simp only [*]; simp)
      by_cases cf : Cal.fdB (pdy s) (pdm s) (pdd s) = true
      · have HP := Lib.hid (pd_ok HC.out HO.out cf)
        go_wp2_with (first | (go_at_call 22; refine (ref_FromDate_eq _ _ _ (pdy s) (pdm s) (pdd s) _ (by have := HY.out.1; (try unfold wrap64); omega) (by have := HY.out.2.1; (try unfold wrap64); omega) (by have := HY.out.2.2; (try unfold wrap64); omega)).mono ?_; rintro e w1 ⟨rfl, hb2⟩))
        go_ret2
        exact ⟨by rw [← HV.out, pdR, HP.out]; rfl, (hB.alloc (Nat.le_refl _) _).trans (hb2.mono (by simp))⟩
      · have cf : Cal.fdB (pdy s) (pdm s) (pdd s) = false := by simpa using cf
        have HP := Lib.hid (pd_range HC.out HO.out cf)
        go_wp2_with (first | (go_at_call 22; refine (ref_FromDate_eq _ _ _ (pdy s) (pdm s) (pdd s) _ (by have := HY.out.1; (try unfold wrap64); omega) (by have := HY.out.2.1; (try unfold wrap64); omega) (by have := HY.out.2.2; (try unfold wrap64); omega)).mono ?_; rintro e w1 ⟨rfl, hb2⟩))
        go_ret2
        exact ⟨by rw [← HV.out, pdR, HP.out]; rfl, (hB.alloc (Nat.le_refl _) _).trans (hb2.mono (by simp))⟩

end Go.Proofs.Ytllbfbgkeajkeaa
