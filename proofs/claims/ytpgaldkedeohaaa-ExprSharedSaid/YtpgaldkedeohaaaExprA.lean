/-
  Package expr, the small functions: arity, legal, accepts, operands, boolean, isTrue.
-/
import Derived.Test.YtpgaldkedeohaaaBase
import Derived.Test.YtpgaldkedeohaaaExpC
namespace Go.Proofs.Ytpgaldkedeohaaa
open Go.RowKit

/-- The operators, one by one. -/
theorem op_cases (op : Int) : op = 1 ∨ op = 2 ∨ op = 3 ∨ op = 4 ∨ op = 5 ∨ op = 6 ∨ op = 7 ∨ op = 8 ∨ op = 9 ∨ op = 10 ∨ op = 11 ∨ op < 1 ∨ 11 < op := by omega

theorem arity_low {op : Int} (h : op < 1) : Xp.arity op = -1 := by
  unfold Xp.arity; rw [if_neg (by omega), if_neg (by omega), if_neg (by omega)]
theorem arity_high {op : Int} (h : 11 < op) : Xp.arity op = -1 := by
  unfold Xp.arity; rw [if_neg (by omega), if_neg (by omega), if_neg (by omega)]

set_option maxRecDepth 100000 in
theorem expr_arity (op : Int) (w : World) : Calls Try.prog 35 #[.int .i64 op] w fun e w' => e = .returned (.int .i64 (Xp.arity op)) ∧ w = w' := by
  rcases op_cases op with rfl | rfl | rfl | rfl | rfl | rfl | rfl | rfl | rfl | rfl | rfl | h | h
  all_goals try (
    go_enter Try.func35, Try.ntmps35
    go_wp2
    go_ret
    exact ⟨rfl, rfl⟩)
  all_goals
    have e : Xp.arity op = -1 := by first | exact arity_low h | exact arity_high h
    have E := Lib.hid e
    clear e
    go_enter Try.func35, Try.ntmps35
    go_wp2
    go_ret
    exact ⟨by rw [E.out]; rfl, rfl⟩

set_option maxRecDepth 100000 in
theorem ref_operands (op : Int) (w : World) : Calls Try.prog 29 #[.int .i64 op] w fun e w' => e = .returned (.int .i64 (Xp.arity op)) ∧ w = w' := by
  rcases op_cases op with rfl | rfl | rfl | rfl | rfl | rfl | rfl | rfl | rfl | rfl | rfl | h | h
  all_goals try (
    go_enter Try.func29, Try.ntmps29
    go_wp2
    go_ret
    exact ⟨rfl, rfl⟩)
  all_goals
    have e : Xp.arity op = -1 := by first | exact arity_low h | exact arity_high h
    have E := Lib.hid e
    clear e
    go_enter Try.func29, Try.ntmps29
    go_wp2
    go_ret
    exact ⟨by rw [E.out]; rfl, rfl⟩

set_option maxRecDepth 100000 in
theorem expr_legal (i : Nat) (o : Int) (w : World) : Calls Try.prog 24 #[.int .i64 i, .int .i64 o] w fun e w' => e = .returned (.bool (Xp.lgl i o)) ∧ w = w' := by
  by_cases h1 : 0 ≤ o <;> by_cases h2 : o < i
  all_goals
    have e : Xp.lgl i o = (decide (0 ≤ o) && decide (o < i)) := rfl
    simp only [h1, h2, decide_true, decide_false, Bool.and_true, Bool.and_false] at e
    have E := Lib.hid e
    clear e
    go_enter Try.func24, Try.ntmps24
    go_wp2
    go_ret
    exact ⟨by rw [E.out]; first | rfl | (apply ret_bool; simp; omega), rfl⟩

theorem acc_iff (k r : Int) : Xp.acc k r = true ↔ k = 0 ∨ k = r := by unfold Xp.acc; simp
theorem acc_yes {k r : Int} (h : k = 0 ∨ k = r) : Xp.acc k r = true := (acc_iff k r).2 h
theorem acc_no {k r : Int} (h1 : ¬ k = 0) (h2 : ¬ k = r) : Xp.acc k r = false := by
  cases e : Xp.acc k r with
  | false => rfl
  | true => rcases (acc_iff k r).1 e with h | h <;> contradiction

set_option maxRecDepth 100000 in
theorem expr_accepts (k r : Int) (w : World) : Calls Try.prog 64 #[.int .i64 k, .int .i64 r] w fun e w' => e = .returned (.bool (Xp.acc k r)) ∧ w = w' := by
  generalize hv : Xp.acc k r = v
  have HV := Lib.hid hv
  clear hv
  by_cases h1 : k = 0
  · have E := Lib.hid (HV.out.symm.trans (acc_yes (.inl h1)))
    subst h1
    go_enter Try.func64, Try.ntmps64
    go_wp2
    go_ret
    exact ⟨ret_bool E.out.symm, rfl⟩
  · by_cases h2 : k = r
    · have E := Lib.hid (HV.out.symm.trans (acc_yes (.inr h2)))
      subst h2
      go_enter Try.func64, Try.ntmps64
      go_wp2
      go_ret
      exact ⟨ret_bool E.out.symm, rfl⟩
    · have E := Lib.hid (HV.out.symm.trans (acc_no h1 h2))
      go_enter Try.func64, Try.ntmps64
      go_wp2
      go_ret
      exact ⟨by rw [E.out]; first | rfl | (apply ret_bool; simp [h1, h2]; done), rfl⟩

set_option maxRecDepth 100000 in
theorem ref_fits (k r : Int) (w : World) : Calls Try.prog 34 #[.int .i64 k, .int .i64 r] w fun e w' => e = .returned (.bool (Xp.acc k r)) ∧ w = w' := by
  generalize hv : Xp.acc k r = v
  have HV := Lib.hid hv
  clear hv
  by_cases h2 : k = r
  · have E := Lib.hid (HV.out.symm.trans (acc_yes (.inr h2)))
    subst h2
    go_enter Try.func34, Try.ntmps34
    go_wp2
    go_ret
    exact ⟨ret_bool E.out.symm, rfl⟩
  · by_cases h1 : k = 0
    · have E := Lib.hid (HV.out.symm.trans (acc_yes (.inl h1)))
      subst h1
      go_enter Try.func34, Try.ntmps34
      go_wp2
      go_ret
      exact ⟨by rw [E.out]; first | rfl | (apply ret_bool; simp; done), rfl⟩
    · have E := Lib.hid (HV.out.symm.trans (acc_no h1 h2))
      go_enter Try.func34, Try.ntmps34
      go_wp2
      go_ret
      exact ⟨by rw [E.out]; first | rfl | (apply ret_bool; simp [h1, h2]; done), rfl⟩

/-- A value in Go. -/
def Vl.go (v : Vl) : Value := .agg #[.int .i64 v.k, .int .i64 v.n, .string v.s]

set_option maxRecDepth 100000 in
theorem expr_isTrue (v : Vl) (w : World) : Calls Try.prog 39 #[v.go] w fun e w' => e = .returned (.bool (Xp.isT v)) ∧ Below w.heap.size w w' := by
  obtain ⟨k, n, s⟩ := v
  generalize hv : Xp.isT ⟨k, n, s⟩ = b
  have HV := Lib.hid (hv.symm.trans (show Xp.isT ⟨k, n, s⟩ = (decide (k = 3) && decide (n = 1)) from rfl))
  clear hv
  unfold Vl.go
  by_cases h1 : k = 3 <;> by_cases h2 : n = 1
  all_goals
    go_enter Try.func39, Try.ntmps39
    go_wp2
    go_ret
    exact ⟨by rw [HV.out]; apply ret_bool; simp [h1, h2], below_alloc (Below.refl _ _) _⟩

set_option maxRecDepth 100000 in
theorem ref_True (v : Vl) (w : World) : Calls Try.prog 42 #[v.go] w fun e w' => e = .returned (.bool (Xp.isT v)) ∧ Below w.heap.size w w' := by
  obtain ⟨k, n, s⟩ := v
  generalize hv : Xp.isT ⟨k, n, s⟩ = b
  have HV := Lib.hid (hv.symm.trans (show Xp.isT ⟨k, n, s⟩ = (decide (k = 3) && decide (n = 1)) from rfl))
  clear hv
  unfold Vl.go
  by_cases h1 : k = 3 <;> by_cases h2 : n = 1
  all_goals
    go_enter Try.func42, Try.ntmps42
    go_wp2
    go_ret
    exact ⟨by rw [HV.out]; apply ret_bool; simp [h1, h2], below_alloc (Below.refl _ _) _⟩

set_option maxRecDepth 100000 in
theorem expr_boolean (b : Bool) (w : World) : Calls Try.prog 37 #[.bool b] w fun e w' => e = .returned (Xp.bool b).go ∧ Below w.heap.size w w' := by
  cases b
  · go_enter Try.func37, Try.ntmps37
    go_wp2
    refine bodyPost_ret (v := .agg #[.int .i64 3, .int .i64 0, .string ⟨#[]⟩]) (by simp [results, Try.results37, go_sem]) rfl ⟨rfl, ?_⟩
    first | exact below_alloc (below_alloc (Below.refl _ _) _) _ | exact below_alloc (Below.refl _ _) _
  · go_enter Try.func37, Try.ntmps37
    go_wp2
    refine bodyPost_ret (v := .agg #[.int .i64 3, .int .i64 1, .string ⟨#[]⟩]) (by simp [results, Try.results37, go_sem]) rfl ⟨rfl, ?_⟩
    first | exact below_alloc (below_alloc (Below.refl _ _) _) _ | exact below_alloc (Below.refl _ _) _

set_option maxRecDepth 100000 in
theorem ref_boolean (b : Bool) (w : World) : Calls Try.prog 40 #[.bool b] w fun e w' => e = .returned (Xp.bool b).go ∧ Below w.heap.size w w' := by
  cases b
  · go_enter Try.func40, Try.ntmps40
    go_wp2
    refine bodyPost_ret (v := .agg #[.int .i64 3, .int .i64 0, .string ⟨#[]⟩]) (by simp [results, Try.results40, go_sem]) rfl ⟨rfl, ?_⟩
    first | exact below_alloc (below_alloc (Below.refl _ _) _) _ | exact below_alloc (Below.refl _ _) _
  · go_enter Try.func40, Try.ntmps40
    go_wp2
    refine bodyPost_ret (v := .agg #[.int .i64 3, .int .i64 1, .string ⟨#[]⟩]) (by simp [results, Try.results40, go_sem]) rfl ⟨rfl, ?_⟩
    first | exact below_alloc (below_alloc (Below.refl _ _) _) _ | exact below_alloc (Below.refl _ _) _

theorem vv_valid_cases (v : Vl) : Xp.vv v = (if v.k = 0 then decide (v.n = 0) && decide (v.s.size = 0) else if v.k = 1 then decide (v.s.size = 0)
  else if v.k = 2 then decide (v.n = 0) && decide (v.s.size ≤ 200) else if v.k = 3 then (decide (v.n = 0) || decide (v.n = 1)) && decide (v.s.size = 0) else false) := rfl

theorem empty_iff (s : ByteArray) : (s.toList = []) ↔ s.size = 0 := by
  rw [ByteArray.toList_eq]
  obtain ⟨⟨l⟩⟩ := s
  show l = [] ↔ l.length = 0
  exact List.length_eq_zero_iff.symm

end Go.Proofs.Ytpgaldkedeohaaa
