/-
  The reference's decoder: end.
-/
import Derived.Test.YtfppjpmflpaffaaGreatCsE
namespace Go.Proofs.YtfppjpmflpaffaaGreat
open Go.RowKit
set_option linter.unusedVariables false
set_option linter.unusedSimpArgs false

set_option maxRecDepth 100000 in
set_option maxHeartbeats 2000000 in
theorem rcd_end {w : World} {rb : Nat} {B : List UInt8} {s : St} (h : RefR w rb B s) :
    Calls Tryz.prog 86 #[.pointer (some ⟨rb, 0, none⟩)] w fun e w' => e = .returned (.tuple #[]) ∧ (∃ i, RefP w' rb B i (endE s)) ∧ Chg (fun b => b = rb) w w' := by
  obtain ⟨i, err, hp, hst⟩ := h.at_
  obtain ⟨v, c0, hd, hlow⟩ := hp.c0
  obtain ⟨a, cp, rfl⟩ := hd.len
  obtain ⟨n, hn⟩ : ∃ n, n = B.length := ⟨_, rfl⟩
  rw [← hn] at c0
  have hil : i ≤ n := by rw [hn]; exact hp.le
  have hn0 : (n : Int) ≤ 1073741824 := by have := hp.max; omega
  have c1 := hp.c1
  have HP := Lib.hid hp
  have HEE := Lib.hid (show (i = n → endE s = err) ∧ (i < n → endE s = if err = 0 then 3 else err) from by
    cases s with
    | error e =>
      obtain ⟨rfl, he⟩ := hst.2 e rfl
      refine ⟨fun _ => rfl, fun _ => ?_⟩
      rw [if_neg (by rcases he with rfl | rfl <;> decide)]
      rfl
    | ok r =>
      obtain ⟨rfl, hr⟩ := hst.1 r rfl
      refine ⟨fun e => ?_, fun e => ?_⟩
      · rw [hn] at e; rw [hr, e, List.drop_length]; rfl
      · rw [if_pos rfl]
        cases r with
        | nil => rw [hn] at e; have := congrArg List.length hr; rw [List.length_drop] at this; simp at this; omega
        | cons x r => rfl)
  clear hd hlow hn hp hst h
  go_enter Tryz.func86, Tryz.ntmps86
  by_cases hin : i < n
  · have g2 : decide ((i : Int) < (n : Int)) = true := decide_eq_true (by omega)
    have g3 : (i : Int) < (n : Int) := by omega
    have HE := Lib.hid (HEE.out.2 hin)
    clear hin hil
    go_wp2
    go_quiet (fail)
    generalize nq = m1
    go_wp2_with fail
    refine (rcd_fail (HP.out.drewN m1) 3).mono ?_
    rintro e w2 ⟨rfl, hr, hc⟩
    rw [← HE.out] at hr
    have HR := Lib.hid (And.intro hr hc)
    clear hr hc
    go_wp2
    all_goals (first | go_end0 | refine bodyPost_ret (results_none rfl _ _ _) rfl ?_)
    exact ⟨rfl, ⟨i, HR.out.1⟩, ((Chg.refl _ _).drewN m1).trans HR.out.2⟩
  · have g2 : decide ((i : Int) < (n : Int)) = false := decide_eq_false (by omega)
    have g3 : ¬ (i : Int) < (n : Int) := by omega
    have HE := Lib.hid (HEE.out.1 (by omega))
    clear hin hil
    go_wp2
    go_quiet (fail)
    generalize nq = m1
    go_wp2
    all_goals (first | go_end0 | refine bodyPost_ret (results_none rfl _ _ _) rfl ?_)
    exact ⟨rfl, ⟨i, by rw [HE.out]; exact HP.out.drewN m1⟩, (Chg.refl _ _).drewN m1⟩
end Go.Proofs.YtfppjpmflpaffaaGreat
