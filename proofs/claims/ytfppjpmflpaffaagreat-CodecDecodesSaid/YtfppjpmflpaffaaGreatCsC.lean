/-
  The reference's decoder: ints, lengths, strings.
-/
import Derived.Test.YtfppjpmflpaffaaGreatCsB
import Derived.IntWalk
namespace Go.Proofs.YtfppjpmflpaffaaGreat
open Go.RowKit
set_option linter.unusedVariables false
set_option linter.unusedSimpArgs false

set_option maxRecDepth 100000 in
theorem rget_int : RGetC 81 .num := by
  intro w rb B s h _
  have H := Lib.hid (rget_int64 w rb B s h trivial)
  clear h
  go_enter Tryz.func81, Tryz.ntmps81
  go_wp2_with fail
  refine H.out.mono ?_
  rintro e w1 ⟨cs, rfl, hr, hs, hc⟩
  have HR := Lib.hid (And.intro hr (And.intro hs hc))
  obtain ⟨rfl, hw⟩ := hr
  obtain ⟨z, hz⟩ : ∃ z, z = (dec .num s).1 := ⟨_, rfl⟩
  have e : goV [.int .i64 (dec .num s).1] = .int .i64 z := by rw [hz]; rfl
  rw [e]
  have E := Lib.hid e
  clear hs hc hw e hz
  go_wp2
  go_ret
  exact ⟨_, by rw [E.out]; rfl, HR.out⟩

set_option maxRecDepth 100000 in
set_option maxHeartbeats 2000000 in
theorem rcd_length {w : World} {rb : Nat} {B : List UInt8} {s : St} (h : RefR w rb B s) :
    Calls Tryz.prog 82 #[.pointer (some ⟨rb, 0, none⟩)] w fun e w' => e = .returned (.int .i64 ((dsize s).1 : Int)) ∧ RefR w' rb B (dsize s).2 ∧ Chg (fun b => b = rb) w w' := by
  have H := Lib.hid (rget_int64 w rb B s h trivial)
  clear h
  obtain ⟨D, hD⟩ : ∃ D, D = dsize s := ⟨_, rfl⟩
  rw [← hD]
  have HD := Lib.hid hD
  clear hD
  go_enter Tryz.func82, Tryz.ntmps82
  go_wp2_with fail
  refine H.out.mono ?_
  rintro e w1 ⟨cs, rfl, hr, hs, hc⟩
  obtain ⟨rfl, hw⟩ := hr
  replace hs : RefR w1 rb B (dnum s).2 := hs
  obtain ⟨z, t, hzt⟩ : ∃ z t, dnum s = (z, t) := ⟨_, _, rfl⟩
  have e : goV [.int .i64 (dec .num s).1] = .int .i64 z := by show Value.int .i64 (dnum s).1 = _; rw [hzt]
  rw [e]
  rw [hzt] at hs
  have HC := Lib.hid hc
  have HZ := Lib.hid hzt
  obtain ⟨i, err, hp, hst⟩ := hs.at_
  have c1 := hp.c1
  have c2 := hp.c2
  have HP := Lib.hid hp
  have HST := Lib.hid hst
  have HRR := Lib.hid hs
  clear hs hc hw e hzt
  cases t with
  | error a =>
    obtain ⟨he, ha⟩ := hst.2 a rfl
    have g0 : (err == 0) = false := by rw [he]; rcases ha with rfl | rfl <;> rfl
    have HDD := Lib.hid (show D = (0, .error a) from by rw [HD.out]; unfold dsize; rw [HZ.out])
    clear he ha hst hp
    go_wp2
    go_ret
    exact ⟨by rw [HDD.out]; rfl, by rw [HDD.out]; exact HRR.out, HC.out⟩
  | ok r =>
    obtain ⟨rfl, hrr⟩ := hst.1 r rfl
    obtain ⟨v, c0, hd, hlow⟩ := hp.c0
    obtain ⟨a, cp, rfl⟩ := hd.len
    obtain ⟨n, hn⟩ : ∃ n, n = B.length := ⟨_, rfl⟩
    rw [← hn] at c0
    have hil : i ≤ n := by rw [hn]; exact hp.le
    obtain ⟨m, hm⟩ : ∃ m, m = n - i := ⟨_, rfl⟩
    have HRL := Lib.hid (show r.length = m from by rw [hrr, List.length_drop, hm, hn])
    have hn0 : (n : Int) ≤ 1073741824 := by have := hp.max; omega
    have ew : IntKind.i64.wrap ((n : Int) - (i : Int)) = (m : Int) := by rw [IntWalk.i64_in _ (by omega)]; omega
    have hm0 : 0 ≤ (m : Int) := by omega
    clear hd hlow hn hst hp hrr hil hm
    by_cases hneg : z < 0
    · have g1 : decide (z < 0) = true := decide_eq_true hneg
      have HDD := Lib.hid (show D = (0, .error 5) from by rw [HD.out]; unfold dsize; rw [HZ.out]; simp only; rw [if_pos hneg])
      go_wp2_with fail
      refine (rcd_fail HP.out 5).mono ?_
      rintro e w2 ⟨rfl, hr, hc⟩
      rw [if_pos rfl] at hr
      have HR := Lib.hid (And.intro hr hc)
      clear hr hc
      go_wp2
      go_ret
      exact ⟨by rw [HDD.out]; rfl, by rw [HDD.out]; exact ⟨⟨i, 5, HR.out.1, fun r e => (by cases e), fun e he => by cases he; exact ⟨rfl, .inr rfl⟩⟩⟩, HC.out.trans HR.out.2⟩
    · have g1 : decide (z < 0) = false := decide_eq_false hneg
      obtain ⟨k, rfl⟩ : ∃ k : Nat, z = (k : Int) := ⟨z.toNat, by omega⟩
      by_cases hbig : m < k
      · have g2 : decide ((m : Int) < (k : Int)) = true := decide_eq_true (by omega)
        have HDD := Lib.hid (show D = (0, .error 2) from by rw [HD.out]; unfold dsize; rw [HZ.out]; simp only; rw [if_neg hneg, if_pos (by have := HRL.out; omega)])
        have g3 : (m : Int) < (k : Int) := by omega
        clear hneg hbig
        go_wp2
        go_quiet (fail)
        generalize nq = m1
        go_wp2_with fail
        refine (rcd_fail (HP.out.drewN m1) 2).mono ?_
        rintro e w2 ⟨rfl, hr, hc⟩
        rw [if_pos rfl] at hr
        have HR := Lib.hid (And.intro hr hc)
        clear hr hc
        go_wp2
        go_ret
        exact ⟨by rw [HDD.out]; rfl, by rw [HDD.out]; exact ⟨⟨i, 2, HR.out.1, fun r e => (by cases e), fun e he => by cases he; exact ⟨rfl, .inl rfl⟩⟩⟩, (HC.out.drewN m1).trans HR.out.2⟩
      · have g2 : decide ((m : Int) < (k : Int)) = false := decide_eq_false (by omega)
        have g3 : ¬ (m : Int) < (k : Int) := by omega
        have HDD := Lib.hid (show D = (k, .ok r) from by rw [HD.out]; unfold dsize; rw [HZ.out]; simp only; rw [if_neg hneg, if_neg (by have := HRL.out; omega), Int.toNat_natCast])
        clear hneg hbig
        go_wp2
        go_quiet (fail)
        generalize nq = m1
        go_wp2
        go_ret
        exact ⟨by rw [HDD.out]; rfl, by rw [HDD.out]; exact ⟨⟨i, 0, HP.out.drewN m1, HST.out⟩⟩, HC.out.drewN m1⟩
end Go.Proofs.YtfppjpmflpaffaaGreat
