/-
  The walks of ExprCheck, ExprEval, ExprColumns.
-/
import Derived.Test.YtpgaldkedeohaaaLwB
namespace Go.Proofs.Ytpgaldkedeohaaa
open Go.RowKit
set_option linter.unusedVariables false

theorem few_no {n : Nat} {m : Int} (h : (decide (n ≤ 220) && decide (m ≤ 60)) = true) : n ≤ 220 ∧ m ≤ 60 := by simpa using h

set_option maxRecDepth 100000 in
set_option maxHeartbeats 4000000 in
theorem check_walk (v cv : Value) (root : Int) (L : List Ex) (cols : List Int) (w : World) (hL : ExsAt w w.heap.size v L) (hc : IntsAt w w.heap.size cv cols) :
    Calls Try.prog 3 #[v, .int .i64 root, cv] w (Holds w) := by
  have HC := Lib.hid hc
  have hV := hL.v
  have HV := Lib.hid hV
  obtain ⟨a, n, c, rfl, hn, _⟩ := hV
  obtain ⟨qa, qn, qc, rfl, hqn, _⟩ := hc.view
  have HN := Lib.hid hn
  have hq0 : (0 : Int) ≤ (qn : Int) := by omega
  clear hL hc hn hqn
  have hB0 : Below w.heap.size w w := Below.refl _ _
  cases hf : (decide (n ≤ 220) && decide ((qn : Int) ≤ 60)) with
  | false =>
    have HF := Lib.hid hf
    clear hf
    go_enter Try.func3, Try.ntmps3
    go_wp2_with fail
    refine (few_call a n c qn false _ hq0 HF.out).mono ?_
    rintro e1 w1 ⟨rfl, rfl⟩
    go_wp2_with fail
    refine (awake_call _).mono ?_
    rintro e1 w1 ⟨rfl, hb1⟩
    go_wp2
    go_ret
    exact ⟨rfl, hb1⟩
  | true =>
    have HF := Lib.hid hf
    clear hf
    obtain ⟨k, e, hke⟩ : ∃ k e, chkX L root cols = (k, e) := ⟨_, _, rfl⟩
    have HK := Lib.hid hke
    clear hke
    go_enter Try.func3, Try.ntmps3
    go_wp2_with fail
    refine (few_call a n c qn true _ hq0 HF.out).mono ?_
    rintro e1 w1 ⟨rfl, rfl⟩
    go_wp2_with fail
    refine (check_any HV.out HC.out HK.out).mono ?_
    rintro e1 w1 ⟨rfl, hb1⟩
    have HV1 := Lib.hid (HV.out.keep hb1)
    have HC1 := Lib.hid (show IntsAt w1 w1.heap.size _ cols from (rSlice (rInt .i64)).more (fun b hb => Nat.lt_of_lt_of_le hb hb1.size) (rd_below HC.out hb1))
    have hB1 := below_chain hB0 hb1
    clear hb1
    go_wp2_with fail
    refine (rcheck_any HV1.out HC1.out HK.out).mono ?_
    rintro e1 w2 ⟨rfl, hb2⟩
    have hB2 := below_chain hB1 hb2
    clear hb2
    go_wp2_with fail
    refine (awake_call _).mono ?_
    rintro e1 w3 ⟨rfl, hb3⟩
    have hB3 := below_chain hB2 hb3
    clear hb3
    go_wp2
    go_ret
    exact ⟨rfl, hB3⟩

set_option maxRecDepth 100000 in
set_option maxHeartbeats 4000000 in
theorem eval_walk (v rv : Value) (root : Int) (L : List Ex) (row : List Vl) (w : World) (hL : ExsAt w w.heap.size v L) (hc : RowAt w w.heap.size rv row) :
    Calls Try.prog 4 #[v, .int .i64 root, rv] w (Holds w) := by
  have HC := Lib.hid hc
  have hV := hL.v
  have HV := Lib.hid hV
  obtain ⟨a, n, c, rfl, hn, _⟩ := hV
  obtain ⟨qa, qn, qc, rfl, hqn, _⟩ := hc.view
  have HN := Lib.hid hn
  have hq0 : (0 : Int) ≤ (qn : Int) := by omega
  clear hL hc hn hqn
  have hB0 : Below w.heap.size w w := Below.refl _ _
  cases hf : (decide (n ≤ 220) && decide ((qn : Int) ≤ 60)) with
  | false =>
    have HF := Lib.hid hf
    clear hf
    go_enter Try.func4, Try.ntmps4
    go_wp2_with fail
    refine (few_call a n c qn false _ hq0 HF.out).mono ?_
    rintro e1 w1 ⟨rfl, rfl⟩
    go_wp2_with fail
    refine (awake_call _).mono ?_
    rintro e1 w1 ⟨rfl, hb1⟩
    go_wp2
    go_ret
    exact ⟨rfl, hb1⟩
  | true =>
    have HF := Lib.hid hf
    have HS := Lib.hid (show L.length ≤ 100000 by have := (few_no hf).1; have := HN.out; omega)
    clear hf
    obtain ⟨k, m, s, hke⟩ : ∃ k m s, evX L root row = ⟨k, m, s⟩ := ⟨_, _, _, rfl⟩
    have HK := Lib.hid hke
    clear hke
    go_enter Try.func4, Try.ntmps4
    go_wp2_with fail
    refine (few_call a n c qn true _ hq0 HF.out).mono ?_
    rintro e1 w1 ⟨rfl, rfl⟩
    go_wp2_with fail
    refine (awake_call _).mono ?_
    rintro e1 w1 ⟨rfl, hb1⟩
    have HV1 := Lib.hid (HV.out.keep hb1)
    have HC1 := Lib.hid (show RowAt w1 w1.heap.size _ row from (rSlice rVal).more (fun b hb => Nat.lt_of_lt_of_le hb hb1.size) (rd_below HC.out hb1))
    have hB1 := below_chain hB0 hb1
    clear hb1
    go_wp2_with fail
    refine (eval_any HV1.out HS.out HC1.out HK.out).mono ?_
    rintro e1 w2 ⟨rfl, hb2⟩
    have HV2 := Lib.hid (HV1.out.keep hb2)
    have HC2 := Lib.hid (show RowAt w2 w2.heap.size _ row from (rSlice rVal).more (fun b hb => Nat.lt_of_lt_of_le hb hb2.size) (rd_below HC1.out hb2))
    have hB2 := below_chain hB1 hb2
    clear hb2
    go_wp2_with fail
    refine (reval_any HV2.out HS.out HC2.out HK.out).mono ?_
    rintro e1 w3 ⟨rfl, hb3⟩
    have hB3 := below_chain hB2 hb3
    clear hb3
    go_wp2
    go_ret
    exact ⟨rfl, hB3⟩

theorem same_call (a b : Value) (l : List Int) (w : World) (ha : Sl w 1 a l.length (l.map (Value.int .i64))) (hb : Sl w 1 b l.length (l.map (Value.int .i64))) (hl : l.length ≤ 1000000) :
    Calls Try.prog 17 #[a, b] w fun e w' => e = .returned (.bool true) ∧ Below w.heap.size w w' :=
  (ref_SameInts a b l l w ha hb hl).mono fun e w' ⟨h1, h2⟩ => ⟨by rw [h1]; simp, h2⟩

set_option maxRecDepth 100000 in
set_option maxHeartbeats 4000000 in
theorem columns_walk (v : Value) (root : Int) (L : List Ex) (w : World) (hL : ExsAt w w.heap.size v L) :
    Calls Try.prog 5 #[v, .int .i64 root] w (Holds w) := by
  have hV := hL.v
  have HV := Lib.hid hV
  obtain ⟨a, n, c, rfl, hn, _⟩ := hV
  have HN := Lib.hid hn
  clear hL hn
  have hB0 : Below w.heap.size w w := Below.refl _ _
  cases hf : (decide (n ≤ 220) && decide ((0 : Int) ≤ 60)) with
  | false =>
    have HF := Lib.hid hf
    clear hf
    go_enter Try.func5, Try.ntmps5
    go_wp2_with fail
    refine (few_call a n c 0 false _ (Int.le_refl _) HF.out).mono ?_
    rintro e1 w1 ⟨rfl, rfl⟩
    go_wp2_with fail
    refine (awake_call _).mono ?_
    rintro e1 w1 ⟨rfl, hb1⟩
    go_wp2
    go_ret
    exact ⟨rfl, hb1⟩
  | true =>
    have HF := Lib.hid hf
    have HS := Lib.hid (show L.length ≤ 100000 by have := (few_no hf).1; have := HN.out; omega)
    clear hf
    go_enter Try.func5, Try.ntmps5
    go_wp2_with fail
    refine (few_call a n c 0 true _ (Int.le_refl _) HF.out).mono ?_
    rintro e1 w1 ⟨rfl, rfl⟩
    go_wp2_with fail
    refine (awake_call _).mono ?_
    rintro e1 w1 ⟨rfl, hb1⟩
    have HV1 := Lib.hid (HV.out.keep hb1)
    have hB1 := below_chain hB0 hb1
    clear hb1
    go_wp2_with fail
    refine (columns_any (root := root) HV1.out HS.out).mono ?_
    rintro e1 w2 ⟨v2, rfl, hs2, hb2⟩
    have HV2 := Lib.hid (HV1.out.keep hb2)
    have HS2 := Lib.hid hs2
    have hB2 := below_chain hB1 hb2
    clear hb2 hs2
    go_wp2_with fail
    refine (rcolumns_any (root := root) HV2.out HS.out).mono ?_
    rintro e1 w3 ⟨v3, rfl, hs3, hb3⟩
    have HS3 := Lib.hid hs3
    have HS2' := Lib.hid (HS2.out.keep hb3)
    have hB3 := below_chain hB2 hb3
    clear hb3 hs3
    go_wp2_with fail
    refine (same_call v2 v3 (colX L root) _ HS2'.out HS3.out (Nat.le_trans (colX_len L root HS.out) (by decide))).mono ?_
    rintro e1 w4 ⟨rfl, hb4⟩
    have hB4 := below_chain hB3 hb4
    clear hb4
    go_wp2
    go_ret
    exact ⟨rfl, hB4⟩

end Go.Proofs.Ytpgaldkedeohaaa
