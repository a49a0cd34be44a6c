/-
  apply of package expr, the others.
-/
import Derived.Test.YtpgaldkedeohaaaExprJ
namespace Go.Proofs.Ytpgaldkedeohaaa
open Go.RowKit
set_option linter.unusedVariables false


set_option maxRecDepth 100000 in
set_option maxHeartbeats 2000000 in
theorem apply_const (a b col k n : Int) (s : ByteArray) (av : Value) (rv : Value) (w : World) :
    Calls Try.prog 25 #[.agg #[.int .i64 1, .int .i64 a, .int .i64 b, .int .i64 col, .int .i64 k, .int .i64 n, .string s], av, rv] w fun e w' => e = .returned (.agg #[.int .i64 k, .int .i64 n, .string s]) ∧ Below w.heap.size w w' := by
  have hB0 : Below w.heap.size w w := Below.refl _ _
  go_enter Try.func25, Try.ntmps25
  go_wp2_with fail
  refine bodyPost_ret (v := .agg #[.int .i64 k, .int .i64 n, .string s]) (by simp [results, Try.results25, go_sem]) rfl ⟨rfl, ?_⟩
  exact below_alloc (below_alloc (Below.refl _ _) _) _


set_option maxRecDepth 100000 in
set_option maxHeartbeats 2000000 in
theorem apply_low (op : Int) (a b col k n : Int) (s : ByteArray) (av : Value) (rv : Value) (w : World) (hop : op < 1) :
    Calls Try.prog 25 #[.agg #[.int .i64 op, .int .i64 a, .int .i64 b, .int .i64 col, .int .i64 k, .int .i64 n, .string s], av, rv] w fun e w' => e = .returned (.agg #[.int .i64 0, .int .i64 0, .string ⟨#[]⟩]) ∧ Below w.heap.size w w' := by
  have hB0 : Below w.heap.size w w := Below.refl _ _
  go_enter Try.func25, Try.ntmps25
  go_wp2_with fail
  refine bodyPost_ret (v := .agg #[.int .i64 0, .int .i64 0, .string ⟨#[]⟩]) (by simp [results, Try.results25, go_sem]) rfl ⟨rfl, ?_⟩
  exact below_alloc (below_alloc (Below.refl _ _) _) _


set_option maxRecDepth 100000 in
set_option maxHeartbeats 2000000 in
theorem apply_high (op : Int) (a b col k n : Int) (s : ByteArray) (av : Value) (rv : Value) (w : World) (hop : 11 < op) :
    Calls Try.prog 25 #[.agg #[.int .i64 op, .int .i64 a, .int .i64 b, .int .i64 col, .int .i64 k, .int .i64 n, .string s], av, rv] w fun e w' => e = .returned (.agg #[.int .i64 0, .int .i64 0, .string ⟨#[]⟩]) ∧ Below w.heap.size w w' := by
  have hB0 : Below w.heap.size w w := Below.refl _ _
  go_enter Try.func25, Try.ntmps25
  go_wp2_with fail
  refine bodyPost_ret (v := .agg #[.int .i64 0, .int .i64 0, .string ⟨#[]⟩]) (by simp [results, Try.results25, go_sem]) rfl ⟨rfl, ?_⟩
  exact below_alloc (below_alloc (Below.refl _ _) _) _


set_option maxRecDepth 100000 in
set_option maxHeartbeats 2000000 in
theorem apply_col_neg (a b col k n : Int) (s : ByteArray) (av : Value) (ra : Option Addr) (rn rc : Nat) (w : World) (hcol : col < 0) :
    Calls Try.prog 25 #[.agg #[.int .i64 2, .int .i64 a, .int .i64 b, .int .i64 col, .int .i64 k, .int .i64 n, .string s], av, .slice ra rn rc] w fun e w' => e = .returned (.agg #[.int .i64 0, .int .i64 0, .string ⟨#[]⟩]) ∧ Below w.heap.size w w' := by
  have hB0 : Below w.heap.size w w := Below.refl _ _
  go_enter Try.func25, Try.ntmps25
  go_wp2_with fail
  refine bodyPost_ret (v := .agg #[.int .i64 0, .int .i64 0, .string ⟨#[]⟩]) (by simp [results, Try.results25, go_sem]) rfl ⟨rfl, ?_⟩
  exact below_alloc (below_alloc (Below.refl _ _) _) _


set_option maxRecDepth 100000 in
set_option maxHeartbeats 2000000 in
theorem apply_col_big (a b col k n : Int) (s : ByteArray) (av : Value) (ra : Option Addr) (rn rc : Nat) (w : World) (hcol : (rn : Int) ≤ col ∧ 0 ≤ col) :
    Calls Try.prog 25 #[.agg #[.int .i64 2, .int .i64 a, .int .i64 b, .int .i64 col, .int .i64 k, .int .i64 n, .string s], av, .slice ra rn rc] w fun e w' => e = .returned (.agg #[.int .i64 0, .int .i64 0, .string ⟨#[]⟩]) ∧ Below w.heap.size w w' := by
  obtain ⟨hh1, hh2⟩ := hcol
  have hB0 : Below w.heap.size w w := Below.refl _ _
  go_enter Try.func25, Try.ntmps25
  go_wp2_with fail
  refine bodyPost_ret (v := .agg #[.int .i64 0, .int .i64 0, .string ⟨#[]⟩]) (by simp [results, Try.results25, go_sem]) rfl ⟨rfl, ?_⟩
  exact below_alloc (below_alloc (Below.refl _ _) _) _


set_option maxRecDepth 100000 in
set_option maxHeartbeats 2000000 in
theorem apply_col (a b k n : Int) (s : ByteArray) (av : Value) (k1 n1 : Int) (s1 : ByteArray) (j : Nat) (rb ro rn rc : Nat) (w : World) (hj : j < rn) (hrb : rb < w.heap.size) (d0 : w.cell? ⟨rb, ro + j * 3, none⟩ = some (.int .i64 k1)) (d1 : w.cell? ⟨rb, ro + j * 3 + 1, none⟩ = some (.int .i64 n1)) (d2 : w.cell? ⟨rb, ro + j * 3 + 2, none⟩ = some (.string s1)) :
    Calls Try.prog 25 #[.agg #[.int .i64 2, .int .i64 a, .int .i64 b, .int .i64 (j : Int), .int .i64 k, .int .i64 n, .string s], av, .slice (some ⟨rb, ro, none⟩) rn rc] w fun e w' => e = .returned (.agg #[.int .i64 k1, .int .i64 n1, .string s1]) ∧ Below w.heap.size w w' := by
  have hj0 : (0 : Int) ≤ (j : Int) := by omega
  have hj1 : (j : Int) < (rn : Int) := by omega
  have hj2 : ¬ rn ≤ j := by omega
  have hj3 : decide (rn ≤ j) = false := decide_eq_false hj2
  have hB0 : Below w.heap.size w w := Below.refl _ _
  go_enter Try.func25, Try.ntmps25
  go_wp2_with fail
  refine bodyPost_ret (v := .agg #[.int .i64 k1, .int .i64 n1, .string s1]) (by simp [results, Try.results25, go_sem]) rfl ⟨rfl, ?_⟩
  exact below_alloc (below_alloc (Below.refl _ _) _) _


set_option maxRecDepth 100000 in
set_option maxHeartbeats 2000000 in
theorem apply_and (a b col k n : Int) (s : ByteArray) (k1 n1 : Int) (s1 : ByteArray) (k2 n2 : Int) (s2 : ByteArray) (g gc : Nat) (rv : Value) (w : World) (hg : g < w.heap.size) (c0 : w.cell? ⟨g, 0, none⟩ = some (.int .i64 k1)) (c1 : w.cell? ⟨g, 1, none⟩ = some (.int .i64 n1)) (c2 : w.cell? ⟨g, 2, none⟩ = some (.string s1)) (c3 : w.cell? ⟨g, 3, none⟩ = some (.int .i64 k2)) (c4 : w.cell? ⟨g, 4, none⟩ = some (.int .i64 n2)) (c5 : w.cell? ⟨g, 5, none⟩ = some (.string s2)) :
    Calls Try.prog 25 #[.agg #[.int .i64 8, .int .i64 a, .int .i64 b, .int .i64 col, .int .i64 k, .int .i64 n, .string s], .slice (some ⟨g, 0, none⟩) 2 gc, rv] w fun e w' => e = .returned ((Xp.bool (Xp.isT ⟨k1, n1, s1⟩ && Xp.isT ⟨k2, n2, s2⟩)).go) ∧ Below w.heap.size w w' := by
  generalize hV : (Xp.bool (Xp.isT ⟨k1, n1, s1⟩ && Xp.isT ⟨k2, n2, s2⟩)).go = V
  have HV := Lib.hid hV
  clear hV
  cases h1 : Xp.isT ⟨k1, n1, s1⟩ with
  | true =>
    have H1 := Lib.hid h1
    cases h2 : Xp.isT ⟨k2, n2, s2⟩ with
    | true =>
      have H2 := Lib.hid h2
      have HW := Lib.hid (HV.out.symm.trans (show (Xp.bool (Xp.isT ⟨k1, n1, s1⟩ && Xp.isT ⟨k2, n2, s2⟩)).go = (Xp.bool true).go by rw [h1, h2]; rfl))
      clear h1 h2
      have hg1 : g < w.heap.size + 1 + 1 := by omega
      have hg2 : g < w.heap.size + 1 := by omega
      have hB0 : Below w.heap.size w w := Below.refl _ _
      go_enter Try.func25, Try.ntmps25
      go_wp2_with fail
      refine (isT_call k1 n1 s1 true _ H1.out).mono ?_
      rintro e w1 ⟨rfl, hb1⟩
      have hB1 : Below w.heap.size w w1 := below_chain (below_alloc (below_alloc (hB0) _) _) hb1
      have hz1 := hb1.size
      simp only [World.size_alloc] at hz1
      have hl1_0 : g < w1.heap.size := by omega
      have hm1_0 : g ≤ w1.heap.size := by omega
      have hl1_1 : w.heap.size < w1.heap.size := by omega
      have hm1_1 : w.heap.size ≤ w1.heap.size := by omega
      have hl1_2 : w.heap.size + 1 < w1.heap.size := by omega
      have hm1_2 : w.heap.size + 1 ≤ w1.heap.size := by omega
      obtain ⟨hc1, hf1⟩ := bcell hb1
      clear hb1
      go_wp2_with fail
      refine (isT_call k2 n2 s2 true _ H2.out).mono ?_
      rintro e w2 ⟨rfl, hb2⟩
      have hB2 : Below w.heap.size w w2 := below_chain (hB1) hb2
      have hz2 := hb2.size
      have hl2_0 : g < w2.heap.size := by omega
      have hm2_0 : g ≤ w2.heap.size := by omega
      have hl2_1 : w.heap.size < w2.heap.size := by omega
      have hm2_1 : w.heap.size ≤ w2.heap.size := by omega
      have hl2_2 : w.heap.size + 1 < w2.heap.size := by omega
      have hm2_2 : w.heap.size + 1 ≤ w2.heap.size := by omega
      obtain ⟨hc2, hf2⟩ := bcell hb2
      clear hb2
      go_wp2_with fail
      refine (bool_call true 1 _ rfl).mono ?_
      rintro e w3 ⟨rfl, hb3⟩
      have hB3 : Below w.heap.size w w3 := below_chain (hB2) hb3
      have hz3 := hb3.size
      have hl3_0 : g < w3.heap.size := by omega
      have hm3_0 : g ≤ w3.heap.size := by omega
      have hl3_1 : w.heap.size < w3.heap.size := by omega
      have hm3_1 : w.heap.size ≤ w3.heap.size := by omega
      have hl3_2 : w.heap.size + 1 < w3.heap.size := by omega
      have hm3_2 : w.heap.size + 1 ≤ w3.heap.size := by omega
      obtain ⟨hc3, hf3⟩ := bcell hb3
      clear hb3
      go_wp2_with fail
      have sc := two_ops (w := w3) (B := w.heap.size + 1) (a := .int .i64 0) (b := .int .i64 0) (c := .string ⟨#[]⟩) (by go_simp) (by go_simp) (by go_simp) (.int .i64 3) (.int .i64 1) (.string ⟨#[]⟩)
      obtain ⟨sc0, sc1, sc2⟩ := sc
      refine bodyPost_ret (v := .agg #[.int .i64 3, .int .i64 1, .string ⟨#[]⟩]) (by simp [sc0, sc1, sc2, results, Try.results25, go_sem]) rfl ⟨by rw [HW.out]; rfl, ?_⟩
      exact (((hB3).setCell (by simp) _).setCell (by simp) _).setCell (by simp) _
    | false =>
      have H2 := Lib.hid h2
      have HW := Lib.hid (HV.out.symm.trans (show (Xp.bool (Xp.isT ⟨k1, n1, s1⟩ && Xp.isT ⟨k2, n2, s2⟩)).go = (Xp.bool false).go by rw [h1, h2]; rfl))
      clear h1 h2
      have hg1 : g < w.heap.size + 1 + 1 := by omega
      have hg2 : g < w.heap.size + 1 := by omega
      have hB0 : Below w.heap.size w w := Below.refl _ _
      go_enter Try.func25, Try.ntmps25
      go_wp2_with fail
      refine (isT_call k1 n1 s1 true _ H1.out).mono ?_
      rintro e w1 ⟨rfl, hb1⟩
      have hB1 : Below w.heap.size w w1 := below_chain (below_alloc (below_alloc (hB0) _) _) hb1
      have hz1 := hb1.size
      simp only [World.size_alloc] at hz1
      have hl1_0 : g < w1.heap.size := by omega
      have hm1_0 : g ≤ w1.heap.size := by omega
      have hl1_1 : w.heap.size < w1.heap.size := by omega
      have hm1_1 : w.heap.size ≤ w1.heap.size := by omega
      have hl1_2 : w.heap.size + 1 < w1.heap.size := by omega
      have hm1_2 : w.heap.size + 1 ≤ w1.heap.size := by omega
      obtain ⟨hc1, hf1⟩ := bcell hb1
      clear hb1
      go_wp2_with fail
      refine (isT_call k2 n2 s2 false _ H2.out).mono ?_
      rintro e w2 ⟨rfl, hb2⟩
      have hB2 : Below w.heap.size w w2 := below_chain (hB1) hb2
      have hz2 := hb2.size
      have hl2_0 : g < w2.heap.size := by omega
      have hm2_0 : g ≤ w2.heap.size := by omega
      have hl2_1 : w.heap.size < w2.heap.size := by omega
      have hm2_1 : w.heap.size ≤ w2.heap.size := by omega
      have hl2_2 : w.heap.size + 1 < w2.heap.size := by omega
      have hm2_2 : w.heap.size + 1 ≤ w2.heap.size := by omega
      obtain ⟨hc2, hf2⟩ := bcell hb2
      clear hb2
      go_wp2_with fail
      refine (bool_call false 0 _ rfl).mono ?_
      rintro e w3 ⟨rfl, hb3⟩
      have hB3 : Below w.heap.size w w3 := below_chain (hB2) hb3
      have hz3 := hb3.size
      have hl3_0 : g < w3.heap.size := by omega
      have hm3_0 : g ≤ w3.heap.size := by omega
      have hl3_1 : w.heap.size < w3.heap.size := by omega
      have hm3_1 : w.heap.size ≤ w3.heap.size := by omega
      have hl3_2 : w.heap.size + 1 < w3.heap.size := by omega
      have hm3_2 : w.heap.size + 1 ≤ w3.heap.size := by omega
      obtain ⟨hc3, hf3⟩ := bcell hb3
      clear hb3
      go_wp2_with fail
      have sc := two_ops (w := w3) (B := w.heap.size + 1) (a := .int .i64 0) (b := .int .i64 0) (c := .string ⟨#[]⟩) (by go_simp) (by go_simp) (by go_simp) (.int .i64 3) (.int .i64 0) (.string ⟨#[]⟩)
      obtain ⟨sc0, sc1, sc2⟩ := sc
      refine bodyPost_ret (v := .agg #[.int .i64 3, .int .i64 0, .string ⟨#[]⟩]) (by simp [sc0, sc1, sc2, results, Try.results25, go_sem]) rfl ⟨by rw [HW.out]; rfl, ?_⟩
      exact (((hB3).setCell (by simp) _).setCell (by simp) _).setCell (by simp) _
  | false =>
    have H1 := Lib.hid h1
    cases h2 : Xp.isT ⟨k2, n2, s2⟩ with
    | true =>
      have H2 := Lib.hid h2
      have HW := Lib.hid (HV.out.symm.trans (show (Xp.bool (Xp.isT ⟨k1, n1, s1⟩ && Xp.isT ⟨k2, n2, s2⟩)).go = (Xp.bool false).go by rw [h1, h2]; rfl))
      clear h1 h2
      have hg1 : g < w.heap.size + 1 + 1 := by omega
      have hg2 : g < w.heap.size + 1 := by omega
      have hB0 : Below w.heap.size w w := Below.refl _ _
      go_enter Try.func25, Try.ntmps25
      go_wp2_with fail
      refine (isT_call k1 n1 s1 false _ H1.out).mono ?_
      rintro e w1 ⟨rfl, hb1⟩
      have hB1 : Below w.heap.size w w1 := below_chain (below_alloc (below_alloc (hB0) _) _) hb1
      have hz1 := hb1.size
      simp only [World.size_alloc] at hz1
      have hl1_0 : g < w1.heap.size := by omega
      have hm1_0 : g ≤ w1.heap.size := by omega
      have hl1_1 : w.heap.size < w1.heap.size := by omega
      have hm1_1 : w.heap.size ≤ w1.heap.size := by omega
      have hl1_2 : w.heap.size + 1 < w1.heap.size := by omega
      have hm1_2 : w.heap.size + 1 ≤ w1.heap.size := by omega
      obtain ⟨hc1, hf1⟩ := bcell hb1
      clear hb1
      go_wp2_with fail
      refine (bool_call false 0 _ rfl).mono ?_
      rintro e w2 ⟨rfl, hb2⟩
      have hB2 : Below w.heap.size w w2 := below_chain (hB1) hb2
      have hz2 := hb2.size
      have hl2_0 : g < w2.heap.size := by omega
      have hm2_0 : g ≤ w2.heap.size := by omega
      have hl2_1 : w.heap.size < w2.heap.size := by omega
      have hm2_1 : w.heap.size ≤ w2.heap.size := by omega
      have hl2_2 : w.heap.size + 1 < w2.heap.size := by omega
      have hm2_2 : w.heap.size + 1 ≤ w2.heap.size := by omega
      obtain ⟨hc2, hf2⟩ := bcell hb2
      clear hb2
      go_wp2_with fail
      have sc := two_ops (w := w2) (B := w.heap.size + 1) (a := .int .i64 0) (b := .int .i64 0) (c := .string ⟨#[]⟩) (by go_simp) (by go_simp) (by go_simp) (.int .i64 3) (.int .i64 0) (.string ⟨#[]⟩)
      obtain ⟨sc0, sc1, sc2⟩ := sc
      refine bodyPost_ret (v := .agg #[.int .i64 3, .int .i64 0, .string ⟨#[]⟩]) (by simp [sc0, sc1, sc2, results, Try.results25, go_sem]) rfl ⟨by rw [HW.out]; rfl, ?_⟩
      exact (((hB2).setCell (by simp) _).setCell (by simp) _).setCell (by simp) _
    | false =>
      have H2 := Lib.hid h2
      have HW := Lib.hid (HV.out.symm.trans (show (Xp.bool (Xp.isT ⟨k1, n1, s1⟩ && Xp.isT ⟨k2, n2, s2⟩)).go = (Xp.bool false).go by rw [h1, h2]; rfl))
      clear h1 h2
      have hg1 : g < w.heap.size + 1 + 1 := by omega
      have hg2 : g < w.heap.size + 1 := by omega
      have hB0 : Below w.heap.size w w := Below.refl _ _
      go_enter Try.func25, Try.ntmps25
      go_wp2_with fail
      refine (isT_call k1 n1 s1 false _ H1.out).mono ?_
      rintro e w1 ⟨rfl, hb1⟩
      have hB1 : Below w.heap.size w w1 := below_chain (below_alloc (below_alloc (hB0) _) _) hb1
      have hz1 := hb1.size
      simp only [World.size_alloc] at hz1
      have hl1_0 : g < w1.heap.size := by omega
      have hm1_0 : g ≤ w1.heap.size := by omega
      have hl1_1 : w.heap.size < w1.heap.size := by omega
      have hm1_1 : w.heap.size ≤ w1.heap.size := by omega
      have hl1_2 : w.heap.size + 1 < w1.heap.size := by omega
      have hm1_2 : w.heap.size + 1 ≤ w1.heap.size := by omega
      obtain ⟨hc1, hf1⟩ := bcell hb1
      clear hb1
      go_wp2_with fail
      refine (bool_call false 0 _ rfl).mono ?_
      rintro e w2 ⟨rfl, hb2⟩
      have hB2 : Below w.heap.size w w2 := below_chain (hB1) hb2
      have hz2 := hb2.size
      have hl2_0 : g < w2.heap.size := by omega
      have hm2_0 : g ≤ w2.heap.size := by omega
      have hl2_1 : w.heap.size < w2.heap.size := by omega
      have hm2_1 : w.heap.size ≤ w2.heap.size := by omega
      have hl2_2 : w.heap.size + 1 < w2.heap.size := by omega
      have hm2_2 : w.heap.size + 1 ≤ w2.heap.size := by omega
      obtain ⟨hc2, hf2⟩ := bcell hb2
      clear hb2
      go_wp2_with fail
      have sc := two_ops (w := w2) (B := w.heap.size + 1) (a := .int .i64 0) (b := .int .i64 0) (c := .string ⟨#[]⟩) (by go_simp) (by go_simp) (by go_simp) (.int .i64 3) (.int .i64 0) (.string ⟨#[]⟩)
      obtain ⟨sc0, sc1, sc2⟩ := sc
      refine bodyPost_ret (v := .agg #[.int .i64 3, .int .i64 0, .string ⟨#[]⟩]) (by simp [sc0, sc1, sc2, results, Try.results25, go_sem]) rfl ⟨by rw [HW.out]; rfl, ?_⟩
      exact (((hB2).setCell (by simp) _).setCell (by simp) _).setCell (by simp) _


set_option maxRecDepth 100000 in
set_option maxHeartbeats 2000000 in
theorem apply_or (a b col k n : Int) (s : ByteArray) (k1 n1 : Int) (s1 : ByteArray) (k2 n2 : Int) (s2 : ByteArray) (g gc : Nat) (rv : Value) (w : World) (hg : g < w.heap.size) (c0 : w.cell? ⟨g, 0, none⟩ = some (.int .i64 k1)) (c1 : w.cell? ⟨g, 1, none⟩ = some (.int .i64 n1)) (c2 : w.cell? ⟨g, 2, none⟩ = some (.string s1)) (c3 : w.cell? ⟨g, 3, none⟩ = some (.int .i64 k2)) (c4 : w.cell? ⟨g, 4, none⟩ = some (.int .i64 n2)) (c5 : w.cell? ⟨g, 5, none⟩ = some (.string s2)) :
    Calls Try.prog 25 #[.agg #[.int .i64 9, .int .i64 a, .int .i64 b, .int .i64 col, .int .i64 k, .int .i64 n, .string s], .slice (some ⟨g, 0, none⟩) 2 gc, rv] w fun e w' => e = .returned ((Xp.bool (Xp.isT ⟨k1, n1, s1⟩ || Xp.isT ⟨k2, n2, s2⟩)).go) ∧ Below w.heap.size w w' := by
  generalize hV : (Xp.bool (Xp.isT ⟨k1, n1, s1⟩ || Xp.isT ⟨k2, n2, s2⟩)).go = V
  have HV := Lib.hid hV
  clear hV
  cases h1 : Xp.isT ⟨k1, n1, s1⟩ with
  | true =>
    have H1 := Lib.hid h1
    cases h2 : Xp.isT ⟨k2, n2, s2⟩ with
    | true =>
      have H2 := Lib.hid h2
      have HW := Lib.hid (HV.out.symm.trans (show (Xp.bool (Xp.isT ⟨k1, n1, s1⟩ || Xp.isT ⟨k2, n2, s2⟩)).go = (Xp.bool true).go by rw [h1, h2]; rfl))
      clear h1 h2
      have hg1 : g < w.heap.size + 1 + 1 := by omega
      have hg2 : g < w.heap.size + 1 := by omega
      have hB0 : Below w.heap.size w w := Below.refl _ _
      go_enter Try.func25, Try.ntmps25
      go_wp2_with fail
      refine (isT_call k1 n1 s1 true _ H1.out).mono ?_
      rintro e w1 ⟨rfl, hb1⟩
      have hB1 : Below w.heap.size w w1 := below_chain (below_alloc (below_alloc (hB0) _) _) hb1
      have hz1 := hb1.size
      simp only [World.size_alloc] at hz1
      have hl1_0 : g < w1.heap.size := by omega
      have hm1_0 : g ≤ w1.heap.size := by omega
      have hl1_1 : w.heap.size < w1.heap.size := by omega
      have hm1_1 : w.heap.size ≤ w1.heap.size := by omega
      have hl1_2 : w.heap.size + 1 < w1.heap.size := by omega
      have hm1_2 : w.heap.size + 1 ≤ w1.heap.size := by omega
      obtain ⟨hc1, hf1⟩ := bcell hb1
      clear hb1
      go_wp2_with fail
      refine (bool_call true 1 _ rfl).mono ?_
      rintro e w2 ⟨rfl, hb2⟩
      have hB2 : Below w.heap.size w w2 := below_chain (hB1) hb2
      have hz2 := hb2.size
      have hl2_0 : g < w2.heap.size := by omega
      have hm2_0 : g ≤ w2.heap.size := by omega
      have hl2_1 : w.heap.size < w2.heap.size := by omega
      have hm2_1 : w.heap.size ≤ w2.heap.size := by omega
      have hl2_2 : w.heap.size + 1 < w2.heap.size := by omega
      have hm2_2 : w.heap.size + 1 ≤ w2.heap.size := by omega
      obtain ⟨hc2, hf2⟩ := bcell hb2
      clear hb2
      go_wp2_with fail
      have sc := two_ops (w := w2) (B := w.heap.size + 1) (a := .int .i64 0) (b := .int .i64 0) (c := .string ⟨#[]⟩) (by go_simp) (by go_simp) (by go_simp) (.int .i64 3) (.int .i64 1) (.string ⟨#[]⟩)
      obtain ⟨sc0, sc1, sc2⟩ := sc
      refine bodyPost_ret (v := .agg #[.int .i64 3, .int .i64 1, .string ⟨#[]⟩]) (by simp [sc0, sc1, sc2, results, Try.results25, go_sem]) rfl ⟨by rw [HW.out]; rfl, ?_⟩
      exact (((hB2).setCell (by simp) _).setCell (by simp) _).setCell (by simp) _
    | false =>
      have H2 := Lib.hid h2
      have HW := Lib.hid (HV.out.symm.trans (show (Xp.bool (Xp.isT ⟨k1, n1, s1⟩ || Xp.isT ⟨k2, n2, s2⟩)).go = (Xp.bool true).go by rw [h1, h2]; rfl))
      clear h1 h2
      have hg1 : g < w.heap.size + 1 + 1 := by omega
      have hg2 : g < w.heap.size + 1 := by omega
      have hB0 : Below w.heap.size w w := Below.refl _ _
      go_enter Try.func25, Try.ntmps25
      go_wp2_with fail
      refine (isT_call k1 n1 s1 true _ H1.out).mono ?_
      rintro e w1 ⟨rfl, hb1⟩
      have hB1 : Below w.heap.size w w1 := below_chain (below_alloc (below_alloc (hB0) _) _) hb1
      have hz1 := hb1.size
      simp only [World.size_alloc] at hz1
      have hl1_0 : g < w1.heap.size := by omega
      have hm1_0 : g ≤ w1.heap.size := by omega
      have hl1_1 : w.heap.size < w1.heap.size := by omega
      have hm1_1 : w.heap.size ≤ w1.heap.size := by omega
      have hl1_2 : w.heap.size + 1 < w1.heap.size := by omega
      have hm1_2 : w.heap.size + 1 ≤ w1.heap.size := by omega
      obtain ⟨hc1, hf1⟩ := bcell hb1
      clear hb1
      go_wp2_with fail
      refine (bool_call true 1 _ rfl).mono ?_
      rintro e w2 ⟨rfl, hb2⟩
      have hB2 : Below w.heap.size w w2 := below_chain (hB1) hb2
      have hz2 := hb2.size
      have hl2_0 : g < w2.heap.size := by omega
      have hm2_0 : g ≤ w2.heap.size := by omega
      have hl2_1 : w.heap.size < w2.heap.size := by omega
      have hm2_1 : w.heap.size ≤ w2.heap.size := by omega
      have hl2_2 : w.heap.size + 1 < w2.heap.size := by omega
      have hm2_2 : w.heap.size + 1 ≤ w2.heap.size := by omega
      obtain ⟨hc2, hf2⟩ := bcell hb2
      clear hb2
      go_wp2_with fail
      have sc := two_ops (w := w2) (B := w.heap.size + 1) (a := .int .i64 0) (b := .int .i64 0) (c := .string ⟨#[]⟩) (by go_simp) (by go_simp) (by go_simp) (.int .i64 3) (.int .i64 1) (.string ⟨#[]⟩)
      obtain ⟨sc0, sc1, sc2⟩ := sc
      refine bodyPost_ret (v := .agg #[.int .i64 3, .int .i64 1, .string ⟨#[]⟩]) (by simp [sc0, sc1, sc2, results, Try.results25, go_sem]) rfl ⟨by rw [HW.out]; rfl, ?_⟩
      exact (((hB2).setCell (by simp) _).setCell (by simp) _).setCell (by simp) _
  | false =>
    have H1 := Lib.hid h1
    cases h2 : Xp.isT ⟨k2, n2, s2⟩ with
    | true =>
      have H2 := Lib.hid h2
      have HW := Lib.hid (HV.out.symm.trans (show (Xp.bool (Xp.isT ⟨k1, n1, s1⟩ || Xp.isT ⟨k2, n2, s2⟩)).go = (Xp.bool true).go by rw [h1, h2]; rfl))
      clear h1 h2
      have hg1 : g < w.heap.size + 1 + 1 := by omega
      have hg2 : g < w.heap.size + 1 := by omega
      have hB0 : Below w.heap.size w w := Below.refl _ _
      go_enter Try.func25, Try.ntmps25
      go_wp2_with fail
      refine (isT_call k1 n1 s1 false _ H1.out).mono ?_
      rintro e w1 ⟨rfl, hb1⟩
      have hB1 : Below w.heap.size w w1 := below_chain (below_alloc (below_alloc (hB0) _) _) hb1
      have hz1 := hb1.size
      simp only [World.size_alloc] at hz1
      have hl1_0 : g < w1.heap.size := by omega
      have hm1_0 : g ≤ w1.heap.size := by omega
      have hl1_1 : w.heap.size < w1.heap.size := by omega
      have hm1_1 : w.heap.size ≤ w1.heap.size := by omega
      have hl1_2 : w.heap.size + 1 < w1.heap.size := by omega
      have hm1_2 : w.heap.size + 1 ≤ w1.heap.size := by omega
      obtain ⟨hc1, hf1⟩ := bcell hb1
      clear hb1
      go_wp2_with fail
      refine (isT_call k2 n2 s2 true _ H2.out).mono ?_
      rintro e w2 ⟨rfl, hb2⟩
      have hB2 : Below w.heap.size w w2 := below_chain (hB1) hb2
      have hz2 := hb2.size
      have hl2_0 : g < w2.heap.size := by omega
      have hm2_0 : g ≤ w2.heap.size := by omega
      have hl2_1 : w.heap.size < w2.heap.size := by omega
      have hm2_1 : w.heap.size ≤ w2.heap.size := by omega
      have hl2_2 : w.heap.size + 1 < w2.heap.size := by omega
      have hm2_2 : w.heap.size + 1 ≤ w2.heap.size := by omega
      obtain ⟨hc2, hf2⟩ := bcell hb2
      clear hb2
      go_wp2_with fail
      refine (bool_call true 1 _ rfl).mono ?_
      rintro e w3 ⟨rfl, hb3⟩
      have hB3 : Below w.heap.size w w3 := below_chain (hB2) hb3
      have hz3 := hb3.size
      have hl3_0 : g < w3.heap.size := by omega
      have hm3_0 : g ≤ w3.heap.size := by omega
      have hl3_1 : w.heap.size < w3.heap.size := by omega
      have hm3_1 : w.heap.size ≤ w3.heap.size := by omega
      have hl3_2 : w.heap.size + 1 < w3.heap.size := by omega
      have hm3_2 : w.heap.size + 1 ≤ w3.heap.size := by omega
      obtain ⟨hc3, hf3⟩ := bcell hb3
      clear hb3
      go_wp2_with fail
      have sc := two_ops (w := w3) (B := w.heap.size + 1) (a := .int .i64 0) (b := .int .i64 0) (c := .string ⟨#[]⟩) (by go_simp) (by go_simp) (by go_simp) (.int .i64 3) (.int .i64 1) (.string ⟨#[]⟩)
      obtain ⟨sc0, sc1, sc2⟩ := sc
      refine bodyPost_ret (v := .agg #[.int .i64 3, .int .i64 1, .string ⟨#[]⟩]) (by simp [sc0, sc1, sc2, results, Try.results25, go_sem]) rfl ⟨by rw [HW.out]; rfl, ?_⟩
      exact (((hB3).setCell (by simp) _).setCell (by simp) _).setCell (by simp) _
    | false =>
      have H2 := Lib.hid h2
      have HW := Lib.hid (HV.out.symm.trans (show (Xp.bool (Xp.isT ⟨k1, n1, s1⟩ || Xp.isT ⟨k2, n2, s2⟩)).go = (Xp.bool false).go by rw [h1, h2]; rfl))
      clear h1 h2
      have hg1 : g < w.heap.size + 1 + 1 := by omega
      have hg2 : g < w.heap.size + 1 := by omega
      have hB0 : Below w.heap.size w w := Below.refl _ _
      go_enter Try.func25, Try.ntmps25
      go_wp2_with fail
      refine (isT_call k1 n1 s1 false _ H1.out).mono ?_
      rintro e w1 ⟨rfl, hb1⟩
      have hB1 : Below w.heap.size w w1 := below_chain (below_alloc (below_alloc (hB0) _) _) hb1
      have hz1 := hb1.size
      simp only [World.size_alloc] at hz1
      have hl1_0 : g < w1.heap.size := by omega
      have hm1_0 : g ≤ w1.heap.size := by omega
      have hl1_1 : w.heap.size < w1.heap.size := by omega
      have hm1_1 : w.heap.size ≤ w1.heap.size := by omega
      have hl1_2 : w.heap.size + 1 < w1.heap.size := by omega
      have hm1_2 : w.heap.size + 1 ≤ w1.heap.size := by omega
      obtain ⟨hc1, hf1⟩ := bcell hb1
      clear hb1
      go_wp2_with fail
      refine (isT_call k2 n2 s2 false _ H2.out).mono ?_
      rintro e w2 ⟨rfl, hb2⟩
      have hB2 : Below w.heap.size w w2 := below_chain (hB1) hb2
      have hz2 := hb2.size
      have hl2_0 : g < w2.heap.size := by omega
      have hm2_0 : g ≤ w2.heap.size := by omega
      have hl2_1 : w.heap.size < w2.heap.size := by omega
      have hm2_1 : w.heap.size ≤ w2.heap.size := by omega
      have hl2_2 : w.heap.size + 1 < w2.heap.size := by omega
      have hm2_2 : w.heap.size + 1 ≤ w2.heap.size := by omega
      obtain ⟨hc2, hf2⟩ := bcell hb2
      clear hb2
      go_wp2_with fail
      refine (bool_call false 0 _ rfl).mono ?_
      rintro e w3 ⟨rfl, hb3⟩
      have hB3 : Below w.heap.size w w3 := below_chain (hB2) hb3
      have hz3 := hb3.size
      have hl3_0 : g < w3.heap.size := by omega
      have hm3_0 : g ≤ w3.heap.size := by omega
      have hl3_1 : w.heap.size < w3.heap.size := by omega
      have hm3_1 : w.heap.size ≤ w3.heap.size := by omega
      have hl3_2 : w.heap.size + 1 < w3.heap.size := by omega
      have hm3_2 : w.heap.size + 1 ≤ w3.heap.size := by omega
      obtain ⟨hc3, hf3⟩ := bcell hb3
      clear hb3
      go_wp2_with fail
      have sc := two_ops (w := w3) (B := w.heap.size + 1) (a := .int .i64 0) (b := .int .i64 0) (c := .string ⟨#[]⟩) (by go_simp) (by go_simp) (by go_simp) (.int .i64 3) (.int .i64 0) (.string ⟨#[]⟩)
      obtain ⟨sc0, sc1, sc2⟩ := sc
      refine bodyPost_ret (v := .agg #[.int .i64 3, .int .i64 0, .string ⟨#[]⟩]) (by simp [sc0, sc1, sc2, results, Try.results25, go_sem]) rfl ⟨by rw [HW.out]; rfl, ?_⟩
      exact (((hB3).setCell (by simp) _).setCell (by simp) _).setCell (by simp) _


set_option maxRecDepth 100000 in
set_option maxHeartbeats 2000000 in
theorem apply_not (a b col k n : Int) (s : ByteArray) (k1 n1 : Int) (s1 : ByteArray) (g gc : Nat) (rv : Value) (w : World) (hg : g < w.heap.size) (c0 : w.cell? ⟨g, 0, none⟩ = some (.int .i64 k1)) (c1 : w.cell? ⟨g, 1, none⟩ = some (.int .i64 n1)) (c2 : w.cell? ⟨g, 2, none⟩ = some (.string s1)) :
    Calls Try.prog 25 #[.agg #[.int .i64 10, .int .i64 a, .int .i64 b, .int .i64 col, .int .i64 k, .int .i64 n, .string s], .slice (some ⟨g, 0, none⟩) 1 gc, rv] w fun e w' => e = .returned ((Xp.bool (!Xp.isT ⟨k1, n1, s1⟩)).go) ∧ Below w.heap.size w w' := by
  generalize hV : (Xp.bool (!Xp.isT ⟨k1, n1, s1⟩)).go = V
  have HV := Lib.hid hV
  clear hV
  cases h1 : Xp.isT ⟨k1, n1, s1⟩ with
  | true =>
    have H1 := Lib.hid h1
    have HW := Lib.hid (HV.out.symm.trans (show (Xp.bool (!Xp.isT ⟨k1, n1, s1⟩)).go = (Xp.bool false).go by rw [h1]; rfl))
    clear h1
    have hg1 : g < w.heap.size + 1 + 1 := by omega
    have hg2 : g < w.heap.size + 1 := by omega
    have hB0 : Below w.heap.size w w := Below.refl _ _
    go_enter Try.func25, Try.ntmps25
    go_wp2_with fail
    refine (isT_call k1 n1 s1 true _ H1.out).mono ?_
    rintro e w1 ⟨rfl, hb1⟩
    have hB1 : Below w.heap.size w w1 := below_chain (below_alloc (below_alloc (hB0) _) _) hb1
    have hz1 := hb1.size
    simp only [World.size_alloc] at hz1
    have hl1_0 : g < w1.heap.size := by omega
    have hm1_0 : g ≤ w1.heap.size := by omega
    have hl1_1 : w.heap.size < w1.heap.size := by omega
    have hm1_1 : w.heap.size ≤ w1.heap.size := by omega
    have hl1_2 : w.heap.size + 1 < w1.heap.size := by omega
    have hm1_2 : w.heap.size + 1 ≤ w1.heap.size := by omega
    obtain ⟨hc1, hf1⟩ := bcell hb1
    clear hb1
    go_wp2_with fail
    refine (bool_call false 0 _ rfl).mono ?_
    rintro e w2 ⟨rfl, hb2⟩
    have hB2 : Below w.heap.size w w2 := below_chain (hB1) hb2
    have hz2 := hb2.size
    have hl2_0 : g < w2.heap.size := by omega
    have hm2_0 : g ≤ w2.heap.size := by omega
    have hl2_1 : w.heap.size < w2.heap.size := by omega
    have hm2_1 : w.heap.size ≤ w2.heap.size := by omega
    have hl2_2 : w.heap.size + 1 < w2.heap.size := by omega
    have hm2_2 : w.heap.size + 1 ≤ w2.heap.size := by omega
    obtain ⟨hc2, hf2⟩ := bcell hb2
    clear hb2
    go_wp2_with fail
    have sc := two_ops (w := w2) (B := w.heap.size + 1) (a := .int .i64 0) (b := .int .i64 0) (c := .string ⟨#[]⟩) (by go_simp) (by go_simp) (by go_simp) (.int .i64 3) (.int .i64 0) (.string ⟨#[]⟩)
    obtain ⟨sc0, sc1, sc2⟩ := sc
    refine bodyPost_ret (v := .agg #[.int .i64 3, .int .i64 0, .string ⟨#[]⟩]) (by simp [sc0, sc1, sc2, results, Try.results25, go_sem]) rfl ⟨by rw [HW.out]; rfl, ?_⟩
    exact (((hB2).setCell (by simp) _).setCell (by simp) _).setCell (by simp) _
  | false =>
    have H1 := Lib.hid h1
    have HW := Lib.hid (HV.out.symm.trans (show (Xp.bool (!Xp.isT ⟨k1, n1, s1⟩)).go = (Xp.bool true).go by rw [h1]; rfl))
    clear h1
    have hg1 : g < w.heap.size + 1 + 1 := by omega
    have hg2 : g < w.heap.size + 1 := by omega
    have hB0 : Below w.heap.size w w := Below.refl _ _
    go_enter Try.func25, Try.ntmps25
    go_wp2_with fail
    refine (isT_call k1 n1 s1 false _ H1.out).mono ?_
    rintro e w1 ⟨rfl, hb1⟩
    have hB1 : Below w.heap.size w w1 := below_chain (below_alloc (below_alloc (hB0) _) _) hb1
    have hz1 := hb1.size
    simp only [World.size_alloc] at hz1
    have hl1_0 : g < w1.heap.size := by omega
    have hm1_0 : g ≤ w1.heap.size := by omega
    have hl1_1 : w.heap.size < w1.heap.size := by omega
    have hm1_1 : w.heap.size ≤ w1.heap.size := by omega
    have hl1_2 : w.heap.size + 1 < w1.heap.size := by omega
    have hm1_2 : w.heap.size + 1 ≤ w1.heap.size := by omega
    obtain ⟨hc1, hf1⟩ := bcell hb1
    clear hb1
    go_wp2_with fail
    refine (bool_call true 1 _ rfl).mono ?_
    rintro e w2 ⟨rfl, hb2⟩
    have hB2 : Below w.heap.size w w2 := below_chain (hB1) hb2
    have hz2 := hb2.size
    have hl2_0 : g < w2.heap.size := by omega
    have hm2_0 : g ≤ w2.heap.size := by omega
    have hl2_1 : w.heap.size < w2.heap.size := by omega
    have hm2_1 : w.heap.size ≤ w2.heap.size := by omega
    have hl2_2 : w.heap.size + 1 < w2.heap.size := by omega
    have hm2_2 : w.heap.size + 1 ≤ w2.heap.size := by omega
    obtain ⟨hc2, hf2⟩ := bcell hb2
    clear hb2
    go_wp2_with fail
    have sc := two_ops (w := w2) (B := w.heap.size + 1) (a := .int .i64 0) (b := .int .i64 0) (c := .string ⟨#[]⟩) (by go_simp) (by go_simp) (by go_simp) (.int .i64 3) (.int .i64 1) (.string ⟨#[]⟩)
    obtain ⟨sc0, sc1, sc2⟩ := sc
    refine bodyPost_ret (v := .agg #[.int .i64 3, .int .i64 1, .string ⟨#[]⟩]) (by simp [sc0, sc1, sc2, results, Try.results25, go_sem]) rfl ⟨by rw [HW.out]; rfl, ?_⟩
    exact (((hB2).setCell (by simp) _).setCell (by simp) _).setCell (by simp) _


set_option maxRecDepth 100000 in
set_option maxHeartbeats 2000000 in
theorem apply_isnull (a b col k n : Int) (s : ByteArray) (k1 n1 : Int) (s1 : ByteArray) (g gc : Nat) (rv : Value) (w : World) (hg : g < w.heap.size) (c0 : w.cell? ⟨g, 0, none⟩ = some (.int .i64 k1)) (c1 : w.cell? ⟨g, 1, none⟩ = some (.int .i64 n1)) (c2 : w.cell? ⟨g, 2, none⟩ = some (.string s1)) :
    Calls Try.prog 25 #[.agg #[.int .i64 11, .int .i64 a, .int .i64 b, .int .i64 col, .int .i64 k, .int .i64 n, .string s], .slice (some ⟨g, 0, none⟩) 1 gc, rv] w fun e w' => e = .returned ((Xp.bool (decide (k1 = 0))).go) ∧ Below w.heap.size w w' := by
  generalize hV : (Xp.bool (decide (k1 = 0))).go = V
  have HV := Lib.hid hV
  clear hV
  by_cases z1 : k1 = 0
  · subst z1
    have HW := Lib.hid (HV.out.symm.trans (show (Xp.bool _).go = (Xp.bool true).go by simp))
    have hg1 : g < w.heap.size + 1 + 1 := by omega
    have hg2 : g < w.heap.size + 1 := by omega
    have hB0 : Below w.heap.size w w := Below.refl _ _
    go_enter Try.func25, Try.ntmps25
    go_wp2_with fail
    refine (bool_call true 1 _ rfl).mono ?_
    rintro e w1 ⟨rfl, hb1⟩
    have hB1 : Below w.heap.size w w1 := below_chain (below_alloc (below_alloc (hB0) _) _) hb1
    have hz1 := hb1.size
    simp only [World.size_alloc] at hz1
    have hl1_0 : g < w1.heap.size := by omega
    have hm1_0 : g ≤ w1.heap.size := by omega
    have hl1_1 : w.heap.size < w1.heap.size := by omega
    have hm1_1 : w.heap.size ≤ w1.heap.size := by omega
    have hl1_2 : w.heap.size + 1 < w1.heap.size := by omega
    have hm1_2 : w.heap.size + 1 ≤ w1.heap.size := by omega
    obtain ⟨hc1, hf1⟩ := bcell hb1
    clear hb1
    go_wp2_with fail
    have sc := two_ops (w := w1) (B := w.heap.size + 1) (a := .int .i64 0) (b := .int .i64 0) (c := .string ⟨#[]⟩) (by go_simp) (by go_simp) (by go_simp) (.int .i64 3) (.int .i64 1) (.string ⟨#[]⟩)
    obtain ⟨sc0, sc1, sc2⟩ := sc
    refine bodyPost_ret (v := .agg #[.int .i64 3, .int .i64 1, .string ⟨#[]⟩]) (by simp [sc0, sc1, sc2, results, Try.results25, go_sem]) rfl ⟨by rw [HW.out]; rfl, ?_⟩
    exact (((hB1).setCell (by simp) _).setCell (by simp) _).setCell (by simp) _
  · have e1 : (k1 == 0) = false := by simp; exact z1
    have HW := Lib.hid (HV.out.symm.trans (show (Xp.bool _).go = (Xp.bool false).go by simp [z1]))
    have hg1 : g < w.heap.size + 1 + 1 := by omega
    have hg2 : g < w.heap.size + 1 := by omega
    have hB0 : Below w.heap.size w w := Below.refl _ _
    go_enter Try.func25, Try.ntmps25
    go_wp2_with fail
    refine (bool_call false 0 _ rfl).mono ?_
    rintro e w1 ⟨rfl, hb1⟩
    have hB1 : Below w.heap.size w w1 := below_chain (below_alloc (below_alloc (hB0) _) _) hb1
    have hz1 := hb1.size
    simp only [World.size_alloc] at hz1
    have hl1_0 : g < w1.heap.size := by omega
    have hm1_0 : g ≤ w1.heap.size := by omega
    have hl1_1 : w.heap.size < w1.heap.size := by omega
    have hm1_1 : w.heap.size ≤ w1.heap.size := by omega
    have hl1_2 : w.heap.size + 1 < w1.heap.size := by omega
    have hm1_2 : w.heap.size + 1 ≤ w1.heap.size := by omega
    obtain ⟨hc1, hf1⟩ := bcell hb1
    clear hb1
    go_wp2_with fail
    have sc := two_ops (w := w1) (B := w.heap.size + 1) (a := .int .i64 0) (b := .int .i64 0) (c := .string ⟨#[]⟩) (by go_simp) (by go_simp) (by go_simp) (.int .i64 3) (.int .i64 0) (.string ⟨#[]⟩)
    obtain ⟨sc0, sc1, sc2⟩ := sc
    refine bodyPost_ret (v := .agg #[.int .i64 3, .int .i64 0, .string ⟨#[]⟩]) (by simp [sc0, sc1, sc2, results, Try.results25, go_sem]) rfl ⟨by rw [HW.out]; rfl, ?_⟩
    exact (((hB1).setCell (by simp) _).setCell (by simp) _).setCell (by simp) _

end Go.Proofs.Ytpgaldkedeohaaa
