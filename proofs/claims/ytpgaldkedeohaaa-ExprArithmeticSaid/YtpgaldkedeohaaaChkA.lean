/-
  The reference's check, case by case.
-/
import Derived.Test.YtpgaldkedeohaaaExprR
import Derived.Test.YtpgaldkedeohaaaOwn
namespace Go.Proofs.Ytpgaldkedeohaaa
open Go.RowKit
set_option linter.unusedVariables false

theorem refValid_call (k n : Int) (s : ByteArray) (v : Bool) (w : World) (h : Xp.vv ⟨k, n, s⟩ = v) : Calls Try.prog 32 #[.agg #[.int .i64 k, .int .i64 n, .string s]] w fun e w' => e = .returned (.bool v) ∧ Below w.heap.size w w' := by
  subst h; exact ref_Valid6 ⟨k, n, s⟩ w
theorem fits_call (k r : Int) (v : Bool) (w : World) (h : Xp.acc k r = v) : Calls Try.prog 34 #[.int .i64 k, .int .i64 r] w fun e w' => e = .returned (.bool v) ∧ w = w' := by
  subst h; exact ref_fits k r w


set_option maxRecDepth 100000 in
set_option maxHeartbeats 2000000 in
theorem rck_low (op : Int) (aa : Int) (bb : Int) (col ck cn : Int) (cs : ByteArray) (b off n c k dg dn dc : Nat) (cv : Value) (w : World) (hb : b < w.heap.size) (hg : dg < w.heap.size) (hk : k < n) (hnc : n ≤ 100000) (hdn : k < dn)
    (hx : ExAt w b (off + k * 7) ⟨op, aa, bb, col, ⟨ck, cn, cs⟩⟩) (har : Xp.arity op = -1) :
    Calls Try.prog 22 #[.slice (some ⟨b, off, none⟩) n c, .int .i64 k, cv, .slice (some ⟨dg, 0, none⟩) dn dc] w fun e' w' => e' = .returned (.agg #[.int .i64 0, .int .i64 5]) ∧ Below w.heap.size w w' := by
  have HAR := Lib.hid (show Xp.arity op = -1 from har)
  clear har
  have HX := Lib.hid hx
  obtain ⟨x0, x1, x2, x3, x4, x5, x6⟩ := hx
  simp only at x0 x1 x2 x3 x4 x5 x6
  have h0 : (0 : Int) ≤ (k : Int) := by omega
  have h1 : (k : Int) < (n : Int) := by omega
  have hb1 : b < w.heap.size + 1 := by omega
  have hb2 : b < w.heap.size + 1 + 1 := by omega
  have hg1 : dg < w.heap.size + 1 := by omega
  have hg2 : dg < w.heap.size + 1 + 1 := by omega
  have hg3 : dg < w.heap.size + 1 + 1 + 1 := by omega
  have hB0 : Below w.heap.size w w := Below.refl _ _
  go_enter Try.func22, Try.ntmps22
  go_wp2_with fail
  refine (ropn_call _ (-1) _ HAR.out).mono ?_
  rintro e1 w1 ⟨rfl, rfl⟩
  go_wp2_with fail
  refine bodyPost_ret (v := .agg #[.int .i64 0, .int .i64 5]) (by simp [results, Try.results22, go_sem]) rfl ⟨rfl, ?_⟩
  exact below_alloc (below_alloc (Below.refl _ _) _) _


set_option maxRecDepth 100000 in
set_option maxHeartbeats 2000000 in
theorem rck_const_bad (aa : Int) (bb : Int) (col ck cn : Int) (cs : ByteArray) (b off n c k dg dn dc : Nat) (cv : Value) (w : World) (hb : b < w.heap.size) (hg : dg < w.heap.size) (hk : k < n) (hnc : n ≤ 100000) (hdn : k < dn)
    (hx : ExAt w b (off + k * 7) ⟨1, aa, bb, col, ⟨ck, cn, cs⟩⟩) (hvv : Xp.vv ⟨ck, cn, cs⟩ = false) :
    Calls Try.prog 22 #[.slice (some ⟨b, off, none⟩) n c, .int .i64 k, cv, .slice (some ⟨dg, 0, none⟩) dn dc] w fun e' w' => e' = .returned (.agg #[.int .i64 0, .int .i64 5]) ∧ Below w.heap.size w w' := by
  have HV := Lib.hid hvv
  clear hvv
  have HX := Lib.hid hx
  have HL := Lib.hid (show (!Xp.badIx ⟨1, aa, bb, col, ⟨ck, cn, cs⟩⟩ k) = true by unfold Xp.badIx Xp.lgl; simp [Xp.arity])
  obtain ⟨x0, x1, x2, x3, x4, x5, x6⟩ := hx
  simp only at x0 x1 x2 x3 x4 x5 x6
  have h0 : (0 : Int) ≤ (k : Int) := by omega
  have h1 : (k : Int) < (n : Int) := by omega
  have hb1 : b < w.heap.size + 1 := by omega
  have hb2 : b < w.heap.size + 1 + 1 := by omega
  have hg1 : dg < w.heap.size + 1 := by omega
  have hg2 : dg < w.heap.size + 1 + 1 := by omega
  have hg3 : dg < w.heap.size + 1 + 1 + 1 := by omega
  have hB0 : Below w.heap.size w w := Below.refl _ _
  go_enter Try.func22, Try.ntmps22
  go_wp2_with fail
  refine (ropn_call _ (0) _ rfl).mono ?_
  rintro e1 w1 ⟨rfl, rfl⟩
  go_wp2_with fail
  refine (refValid_call ck cn cs false _ HV.out).mono ?_
  rintro e w1 ⟨rfl, hb1⟩
  have hB1 : Below w.heap.size w w1 := below_chain (below_alloc (below_alloc (hB0) _) _) hb1
  have hz1 := hb1.size
  simp only [World.size_alloc] at hz1
  have hl1_0 : w.heap.size < w1.heap.size := by omega
  have hm1_0 : w.heap.size ≤ w1.heap.size := by omega
  have hl1_1 : w.heap.size + 1 < w1.heap.size := by omega
  have hm1_1 : w.heap.size + 1 ≤ w1.heap.size := by omega
  obtain ⟨hc1, hf1⟩ := bcell hb1
  clear hb1
  go_wp2_with fail
  have sc := two_op2 (w := w1) (B := w.heap.size) (a := .int .i64 0) (b := .int .i64 0) (by go_simp) (by go_simp) (.int .i64 0) (.int .i64 5)
  obtain ⟨sc0, sc1⟩ := sc
  refine bodyPost_ret (v := .agg #[.int .i64 0, .int .i64 5]) (by simp [sc0, sc1, results, Try.results22, go_sem]) rfl ⟨rfl, ?_⟩
  exact ((hB1).setCell (by simp) _).setCell (by simp) _


set_option maxRecDepth 100000 in
set_option maxHeartbeats 2000000 in
theorem rck_const_ok (aa : Int) (bb : Int) (col ck cn : Int) (cs : ByteArray) (b off n c k dg dn dc : Nat) (cv : Value) (w : World) (hb : b < w.heap.size) (hg : dg < w.heap.size) (hk : k < n) (hnc : n ≤ 100000) (hdn : k < dn)
    (hx : ExAt w b (off + k * 7) ⟨1, aa, bb, col, ⟨ck, cn, cs⟩⟩) (hvv : Xp.vv ⟨ck, cn, cs⟩ = true) :
    Calls Try.prog 22 #[.slice (some ⟨b, off, none⟩) n c, .int .i64 k, cv, .slice (some ⟨dg, 0, none⟩) dn dc] w fun e' w' => e' = .returned (.agg #[.int .i64 ck, .int .i64 0]) ∧ Below w.heap.size w w' := by
  have HV := Lib.hid hvv
  clear hvv
  have HX := Lib.hid hx
  have HL := Lib.hid (show (!Xp.badIx ⟨1, aa, bb, col, ⟨ck, cn, cs⟩⟩ k) = true by unfold Xp.badIx Xp.lgl; simp [Xp.arity])
  obtain ⟨x0, x1, x2, x3, x4, x5, x6⟩ := hx
  simp only at x0 x1 x2 x3 x4 x5 x6
  have h0 : (0 : Int) ≤ (k : Int) := by omega
  have h1 : (k : Int) < (n : Int) := by omega
  have hb1 : b < w.heap.size + 1 := by omega
  have hb2 : b < w.heap.size + 1 + 1 := by omega
  have hg1 : dg < w.heap.size + 1 := by omega
  have hg2 : dg < w.heap.size + 1 + 1 := by omega
  have hg3 : dg < w.heap.size + 1 + 1 + 1 := by omega
  have hB0 : Below w.heap.size w w := Below.refl _ _
  go_enter Try.func22, Try.ntmps22
  go_wp2_with fail
  refine (ropn_call _ (0) _ rfl).mono ?_
  rintro e1 w1 ⟨rfl, rfl⟩
  go_wp2_with fail
  refine (refValid_call ck cn cs true _ HV.out).mono ?_
  rintro e w1 ⟨rfl, hb1⟩
  have hB1 : Below w.heap.size w w1 := below_chain (below_alloc (below_alloc (hB0) _) _) hb1
  have hz1 := hb1.size
  simp only [World.size_alloc] at hz1
  have hl1_0 : w.heap.size < w1.heap.size := by omega
  have hm1_0 : w.heap.size ≤ w1.heap.size := by omega
  have hl1_1 : w.heap.size + 1 < w1.heap.size := by omega
  have hm1_1 : w.heap.size + 1 ≤ w1.heap.size := by omega
  obtain ⟨hc1, hf1⟩ := bcell hb1
  clear hb1
  go_wp2_with fail
  refine (legal_call true b off n c k _ w _ hb (hB1) hk hnc HX.out HL.out).mono ?_
  rintro e1 w1 ⟨rfl, rfl⟩
  go_wp2_with fail
  have sc := two_op2 (w := w1) (B := w.heap.size) (a := .int .i64 0) (b := .int .i64 0) (by go_simp) (by go_simp) (.int .i64 ck) (.int .i64 0)
  obtain ⟨sc0, sc1⟩ := sc
  refine bodyPost_ret (v := .agg #[.int .i64 ck, .int .i64 0]) (by simp [sc0, sc1, results, Try.results22, go_sem]) rfl ⟨rfl, ?_⟩
  exact ((hB1).setCell (by simp) _).setCell (by simp) _


set_option maxRecDepth 100000 in
set_option maxHeartbeats 2000000 in
theorem rck_bad (op : Int) (aa : Int) (bb : Int) (col ck cn : Int) (cs : ByteArray) (b off n c k dg dn dc : Nat) (cv : Value) (w : World) (hb : b < w.heap.size) (hg : dg < w.heap.size) (hk : k < n) (hnc : n ≤ 100000) (hdn : k < dn)
    (hx : ExAt w b (off + k * 7) ⟨op, aa, bb, col, ⟨ck, cn, cs⟩⟩) (har : 0 ≤ Xp.arity op) (hop : op ≠ 1) (hbad : Xp.badIx ⟨op, aa, bb, col, ⟨ck, cn, cs⟩⟩ k = true) :
    Calls Try.prog 22 #[.slice (some ⟨b, off, none⟩) n c, .int .i64 k, cv, .slice (some ⟨dg, 0, none⟩) dn dc] w fun e' w' => e' = .returned (.agg #[.int .i64 0, .int .i64 10]) ∧ Below w.heap.size w w' := by
  obtain ⟨ar, hare⟩ : ∃ ar, Xp.arity op = ar := ⟨_, rfl⟩
  have HAR := Lib.hid hare
  rw [hare] at har
  have har1 : ¬ ar < 0 := by omega
  clear hare
  have eop1 : (op == 1) = false := by simp; omega
  have HX := Lib.hid hx
  have HL := Lib.hid (show (!Xp.badIx ⟨op, aa, bb, col, ⟨ck, cn, cs⟩⟩ k) = false by rw [hbad]; rfl)
  obtain ⟨x0, x1, x2, x3, x4, x5, x6⟩ := hx
  simp only at x0 x1 x2 x3 x4 x5 x6
  have h0 : (0 : Int) ≤ (k : Int) := by omega
  have h1 : (k : Int) < (n : Int) := by omega
  have hb1 : b < w.heap.size + 1 := by omega
  have hb2 : b < w.heap.size + 1 + 1 := by omega
  have hg1 : dg < w.heap.size + 1 := by omega
  have hg2 : dg < w.heap.size + 1 + 1 := by omega
  have hg3 : dg < w.heap.size + 1 + 1 + 1 := by omega
  have hB0 : Below w.heap.size w w := Below.refl _ _
  go_enter Try.func22, Try.ntmps22
  go_wp2_with fail
  refine (ropn_call _ (ar) _ HAR.out).mono ?_
  rintro e1 w1 ⟨rfl, rfl⟩
  go_wp2_with fail
  refine (legal_call false b off n c k _ w _ hb (below_alloc (below_alloc (Below.refl _ _) _) _) hk hnc HX.out HL.out).mono ?_
  rintro e1 w1 ⟨rfl, rfl⟩
  go_wp2_with fail
  refine bodyPost_ret (v := .agg #[.int .i64 0, .int .i64 10]) (by simp [results, Try.results22, go_sem]) rfl ⟨rfl, ?_⟩
  exact below_alloc (below_alloc (Below.refl _ _) _) _


set_option maxRecDepth 100000 in
set_option maxHeartbeats 2000000 in
theorem rck_col_neg (aa : Int) (bb : Int) (col ck cn : Int) (cs : ByteArray) (b off n c k dg dn dc : Nat) (qa : Option Addr) (qn qc : Nat) (w : World) (hb : b < w.heap.size) (hg : dg < w.heap.size) (hk : k < n) (hnc : n ≤ 100000) (hdn : k < dn)
    (hx : ExAt w b (off + k * 7) ⟨2, aa, bb, col, ⟨ck, cn, cs⟩⟩) (hcol : col < 0) :
    Calls Try.prog 22 #[.slice (some ⟨b, off, none⟩) n c, .int .i64 k, .slice qa qn qc, .slice (some ⟨dg, 0, none⟩) dn dc] w fun e' w' => e' = .returned (.agg #[.int .i64 0, .int .i64 10]) ∧ Below w.heap.size w w' := by
  have HX := Lib.hid hx
  have HL := Lib.hid (show (!Xp.badIx ⟨2, aa, bb, col, ⟨ck, cn, cs⟩⟩ k) = true by unfold Xp.badIx Xp.lgl; simp [Xp.arity])
  obtain ⟨x0, x1, x2, x3, x4, x5, x6⟩ := hx
  simp only at x0 x1 x2 x3 x4 x5 x6
  have h0 : (0 : Int) ≤ (k : Int) := by omega
  have h1 : (k : Int) < (n : Int) := by omega
  have hb1 : b < w.heap.size + 1 := by omega
  have hb2 : b < w.heap.size + 1 + 1 := by omega
  have hg1 : dg < w.heap.size + 1 := by omega
  have hg2 : dg < w.heap.size + 1 + 1 := by omega
  have hg3 : dg < w.heap.size + 1 + 1 + 1 := by omega
  have hB0 : Below w.heap.size w w := Below.refl _ _
  go_enter Try.func22, Try.ntmps22
  go_wp2_with fail
  refine (ropn_call _ (0) _ rfl).mono ?_
  rintro e1 w1 ⟨rfl, rfl⟩
  go_wp2_with fail
  refine (legal_call true b off n c k _ w _ hb (below_alloc (below_alloc (Below.refl _ _) _) _) hk hnc HX.out HL.out).mono ?_
  rintro e1 w1 ⟨rfl, rfl⟩
  go_wp2_with fail
  refine bodyPost_ret (v := .agg #[.int .i64 0, .int .i64 10]) (by simp [results, Try.results22, go_sem]) rfl ⟨rfl, ?_⟩
  exact below_alloc (below_alloc (Below.refl _ _) _) _


set_option maxRecDepth 100000 in
set_option maxHeartbeats 2000000 in
theorem rck_col_big (aa : Int) (bb : Int) (col ck cn : Int) (cs : ByteArray) (b off n c k dg dn dc : Nat) (qa : Option Addr) (qn qc : Nat) (w : World) (hb : b < w.heap.size) (hg : dg < w.heap.size) (hk : k < n) (hnc : n ≤ 100000) (hdn : k < dn)
    (hx : ExAt w b (off + k * 7) ⟨2, aa, bb, col, ⟨ck, cn, cs⟩⟩) (hcol : (qn : Int) ≤ col ∧ 0 ≤ col) :
    Calls Try.prog 22 #[.slice (some ⟨b, off, none⟩) n c, .int .i64 k, .slice qa qn qc, .slice (some ⟨dg, 0, none⟩) dn dc] w fun e' w' => e' = .returned (.agg #[.int .i64 0, .int .i64 10]) ∧ Below w.heap.size w w' := by
  obtain ⟨hh1, hh2⟩ := hcol
  have HX := Lib.hid hx
  have HL := Lib.hid (show (!Xp.badIx ⟨2, aa, bb, col, ⟨ck, cn, cs⟩⟩ k) = true by unfold Xp.badIx Xp.lgl; simp [Xp.arity])
  obtain ⟨x0, x1, x2, x3, x4, x5, x6⟩ := hx
  simp only at x0 x1 x2 x3 x4 x5 x6
  have h0 : (0 : Int) ≤ (k : Int) := by omega
  have h1 : (k : Int) < (n : Int) := by omega
  have hb1 : b < w.heap.size + 1 := by omega
  have hb2 : b < w.heap.size + 1 + 1 := by omega
  have hg1 : dg < w.heap.size + 1 := by omega
  have hg2 : dg < w.heap.size + 1 + 1 := by omega
  have hg3 : dg < w.heap.size + 1 + 1 + 1 := by omega
  have hB0 : Below w.heap.size w w := Below.refl _ _
  go_enter Try.func22, Try.ntmps22
  go_wp2_with fail
  refine (ropn_call _ (0) _ rfl).mono ?_
  rintro e1 w1 ⟨rfl, rfl⟩
  go_wp2_with fail
  refine (legal_call true b off n c k _ w _ hb (below_alloc (below_alloc (Below.refl _ _) _) _) hk hnc HX.out HL.out).mono ?_
  rintro e1 w1 ⟨rfl, rfl⟩
  go_wp2_with fail
  refine bodyPost_ret (v := .agg #[.int .i64 0, .int .i64 10]) (by simp [results, Try.results22, go_sem]) rfl ⟨rfl, ?_⟩
  exact below_alloc (below_alloc (Below.refl _ _) _) _


set_option maxRecDepth 100000 in
set_option maxHeartbeats 2000000 in
theorem rck_col (aa : Int) (bb : Int) (ck cn : Int) (cs : ByteArray) (b off n c k dg dn dc : Nat) (x : Int) (j qb qo qn qc : Nat) (w : World) (hb : b < w.heap.size) (hg : dg < w.heap.size) (hk : k < n) (hnc : n ≤ 100000) (hdn : k < dn)
    (hx : ExAt w b (off + k * 7) ⟨2, aa, bb, (j : Int), ⟨ck, cn, cs⟩⟩) (hj : j < qn) (hqb : qb < w.heap.size) (hq : w.cell? ⟨qb, qo + j, none⟩ = some (.int .i64 x)) :
    Calls Try.prog 22 #[.slice (some ⟨b, off, none⟩) n c, .int .i64 k, .slice (some ⟨qb, qo, none⟩) qn qc, .slice (some ⟨dg, 0, none⟩) dn dc] w fun e' w' => e' = .returned (.agg #[.int .i64 x, .int .i64 0]) ∧ Below w.heap.size w w' := by
  have hqb1 : qb < w.heap.size + 1 := by omega
  have hqb2 : qb < w.heap.size + 1 + 1 := by omega
  have hj0 : (0 : Int) ≤ (j : Int) := by omega
  have hj1 : (j : Int) < (qn : Int) := by omega
  have hj2 : ¬ qn ≤ j := by omega
  have hj3 : decide (qn ≤ j) = false := decide_eq_false hj2
  have HX := Lib.hid hx
  have HL := Lib.hid (show (!Xp.badIx ⟨2, aa, bb, (j : Int), ⟨ck, cn, cs⟩⟩ k) = true by unfold Xp.badIx Xp.lgl; simp [Xp.arity])
  obtain ⟨x0, x1, x2, x3, x4, x5, x6⟩ := hx
  simp only at x0 x1 x2 x3 x4 x5 x6
  have h0 : (0 : Int) ≤ (k : Int) := by omega
  have h1 : (k : Int) < (n : Int) := by omega
  have hb1 : b < w.heap.size + 1 := by omega
  have hb2 : b < w.heap.size + 1 + 1 := by omega
  have hg1 : dg < w.heap.size + 1 := by omega
  have hg2 : dg < w.heap.size + 1 + 1 := by omega
  have hg3 : dg < w.heap.size + 1 + 1 + 1 := by omega
  have hB0 : Below w.heap.size w w := Below.refl _ _
  go_enter Try.func22, Try.ntmps22
  go_wp2_with fail
  refine (ropn_call _ (0) _ rfl).mono ?_
  rintro e1 w1 ⟨rfl, rfl⟩
  go_wp2_with fail
  refine (legal_call true b off n c k _ w _ hb (below_alloc (below_alloc (Below.refl _ _) _) _) hk hnc HX.out HL.out).mono ?_
  rintro e1 w1 ⟨rfl, rfl⟩
  go_wp2_with fail
  refine bodyPost_ret (v := .agg #[.int .i64 x, .int .i64 0]) (by simp [results, Try.results22, go_sem]) rfl ⟨rfl, ?_⟩
  exact below_alloc (below_alloc (Below.refl _ _) _) _


set_option maxRecDepth 100000 in
set_option maxHeartbeats 2000000 in
theorem rck_erra1 (op : Int) (bb : Int) (col ck cn : Int) (cs : ByteArray) (ka : Int) (xa : Int) (b off n c k dg dn dc ja : Nat) (cv : Value) (w : World) (hb : b < w.heap.size) (hg : dg < w.heap.size) (hk : k < n) (hnc : n ≤ 100000) (hdn : k < dn) (hja : ja < k)
    (hx : ExAt w b (off + k * 7) ⟨op, ja, bb, col, ⟨ck, cn, cs⟩⟩) (u0 : w.cell? ⟨dg, ja * 2, none⟩ = some (.int .i64 ka)) (u1 : w.cell? ⟨dg, ja * 2 + 1, none⟩ = some (.int .i64 xa)) (har : Xp.arity op = 1) (hop1 : op ≠ 1) (hop2 : op ≠ 2) (hxa : xa ≠ 0) :
    Calls Try.prog 22 #[.slice (some ⟨b, off, none⟩) n c, .int .i64 k, cv, .slice (some ⟨dg, 0, none⟩) dn dc] w fun e' w' => e' = .returned (.agg #[.int .i64 0, .int .i64 xa]) ∧ Below w.heap.size w w' := by
  have HAR := Lib.hid har
  have eop1 : (op == 1) = false := by simp; omega
  have eop2 : (op == 2) = false := by simp; omega
  have exa : (xa != 0) = true := by simp; exact hxa
  have HX := Lib.hid hx
  have HL := Lib.hid (show (!Xp.badIx ⟨op, ja, bb, col, ⟨ck, cn, cs⟩⟩ k) = true by unfold Xp.badIx Xp.lgl; simp [har, hja])
  obtain ⟨x0, x1, x2, x3, x4, x5, x6⟩ := hx
  simp only at x0 x1 x2 x3 x4 x5 x6
  clear har
  have h0 : (0 : Int) ≤ (k : Int) := by omega
  have h1 : (k : Int) < (n : Int) := by omega
  have h2ja : (0 : Int) ≤ (ja : Int) := by omega
  have h3ja : (ja : Int) < (dn : Int) := by omega
  have hb1 : b < w.heap.size + 1 := by omega
  have hb2 : b < w.heap.size + 1 + 1 := by omega
  have hg1 : dg < w.heap.size + 1 := by omega
  have hg2 : dg < w.heap.size + 1 + 1 := by omega
  have hg3 : dg < w.heap.size + 1 + 1 + 1 := by omega
  have hB0 : Below w.heap.size w w := Below.refl _ _
  go_enter Try.func22, Try.ntmps22
  go_wp2_with fail
  refine (ropn_call _ (1) _ HAR.out).mono ?_
  rintro e1 w1 ⟨rfl, rfl⟩
  go_wp2_with fail
  refine (legal_call true b off n c k _ w _ hb (below_alloc (below_alloc (Below.refl _ _) _) _) hk hnc HX.out HL.out).mono ?_
  rintro e1 w1 ⟨rfl, rfl⟩
  go_wp2_with fail
  refine bodyPost_ret (v := .agg #[.int .i64 0, .int .i64 xa]) (by simp [results, Try.results22, go_sem]) rfl ⟨rfl, ?_⟩
  exact below_alloc (below_alloc (Below.refl _ _) _) _


set_option maxRecDepth 100000 in
set_option maxHeartbeats 2000000 in
theorem rck_erra2 (op : Int) (col ck cn : Int) (cs : ByteArray) (ka : Int) (xa : Int) (kb : Int) (xb : Int) (b off n c k dg dn dc ja jb : Nat) (cv : Value) (w : World) (hb : b < w.heap.size) (hg : dg < w.heap.size) (hk : k < n) (hnc : n ≤ 100000) (hdn : k < dn) (hja : ja < k) (hjb : jb < k)
    (hx : ExAt w b (off + k * 7) ⟨op, ja, jb, col, ⟨ck, cn, cs⟩⟩) (u0 : w.cell? ⟨dg, ja * 2, none⟩ = some (.int .i64 ka)) (u1 : w.cell? ⟨dg, ja * 2 + 1, none⟩ = some (.int .i64 xa)) (v0 : w.cell? ⟨dg, jb * 2, none⟩ = some (.int .i64 kb)) (v1 : w.cell? ⟨dg, jb * 2 + 1, none⟩ = some (.int .i64 xb)) (har : Xp.arity op = 2) (hop1 : op ≠ 1) (hop2 : op ≠ 2) (hxa : xa ≠ 0) :
    Calls Try.prog 22 #[.slice (some ⟨b, off, none⟩) n c, .int .i64 k, cv, .slice (some ⟨dg, 0, none⟩) dn dc] w fun e' w' => e' = .returned (.agg #[.int .i64 0, .int .i64 xa]) ∧ Below w.heap.size w w' := by
  have HAR := Lib.hid har
  have eop1 : (op == 1) = false := by simp; omega
  have eop2 : (op == 2) = false := by simp; omega
  have exa : (xa != 0) = true := by simp; exact hxa
  have HX := Lib.hid hx
  have HL := Lib.hid (show (!Xp.badIx ⟨op, ja, jb, col, ⟨ck, cn, cs⟩⟩ k) = true by unfold Xp.badIx Xp.lgl; simp [har, hja, hjb])
  obtain ⟨x0, x1, x2, x3, x4, x5, x6⟩ := hx
  simp only at x0 x1 x2 x3 x4 x5 x6
  clear har
  have h0 : (0 : Int) ≤ (k : Int) := by omega
  have h1 : (k : Int) < (n : Int) := by omega
  have h2ja : (0 : Int) ≤ (ja : Int) := by omega
  have h3ja : (ja : Int) < (dn : Int) := by omega
  have h2jb : (0 : Int) ≤ (jb : Int) := by omega
  have h3jb : (jb : Int) < (dn : Int) := by omega
  have hb1 : b < w.heap.size + 1 := by omega
  have hb2 : b < w.heap.size + 1 + 1 := by omega
  have hg1 : dg < w.heap.size + 1 := by omega
  have hg2 : dg < w.heap.size + 1 + 1 := by omega
  have hg3 : dg < w.heap.size + 1 + 1 + 1 := by omega
  have hB0 : Below w.heap.size w w := Below.refl _ _
  go_enter Try.func22, Try.ntmps22
  go_wp2_with fail
  refine (ropn_call _ (2) _ HAR.out).mono ?_
  rintro e1 w1 ⟨rfl, rfl⟩
  go_wp2_with fail
  refine (legal_call true b off n c k _ w _ hb (below_alloc (below_alloc (Below.refl _ _) _) _) hk hnc HX.out HL.out).mono ?_
  rintro e1 w1 ⟨rfl, rfl⟩
  go_wp2_with fail
  refine bodyPost_ret (v := .agg #[.int .i64 0, .int .i64 xa]) (by simp [results, Try.results22, go_sem]) rfl ⟨rfl, ?_⟩
  exact below_alloc (below_alloc (Below.refl _ _) _) _


set_option maxRecDepth 100000 in
set_option maxHeartbeats 2000000 in
theorem rck_errb (op : Int) (col ck cn : Int) (cs : ByteArray) (ka : Int) (kb : Int) (xb : Int) (b off n c k dg dn dc ja jb : Nat) (cv : Value) (w : World) (hb : b < w.heap.size) (hg : dg < w.heap.size) (hk : k < n) (hnc : n ≤ 100000) (hdn : k < dn) (hja : ja < k) (hjb : jb < k)
    (hx : ExAt w b (off + k * 7) ⟨op, ja, jb, col, ⟨ck, cn, cs⟩⟩) (u0 : w.cell? ⟨dg, ja * 2, none⟩ = some (.int .i64 ka)) (u1 : w.cell? ⟨dg, ja * 2 + 1, none⟩ = some (.int .i64 0)) (v0 : w.cell? ⟨dg, jb * 2, none⟩ = some (.int .i64 kb)) (v1 : w.cell? ⟨dg, jb * 2 + 1, none⟩ = some (.int .i64 xb)) (har : Xp.arity op = 2) (hop1 : op ≠ 1) (hop2 : op ≠ 2) (hxb : xb ≠ 0) :
    Calls Try.prog 22 #[.slice (some ⟨b, off, none⟩) n c, .int .i64 k, cv, .slice (some ⟨dg, 0, none⟩) dn dc] w fun e' w' => e' = .returned (.agg #[.int .i64 0, .int .i64 xb]) ∧ Below w.heap.size w w' := by
  have HAR := Lib.hid har
  have eop1 : (op == 1) = false := by simp; omega
  have eop2 : (op == 2) = false := by simp; omega
  have exb : (xb != 0) = true := by simp; exact hxb
  have HX := Lib.hid hx
  have HL := Lib.hid (show (!Xp.badIx ⟨op, ja, jb, col, ⟨ck, cn, cs⟩⟩ k) = true by unfold Xp.badIx Xp.lgl; simp [har, hja, hjb])
  obtain ⟨x0, x1, x2, x3, x4, x5, x6⟩ := hx
  simp only at x0 x1 x2 x3 x4 x5 x6
  clear har
  have h0 : (0 : Int) ≤ (k : Int) := by omega
  have h1 : (k : Int) < (n : Int) := by omega
  have h2ja : (0 : Int) ≤ (ja : Int) := by omega
  have h3ja : (ja : Int) < (dn : Int) := by omega
  have h2jb : (0 : Int) ≤ (jb : Int) := by omega
  have h3jb : (jb : Int) < (dn : Int) := by omega
  have hb1 : b < w.heap.size + 1 := by omega
  have hb2 : b < w.heap.size + 1 + 1 := by omega
  have hg1 : dg < w.heap.size + 1 := by omega
  have hg2 : dg < w.heap.size + 1 + 1 := by omega
  have hg3 : dg < w.heap.size + 1 + 1 + 1 := by omega
  have hB0 : Below w.heap.size w w := Below.refl _ _
  go_enter Try.func22, Try.ntmps22
  go_wp2_with fail
  refine (ropn_call _ (2) _ HAR.out).mono ?_
  rintro e1 w1 ⟨rfl, rfl⟩
  go_wp2_with fail
  refine (legal_call true b off n c k _ w _ hb (below_alloc (below_alloc (Below.refl _ _) _) _) hk hnc HX.out HL.out).mono ?_
  rintro e1 w1 ⟨rfl, rfl⟩
  go_wp2_with fail
  refine bodyPost_ret (v := .agg #[.int .i64 0, .int .i64 xb]) (by simp [results, Try.results22, go_sem]) rfl ⟨rfl, ?_⟩
  exact below_alloc (below_alloc (Below.refl _ _) _) _

end Go.Proofs.Ytpgaldkedeohaaa
