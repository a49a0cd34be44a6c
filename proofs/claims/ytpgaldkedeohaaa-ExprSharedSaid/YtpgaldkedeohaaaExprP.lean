/-
  The reference's eval, operator by operator.
-/
import Derived.Test.YtpgaldkedeohaaaExprO
namespace Go.Proofs.Ytpgaldkedeohaaa
open Go.RowKit
set_option linter.unusedVariables false


set_option maxRecDepth 100000 in
set_option maxHeartbeats 2000000 in
theorem reval_low (op : Int) (aa : Int) (bb : Int) (col ck cn : Int) (cs : ByteArray) (b off n c k dg dn dc : Nat) (rv : Value) (w : World) (hb : b < w.heap.size) (hg : dg < w.heap.size) (hk : k < n) (hnc : n ≤ 100000) (hdn : k < dn)
    (hx : ExAt w b (off + k * 7) ⟨op, aa, bb, col, ⟨ck, cn, cs⟩⟩) (har : Xp.arity op = -1) :
    Calls Try.prog 26 #[.slice (some ⟨b, off, none⟩) n c, .int .i64 k, rv, .slice (some ⟨dg, 0, none⟩) dn dc] w fun e' w' => e' = .returned (Xp.zero.go) ∧ Below w.heap.size w w' := by
  have HAR := Lib.hid (show Xp.arity op = -1 from har)
  obtain ⟨ar, hare⟩ : ∃ ar : Int, ar = -1 := ⟨_, rfl⟩
  have HAR := Lib.hid (HAR.out.trans hare.symm)
  have har0 : ar < 0 := by omega
  clear har hare
  have HX := Lib.hid hx
  obtain ⟨x0, x1, x2, x3, x4, x5, x6⟩ := hx
  simp only at x0 x1 x2 x3 x4 x5 x6
  have h0 : (0 : Int) ≤ (k : Int) := by omega
  have h1 : (k : Int) < (n : Int) := by omega
  have hb1 : b < w.heap.size + 1 := by omega
  have hb2 : b < w.heap.size + 1 + 1 := by omega
  have hg1 : dg < w.heap.size + 1 := by omega
  have hg2 : dg < w.heap.size + 1 + 1 := by omega
  have hg3 : dg < w.heap.size + 1 + 1 + 1 := by omega
  have hB0 : Below w.heap.size w w := Below.refl _ _
  go_enter Try.func26, Try.ntmps26
  go_wp2_with fail
  refine (ropn_call _ ar _ HAR.out).mono ?_
  rintro e1 w1 ⟨rfl, rfl⟩
  go_wp2_with fail
  refine bodyPost_ret (v := .agg #[.int .i64 0, .int .i64 0, .string ⟨#[]⟩]) (by simp [results, Try.results26, go_sem]) rfl ⟨rfl, ?_⟩
  exact below_alloc (below_alloc (Below.refl _ _) _) _


set_option maxRecDepth 100000 in
set_option maxHeartbeats 2000000 in
theorem reval_bad (op : Int) (aa : Int) (bb : Int) (col ck cn : Int) (cs : ByteArray) (b off n c k dg dn dc : Nat) (rv : Value) (w : World) (hb : b < w.heap.size) (hg : dg < w.heap.size) (hk : k < n) (hnc : n ≤ 100000) (hdn : k < dn)
    (hx : ExAt w b (off + k * 7) ⟨op, aa, bb, col, ⟨ck, cn, cs⟩⟩) (har : 0 ≤ Xp.arity op) (hbad : Xp.badIx ⟨op, aa, bb, col, ⟨ck, cn, cs⟩⟩ k = true) :
    Calls Try.prog 26 #[.slice (some ⟨b, off, none⟩) n c, .int .i64 k, rv, .slice (some ⟨dg, 0, none⟩) dn dc] w fun e' w' => e' = .returned (Xp.zero.go) ∧ Below w.heap.size w w' := by
  obtain ⟨ar, hare⟩ : ∃ ar, Xp.arity op = ar := ⟨_, rfl⟩
  have HAR := Lib.hid hare
  rw [hare] at har
  have har1 : ¬ ar < 0 := by omega
  clear hare
  have HL := Lib.hid (show (!Xp.badIx ⟨op, aa, bb, col, ⟨ck, cn, cs⟩⟩ k) = false by rw [hbad]; rfl)
  clear hbad
  have HX := Lib.hid hx
  obtain ⟨x0, x1, x2, x3, x4, x5, x6⟩ := hx
  simp only at x0 x1 x2 x3 x4 x5 x6
  have h0 : (0 : Int) ≤ (k : Int) := by omega
  have h1 : (k : Int) < (n : Int) := by omega
  have hb1 : b < w.heap.size + 1 := by omega
  have hb2 : b < w.heap.size + 1 + 1 := by omega
  have hg1 : dg < w.heap.size + 1 := by omega
  have hg2 : dg < w.heap.size + 1 + 1 := by omega
  have hg3 : dg < w.heap.size + 1 + 1 + 1 := by omega
  have hB0 : Below w.heap.size w w := Below.refl _ _
  go_enter Try.func26, Try.ntmps26
  go_wp2_with fail
  refine (ropn_call _ ar _ HAR.out).mono ?_
  rintro e1 w1 ⟨rfl, rfl⟩
  go_wp2_with fail
  refine (legal_call false b off n c k _ w _ hb (below_alloc (below_alloc (Below.refl _ _) _) _) hk hnc HX.out HL.out).mono ?_
  rintro e1 w1 ⟨rfl, rfl⟩
  go_wp2_with fail
  refine bodyPost_ret (v := .agg #[.int .i64 0, .int .i64 0, .string ⟨#[]⟩]) (by simp [results, Try.results26, go_sem]) rfl ⟨rfl, ?_⟩
  exact below_alloc (below_alloc (Below.refl _ _) _) _


set_option maxRecDepth 100000 in
set_option maxHeartbeats 2000000 in
theorem reval_const (aa : Int) (bb : Int) (col ck cn : Int) (cs : ByteArray) (b off n c k dg dn dc : Nat) (rv : Value) (w : World) (hb : b < w.heap.size) (hg : dg < w.heap.size) (hk : k < n) (hnc : n ≤ 100000) (hdn : k < dn)
    (hx : ExAt w b (off + k * 7) ⟨1, aa, bb, col, ⟨ck, cn, cs⟩⟩) :
    Calls Try.prog 26 #[.slice (some ⟨b, off, none⟩) n c, .int .i64 k, rv, .slice (some ⟨dg, 0, none⟩) dn dc] w fun e' w' => e' = .returned (.agg #[.int .i64 ck, .int .i64 cn, .string cs]) ∧ Below w.heap.size w w' := by
  have HX := Lib.hid hx
  have HL := Lib.hid (show (!Xp.badIx ⟨1, aa, bb, col, ⟨ck, cn, cs⟩⟩ k) = true by unfold Xp.badIx Xp.lgl; simp [Xp.arity])
  obtain ⟨x0, x1, x2, x3, x4, x5, x6⟩ := hx
  simp only at x0 x1 x2 x3 x4 x5 x6
  have h0 : (0 : Int) ≤ (k : Int) := by omega
  have h1 : (k : Int) < (n : Int) := by omega
  have hb1 : b < w.heap.size + 1 := by omega
  have hb2 : b < w.heap.size + 1 + 1 := by omega
  have hg1 : dg < w.heap.size + 1 := by omega
  have hg2 : dg < w.heap.size + 1 + 1 := by omega
  have hg3 : dg < w.heap.size + 1 + 1 + 1 := by omega
  have hB0 : Below w.heap.size w w := Below.refl _ _
  go_enter Try.func26, Try.ntmps26
  go_wp2_with fail
  refine (ropn_call _ 0 _ rfl).mono ?_
  rintro e1 w1 ⟨rfl, rfl⟩
  go_wp2_with fail
  refine (legal_call true b off n c k _ w _ hb (below_alloc (below_alloc (Below.refl _ _) _) _) hk hnc HX.out HL.out).mono ?_
  rintro e1 w1 ⟨rfl, rfl⟩
  go_wp2_with fail
  refine bodyPost_ret (v := .agg #[.int .i64 ck, .int .i64 cn, .string cs]) (by simp [results, Try.results26, go_sem]) rfl ⟨rfl, ?_⟩
  exact below_alloc (below_alloc (below_alloc (below_alloc (Below.refl _ _) _) _) _) _


set_option maxRecDepth 100000 in
set_option maxHeartbeats 2000000 in
theorem reval_col_neg (aa : Int) (bb : Int) (col ck cn : Int) (cs : ByteArray) (b off n c k dg dn dc : Nat) (ra : Option Addr) (rn rc : Nat) (w : World) (hb : b < w.heap.size) (hg : dg < w.heap.size) (hk : k < n) (hnc : n ≤ 100000) (hdn : k < dn)
    (hx : ExAt w b (off + k * 7) ⟨2, aa, bb, col, ⟨ck, cn, cs⟩⟩) (hcol : col < 0) :
    Calls Try.prog 26 #[.slice (some ⟨b, off, none⟩) n c, .int .i64 k, .slice ra rn rc, .slice (some ⟨dg, 0, none⟩) dn dc] w fun e' w' => e' = .returned (Xp.zero.go) ∧ Below w.heap.size w w' := by
  have HX := Lib.hid hx
  have HL := Lib.hid (show (!Xp.badIx ⟨2, aa, bb, col, ⟨ck, cn, cs⟩⟩ k) = true by unfold Xp.badIx Xp.lgl; simp [Xp.arity])
  obtain ⟨x0, x1, x2, x3, x4, x5, x6⟩ := hx
  simp only at x0 x1 x2 x3 x4 x5 x6
  have h0 : (0 : Int) ≤ (k : Int) := by omega
  have h1 : (k : Int) < (n : Int) := by omega
  have hb1 : b < w.heap.size + 1 := by omega
  have hb2 : b < w.heap.size + 1 + 1 := by omega
  have hg1 : dg < w.heap.size + 1 := by omega
  have hg2 : dg < w.heap.size + 1 + 1 := by omega
  have hg3 : dg < w.heap.size + 1 + 1 + 1 := by omega
  have hB0 : Below w.heap.size w w := Below.refl _ _
  go_enter Try.func26, Try.ntmps26
  go_wp2_with fail
  refine (ropn_call _ 0 _ rfl).mono ?_
  rintro e1 w1 ⟨rfl, rfl⟩
  go_wp2_with fail
  refine (legal_call true b off n c k _ w _ hb (below_alloc (below_alloc (Below.refl _ _) _) _) hk hnc HX.out HL.out).mono ?_
  rintro e1 w1 ⟨rfl, rfl⟩
  go_wp2_with fail
  refine bodyPost_ret (v := .agg #[.int .i64 0, .int .i64 0, .string ⟨#[]⟩]) (by simp [results, Try.results26, go_sem]) rfl ⟨rfl, ?_⟩
  exact below_alloc (below_alloc (below_alloc (below_alloc (Below.refl _ _) _) _) _) _


set_option maxRecDepth 100000 in
set_option maxHeartbeats 2000000 in
theorem reval_col_big (aa : Int) (bb : Int) (col ck cn : Int) (cs : ByteArray) (b off n c k dg dn dc : Nat) (ra : Option Addr) (rn rc : Nat) (w : World) (hb : b < w.heap.size) (hg : dg < w.heap.size) (hk : k < n) (hnc : n ≤ 100000) (hdn : k < dn)
    (hx : ExAt w b (off + k * 7) ⟨2, aa, bb, col, ⟨ck, cn, cs⟩⟩) (hcol : (rn : Int) ≤ col ∧ 0 ≤ col) :
    Calls Try.prog 26 #[.slice (some ⟨b, off, none⟩) n c, .int .i64 k, .slice ra rn rc, .slice (some ⟨dg, 0, none⟩) dn dc] w fun e' w' => e' = .returned (Xp.zero.go) ∧ Below w.heap.size w w' := by
  obtain ⟨hh1, hh2⟩ := hcol
  have HX := Lib.hid hx
  have HL := Lib.hid (show (!Xp.badIx ⟨2, aa, bb, col, ⟨ck, cn, cs⟩⟩ k) = true by unfold Xp.badIx Xp.lgl; simp [Xp.arity])
  obtain ⟨x0, x1, x2, x3, x4, x5, x6⟩ := hx
  simp only at x0 x1 x2 x3 x4 x5 x6
  have h0 : (0 : Int) ≤ (k : Int) := by omega
  have h1 : (k : Int) < (n : Int) := by omega
  have hb1 : b < w.heap.size + 1 := by omega
  have hb2 : b < w.heap.size + 1 + 1 := by omega
  have hg1 : dg < w.heap.size + 1 := by omega
  have hg2 : dg < w.heap.size + 1 + 1 := by omega
  have hg3 : dg < w.heap.size + 1 + 1 + 1 := by omega
  have hB0 : Below w.heap.size w w := Below.refl _ _
  go_enter Try.func26, Try.ntmps26
  go_wp2_with fail
  refine (ropn_call _ 0 _ rfl).mono ?_
  rintro e1 w1 ⟨rfl, rfl⟩
  go_wp2_with fail
  refine (legal_call true b off n c k _ w _ hb (below_alloc (below_alloc (Below.refl _ _) _) _) hk hnc HX.out HL.out).mono ?_
  rintro e1 w1 ⟨rfl, rfl⟩
  go_wp2_with fail
  refine bodyPost_ret (v := .agg #[.int .i64 0, .int .i64 0, .string ⟨#[]⟩]) (by simp [results, Try.results26, go_sem]) rfl ⟨rfl, ?_⟩
  exact below_alloc (below_alloc (below_alloc (below_alloc (Below.refl _ _) _) _) _) _


set_option maxRecDepth 100000 in
set_option maxHeartbeats 2000000 in
theorem reval_col (aa : Int) (bb : Int) (ck cn : Int) (cs : ByteArray) (b off n c k dg dn dc : Nat) (k1 n1 : Int) (s1 : ByteArray) (j rb ro rn rc : Nat) (w : World) (hb : b < w.heap.size) (hg : dg < w.heap.size) (hk : k < n) (hnc : n ≤ 100000) (hdn : k < dn)
    (hx : ExAt w b (off + k * 7) ⟨2, aa, bb, (j : Int), ⟨ck, cn, cs⟩⟩) (hj : j < rn) (hrb : rb < w.heap.size) (hrow : VlAt w rb (ro + j * 3) ⟨k1, n1, s1⟩) :
    Calls Try.prog 26 #[.slice (some ⟨b, off, none⟩) n c, .int .i64 k, .slice (some ⟨rb, ro, none⟩) rn rc, .slice (some ⟨dg, 0, none⟩) dn dc] w fun e' w' => e' = .returned (.agg #[.int .i64 k1, .int .i64 n1, .string s1]) ∧ Below w.heap.size w w' := by
  obtain ⟨d0, d1, d2⟩ := hrow
  simp only at d0 d1 d2
  have hrb1 : rb < w.heap.size + 1 := by omega
  have hrb2 : rb < w.heap.size + 1 + 1 := by omega
  have hrb3 : rb < w.heap.size + 1 + 1 + 1 := by omega
  have hrb4 : rb < w.heap.size + 1 + 1 + 1 + 1 := by omega
  have hj0 : (0 : Int) ≤ (j : Int) := by omega
  have hj1 : (j : Int) < (rn : Int) := by omega
  have hj2 : ¬ rn ≤ j := by omega
  have hj3 : decide (rn ≤ j) = false := decide_eq_false hj2
  have HX := Lib.hid hx
  have HL := Lib.hid (show (!Xp.badIx ⟨2, aa, bb, (j : Int), ⟨ck, cn, cs⟩⟩ k) = true by unfold Xp.badIx Xp.lgl; simp [Xp.arity])
  obtain ⟨x0, x1, x2, x3, x4, x5, x6⟩ := hx
  simp only at x0 x1 x2 x3 x4 x5 x6
  have h0 : (0 : Int) ≤ (k : Int) := by omega
  have h1 : (k : Int) < (n : Int) := by omega
  have hb1 : b < w.heap.size + 1 := by omega
  have hb2 : b < w.heap.size + 1 + 1 := by omega
  have hg1 : dg < w.heap.size + 1 := by omega
  have hg2 : dg < w.heap.size + 1 + 1 := by omega
  have hg3 : dg < w.heap.size + 1 + 1 + 1 := by omega
  have hB0 : Below w.heap.size w w := Below.refl _ _
  go_enter Try.func26, Try.ntmps26
  go_wp2_with fail
  refine (ropn_call _ 0 _ rfl).mono ?_
  rintro e1 w1 ⟨rfl, rfl⟩
  go_wp2_with fail
  refine (legal_call true b off n c k _ w _ hb (below_alloc (below_alloc (Below.refl _ _) _) _) hk hnc HX.out HL.out).mono ?_
  rintro e1 w1 ⟨rfl, rfl⟩
  go_wp2_with fail
  refine bodyPost_ret (v := .agg #[.int .i64 k1, .int .i64 n1, .string s1]) (by simp [results, Try.results26, go_sem]) rfl ⟨rfl, ?_⟩
  exact below_alloc (below_alloc (below_alloc (below_alloc (Below.refl _ _) _) _) _) _


set_option maxRecDepth 100000 in
set_option maxHeartbeats 2000000 in
theorem reval_add (col ck cn : Int) (cs : ByteArray) (k1 n1 : Int) (s1 : ByteArray) (k2 n2 : Int) (s2 : ByteArray) (b off n c k dg dn dc ja jb : Nat) (rv : Value) (w : World) (hb : b < w.heap.size) (hg : dg < w.heap.size) (hk : k < n) (hnc : n ≤ 100000) (hdn : k < dn) (hja : ja < k) (hjb : jb < k)
    (hx : ExAt w b (off + k * 7) ⟨3, ja, jb, col, ⟨ck, cn, cs⟩⟩) (hva : VlAt w dg (ja * 3) ⟨k1, n1, s1⟩) (hvb : VlAt w dg (jb * 3) ⟨k2, n2, s2⟩) (w1 : -9223372036854775808 ≤ n1) (w2 : n1 ≤ 9223372036854775807) (w3 : -9223372036854775808 ≤ n2) (w4 : n2 ≤ 9223372036854775807) :
    Calls Try.prog 26 #[.slice (some ⟨b, off, none⟩) n c, .int .i64 k, rv, .slice (some ⟨dg, 0, none⟩) dn dc] w fun e' w' => e' = .returned ((Xp.arith 3 ⟨k1, n1, s1⟩ ⟨k2, n2, s2⟩).go) ∧ Below w.heap.size w w' := by
  obtain ⟨rk, rn, rs, hr⟩ : ∃ rk rn rs, Xp.arith 3 ⟨k1, n1, s1⟩ ⟨k2, n2, s2⟩ = ⟨rk, rn, rs⟩ := ⟨_, _, _, rfl⟩
  rw [hr]
  have HR := Lib.hid hr
  clear hr
  generalize hV : (Vl.mk rk rn rs).go = V
  have HV := Lib.hid hV
  clear hV
  have HX := Lib.hid hx
  have HL := Lib.hid (show (!Xp.badIx ⟨3, ja, jb, col, ⟨ck, cn, cs⟩⟩ k) = true by unfold Xp.badIx Xp.lgl; simp [hja, hjb])
  obtain ⟨x0, x1, x2, x3, x4, x5, x6⟩ := hx
  simp only at x0 x1 x2 x3 x4 x5 x6
  obtain ⟨u0, u1, u2⟩ := hva
  simp only at u0 u1 u2
  obtain ⟨v0, v1, v2⟩ := hvb
  simp only at v0 v1 v2
  have h0 : (0 : Int) ≤ (k : Int) := by omega
  have h1 : (k : Int) < (n : Int) := by omega
  have h2ja : (0 : Int) ≤ (ja : Int) := by omega
  have h3ja : (ja : Int) < (dn : Int) := by omega
  have h2jb : (0 : Int) ≤ (jb : Int) := by omega
  have h3jb : (jb : Int) < (dn : Int) := by omega
  have hb1 : b < w.heap.size + 1 := by omega
  have hb2 : b < w.heap.size + 1 + 1 := by omega
  have hg1 : dg < w.heap.size + 1 := by omega
  have hg2 : dg < w.heap.size + 1 + 1 := by omega
  have hg3 : dg < w.heap.size + 1 + 1 + 1 := by omega
  have hB0 : Below w.heap.size w w := Below.refl _ _
  go_enter Try.func26, Try.ntmps26
  go_wp2_with fail
  refine (ropn_call _ 2 _ rfl).mono ?_
  rintro e1 w1 ⟨rfl, rfl⟩
  go_wp2_with fail
  refine (legal_call true b off n c k _ w _ hb (below_alloc (below_alloc (Below.refl _ _) _) _) hk hnc HX.out HL.out).mono ?_
  rintro e1 w1 ⟨rfl, rfl⟩
  go_wp2_with fail
  have hB0' : Below w.heap.size w ((((w.alloc (.cells #[.int .i64 0, .int .i64 0, .string ⟨#[]⟩] 34)).alloc (.cells #[.int .i64 3, .int .i64 ja, .int .i64 jb, .int .i64 col, .int .i64 ck, .int .i64 cn, .string cs] 44)).alloc (.cells #[.int .i64 k1, .int .i64 n1, .string s1] 34)).alloc (.cells #[.int .i64 k2, .int .i64 n2, .string s2] 34)) := below_alloc (below_alloc (below_alloc (below_alloc (Below.refl _ _) _) _) _) _
  have hn0 : ((((w.alloc (.cells #[.int .i64 0, .int .i64 0, .string ⟨#[]⟩] 34)).alloc (.cells #[.int .i64 3, .int .i64 ja, .int .i64 jb, .int .i64 col, .int .i64 ck, .int .i64 cn, .string cs] 44)).alloc (.cells #[.int .i64 k1, .int .i64 n1, .string s1] 34)).alloc (.cells #[.int .i64 k2, .int .i64 n2, .string s2] 34)).cell? ⟨w.heap.size, 0, none⟩ = some (.int .i64 0) := by go_simp
  have hn1 : ((((w.alloc (.cells #[.int .i64 0, .int .i64 0, .string ⟨#[]⟩] 34)).alloc (.cells #[.int .i64 3, .int .i64 ja, .int .i64 jb, .int .i64 col, .int .i64 ck, .int .i64 cn, .string cs] 44)).alloc (.cells #[.int .i64 k1, .int .i64 n1, .string s1] 34)).alloc (.cells #[.int .i64 k2, .int .i64 n2, .string s2] 34)).cell? ⟨w.heap.size, 1, none⟩ = some (.int .i64 0) := by go_simp
  have hn2 : ((((w.alloc (.cells #[.int .i64 0, .int .i64 0, .string ⟨#[]⟩] 34)).alloc (.cells #[.int .i64 3, .int .i64 ja, .int .i64 jb, .int .i64 col, .int .i64 ck, .int .i64 cn, .string cs] 44)).alloc (.cells #[.int .i64 k1, .int .i64 n1, .string s1] 34)).alloc (.cells #[.int .i64 k2, .int .i64 n2, .string s2] 34)).cell? ⟨w.heap.size, 2, none⟩ = some (.string ⟨#[]⟩) := by go_simp
  have hn3 : ((((w.alloc (.cells #[.int .i64 0, .int .i64 0, .string ⟨#[]⟩] 34)).alloc (.cells #[.int .i64 3, .int .i64 ja, .int .i64 jb, .int .i64 col, .int .i64 ck, .int .i64 cn, .string cs] 44)).alloc (.cells #[.int .i64 k1, .int .i64 n1, .string s1] 34)).alloc (.cells #[.int .i64 k2, .int .i64 n2, .string s2] 34)).cell? ⟨w.heap.size + 1, 0, none⟩ = some (.int .i64 3) := by go_simp
  have hn4 : ((((w.alloc (.cells #[.int .i64 0, .int .i64 0, .string ⟨#[]⟩] 34)).alloc (.cells #[.int .i64 3, .int .i64 ja, .int .i64 jb, .int .i64 col, .int .i64 ck, .int .i64 cn, .string cs] 44)).alloc (.cells #[.int .i64 k1, .int .i64 n1, .string s1] 34)).alloc (.cells #[.int .i64 k2, .int .i64 n2, .string s2] 34)).cell? ⟨w.heap.size + 1 + 1, 0, none⟩ = some (.int .i64 k1) := by go_simp
  have hn5 : ((((w.alloc (.cells #[.int .i64 0, .int .i64 0, .string ⟨#[]⟩] 34)).alloc (.cells #[.int .i64 3, .int .i64 ja, .int .i64 jb, .int .i64 col, .int .i64 ck, .int .i64 cn, .string cs] 44)).alloc (.cells #[.int .i64 k1, .int .i64 n1, .string s1] 34)).alloc (.cells #[.int .i64 k2, .int .i64 n2, .string s2] 34)).cell? ⟨w.heap.size + 1 + 1, 1, none⟩ = some (.int .i64 n1) := by go_simp
  have hn6 : ((((w.alloc (.cells #[.int .i64 0, .int .i64 0, .string ⟨#[]⟩] 34)).alloc (.cells #[.int .i64 3, .int .i64 ja, .int .i64 jb, .int .i64 col, .int .i64 ck, .int .i64 cn, .string cs] 44)).alloc (.cells #[.int .i64 k1, .int .i64 n1, .string s1] 34)).alloc (.cells #[.int .i64 k2, .int .i64 n2, .string s2] 34)).cell? ⟨w.heap.size + 1 + 1, 2, none⟩ = some (.string s1) := by go_simp
  have hn7 : ((((w.alloc (.cells #[.int .i64 0, .int .i64 0, .string ⟨#[]⟩] 34)).alloc (.cells #[.int .i64 3, .int .i64 ja, .int .i64 jb, .int .i64 col, .int .i64 ck, .int .i64 cn, .string cs] 44)).alloc (.cells #[.int .i64 k1, .int .i64 n1, .string s1] 34)).alloc (.cells #[.int .i64 k2, .int .i64 n2, .string s2] 34)).cell? ⟨w.heap.size + 1 + 1 + 1, 0, none⟩ = some (.int .i64 k2) := by go_simp
  have hn8 : ((((w.alloc (.cells #[.int .i64 0, .int .i64 0, .string ⟨#[]⟩] 34)).alloc (.cells #[.int .i64 3, .int .i64 ja, .int .i64 jb, .int .i64 col, .int .i64 ck, .int .i64 cn, .string cs] 44)).alloc (.cells #[.int .i64 k1, .int .i64 n1, .string s1] 34)).alloc (.cells #[.int .i64 k2, .int .i64 n2, .string s2] 34)).cell? ⟨w.heap.size + 1 + 1 + 1, 1, none⟩ = some (.int .i64 n2) := by go_simp
  have hn9 : ((((w.alloc (.cells #[.int .i64 0, .int .i64 0, .string ⟨#[]⟩] 34)).alloc (.cells #[.int .i64 3, .int .i64 ja, .int .i64 jb, .int .i64 col, .int .i64 ck, .int .i64 cn, .string cs] 44)).alloc (.cells #[.int .i64 k1, .int .i64 n1, .string s1] 34)).alloc (.cells #[.int .i64 k2, .int .i64 n2, .string s2] 34)).cell? ⟨w.heap.size + 1 + 1 + 1, 2, none⟩ = some (.string s2) := by go_simp
  have hnf0 : ((((w.alloc (.cells #[.int .i64 0, .int .i64 0, .string ⟨#[]⟩] 34)).alloc (.cells #[.int .i64 3, .int .i64 ja, .int .i64 jb, .int .i64 col, .int .i64 ck, .int .i64 cn, .string cs] 44)).alloc (.cells #[.int .i64 k1, .int .i64 n1, .string s1] 34)).alloc (.cells #[.int .i64 k2, .int .i64 n2, .string s2] 34)).frozen? ⟨w.heap.size, 0, none⟩ = false := by go_simp
  have hnf1 : ((((w.alloc (.cells #[.int .i64 0, .int .i64 0, .string ⟨#[]⟩] 34)).alloc (.cells #[.int .i64 3, .int .i64 ja, .int .i64 jb, .int .i64 col, .int .i64 ck, .int .i64 cn, .string cs] 44)).alloc (.cells #[.int .i64 k1, .int .i64 n1, .string s1] 34)).alloc (.cells #[.int .i64 k2, .int .i64 n2, .string s2] 34)).frozen? ⟨w.heap.size, 1, none⟩ = false := by go_simp
  have hnf2 : ((((w.alloc (.cells #[.int .i64 0, .int .i64 0, .string ⟨#[]⟩] 34)).alloc (.cells #[.int .i64 3, .int .i64 ja, .int .i64 jb, .int .i64 col, .int .i64 ck, .int .i64 cn, .string cs] 44)).alloc (.cells #[.int .i64 k1, .int .i64 n1, .string s1] 34)).alloc (.cells #[.int .i64 k2, .int .i64 n2, .string s2] 34)).frozen? ⟨w.heap.size, 2, none⟩ = false := by go_simp
  have hsz0 : ((((w.alloc (.cells #[.int .i64 0, .int .i64 0, .string ⟨#[]⟩] 34)).alloc (.cells #[.int .i64 3, .int .i64 ja, .int .i64 jb, .int .i64 col, .int .i64 ck, .int .i64 cn, .string cs] 44)).alloc (.cells #[.int .i64 k1, .int .i64 n1, .string s1] 34)).alloc (.cells #[.int .i64 k2, .int .i64 n2, .string s2] 34)).heap.size = w.heap.size + 4 := by simp only [World.size_alloc]
  generalize hw0 : ((((w.alloc (.cells #[.int .i64 0, .int .i64 0, .string ⟨#[]⟩] 34)).alloc (.cells #[.int .i64 3, .int .i64 ja, .int .i64 jb, .int .i64 col, .int .i64 ck, .int .i64 cn, .string cs] 44)).alloc (.cells #[.int .i64 k1, .int .i64 n1, .string s1] 34)).alloc (.cells #[.int .i64 k2, .int .i64 n2, .string s2] 34)) = w0 at *
  clear hw0
  have hq0 : w.heap.size < w0.heap.size := by omega
  have hr0 : w.heap.size ≤ w0.heap.size := by omega
  have hq1 : w.heap.size + 1 < w0.heap.size := by omega
  have hr1 : w.heap.size + 1 ≤ w0.heap.size := by omega
  have hq2 : w.heap.size + 1 + 1 < w0.heap.size := by omega
  have hr2 : w.heap.size + 1 + 1 ≤ w0.heap.size := by omega
  have hq3 : w.heap.size + 1 + 1 + 1 < w0.heap.size := by omega
  have hr3 : w.heap.size + 1 + 1 + 1 ≤ w0.heap.size := by omega
  clear hsz0
  refine (ref_arith_call _ _ _ _ _ _ _ rk rn rs _ (by omega) HR.out w1 w2 w3 w4).mono ?_
  rintro e w1 ⟨rfl, hb1⟩
  have hB1 : Below w.heap.size w w1 := below_chain (hB0') hb1
  have hz1 := hb1.size
  have hl1_0 : w.heap.size < w1.heap.size := by omega
  have hm1_0 : w.heap.size ≤ w1.heap.size := by omega
  have hl1_1 : w.heap.size + 1 < w1.heap.size := by omega
  have hm1_1 : w.heap.size + 1 ≤ w1.heap.size := by omega
  have hl1_2 : w.heap.size + 1 + 1 < w1.heap.size := by omega
  have hm1_2 : w.heap.size + 1 + 1 ≤ w1.heap.size := by omega
  have hl1_3 : w.heap.size + 1 + 1 + 1 < w1.heap.size := by omega
  have hm1_3 : w.heap.size + 1 + 1 + 1 ≤ w1.heap.size := by omega
  obtain ⟨hc1, hf1⟩ := bcell hb1
  clear hb1
  go_wp2_with fail
  have sc := two_ops (w := w1) (B := w.heap.size) (a := .int .i64 0) (b := .int .i64 0) (c := .string ⟨#[]⟩) (by go_simp) (by go_simp) (by go_simp) (.int .i64 rk) (.int .i64 rn) (.string rs)
  obtain ⟨sc0, sc1, sc2⟩ := sc
  refine bodyPost_ret (v := .agg #[.int .i64 rk, .int .i64 rn, .string rs]) (by simp [sc0, sc1, sc2, results, Try.results26, go_sem]) rfl ⟨by rw [← HV.out]; rfl, ?_⟩
  exact (((hB1).setCell (by simp) _).setCell (by simp) _).setCell (by simp) _


set_option maxRecDepth 100000 in
set_option maxHeartbeats 2000000 in
theorem reval_sub (col ck cn : Int) (cs : ByteArray) (k1 n1 : Int) (s1 : ByteArray) (k2 n2 : Int) (s2 : ByteArray) (b off n c k dg dn dc ja jb : Nat) (rv : Value) (w : World) (hb : b < w.heap.size) (hg : dg < w.heap.size) (hk : k < n) (hnc : n ≤ 100000) (hdn : k < dn) (hja : ja < k) (hjb : jb < k)
    (hx : ExAt w b (off + k * 7) ⟨4, ja, jb, col, ⟨ck, cn, cs⟩⟩) (hva : VlAt w dg (ja * 3) ⟨k1, n1, s1⟩) (hvb : VlAt w dg (jb * 3) ⟨k2, n2, s2⟩) (w1 : -9223372036854775808 ≤ n1) (w2 : n1 ≤ 9223372036854775807) (w3 : -9223372036854775808 ≤ n2) (w4 : n2 ≤ 9223372036854775807) :
    Calls Try.prog 26 #[.slice (some ⟨b, off, none⟩) n c, .int .i64 k, rv, .slice (some ⟨dg, 0, none⟩) dn dc] w fun e' w' => e' = .returned ((Xp.arith 4 ⟨k1, n1, s1⟩ ⟨k2, n2, s2⟩).go) ∧ Below w.heap.size w w' := by
  obtain ⟨rk, rn, rs, hr⟩ : ∃ rk rn rs, Xp.arith 4 ⟨k1, n1, s1⟩ ⟨k2, n2, s2⟩ = ⟨rk, rn, rs⟩ := ⟨_, _, _, rfl⟩
  rw [hr]
  have HR := Lib.hid hr
  clear hr
  generalize hV : (Vl.mk rk rn rs).go = V
  have HV := Lib.hid hV
  clear hV
  have HX := Lib.hid hx
  have HL := Lib.hid (show (!Xp.badIx ⟨4, ja, jb, col, ⟨ck, cn, cs⟩⟩ k) = true by unfold Xp.badIx Xp.lgl; simp [hja, hjb])
  obtain ⟨x0, x1, x2, x3, x4, x5, x6⟩ := hx
  simp only at x0 x1 x2 x3 x4 x5 x6
  obtain ⟨u0, u1, u2⟩ := hva
  simp only at u0 u1 u2
  obtain ⟨v0, v1, v2⟩ := hvb
  simp only at v0 v1 v2
  have h0 : (0 : Int) ≤ (k : Int) := by omega
  have h1 : (k : Int) < (n : Int) := by omega
  have h2ja : (0 : Int) ≤ (ja : Int) := by omega
  have h3ja : (ja : Int) < (dn : Int) := by omega
  have h2jb : (0 : Int) ≤ (jb : Int) := by omega
  have h3jb : (jb : Int) < (dn : Int) := by omega
  have hb1 : b < w.heap.size + 1 := by omega
  have hb2 : b < w.heap.size + 1 + 1 := by omega
  have hg1 : dg < w.heap.size + 1 := by omega
  have hg2 : dg < w.heap.size + 1 + 1 := by omega
  have hg3 : dg < w.heap.size + 1 + 1 + 1 := by omega
  have hB0 : Below w.heap.size w w := Below.refl _ _
  go_enter Try.func26, Try.ntmps26
  go_wp2_with fail
  refine (ropn_call _ 2 _ rfl).mono ?_
  rintro e1 w1 ⟨rfl, rfl⟩
  go_wp2_with fail
  refine (legal_call true b off n c k _ w _ hb (below_alloc (below_alloc (Below.refl _ _) _) _) hk hnc HX.out HL.out).mono ?_
  rintro e1 w1 ⟨rfl, rfl⟩
  go_wp2_with fail
  have hB0' : Below w.heap.size w ((((w.alloc (.cells #[.int .i64 0, .int .i64 0, .string ⟨#[]⟩] 34)).alloc (.cells #[.int .i64 4, .int .i64 ja, .int .i64 jb, .int .i64 col, .int .i64 ck, .int .i64 cn, .string cs] 44)).alloc (.cells #[.int .i64 k1, .int .i64 n1, .string s1] 34)).alloc (.cells #[.int .i64 k2, .int .i64 n2, .string s2] 34)) := below_alloc (below_alloc (below_alloc (below_alloc (Below.refl _ _) _) _) _) _
  have hn0 : ((((w.alloc (.cells #[.int .i64 0, .int .i64 0, .string ⟨#[]⟩] 34)).alloc (.cells #[.int .i64 4, .int .i64 ja, .int .i64 jb, .int .i64 col, .int .i64 ck, .int .i64 cn, .string cs] 44)).alloc (.cells #[.int .i64 k1, .int .i64 n1, .string s1] 34)).alloc (.cells #[.int .i64 k2, .int .i64 n2, .string s2] 34)).cell? ⟨w.heap.size, 0, none⟩ = some (.int .i64 0) := by go_simp
  have hn1 : ((((w.alloc (.cells #[.int .i64 0, .int .i64 0, .string ⟨#[]⟩] 34)).alloc (.cells #[.int .i64 4, .int .i64 ja, .int .i64 jb, .int .i64 col, .int .i64 ck, .int .i64 cn, .string cs] 44)).alloc (.cells #[.int .i64 k1, .int .i64 n1, .string s1] 34)).alloc (.cells #[.int .i64 k2, .int .i64 n2, .string s2] 34)).cell? ⟨w.heap.size, 1, none⟩ = some (.int .i64 0) := by go_simp
  have hn2 : ((((w.alloc (.cells #[.int .i64 0, .int .i64 0, .string ⟨#[]⟩] 34)).alloc (.cells #[.int .i64 4, .int .i64 ja, .int .i64 jb, .int .i64 col, .int .i64 ck, .int .i64 cn, .string cs] 44)).alloc (.cells #[.int .i64 k1, .int .i64 n1, .string s1] 34)).alloc (.cells #[.int .i64 k2, .int .i64 n2, .string s2] 34)).cell? ⟨w.heap.size, 2, none⟩ = some (.string ⟨#[]⟩) := by go_simp
  have hn3 : ((((w.alloc (.cells #[.int .i64 0, .int .i64 0, .string ⟨#[]⟩] 34)).alloc (.cells #[.int .i64 4, .int .i64 ja, .int .i64 jb, .int .i64 col, .int .i64 ck, .int .i64 cn, .string cs] 44)).alloc (.cells #[.int .i64 k1, .int .i64 n1, .string s1] 34)).alloc (.cells #[.int .i64 k2, .int .i64 n2, .string s2] 34)).cell? ⟨w.heap.size + 1, 0, none⟩ = some (.int .i64 4) := by go_simp
  have hn4 : ((((w.alloc (.cells #[.int .i64 0, .int .i64 0, .string ⟨#[]⟩] 34)).alloc (.cells #[.int .i64 4, .int .i64 ja, .int .i64 jb, .int .i64 col, .int .i64 ck, .int .i64 cn, .string cs] 44)).alloc (.cells #[.int .i64 k1, .int .i64 n1, .string s1] 34)).alloc (.cells #[.int .i64 k2, .int .i64 n2, .string s2] 34)).cell? ⟨w.heap.size + 1 + 1, 0, none⟩ = some (.int .i64 k1) := by go_simp
  have hn5 : ((((w.alloc (.cells #[.int .i64 0, .int .i64 0, .string ⟨#[]⟩] 34)).alloc (.cells #[.int .i64 4, .int .i64 ja, .int .i64 jb, .int .i64 col, .int .i64 ck, .int .i64 cn, .string cs] 44)).alloc (.cells #[.int .i64 k1, .int .i64 n1, .string s1] 34)).alloc (.cells #[.int .i64 k2, .int .i64 n2, .string s2] 34)).cell? ⟨w.heap.size + 1 + 1, 1, none⟩ = some (.int .i64 n1) := by go_simp
  have hn6 : ((((w.alloc (.cells #[.int .i64 0, .int .i64 0, .string ⟨#[]⟩] 34)).alloc (.cells #[.int .i64 4, .int .i64 ja, .int .i64 jb, .int .i64 col, .int .i64 ck, .int .i64 cn, .string cs] 44)).alloc (.cells #[.int .i64 k1, .int .i64 n1, .string s1] 34)).alloc (.cells #[.int .i64 k2, .int .i64 n2, .string s2] 34)).cell? ⟨w.heap.size + 1 + 1, 2, none⟩ = some (.string s1) := by go_simp
  have hn7 : ((((w.alloc (.cells #[.int .i64 0, .int .i64 0, .string ⟨#[]⟩] 34)).alloc (.cells #[.int .i64 4, .int .i64 ja, .int .i64 jb, .int .i64 col, .int .i64 ck, .int .i64 cn, .string cs] 44)).alloc (.cells #[.int .i64 k1, .int .i64 n1, .string s1] 34)).alloc (.cells #[.int .i64 k2, .int .i64 n2, .string s2] 34)).cell? ⟨w.heap.size + 1 + 1 + 1, 0, none⟩ = some (.int .i64 k2) := by go_simp
  have hn8 : ((((w.alloc (.cells #[.int .i64 0, .int .i64 0, .string ⟨#[]⟩] 34)).alloc (.cells #[.int .i64 4, .int .i64 ja, .int .i64 jb, .int .i64 col, .int .i64 ck, .int .i64 cn, .string cs] 44)).alloc (.cells #[.int .i64 k1, .int .i64 n1, .string s1] 34)).alloc (.cells #[.int .i64 k2, .int .i64 n2, .string s2] 34)).cell? ⟨w.heap.size + 1 + 1 + 1, 1, none⟩ = some (.int .i64 n2) := by go_simp
  have hn9 : ((((w.alloc (.cells #[.int .i64 0, .int .i64 0, .string ⟨#[]⟩] 34)).alloc (.cells #[.int .i64 4, .int .i64 ja, .int .i64 jb, .int .i64 col, .int .i64 ck, .int .i64 cn, .string cs] 44)).alloc (.cells #[.int .i64 k1, .int .i64 n1, .string s1] 34)).alloc (.cells #[.int .i64 k2, .int .i64 n2, .string s2] 34)).cell? ⟨w.heap.size + 1 + 1 + 1, 2, none⟩ = some (.string s2) := by go_simp
  have hnf0 : ((((w.alloc (.cells #[.int .i64 0, .int .i64 0, .string ⟨#[]⟩] 34)).alloc (.cells #[.int .i64 4, .int .i64 ja, .int .i64 jb, .int .i64 col, .int .i64 ck, .int .i64 cn, .string cs] 44)).alloc (.cells #[.int .i64 k1, .int .i64 n1, .string s1] 34)).alloc (.cells #[.int .i64 k2, .int .i64 n2, .string s2] 34)).frozen? ⟨w.heap.size, 0, none⟩ = false := by go_simp
  have hnf1 : ((((w.alloc (.cells #[.int .i64 0, .int .i64 0, .string ⟨#[]⟩] 34)).alloc (.cells #[.int .i64 4, .int .i64 ja, .int .i64 jb, .int .i64 col, .int .i64 ck, .int .i64 cn, .string cs] 44)).alloc (.cells #[.int .i64 k1, .int .i64 n1, .string s1] 34)).alloc (.cells #[.int .i64 k2, .int .i64 n2, .string s2] 34)).frozen? ⟨w.heap.size, 1, none⟩ = false := by go_simp
  have hnf2 : ((((w.alloc (.cells #[.int .i64 0, .int .i64 0, .string ⟨#[]⟩] 34)).alloc (.cells #[.int .i64 4, .int .i64 ja, .int .i64 jb, .int .i64 col, .int .i64 ck, .int .i64 cn, .string cs] 44)).alloc (.cells #[.int .i64 k1, .int .i64 n1, .string s1] 34)).alloc (.cells #[.int .i64 k2, .int .i64 n2, .string s2] 34)).frozen? ⟨w.heap.size, 2, none⟩ = false := by go_simp
  have hsz0 : ((((w.alloc (.cells #[.int .i64 0, .int .i64 0, .string ⟨#[]⟩] 34)).alloc (.cells #[.int .i64 4, .int .i64 ja, .int .i64 jb, .int .i64 col, .int .i64 ck, .int .i64 cn, .string cs] 44)).alloc (.cells #[.int .i64 k1, .int .i64 n1, .string s1] 34)).alloc (.cells #[.int .i64 k2, .int .i64 n2, .string s2] 34)).heap.size = w.heap.size + 4 := by simp only [World.size_alloc]
  generalize hw0 : ((((w.alloc (.cells #[.int .i64 0, .int .i64 0, .string ⟨#[]⟩] 34)).alloc (.cells #[.int .i64 4, .int .i64 ja, .int .i64 jb, .int .i64 col, .int .i64 ck, .int .i64 cn, .string cs] 44)).alloc (.cells #[.int .i64 k1, .int .i64 n1, .string s1] 34)).alloc (.cells #[.int .i64 k2, .int .i64 n2, .string s2] 34)) = w0 at *
  clear hw0
  have hq0 : w.heap.size < w0.heap.size := by omega
  have hr0 : w.heap.size ≤ w0.heap.size := by omega
  have hq1 : w.heap.size + 1 < w0.heap.size := by omega
  have hr1 : w.heap.size + 1 ≤ w0.heap.size := by omega
  have hq2 : w.heap.size + 1 + 1 < w0.heap.size := by omega
  have hr2 : w.heap.size + 1 + 1 ≤ w0.heap.size := by omega
  have hq3 : w.heap.size + 1 + 1 + 1 < w0.heap.size := by omega
  have hr3 : w.heap.size + 1 + 1 + 1 ≤ w0.heap.size := by omega
  clear hsz0
  refine (ref_arith_call _ _ _ _ _ _ _ rk rn rs _ (by omega) HR.out w1 w2 w3 w4).mono ?_
  rintro e w1 ⟨rfl, hb1⟩
  have hB1 : Below w.heap.size w w1 := below_chain (hB0') hb1
  have hz1 := hb1.size
  have hl1_0 : w.heap.size < w1.heap.size := by omega
  have hm1_0 : w.heap.size ≤ w1.heap.size := by omega
  have hl1_1 : w.heap.size + 1 < w1.heap.size := by omega
  have hm1_1 : w.heap.size + 1 ≤ w1.heap.size := by omega
  have hl1_2 : w.heap.size + 1 + 1 < w1.heap.size := by omega
  have hm1_2 : w.heap.size + 1 + 1 ≤ w1.heap.size := by omega
  have hl1_3 : w.heap.size + 1 + 1 + 1 < w1.heap.size := by omega
  have hm1_3 : w.heap.size + 1 + 1 + 1 ≤ w1.heap.size := by omega
  obtain ⟨hc1, hf1⟩ := bcell hb1
  clear hb1
  go_wp2_with fail
  have sc := two_ops (w := w1) (B := w.heap.size) (a := .int .i64 0) (b := .int .i64 0) (c := .string ⟨#[]⟩) (by go_simp) (by go_simp) (by go_simp) (.int .i64 rk) (.int .i64 rn) (.string rs)
  obtain ⟨sc0, sc1, sc2⟩ := sc
  refine bodyPost_ret (v := .agg #[.int .i64 rk, .int .i64 rn, .string rs]) (by simp [sc0, sc1, sc2, results, Try.results26, go_sem]) rfl ⟨by rw [← HV.out]; rfl, ?_⟩
  exact (((hB1).setCell (by simp) _).setCell (by simp) _).setCell (by simp) _


set_option maxRecDepth 100000 in
set_option maxHeartbeats 2000000 in
theorem reval_mul (col ck cn : Int) (cs : ByteArray) (k1 n1 : Int) (s1 : ByteArray) (k2 n2 : Int) (s2 : ByteArray) (b off n c k dg dn dc ja jb : Nat) (rv : Value) (w : World) (hb : b < w.heap.size) (hg : dg < w.heap.size) (hk : k < n) (hnc : n ≤ 100000) (hdn : k < dn) (hja : ja < k) (hjb : jb < k)
    (hx : ExAt w b (off + k * 7) ⟨5, ja, jb, col, ⟨ck, cn, cs⟩⟩) (hva : VlAt w dg (ja * 3) ⟨k1, n1, s1⟩) (hvb : VlAt w dg (jb * 3) ⟨k2, n2, s2⟩) (w1 : -9223372036854775808 ≤ n1) (w2 : n1 ≤ 9223372036854775807) (w3 : -9223372036854775808 ≤ n2) (w4 : n2 ≤ 9223372036854775807) :
    Calls Try.prog 26 #[.slice (some ⟨b, off, none⟩) n c, .int .i64 k, rv, .slice (some ⟨dg, 0, none⟩) dn dc] w fun e' w' => e' = .returned ((Xp.arith 5 ⟨k1, n1, s1⟩ ⟨k2, n2, s2⟩).go) ∧ Below w.heap.size w w' := by
  obtain ⟨rk, rn, rs, hr⟩ : ∃ rk rn rs, Xp.arith 5 ⟨k1, n1, s1⟩ ⟨k2, n2, s2⟩ = ⟨rk, rn, rs⟩ := ⟨_, _, _, rfl⟩
  rw [hr]
  have HR := Lib.hid hr
  clear hr
  generalize hV : (Vl.mk rk rn rs).go = V
  have HV := Lib.hid hV
  clear hV
  have HX := Lib.hid hx
  have HL := Lib.hid (show (!Xp.badIx ⟨5, ja, jb, col, ⟨ck, cn, cs⟩⟩ k) = true by unfold Xp.badIx Xp.lgl; simp [hja, hjb])
  obtain ⟨x0, x1, x2, x3, x4, x5, x6⟩ := hx
  simp only at x0 x1 x2 x3 x4 x5 x6
  obtain ⟨u0, u1, u2⟩ := hva
  simp only at u0 u1 u2
  obtain ⟨v0, v1, v2⟩ := hvb
  simp only at v0 v1 v2
  have h0 : (0 : Int) ≤ (k : Int) := by omega
  have h1 : (k : Int) < (n : Int) := by omega
  have h2ja : (0 : Int) ≤ (ja : Int) := by omega
  have h3ja : (ja : Int) < (dn : Int) := by omega
  have h2jb : (0 : Int) ≤ (jb : Int) := by omega
  have h3jb : (jb : Int) < (dn : Int) := by omega
  have hb1 : b < w.heap.size + 1 := by omega
  have hb2 : b < w.heap.size + 1 + 1 := by omega
  have hg1 : dg < w.heap.size + 1 := by omega
  have hg2 : dg < w.heap.size + 1 + 1 := by omega
  have hg3 : dg < w.heap.size + 1 + 1 + 1 := by omega
  have hB0 : Below w.heap.size w w := Below.refl _ _
  go_enter Try.func26, Try.ntmps26
  go_wp2_with fail
  refine (ropn_call _ 2 _ rfl).mono ?_
  rintro e1 w1 ⟨rfl, rfl⟩
  go_wp2_with fail
  refine (legal_call true b off n c k _ w _ hb (below_alloc (below_alloc (Below.refl _ _) _) _) hk hnc HX.out HL.out).mono ?_
  rintro e1 w1 ⟨rfl, rfl⟩
  go_wp2_with fail
  have hB0' : Below w.heap.size w ((((w.alloc (.cells #[.int .i64 0, .int .i64 0, .string ⟨#[]⟩] 34)).alloc (.cells #[.int .i64 5, .int .i64 ja, .int .i64 jb, .int .i64 col, .int .i64 ck, .int .i64 cn, .string cs] 44)).alloc (.cells #[.int .i64 k1, .int .i64 n1, .string s1] 34)).alloc (.cells #[.int .i64 k2, .int .i64 n2, .string s2] 34)) := below_alloc (below_alloc (below_alloc (below_alloc (Below.refl _ _) _) _) _) _
  have hn0 : ((((w.alloc (.cells #[.int .i64 0, .int .i64 0, .string ⟨#[]⟩] 34)).alloc (.cells #[.int .i64 5, .int .i64 ja, .int .i64 jb, .int .i64 col, .int .i64 ck, .int .i64 cn, .string cs] 44)).alloc (.cells #[.int .i64 k1, .int .i64 n1, .string s1] 34)).alloc (.cells #[.int .i64 k2, .int .i64 n2, .string s2] 34)).cell? ⟨w.heap.size, 0, none⟩ = some (.int .i64 0) := by go_simp
  have hn1 : ((((w.alloc (.cells #[.int .i64 0, .int .i64 0, .string ⟨#[]⟩] 34)).alloc (.cells #[.int .i64 5, .int .i64 ja, .int .i64 jb, .int .i64 col, .int .i64 ck, .int .i64 cn, .string cs] 44)).alloc (.cells #[.int .i64 k1, .int .i64 n1, .string s1] 34)).alloc (.cells #[.int .i64 k2, .int .i64 n2, .string s2] 34)).cell? ⟨w.heap.size, 1, none⟩ = some (.int .i64 0) := by go_simp
  have hn2 : ((((w.alloc (.cells #[.int .i64 0, .int .i64 0, .string ⟨#[]⟩] 34)).alloc (.cells #[.int .i64 5, .int .i64 ja, .int .i64 jb, .int .i64 col, .int .i64 ck, .int .i64 cn, .string cs] 44)).alloc (.cells #[.int .i64 k1, .int .i64 n1, .string s1] 34)).alloc (.cells #[.int .i64 k2, .int .i64 n2, .string s2] 34)).cell? ⟨w.heap.size, 2, none⟩ = some (.string ⟨#[]⟩) := by go_simp
  have hn3 : ((((w.alloc (.cells #[.int .i64 0, .int .i64 0, .string ⟨#[]⟩] 34)).alloc (.cells #[.int .i64 5, .int .i64 ja, .int .i64 jb, .int .i64 col, .int .i64 ck, .int .i64 cn, .string cs] 44)).alloc (.cells #[.int .i64 k1, .int .i64 n1, .string s1] 34)).alloc (.cells #[.int .i64 k2, .int .i64 n2, .string s2] 34)).cell? ⟨w.heap.size + 1, 0, none⟩ = some (.int .i64 5) := by go_simp
  have hn4 : ((((w.alloc (.cells #[.int .i64 0, .int .i64 0, .string ⟨#[]⟩] 34)).alloc (.cells #[.int .i64 5, .int .i64 ja, .int .i64 jb, .int .i64 col, .int .i64 ck, .int .i64 cn, .string cs] 44)).alloc (.cells #[.int .i64 k1, .int .i64 n1, .string s1] 34)).alloc (.cells #[.int .i64 k2, .int .i64 n2, .string s2] 34)).cell? ⟨w.heap.size + 1 + 1, 0, none⟩ = some (.int .i64 k1) := by go_simp
  have hn5 : ((((w.alloc (.cells #[.int .i64 0, .int .i64 0, .string ⟨#[]⟩] 34)).alloc (.cells #[.int .i64 5, .int .i64 ja, .int .i64 jb, .int .i64 col, .int .i64 ck, .int .i64 cn, .string cs] 44)).alloc (.cells #[.int .i64 k1, .int .i64 n1, .string s1] 34)).alloc (.cells #[.int .i64 k2, .int .i64 n2, .string s2] 34)).cell? ⟨w.heap.size + 1 + 1, 1, none⟩ = some (.int .i64 n1) := by go_simp
  have hn6 : ((((w.alloc (.cells #[.int .i64 0, .int .i64 0, .string ⟨#[]⟩] 34)).alloc (.cells #[.int .i64 5, .int .i64 ja, .int .i64 jb, .int .i64 col, .int .i64 ck, .int .i64 cn, .string cs] 44)).alloc (.cells #[.int .i64 k1, .int .i64 n1, .string s1] 34)).alloc (.cells #[.int .i64 k2, .int .i64 n2, .string s2] 34)).cell? ⟨w.heap.size + 1 + 1, 2, none⟩ = some (.string s1) := by go_simp
  have hn7 : ((((w.alloc (.cells #[.int .i64 0, .int .i64 0, .string ⟨#[]⟩] 34)).alloc (.cells #[.int .i64 5, .int .i64 ja, .int .i64 jb, .int .i64 col, .int .i64 ck, .int .i64 cn, .string cs] 44)).alloc (.cells #[.int .i64 k1, .int .i64 n1, .string s1] 34)).alloc (.cells #[.int .i64 k2, .int .i64 n2, .string s2] 34)).cell? ⟨w.heap.size + 1 + 1 + 1, 0, none⟩ = some (.int .i64 k2) := by go_simp
  have hn8 : ((((w.alloc (.cells #[.int .i64 0, .int .i64 0, .string ⟨#[]⟩] 34)).alloc (.cells #[.int .i64 5, .int .i64 ja, .int .i64 jb, .int .i64 col, .int .i64 ck, .int .i64 cn, .string cs] 44)).alloc (.cells #[.int .i64 k1, .int .i64 n1, .string s1] 34)).alloc (.cells #[.int .i64 k2, .int .i64 n2, .string s2] 34)).cell? ⟨w.heap.size + 1 + 1 + 1, 1, none⟩ = some (.int .i64 n2) := by go_simp
  have hn9 : ((((w.alloc (.cells #[.int .i64 0, .int .i64 0, .string ⟨#[]⟩] 34)).alloc (.cells #[.int .i64 5, .int .i64 ja, .int .i64 jb, .int .i64 col, .int .i64 ck, .int .i64 cn, .string cs] 44)).alloc (.cells #[.int .i64 k1, .int .i64 n1, .string s1] 34)).alloc (.cells #[.int .i64 k2, .int .i64 n2, .string s2] 34)).cell? ⟨w.heap.size + 1 + 1 + 1, 2, none⟩ = some (.string s2) := by go_simp
  have hnf0 : ((((w.alloc (.cells #[.int .i64 0, .int .i64 0, .string ⟨#[]⟩] 34)).alloc (.cells #[.int .i64 5, .int .i64 ja, .int .i64 jb, .int .i64 col, .int .i64 ck, .int .i64 cn, .string cs] 44)).alloc (.cells #[.int .i64 k1, .int .i64 n1, .string s1] 34)).alloc (.cells #[.int .i64 k2, .int .i64 n2, .string s2] 34)).frozen? ⟨w.heap.size, 0, none⟩ = false := by go_simp
  have hnf1 : ((((w.alloc (.cells #[.int .i64 0, .int .i64 0, .string ⟨#[]⟩] 34)).alloc (.cells #[.int .i64 5, .int .i64 ja, .int .i64 jb, .int .i64 col, .int .i64 ck, .int .i64 cn, .string cs] 44)).alloc (.cells #[.int .i64 k1, .int .i64 n1, .string s1] 34)).alloc (.cells #[.int .i64 k2, .int .i64 n2, .string s2] 34)).frozen? ⟨w.heap.size, 1, none⟩ = false := by go_simp
  have hnf2 : ((((w.alloc (.cells #[.int .i64 0, .int .i64 0, .string ⟨#[]⟩] 34)).alloc (.cells #[.int .i64 5, .int .i64 ja, .int .i64 jb, .int .i64 col, .int .i64 ck, .int .i64 cn, .string cs] 44)).alloc (.cells #[.int .i64 k1, .int .i64 n1, .string s1] 34)).alloc (.cells #[.int .i64 k2, .int .i64 n2, .string s2] 34)).frozen? ⟨w.heap.size, 2, none⟩ = false := by go_simp
  have hsz0 : ((((w.alloc (.cells #[.int .i64 0, .int .i64 0, .string ⟨#[]⟩] 34)).alloc (.cells #[.int .i64 5, .int .i64 ja, .int .i64 jb, .int .i64 col, .int .i64 ck, .int .i64 cn, .string cs] 44)).alloc (.cells #[.int .i64 k1, .int .i64 n1, .string s1] 34)).alloc (.cells #[.int .i64 k2, .int .i64 n2, .string s2] 34)).heap.size = w.heap.size + 4 := by simp only [World.size_alloc]
  generalize hw0 : ((((w.alloc (.cells #[.int .i64 0, .int .i64 0, .string ⟨#[]⟩] 34)).alloc (.cells #[.int .i64 5, .int .i64 ja, .int .i64 jb, .int .i64 col, .int .i64 ck, .int .i64 cn, .string cs] 44)).alloc (.cells #[.int .i64 k1, .int .i64 n1, .string s1] 34)).alloc (.cells #[.int .i64 k2, .int .i64 n2, .string s2] 34)) = w0 at *
  clear hw0
  have hq0 : w.heap.size < w0.heap.size := by omega
  have hr0 : w.heap.size ≤ w0.heap.size := by omega
  have hq1 : w.heap.size + 1 < w0.heap.size := by omega
  have hr1 : w.heap.size + 1 ≤ w0.heap.size := by omega
  have hq2 : w.heap.size + 1 + 1 < w0.heap.size := by omega
  have hr2 : w.heap.size + 1 + 1 ≤ w0.heap.size := by omega
  have hq3 : w.heap.size + 1 + 1 + 1 < w0.heap.size := by omega
  have hr3 : w.heap.size + 1 + 1 + 1 ≤ w0.heap.size := by omega
  clear hsz0
  refine (ref_arith_call _ _ _ _ _ _ _ rk rn rs _ (by omega) HR.out w1 w2 w3 w4).mono ?_
  rintro e w1 ⟨rfl, hb1⟩
  have hB1 : Below w.heap.size w w1 := below_chain (hB0') hb1
  have hz1 := hb1.size
  have hl1_0 : w.heap.size < w1.heap.size := by omega
  have hm1_0 : w.heap.size ≤ w1.heap.size := by omega
  have hl1_1 : w.heap.size + 1 < w1.heap.size := by omega
  have hm1_1 : w.heap.size + 1 ≤ w1.heap.size := by omega
  have hl1_2 : w.heap.size + 1 + 1 < w1.heap.size := by omega
  have hm1_2 : w.heap.size + 1 + 1 ≤ w1.heap.size := by omega
  have hl1_3 : w.heap.size + 1 + 1 + 1 < w1.heap.size := by omega
  have hm1_3 : w.heap.size + 1 + 1 + 1 ≤ w1.heap.size := by omega
  obtain ⟨hc1, hf1⟩ := bcell hb1
  clear hb1
  go_wp2_with fail
  have sc := two_ops (w := w1) (B := w.heap.size) (a := .int .i64 0) (b := .int .i64 0) (c := .string ⟨#[]⟩) (by go_simp) (by go_simp) (by go_simp) (.int .i64 rk) (.int .i64 rn) (.string rs)
  obtain ⟨sc0, sc1, sc2⟩ := sc
  refine bodyPost_ret (v := .agg #[.int .i64 rk, .int .i64 rn, .string rs]) (by simp [sc0, sc1, sc2, results, Try.results26, go_sem]) rfl ⟨by rw [← HV.out]; rfl, ?_⟩
  exact (((hB1).setCell (by simp) _).setCell (by simp) _).setCell (by simp) _


set_option maxRecDepth 100000 in
set_option maxHeartbeats 2000000 in
theorem reval_and (col ck cn : Int) (cs : ByteArray) (k1 n1 : Int) (s1 : ByteArray) (k2 n2 : Int) (s2 : ByteArray) (b off n c k dg dn dc ja jb : Nat) (rv : Value) (w : World) (hb : b < w.heap.size) (hg : dg < w.heap.size) (hk : k < n) (hnc : n ≤ 100000) (hdn : k < dn) (hja : ja < k) (hjb : jb < k)
    (hx : ExAt w b (off + k * 7) ⟨8, ja, jb, col, ⟨ck, cn, cs⟩⟩) (hva : VlAt w dg (ja * 3) ⟨k1, n1, s1⟩) (hvb : VlAt w dg (jb * 3) ⟨k2, n2, s2⟩) :
    Calls Try.prog 26 #[.slice (some ⟨b, off, none⟩) n c, .int .i64 k, rv, .slice (some ⟨dg, 0, none⟩) dn dc] w fun e' w' => e' = .returned ((Xp.bool (Xp.isT ⟨k1, n1, s1⟩ && Xp.isT ⟨k2, n2, s2⟩)).go) ∧ Below w.heap.size w w' := by
  generalize hV : (Xp.bool (Xp.isT ⟨k1, n1, s1⟩ && Xp.isT ⟨k2, n2, s2⟩)).go = V
  have HV := Lib.hid hV
  clear hV
  cases h1 : Xp.isT ⟨k1, n1, s1⟩ with
  | true =>
    have H1 := Lib.hid h1
    cases h2 : Xp.isT ⟨k2, n2, s2⟩ with
    | true =>
      have H2 := Lib.hid h2
      have HW := Lib.hid (HV.out.symm.trans (show (Xp.bool (Xp.isT ⟨k1, n1, s1⟩ && Xp.isT ⟨k2, n2, s2⟩)).go = (Xp.bool true).go by rw [h1, h2]; rfl))
      clear h1 h2
      have HX := Lib.hid hx
      have HL := Lib.hid (show (!Xp.badIx ⟨8, ja, jb, col, ⟨ck, cn, cs⟩⟩ k) = true by unfold Xp.badIx Xp.lgl; simp [hja, hjb])
      obtain ⟨x0, x1, x2, x3, x4, x5, x6⟩ := hx
      simp only at x0 x1 x2 x3 x4 x5 x6
      obtain ⟨u0, u1, u2⟩ := hva
      simp only at u0 u1 u2
      obtain ⟨v0, v1, v2⟩ := hvb
      simp only at v0 v1 v2
      have h0 : (0 : Int) ≤ (k : Int) := by omega
      have h1 : (k : Int) < (n : Int) := by omega
      have h2ja : (0 : Int) ≤ (ja : Int) := by omega
      have h3ja : (ja : Int) < (dn : Int) := by omega
      have h2jb : (0 : Int) ≤ (jb : Int) := by omega
      have h3jb : (jb : Int) < (dn : Int) := by omega
      have hb1 : b < w.heap.size + 1 := by omega
      have hb2 : b < w.heap.size + 1 + 1 := by omega
      have hg1 : dg < w.heap.size + 1 := by omega
      have hg2 : dg < w.heap.size + 1 + 1 := by omega
      have hg3 : dg < w.heap.size + 1 + 1 + 1 := by omega
      have hB0 : Below w.heap.size w w := Below.refl _ _
      go_enter Try.func26, Try.ntmps26
      go_wp2_with fail
      refine (ropn_call _ 2 _ rfl).mono ?_
      rintro e1 w1 ⟨rfl, rfl⟩
      go_wp2_with fail
      refine (legal_call true b off n c k _ w _ hb (below_alloc (below_alloc (Below.refl _ _) _) _) hk hnc HX.out HL.out).mono ?_
      rintro e1 w1 ⟨rfl, rfl⟩
      go_wp2_with fail
      have hB0' : Below w.heap.size w ((((w.alloc (.cells #[.int .i64 0, .int .i64 0, .string ⟨#[]⟩] 34)).alloc (.cells #[.int .i64 8, .int .i64 ja, .int .i64 jb, .int .i64 col, .int .i64 ck, .int .i64 cn, .string cs] 44)).alloc (.cells #[.int .i64 k1, .int .i64 n1, .string s1] 34)).alloc (.cells #[.int .i64 k2, .int .i64 n2, .string s2] 34)) := below_alloc (below_alloc (below_alloc (below_alloc (Below.refl _ _) _) _) _) _
      have hn0 : ((((w.alloc (.cells #[.int .i64 0, .int .i64 0, .string ⟨#[]⟩] 34)).alloc (.cells #[.int .i64 8, .int .i64 ja, .int .i64 jb, .int .i64 col, .int .i64 ck, .int .i64 cn, .string cs] 44)).alloc (.cells #[.int .i64 k1, .int .i64 n1, .string s1] 34)).alloc (.cells #[.int .i64 k2, .int .i64 n2, .string s2] 34)).cell? ⟨w.heap.size, 0, none⟩ = some (.int .i64 0) := by go_simp
      have hn1 : ((((w.alloc (.cells #[.int .i64 0, .int .i64 0, .string ⟨#[]⟩] 34)).alloc (.cells #[.int .i64 8, .int .i64 ja, .int .i64 jb, .int .i64 col, .int .i64 ck, .int .i64 cn, .string cs] 44)).alloc (.cells #[.int .i64 k1, .int .i64 n1, .string s1] 34)).alloc (.cells #[.int .i64 k2, .int .i64 n2, .string s2] 34)).cell? ⟨w.heap.size, 1, none⟩ = some (.int .i64 0) := by go_simp
      have hn2 : ((((w.alloc (.cells #[.int .i64 0, .int .i64 0, .string ⟨#[]⟩] 34)).alloc (.cells #[.int .i64 8, .int .i64 ja, .int .i64 jb, .int .i64 col, .int .i64 ck, .int .i64 cn, .string cs] 44)).alloc (.cells #[.int .i64 k1, .int .i64 n1, .string s1] 34)).alloc (.cells #[.int .i64 k2, .int .i64 n2, .string s2] 34)).cell? ⟨w.heap.size, 2, none⟩ = some (.string ⟨#[]⟩) := by go_simp
      have hn3 : ((((w.alloc (.cells #[.int .i64 0, .int .i64 0, .string ⟨#[]⟩] 34)).alloc (.cells #[.int .i64 8, .int .i64 ja, .int .i64 jb, .int .i64 col, .int .i64 ck, .int .i64 cn, .string cs] 44)).alloc (.cells #[.int .i64 k1, .int .i64 n1, .string s1] 34)).alloc (.cells #[.int .i64 k2, .int .i64 n2, .string s2] 34)).cell? ⟨w.heap.size + 1, 0, none⟩ = some (.int .i64 8) := by go_simp
      have hn4 : ((((w.alloc (.cells #[.int .i64 0, .int .i64 0, .string ⟨#[]⟩] 34)).alloc (.cells #[.int .i64 8, .int .i64 ja, .int .i64 jb, .int .i64 col, .int .i64 ck, .int .i64 cn, .string cs] 44)).alloc (.cells #[.int .i64 k1, .int .i64 n1, .string s1] 34)).alloc (.cells #[.int .i64 k2, .int .i64 n2, .string s2] 34)).cell? ⟨w.heap.size + 1 + 1, 0, none⟩ = some (.int .i64 k1) := by go_simp
      have hn5 : ((((w.alloc (.cells #[.int .i64 0, .int .i64 0, .string ⟨#[]⟩] 34)).alloc (.cells #[.int .i64 8, .int .i64 ja, .int .i64 jb, .int .i64 col, .int .i64 ck, .int .i64 cn, .string cs] 44)).alloc (.cells #[.int .i64 k1, .int .i64 n1, .string s1] 34)).alloc (.cells #[.int .i64 k2, .int .i64 n2, .string s2] 34)).cell? ⟨w.heap.size + 1 + 1, 1, none⟩ = some (.int .i64 n1) := by go_simp
      have hn6 : ((((w.alloc (.cells #[.int .i64 0, .int .i64 0, .string ⟨#[]⟩] 34)).alloc (.cells #[.int .i64 8, .int .i64 ja, .int .i64 jb, .int .i64 col, .int .i64 ck, .int .i64 cn, .string cs] 44)).alloc (.cells #[.int .i64 k1, .int .i64 n1, .string s1] 34)).alloc (.cells #[.int .i64 k2, .int .i64 n2, .string s2] 34)).cell? ⟨w.heap.size + 1 + 1, 2, none⟩ = some (.string s1) := by go_simp
      have hn7 : ((((w.alloc (.cells #[.int .i64 0, .int .i64 0, .string ⟨#[]⟩] 34)).alloc (.cells #[.int .i64 8, .int .i64 ja, .int .i64 jb, .int .i64 col, .int .i64 ck, .int .i64 cn, .string cs] 44)).alloc (.cells #[.int .i64 k1, .int .i64 n1, .string s1] 34)).alloc (.cells #[.int .i64 k2, .int .i64 n2, .string s2] 34)).cell? ⟨w.heap.size + 1 + 1 + 1, 0, none⟩ = some (.int .i64 k2) := by go_simp
      have hn8 : ((((w.alloc (.cells #[.int .i64 0, .int .i64 0, .string ⟨#[]⟩] 34)).alloc (.cells #[.int .i64 8, .int .i64 ja, .int .i64 jb, .int .i64 col, .int .i64 ck, .int .i64 cn, .string cs] 44)).alloc (.cells #[.int .i64 k1, .int .i64 n1, .string s1] 34)).alloc (.cells #[.int .i64 k2, .int .i64 n2, .string s2] 34)).cell? ⟨w.heap.size + 1 + 1 + 1, 1, none⟩ = some (.int .i64 n2) := by go_simp
      have hn9 : ((((w.alloc (.cells #[.int .i64 0, .int .i64 0, .string ⟨#[]⟩] 34)).alloc (.cells #[.int .i64 8, .int .i64 ja, .int .i64 jb, .int .i64 col, .int .i64 ck, .int .i64 cn, .string cs] 44)).alloc (.cells #[.int .i64 k1, .int .i64 n1, .string s1] 34)).alloc (.cells #[.int .i64 k2, .int .i64 n2, .string s2] 34)).cell? ⟨w.heap.size + 1 + 1 + 1, 2, none⟩ = some (.string s2) := by go_simp
      have hnf0 : ((((w.alloc (.cells #[.int .i64 0, .int .i64 0, .string ⟨#[]⟩] 34)).alloc (.cells #[.int .i64 8, .int .i64 ja, .int .i64 jb, .int .i64 col, .int .i64 ck, .int .i64 cn, .string cs] 44)).alloc (.cells #[.int .i64 k1, .int .i64 n1, .string s1] 34)).alloc (.cells #[.int .i64 k2, .int .i64 n2, .string s2] 34)).frozen? ⟨w.heap.size, 0, none⟩ = false := by go_simp
      have hnf1 : ((((w.alloc (.cells #[.int .i64 0, .int .i64 0, .string ⟨#[]⟩] 34)).alloc (.cells #[.int .i64 8, .int .i64 ja, .int .i64 jb, .int .i64 col, .int .i64 ck, .int .i64 cn, .string cs] 44)).alloc (.cells #[.int .i64 k1, .int .i64 n1, .string s1] 34)).alloc (.cells #[.int .i64 k2, .int .i64 n2, .string s2] 34)).frozen? ⟨w.heap.size, 1, none⟩ = false := by go_simp
      have hnf2 : ((((w.alloc (.cells #[.int .i64 0, .int .i64 0, .string ⟨#[]⟩] 34)).alloc (.cells #[.int .i64 8, .int .i64 ja, .int .i64 jb, .int .i64 col, .int .i64 ck, .int .i64 cn, .string cs] 44)).alloc (.cells #[.int .i64 k1, .int .i64 n1, .string s1] 34)).alloc (.cells #[.int .i64 k2, .int .i64 n2, .string s2] 34)).frozen? ⟨w.heap.size, 2, none⟩ = false := by go_simp
      have hsz0 : ((((w.alloc (.cells #[.int .i64 0, .int .i64 0, .string ⟨#[]⟩] 34)).alloc (.cells #[.int .i64 8, .int .i64 ja, .int .i64 jb, .int .i64 col, .int .i64 ck, .int .i64 cn, .string cs] 44)).alloc (.cells #[.int .i64 k1, .int .i64 n1, .string s1] 34)).alloc (.cells #[.int .i64 k2, .int .i64 n2, .string s2] 34)).heap.size = w.heap.size + 4 := by simp only [World.size_alloc]
      generalize hw0 : ((((w.alloc (.cells #[.int .i64 0, .int .i64 0, .string ⟨#[]⟩] 34)).alloc (.cells #[.int .i64 8, .int .i64 ja, .int .i64 jb, .int .i64 col, .int .i64 ck, .int .i64 cn, .string cs] 44)).alloc (.cells #[.int .i64 k1, .int .i64 n1, .string s1] 34)).alloc (.cells #[.int .i64 k2, .int .i64 n2, .string s2] 34)) = w0 at *
      clear hw0
      have hq0 : w.heap.size < w0.heap.size := by omega
      have hr0 : w.heap.size ≤ w0.heap.size := by omega
      have hq1 : w.heap.size + 1 < w0.heap.size := by omega
      have hr1 : w.heap.size + 1 ≤ w0.heap.size := by omega
      have hq2 : w.heap.size + 1 + 1 < w0.heap.size := by omega
      have hr2 : w.heap.size + 1 + 1 ≤ w0.heap.size := by omega
      have hq3 : w.heap.size + 1 + 1 + 1 < w0.heap.size := by omega
      have hr3 : w.heap.size + 1 + 1 + 1 ≤ w0.heap.size := by omega
      clear hsz0
      refine (ref_isT_call k1 n1 s1 true _ H1.out).mono ?_
      rintro e w1 ⟨rfl, hb1⟩
      have hB1 : Below w.heap.size w w1 := below_chain (hB0') hb1
      have hz1 := hb1.size
      have hl1_0 : w.heap.size < w1.heap.size := by omega
      have hm1_0 : w.heap.size ≤ w1.heap.size := by omega
      have hl1_1 : w.heap.size + 1 < w1.heap.size := by omega
      have hm1_1 : w.heap.size + 1 ≤ w1.heap.size := by omega
      have hl1_2 : w.heap.size + 1 + 1 < w1.heap.size := by omega
      have hm1_2 : w.heap.size + 1 + 1 ≤ w1.heap.size := by omega
      have hl1_3 : w.heap.size + 1 + 1 + 1 < w1.heap.size := by omega
      have hm1_3 : w.heap.size + 1 + 1 + 1 ≤ w1.heap.size := by omega
      obtain ⟨hc1, hf1⟩ := bcell hb1
      clear hb1
      go_wp2_with fail
      refine (ref_isT_call k2 n2 s2 true _ H2.out).mono ?_
      rintro e w2 ⟨rfl, hb2⟩
      have hB2 : Below w.heap.size w w2 := below_chain (hB1) hb2
      have hz2 := hb2.size
      have hl2_0 : w.heap.size < w2.heap.size := by omega
      have hm2_0 : w.heap.size ≤ w2.heap.size := by omega
      have hl2_1 : w.heap.size + 1 < w2.heap.size := by omega
      have hm2_1 : w.heap.size + 1 ≤ w2.heap.size := by omega
      have hl2_2 : w.heap.size + 1 + 1 < w2.heap.size := by omega
      have hm2_2 : w.heap.size + 1 + 1 ≤ w2.heap.size := by omega
      have hl2_3 : w.heap.size + 1 + 1 + 1 < w2.heap.size := by omega
      have hm2_3 : w.heap.size + 1 + 1 + 1 ≤ w2.heap.size := by omega
      obtain ⟨hc2, hf2⟩ := bcell hb2
      clear hb2
      go_wp2_with fail
      refine (ref_bool_call true 1 _ rfl).mono ?_
      rintro e w3 ⟨rfl, hb3⟩
      have hB3 : Below w.heap.size w w3 := below_chain (hB2) hb3
      have hz3 := hb3.size
      have hl3_0 : w.heap.size < w3.heap.size := by omega
      have hm3_0 : w.heap.size ≤ w3.heap.size := by omega
      have hl3_1 : w.heap.size + 1 < w3.heap.size := by omega
      have hm3_1 : w.heap.size + 1 ≤ w3.heap.size := by omega
      have hl3_2 : w.heap.size + 1 + 1 < w3.heap.size := by omega
      have hm3_2 : w.heap.size + 1 + 1 ≤ w3.heap.size := by omega
      have hl3_3 : w.heap.size + 1 + 1 + 1 < w3.heap.size := by omega
      have hm3_3 : w.heap.size + 1 + 1 + 1 ≤ w3.heap.size := by omega
      obtain ⟨hc3, hf3⟩ := bcell hb3
      clear hb3
      go_wp2_with fail
      have sc := two_ops (w := w3) (B := w.heap.size) (a := .int .i64 0) (b := .int .i64 0) (c := .string ⟨#[]⟩) (by go_simp) (by go_simp) (by go_simp) (.int .i64 3) (.int .i64 1) (.string ⟨#[]⟩)
      obtain ⟨sc0, sc1, sc2⟩ := sc
      refine bodyPost_ret (v := .agg #[.int .i64 3, .int .i64 1, .string ⟨#[]⟩]) (by simp [sc0, sc1, sc2, results, Try.results26, go_sem]) rfl ⟨by rw [HW.out]; rfl, ?_⟩
      exact (((hB3).setCell (by simp) _).setCell (by simp) _).setCell (by simp) _
    | false =>
      have H2 := Lib.hid h2
      have HW := Lib.hid (HV.out.symm.trans (show (Xp.bool (Xp.isT ⟨k1, n1, s1⟩ && Xp.isT ⟨k2, n2, s2⟩)).go = (Xp.bool false).go by rw [h1, h2]; rfl))
      clear h1 h2
      have HX := Lib.hid hx
      have HL := Lib.hid (show (!Xp.badIx ⟨8, ja, jb, col, ⟨ck, cn, cs⟩⟩ k) = true by unfold Xp.badIx Xp.lgl; simp [hja, hjb])
      obtain ⟨x0, x1, x2, x3, x4, x5, x6⟩ := hx
      simp only at x0 x1 x2 x3 x4 x5 x6
      obtain ⟨u0, u1, u2⟩ := hva
      simp only at u0 u1 u2
      obtain ⟨v0, v1, v2⟩ := hvb
      simp only at v0 v1 v2
      have h0 : (0 : Int) ≤ (k : Int) := by omega
      have h1 : (k : Int) < (n : Int) := by omega
      have h2ja : (0 : Int) ≤ (ja : Int) := by omega
      have h3ja : (ja : Int) < (dn : Int) := by omega
      have h2jb : (0 : Int) ≤ (jb : Int) := by omega
      have h3jb : (jb : Int) < (dn : Int) := by omega
      have hb1 : b < w.heap.size + 1 := by omega
      have hb2 : b < w.heap.size + 1 + 1 := by omega
      have hg1 : dg < w.heap.size + 1 := by omega
      have hg2 : dg < w.heap.size + 1 + 1 := by omega
      have hg3 : dg < w.heap.size + 1 + 1 + 1 := by omega
      have hB0 : Below w.heap.size w w := Below.refl _ _
      go_enter Try.func26, Try.ntmps26
      go_wp2_with fail
      refine (ropn_call _ 2 _ rfl).mono ?_
      rintro e1 w1 ⟨rfl, rfl⟩
      go_wp2_with fail
      refine (legal_call true b off n c k _ w _ hb (below_alloc (below_alloc (Below.refl _ _) _) _) hk hnc HX.out HL.out).mono ?_
      rintro e1 w1 ⟨rfl, rfl⟩
      go_wp2_with fail
      have hB0' : Below w.heap.size w ((((w.alloc (.cells #[.int .i64 0, .int .i64 0, .string ⟨#[]⟩] 34)).alloc (.cells #[.int .i64 8, .int .i64 ja, .int .i64 jb, .int .i64 col, .int .i64 ck, .int .i64 cn, .string cs] 44)).alloc (.cells #[.int .i64 k1, .int .i64 n1, .string s1] 34)).alloc (.cells #[.int .i64 k2, .int .i64 n2, .string s2] 34)) := below_alloc (below_alloc (below_alloc (below_alloc (Below.refl _ _) _) _) _) _
      have hn0 : ((((w.alloc (.cells #[.int .i64 0, .int .i64 0, .string ⟨#[]⟩] 34)).alloc (.cells #[.int .i64 8, .int .i64 ja, .int .i64 jb, .int .i64 col, .int .i64 ck, .int .i64 cn, .string cs] 44)).alloc (.cells #[.int .i64 k1, .int .i64 n1, .string s1] 34)).alloc (.cells #[.int .i64 k2, .int .i64 n2, .string s2] 34)).cell? ⟨w.heap.size, 0, none⟩ = some (.int .i64 0) := by go_simp
      have hn1 : ((((w.alloc (.cells #[.int .i64 0, .int .i64 0, .string ⟨#[]⟩] 34)).alloc (.cells #[.int .i64 8, .int .i64 ja, .int .i64 jb, .int .i64 col, .int .i64 ck, .int .i64 cn, .string cs] 44)).alloc (.cells #[.int .i64 k1, .int .i64 n1, .string s1] 34)).alloc (.cells #[.int .i64 k2, .int .i64 n2, .string s2] 34)).cell? ⟨w.heap.size, 1, none⟩ = some (.int .i64 0) := by go_simp
      have hn2 : ((((w.alloc (.cells #[.int .i64 0, .int .i64 0, .string ⟨#[]⟩] 34)).alloc (.cells #[.int .i64 8, .int .i64 ja, .int .i64 jb, .int .i64 col, .int .i64 ck, .int .i64 cn, .string cs] 44)).alloc (.cells #[.int .i64 k1, .int .i64 n1, .string s1] 34)).alloc (.cells #[.int .i64 k2, .int .i64 n2, .string s2] 34)).cell? ⟨w.heap.size, 2, none⟩ = some (.string ⟨#[]⟩) := by go_simp
      have hn3 : ((((w.alloc (.cells #[.int .i64 0, .int .i64 0, .string ⟨#[]⟩] 34)).alloc (.cells #[.int .i64 8, .int .i64 ja, .int .i64 jb, .int .i64 col, .int .i64 ck, .int .i64 cn, .string cs] 44)).alloc (.cells #[.int .i64 k1, .int .i64 n1, .string s1] 34)).alloc (.cells #[.int .i64 k2, .int .i64 n2, .string s2] 34)).cell? ⟨w.heap.size + 1, 0, none⟩ = some (.int .i64 8) := by go_simp
      have hn4 : ((((w.alloc (.cells #[.int .i64 0, .int .i64 0, .string ⟨#[]⟩] 34)).alloc (.cells #[.int .i64 8, .int .i64 ja, .int .i64 jb, .int .i64 col, .int .i64 ck, .int .i64 cn, .string cs] 44)).alloc (.cells #[.int .i64 k1, .int .i64 n1, .string s1] 34)).alloc (.cells #[.int .i64 k2, .int .i64 n2, .string s2] 34)).cell? ⟨w.heap.size + 1 + 1, 0, none⟩ = some (.int .i64 k1) := by go_simp
      have hn5 : ((((w.alloc (.cells #[.int .i64 0, .int .i64 0, .string ⟨#[]⟩] 34)).alloc (.cells #[.int .i64 8, .int .i64 ja, .int .i64 jb, .int .i64 col, .int .i64 ck, .int .i64 cn, .string cs] 44)).alloc (.cells #[.int .i64 k1, .int .i64 n1, .string s1] 34)).alloc (.cells #[.int .i64 k2, .int .i64 n2, .string s2] 34)).cell? ⟨w.heap.size + 1 + 1, 1, none⟩ = some (.int .i64 n1) := by go_simp
      have hn6 : ((((w.alloc (.cells #[.int .i64 0, .int .i64 0, .string ⟨#[]⟩] 34)).alloc (.cells #[.int .i64 8, .int .i64 ja, .int .i64 jb, .int .i64 col, .int .i64 ck, .int .i64 cn, .string cs] 44)).alloc (.cells #[.int .i64 k1, .int .i64 n1, .string s1] 34)).alloc (.cells #[.int .i64 k2, .int .i64 n2, .string s2] 34)).cell? ⟨w.heap.size + 1 + 1, 2, none⟩ = some (.string s1) := by go_simp
      have hn7 : ((((w.alloc (.cells #[.int .i64 0, .int .i64 0, .string ⟨#[]⟩] 34)).alloc (.cells #[.int .i64 8, .int .i64 ja, .int .i64 jb, .int .i64 col, .int .i64 ck, .int .i64 cn, .string cs] 44)).alloc (.cells #[.int .i64 k1, .int .i64 n1, .string s1] 34)).alloc (.cells #[.int .i64 k2, .int .i64 n2, .string s2] 34)).cell? ⟨w.heap.size + 1 + 1 + 1, 0, none⟩ = some (.int .i64 k2) := by go_simp
      have hn8 : ((((w.alloc (.cells #[.int .i64 0, .int .i64 0, .string ⟨#[]⟩] 34)).alloc (.cells #[.int .i64 8, .int .i64 ja, .int .i64 jb, .int .i64 col, .int .i64 ck, .int .i64 cn, .string cs] 44)).alloc (.cells #[.int .i64 k1, .int .i64 n1, .string s1] 34)).alloc (.cells #[.int .i64 k2, .int .i64 n2, .string s2] 34)).cell? ⟨w.heap.size + 1 + 1 + 1, 1, none⟩ = some (.int .i64 n2) := by go_simp
      have hn9 : ((((w.alloc (.cells #[.int .i64 0, .int .i64 0, .string ⟨#[]⟩] 34)).alloc (.cells #[.int .i64 8, .int .i64 ja, .int .i64 jb, .int .i64 col, .int .i64 ck, .int .i64 cn, .string cs] 44)).alloc (.cells #[.int .i64 k1, .int .i64 n1, .string s1] 34)).alloc (.cells #[.int .i64 k2, .int .i64 n2, .string s2] 34)).cell? ⟨w.heap.size + 1 + 1 + 1, 2, none⟩ = some (.string s2) := by go_simp
      have hnf0 : ((((w.alloc (.cells #[.int .i64 0, .int .i64 0, .string ⟨#[]⟩] 34)).alloc (.cells #[.int .i64 8, .int .i64 ja, .int .i64 jb, .int .i64 col, .int .i64 ck, .int .i64 cn, .string cs] 44)).alloc (.cells #[.int .i64 k1, .int .i64 n1, .string s1] 34)).alloc (.cells #[.int .i64 k2, .int .i64 n2, .string s2] 34)).frozen? ⟨w.heap.size, 0, none⟩ = false := by go_simp
      have hnf1 : ((((w.alloc (.cells #[.int .i64 0, .int .i64 0, .string ⟨#[]⟩] 34)).alloc (.cells #[.int .i64 8, .int .i64 ja, .int .i64 jb, .int .i64 col, .int .i64 ck, .int .i64 cn, .string cs] 44)).alloc (.cells #[.int .i64 k1, .int .i64 n1, .string s1] 34)).alloc (.cells #[.int .i64 k2, .int .i64 n2, .string s2] 34)).frozen? ⟨w.heap.size, 1, none⟩ = false := by go_simp
      have hnf2 : ((((w.alloc (.cells #[.int .i64 0, .int .i64 0, .string ⟨#[]⟩] 34)).alloc (.cells #[.int .i64 8, .int .i64 ja, .int .i64 jb, .int .i64 col, .int .i64 ck, .int .i64 cn, .string cs] 44)).alloc (.cells #[.int .i64 k1, .int .i64 n1, .string s1] 34)).alloc (.cells #[.int .i64 k2, .int .i64 n2, .string s2] 34)).frozen? ⟨w.heap.size, 2, none⟩ = false := by go_simp
      have hsz0 : ((((w.alloc (.cells #[.int .i64 0, .int .i64 0, .string ⟨#[]⟩] 34)).alloc (.cells #[.int .i64 8, .int .i64 ja, .int .i64 jb, .int .i64 col, .int .i64 ck, .int .i64 cn, .string cs] 44)).alloc (.cells #[.int .i64 k1, .int .i64 n1, .string s1] 34)).alloc (.cells #[.int .i64 k2, .int .i64 n2, .string s2] 34)).heap.size = w.heap.size + 4 := by simp only [World.size_alloc]
      generalize hw0 : ((((w.alloc (.cells #[.int .i64 0, .int .i64 0, .string ⟨#[]⟩] 34)).alloc (.cells #[.int .i64 8, .int .i64 ja, .int .i64 jb, .int .i64 col, .int .i64 ck, .int .i64 cn, .string cs] 44)).alloc (.cells #[.int .i64 k1, .int .i64 n1, .string s1] 34)).alloc (.cells #[.int .i64 k2, .int .i64 n2, .string s2] 34)) = w0 at *
      clear hw0
      have hq0 : w.heap.size < w0.heap.size := by omega
      have hr0 : w.heap.size ≤ w0.heap.size := by omega
      have hq1 : w.heap.size + 1 < w0.heap.size := by omega
      have hr1 : w.heap.size + 1 ≤ w0.heap.size := by omega
      have hq2 : w.heap.size + 1 + 1 < w0.heap.size := by omega
      have hr2 : w.heap.size + 1 + 1 ≤ w0.heap.size := by omega
      have hq3 : w.heap.size + 1 + 1 + 1 < w0.heap.size := by omega
      have hr3 : w.heap.size + 1 + 1 + 1 ≤ w0.heap.size := by omega
      clear hsz0
      refine (ref_isT_call k1 n1 s1 true _ H1.out).mono ?_
      rintro e w1 ⟨rfl, hb1⟩
      have hB1 : Below w.heap.size w w1 := below_chain (hB0') hb1
      have hz1 := hb1.size
      have hl1_0 : w.heap.size < w1.heap.size := by omega
      have hm1_0 : w.heap.size ≤ w1.heap.size := by omega
      have hl1_1 : w.heap.size + 1 < w1.heap.size := by omega
      have hm1_1 : w.heap.size + 1 ≤ w1.heap.size := by omega
      have hl1_2 : w.heap.size + 1 + 1 < w1.heap.size := by omega
      have hm1_2 : w.heap.size + 1 + 1 ≤ w1.heap.size := by omega
      have hl1_3 : w.heap.size + 1 + 1 + 1 < w1.heap.size := by omega
      have hm1_3 : w.heap.size + 1 + 1 + 1 ≤ w1.heap.size := by omega
      obtain ⟨hc1, hf1⟩ := bcell hb1
      clear hb1
      go_wp2_with fail
      refine (ref_isT_call k2 n2 s2 false _ H2.out).mono ?_
      rintro e w2 ⟨rfl, hb2⟩
      have hB2 : Below w.heap.size w w2 := below_chain (hB1) hb2
      have hz2 := hb2.size
      have hl2_0 : w.heap.size < w2.heap.size := by omega
      have hm2_0 : w.heap.size ≤ w2.heap.size := by omega
      have hl2_1 : w.heap.size + 1 < w2.heap.size := by omega
      have hm2_1 : w.heap.size + 1 ≤ w2.heap.size := by omega
      have hl2_2 : w.heap.size + 1 + 1 < w2.heap.size := by omega
      have hm2_2 : w.heap.size + 1 + 1 ≤ w2.heap.size := by omega
      have hl2_3 : w.heap.size + 1 + 1 + 1 < w2.heap.size := by omega
      have hm2_3 : w.heap.size + 1 + 1 + 1 ≤ w2.heap.size := by omega
      obtain ⟨hc2, hf2⟩ := bcell hb2
      clear hb2
      go_wp2_with fail
      refine (ref_bool_call false 0 _ rfl).mono ?_
      rintro e w3 ⟨rfl, hb3⟩
      have hB3 : Below w.heap.size w w3 := below_chain (hB2) hb3
      have hz3 := hb3.size
      have hl3_0 : w.heap.size < w3.heap.size := by omega
      have hm3_0 : w.heap.size ≤ w3.heap.size := by omega
      have hl3_1 : w.heap.size + 1 < w3.heap.size := by omega
      have hm3_1 : w.heap.size + 1 ≤ w3.heap.size := by omega
      have hl3_2 : w.heap.size + 1 + 1 < w3.heap.size := by omega
      have hm3_2 : w.heap.size + 1 + 1 ≤ w3.heap.size := by omega
      have hl3_3 : w.heap.size + 1 + 1 + 1 < w3.heap.size := by omega
      have hm3_3 : w.heap.size + 1 + 1 + 1 ≤ w3.heap.size := by omega
      obtain ⟨hc3, hf3⟩ := bcell hb3
      clear hb3
      go_wp2_with fail
      have sc := two_ops (w := w3) (B := w.heap.size) (a := .int .i64 0) (b := .int .i64 0) (c := .string ⟨#[]⟩) (by go_simp) (by go_simp) (by go_simp) (.int .i64 3) (.int .i64 0) (.string ⟨#[]⟩)
      obtain ⟨sc0, sc1, sc2⟩ := sc
      refine bodyPost_ret (v := .agg #[.int .i64 3, .int .i64 0, .string ⟨#[]⟩]) (by simp [sc0, sc1, sc2, results, Try.results26, go_sem]) rfl ⟨by rw [HW.out]; rfl, ?_⟩
      exact (((hB3).setCell (by simp) _).setCell (by simp) _).setCell (by simp) _
  | false =>
    have H1 := Lib.hid h1
    cases h2 : Xp.isT ⟨k2, n2, s2⟩ with
    | true =>
      have H2 := Lib.hid h2
      have HW := Lib.hid (HV.out.symm.trans (show (Xp.bool (Xp.isT ⟨k1, n1, s1⟩ && Xp.isT ⟨k2, n2, s2⟩)).go = (Xp.bool false).go by rw [h1, h2]; rfl))
      clear h1 h2
      have HX := Lib.hid hx
      have HL := Lib.hid (show (!Xp.badIx ⟨8, ja, jb, col, ⟨ck, cn, cs⟩⟩ k) = true by unfold Xp.badIx Xp.lgl; simp [hja, hjb])
      obtain ⟨x0, x1, x2, x3, x4, x5, x6⟩ := hx
      simp only at x0 x1 x2 x3 x4 x5 x6
      obtain ⟨u0, u1, u2⟩ := hva
      simp only at u0 u1 u2
      obtain ⟨v0, v1, v2⟩ := hvb
      simp only at v0 v1 v2
      have h0 : (0 : Int) ≤ (k : Int) := by omega
      have h1 : (k : Int) < (n : Int) := by omega
      have h2ja : (0 : Int) ≤ (ja : Int) := by omega
      have h3ja : (ja : Int) < (dn : Int) := by omega
      have h2jb : (0 : Int) ≤ (jb : Int) := by omega
      have h3jb : (jb : Int) < (dn : Int) := by omega
      have hb1 : b < w.heap.size + 1 := by omega
      have hb2 : b < w.heap.size + 1 + 1 := by omega
      have hg1 : dg < w.heap.size + 1 := by omega
      have hg2 : dg < w.heap.size + 1 + 1 := by omega
      have hg3 : dg < w.heap.size + 1 + 1 + 1 := by omega
      have hB0 : Below w.heap.size w w := Below.refl _ _
      go_enter Try.func26, Try.ntmps26
      go_wp2_with fail
      refine (ropn_call _ 2 _ rfl).mono ?_
      rintro e1 w1 ⟨rfl, rfl⟩
      go_wp2_with fail
      refine (legal_call true b off n c k _ w _ hb (below_alloc (below_alloc (Below.refl _ _) _) _) hk hnc HX.out HL.out).mono ?_
      rintro e1 w1 ⟨rfl, rfl⟩
      go_wp2_with fail
      have hB0' : Below w.heap.size w ((((w.alloc (.cells #[.int .i64 0, .int .i64 0, .string ⟨#[]⟩] 34)).alloc (.cells #[.int .i64 8, .int .i64 ja, .int .i64 jb, .int .i64 col, .int .i64 ck, .int .i64 cn, .string cs] 44)).alloc (.cells #[.int .i64 k1, .int .i64 n1, .string s1] 34)).alloc (.cells #[.int .i64 k2, .int .i64 n2, .string s2] 34)) := below_alloc (below_alloc (below_alloc (below_alloc (Below.refl _ _) _) _) _) _
      have hn0 : ((((w.alloc (.cells #[.int .i64 0, .int .i64 0, .string ⟨#[]⟩] 34)).alloc (.cells #[.int .i64 8, .int .i64 ja, .int .i64 jb, .int .i64 col, .int .i64 ck, .int .i64 cn, .string cs] 44)).alloc (.cells #[.int .i64 k1, .int .i64 n1, .string s1] 34)).alloc (.cells #[.int .i64 k2, .int .i64 n2, .string s2] 34)).cell? ⟨w.heap.size, 0, none⟩ = some (.int .i64 0) := by go_simp
      have hn1 : ((((w.alloc (.cells #[.int .i64 0, .int .i64 0, .string ⟨#[]⟩] 34)).alloc (.cells #[.int .i64 8, .int .i64 ja, .int .i64 jb, .int .i64 col, .int .i64 ck, .int .i64 cn, .string cs] 44)).alloc (.cells #[.int .i64 k1, .int .i64 n1, .string s1] 34)).alloc (.cells #[.int .i64 k2, .int .i64 n2, .string s2] 34)).cell? ⟨w.heap.size, 1, none⟩ = some (.int .i64 0) := by go_simp
      have hn2 : ((((w.alloc (.cells #[.int .i64 0, .int .i64 0, .string ⟨#[]⟩] 34)).alloc (.cells #[.int .i64 8, .int .i64 ja, .int .i64 jb, .int .i64 col, .int .i64 ck, .int .i64 cn, .string cs] 44)).alloc (.cells #[.int .i64 k1, .int .i64 n1, .string s1] 34)).alloc (.cells #[.int .i64 k2, .int .i64 n2, .string s2] 34)).cell? ⟨w.heap.size, 2, none⟩ = some (.string ⟨#[]⟩) := by go_simp
      have hn3 : ((((w.alloc (.cells #[.int .i64 0, .int .i64 0, .string ⟨#[]⟩] 34)).alloc (.cells #[.int .i64 8, .int .i64 ja, .int .i64 jb, .int .i64 col, .int .i64 ck, .int .i64 cn, .string cs] 44)).alloc (.cells #[.int .i64 k1, .int .i64 n1, .string s1] 34)).alloc (.cells #[.int .i64 k2, .int .i64 n2, .string s2] 34)).cell? ⟨w.heap.size + 1, 0, none⟩ = some (.int .i64 8) := by go_simp
      have hn4 : ((((w.alloc (.cells #[.int .i64 0, .int .i64 0, .string ⟨#[]⟩] 34)).alloc (.cells #[.int .i64 8, .int .i64 ja, .int .i64 jb, .int .i64 col, .int .i64 ck, .int .i64 cn, .string cs] 44)).alloc (.cells #[.int .i64 k1, .int .i64 n1, .string s1] 34)).alloc (.cells #[.int .i64 k2, .int .i64 n2, .string s2] 34)).cell? ⟨w.heap.size + 1 + 1, 0, none⟩ = some (.int .i64 k1) := by go_simp
      have hn5 : ((((w.alloc (.cells #[.int .i64 0, .int .i64 0, .string ⟨#[]⟩] 34)).alloc (.cells #[.int .i64 8, .int .i64 ja, .int .i64 jb, .int .i64 col, .int .i64 ck, .int .i64 cn, .string cs] 44)).alloc (.cells #[.int .i64 k1, .int .i64 n1, .string s1] 34)).alloc (.cells #[.int .i64 k2, .int .i64 n2, .string s2] 34)).cell? ⟨w.heap.size + 1 + 1, 1, none⟩ = some (.int .i64 n1) := by go_simp
      have hn6 : ((((w.alloc (.cells #[.int .i64 0, .int .i64 0, .string ⟨#[]⟩] 34)).alloc (.cells #[.int .i64 8, .int .i64 ja, .int .i64 jb, .int .i64 col, .int .i64 ck, .int .i64 cn, .string cs] 44)).alloc (.cells #[.int .i64 k1, .int .i64 n1, .string s1] 34)).alloc (.cells #[.int .i64 k2, .int .i64 n2, .string s2] 34)).cell? ⟨w.heap.size + 1 + 1, 2, none⟩ = some (.string s1) := by go_simp
      have hn7 : ((((w.alloc (.cells #[.int .i64 0, .int .i64 0, .string ⟨#[]⟩] 34)).alloc (.cells #[.int .i64 8, .int .i64 ja, .int .i64 jb, .int .i64 col, .int .i64 ck, .int .i64 cn, .string cs] 44)).alloc (.cells #[.int .i64 k1, .int .i64 n1, .string s1] 34)).alloc (.cells #[.int .i64 k2, .int .i64 n2, .string s2] 34)).cell? ⟨w.heap.size + 1 + 1 + 1, 0, none⟩ = some (.int .i64 k2) := by go_simp
      have hn8 : ((((w.alloc (.cells #[.int .i64 0, .int .i64 0, .string ⟨#[]⟩] 34)).alloc (.cells #[.int .i64 8, .int .i64 ja, .int .i64 jb, .int .i64 col, .int .i64 ck, .int .i64 cn, .string cs] 44)).alloc (.cells #[.int .i64 k1, .int .i64 n1, .string s1] 34)).alloc (.cells #[.int .i64 k2, .int .i64 n2, .string s2] 34)).cell? ⟨w.heap.size + 1 + 1 + 1, 1, none⟩ = some (.int .i64 n2) := by go_simp
      have hn9 : ((((w.alloc (.cells #[.int .i64 0, .int .i64 0, .string ⟨#[]⟩] 34)).alloc (.cells #[.int .i64 8, .int .i64 ja, .int .i64 jb, .int .i64 col, .int .i64 ck, .int .i64 cn, .string cs] 44)).alloc (.cells #[.int .i64 k1, .int .i64 n1, .string s1] 34)).alloc (.cells #[.int .i64 k2, .int .i64 n2, .string s2] 34)).cell? ⟨w.heap.size + 1 + 1 + 1, 2, none⟩ = some (.string s2) := by go_simp
      have hnf0 : ((((w.alloc (.cells #[.int .i64 0, .int .i64 0, .string ⟨#[]⟩] 34)).alloc (.cells #[.int .i64 8, .int .i64 ja, .int .i64 jb, .int .i64 col, .int .i64 ck, .int .i64 cn, .string cs] 44)).alloc (.cells #[.int .i64 k1, .int .i64 n1, .string s1] 34)).alloc (.cells #[.int .i64 k2, .int .i64 n2, .string s2] 34)).frozen? ⟨w.heap.size, 0, none⟩ = false := by go_simp
      have hnf1 : ((((w.alloc (.cells #[.int .i64 0, .int .i64 0, .string ⟨#[]⟩] 34)).alloc (.cells #[.int .i64 8, .int .i64 ja, .int .i64 jb, .int .i64 col, .int .i64 ck, .int .i64 cn, .string cs] 44)).alloc (.cells #[.int .i64 k1, .int .i64 n1, .string s1] 34)).alloc (.cells #[.int .i64 k2, .int .i64 n2, .string s2] 34)).frozen? ⟨w.heap.size, 1, none⟩ = false := by go_simp
      have hnf2 : ((((w.alloc (.cells #[.int .i64 0, .int .i64 0, .string ⟨#[]⟩] 34)).alloc (.cells #[.int .i64 8, .int .i64 ja, .int .i64 jb, .int .i64 col, .int .i64 ck, .int .i64 cn, .string cs] 44)).alloc (.cells #[.int .i64 k1, .int .i64 n1, .string s1] 34)).alloc (.cells #[.int .i64 k2, .int .i64 n2, .string s2] 34)).frozen? ⟨w.heap.size, 2, none⟩ = false := by go_simp
      have hsz0 : ((((w.alloc (.cells #[.int .i64 0, .int .i64 0, .string ⟨#[]⟩] 34)).alloc (.cells #[.int .i64 8, .int .i64 ja, .int .i64 jb, .int .i64 col, .int .i64 ck, .int .i64 cn, .string cs] 44)).alloc (.cells #[.int .i64 k1, .int .i64 n1, .string s1] 34)).alloc (.cells #[.int .i64 k2, .int .i64 n2, .string s2] 34)).heap.size = w.heap.size + 4 := by simp only [World.size_alloc]
      generalize hw0 : ((((w.alloc (.cells #[.int .i64 0, .int .i64 0, .string ⟨#[]⟩] 34)).alloc (.cells #[.int .i64 8, .int .i64 ja, .int .i64 jb, .int .i64 col, .int .i64 ck, .int .i64 cn, .string cs] 44)).alloc (.cells #[.int .i64 k1, .int .i64 n1, .string s1] 34)).alloc (.cells #[.int .i64 k2, .int .i64 n2, .string s2] 34)) = w0 at *
      clear hw0
      have hq0 : w.heap.size < w0.heap.size := by omega
      have hr0 : w.heap.size ≤ w0.heap.size := by omega
      have hq1 : w.heap.size + 1 < w0.heap.size := by omega
      have hr1 : w.heap.size + 1 ≤ w0.heap.size := by omega
      have hq2 : w.heap.size + 1 + 1 < w0.heap.size := by omega
      have hr2 : w.heap.size + 1 + 1 ≤ w0.heap.size := by omega
      have hq3 : w.heap.size + 1 + 1 + 1 < w0.heap.size := by omega
      have hr3 : w.heap.size + 1 + 1 + 1 ≤ w0.heap.size := by omega
      clear hsz0
      refine (ref_isT_call k1 n1 s1 false _ H1.out).mono ?_
      rintro e w1 ⟨rfl, hb1⟩
      have hB1 : Below w.heap.size w w1 := below_chain (hB0') hb1
      have hz1 := hb1.size
      have hl1_0 : w.heap.size < w1.heap.size := by omega
      have hm1_0 : w.heap.size ≤ w1.heap.size := by omega
      have hl1_1 : w.heap.size + 1 < w1.heap.size := by omega
      have hm1_1 : w.heap.size + 1 ≤ w1.heap.size := by omega
      have hl1_2 : w.heap.size + 1 + 1 < w1.heap.size := by omega
      have hm1_2 : w.heap.size + 1 + 1 ≤ w1.heap.size := by omega
      have hl1_3 : w.heap.size + 1 + 1 + 1 < w1.heap.size := by omega
      have hm1_3 : w.heap.size + 1 + 1 + 1 ≤ w1.heap.size := by omega
      obtain ⟨hc1, hf1⟩ := bcell hb1
      clear hb1
      go_wp2_with fail
      refine (ref_bool_call false 0 _ rfl).mono ?_
      rintro e w2 ⟨rfl, hb2⟩
      have hB2 : Below w.heap.size w w2 := below_chain (hB1) hb2
      have hz2 := hb2.size
      have hl2_0 : w.heap.size < w2.heap.size := by omega
      have hm2_0 : w.heap.size ≤ w2.heap.size := by omega
      have hl2_1 : w.heap.size + 1 < w2.heap.size := by omega
      have hm2_1 : w.heap.size + 1 ≤ w2.heap.size := by omega
      have hl2_2 : w.heap.size + 1 + 1 < w2.heap.size := by omega
      have hm2_2 : w.heap.size + 1 + 1 ≤ w2.heap.size := by omega
      have hl2_3 : w.heap.size + 1 + 1 + 1 < w2.heap.size := by omega
      have hm2_3 : w.heap.size + 1 + 1 + 1 ≤ w2.heap.size := by omega
      obtain ⟨hc2, hf2⟩ := bcell hb2
      clear hb2
      go_wp2_with fail
      have sc := two_ops (w := w2) (B := w.heap.size) (a := .int .i64 0) (b := .int .i64 0) (c := .string ⟨#[]⟩) (by go_simp) (by go_simp) (by go_simp) (.int .i64 3) (.int .i64 0) (.string ⟨#[]⟩)
      obtain ⟨sc0, sc1, sc2⟩ := sc
      refine bodyPost_ret (v := .agg #[.int .i64 3, .int .i64 0, .string ⟨#[]⟩]) (by simp [sc0, sc1, sc2, results, Try.results26, go_sem]) rfl ⟨by rw [HW.out]; rfl, ?_⟩
      exact (((hB2).setCell (by simp) _).setCell (by simp) _).setCell (by simp) _
    | false =>
      have H2 := Lib.hid h2
      have HW := Lib.hid (HV.out.symm.trans (show (Xp.bool (Xp.isT ⟨k1, n1, s1⟩ && Xp.isT ⟨k2, n2, s2⟩)).go = (Xp.bool false).go by rw [h1, h2]; rfl))
      clear h1 h2
      have HX := Lib.hid hx
      have HL := Lib.hid (show (!Xp.badIx ⟨8, ja, jb, col, ⟨ck, cn, cs⟩⟩ k) = true by unfold Xp.badIx Xp.lgl; simp [hja, hjb])
      obtain ⟨x0, x1, x2, x3, x4, x5, x6⟩ := hx
      simp only at x0 x1 x2 x3 x4 x5 x6
      obtain ⟨u0, u1, u2⟩ := hva
      simp only at u0 u1 u2
      obtain ⟨v0, v1, v2⟩ := hvb
      simp only at v0 v1 v2
      have h0 : (0 : Int) ≤ (k : Int) := by omega
      have h1 : (k : Int) < (n : Int) := by omega
      have h2ja : (0 : Int) ≤ (ja : Int) := by omega
      have h3ja : (ja : Int) < (dn : Int) := by omega
      have h2jb : (0 : Int) ≤ (jb : Int) := by omega
      have h3jb : (jb : Int) < (dn : Int) := by omega
      have hb1 : b < w.heap.size + 1 := by omega
      have hb2 : b < w.heap.size + 1 + 1 := by omega
      have hg1 : dg < w.heap.size + 1 := by omega
      have hg2 : dg < w.heap.size + 1 + 1 := by omega
      have hg3 : dg < w.heap.size + 1 + 1 + 1 := by omega
      have hB0 : Below w.heap.size w w := Below.refl _ _
      go_enter Try.func26, Try.ntmps26
      go_wp2_with fail
      refine (ropn_call _ 2 _ rfl).mono ?_
      rintro e1 w1 ⟨rfl, rfl⟩
      go_wp2_with fail
      refine (legal_call true b off n c k _ w _ hb (below_alloc (below_alloc (Below.refl _ _) _) _) hk hnc HX.out HL.out).mono ?_
      rintro e1 w1 ⟨rfl, rfl⟩
      go_wp2_with fail
      have hB0' : Below w.heap.size w ((((w.alloc (.cells #[.int .i64 0, .int .i64 0, .string ⟨#[]⟩] 34)).alloc (.cells #[.int .i64 8, .int .i64 ja, .int .i64 jb, .int .i64 col, .int .i64 ck, .int .i64 cn, .string cs] 44)).alloc (.cells #[.int .i64 k1, .int .i64 n1, .string s1] 34)).alloc (.cells #[.int .i64 k2, .int .i64 n2, .string s2] 34)) := below_alloc (below_alloc (below_alloc (below_alloc (Below.refl _ _) _) _) _) _
      have hn0 : ((((w.alloc (.cells #[.int .i64 0, .int .i64 0, .string ⟨#[]⟩] 34)).alloc (.cells #[.int .i64 8, .int .i64 ja, .int .i64 jb, .int .i64 col, .int .i64 ck, .int .i64 cn, .string cs] 44)).alloc (.cells #[.int .i64 k1, .int .i64 n1, .string s1] 34)).alloc (.cells #[.int .i64 k2, .int .i64 n2, .string s2] 34)).cell? ⟨w.heap.size, 0, none⟩ = some (.int .i64 0) := by go_simp
      have hn1 : ((((w.alloc (.cells #[.int .i64 0, .int .i64 0, .string ⟨#[]⟩] 34)).alloc (.cells #[.int .i64 8, .int .i64 ja, .int .i64 jb, .int .i64 col, .int .i64 ck, .int .i64 cn, .string cs] 44)).alloc (.cells #[.int .i64 k1, .int .i64 n1, .string s1] 34)).alloc (.cells #[.int .i64 k2, .int .i64 n2, .string s2] 34)).cell? ⟨w.heap.size, 1, none⟩ = some (.int .i64 0) := by go_simp
      have hn2 : ((((w.alloc (.cells #[.int .i64 0, .int .i64 0, .string ⟨#[]⟩] 34)).alloc (.cells #[.int .i64 8, .int .i64 ja, .int .i64 jb, .int .i64 col, .int .i64 ck, .int .i64 cn, .string cs] 44)).alloc (.cells #[.int .i64 k1, .int .i64 n1, .string s1] 34)).alloc (.cells #[.int .i64 k2, .int .i64 n2, .string s2] 34)).cell? ⟨w.heap.size, 2, none⟩ = some (.string ⟨#[]⟩) := by go_simp
      have hn3 : ((((w.alloc (.cells #[.int .i64 0, .int .i64 0, .string ⟨#[]⟩] 34)).alloc (.cells #[.int .i64 8, .int .i64 ja, .int .i64 jb, .int .i64 col, .int .i64 ck, .int .i64 cn, .string cs] 44)).alloc (.cells #[.int .i64 k1, .int .i64 n1, .string s1] 34)).alloc (.cells #[.int .i64 k2, .int .i64 n2, .string s2] 34)).cell? ⟨w.heap.size + 1, 0, none⟩ = some (.int .i64 8) := by go_simp
      have hn4 : ((((w.alloc (.cells #[.int .i64 0, .int .i64 0, .string ⟨#[]⟩] 34)).alloc (.cells #[.int .i64 8, .int .i64 ja, .int .i64 jb, .int .i64 col, .int .i64 ck, .int .i64 cn, .string cs] 44)).alloc (.cells #[.int .i64 k1, .int .i64 n1, .string s1] 34)).alloc (.cells #[.int .i64 k2, .int .i64 n2, .string s2] 34)).cell? ⟨w.heap.size + 1 + 1, 0, none⟩ = some (.int .i64 k1) := by go_simp
      have hn5 : ((((w.alloc (.cells #[.int .i64 0, .int .i64 0, .string ⟨#[]⟩] 34)).alloc (.cells #[.int .i64 8, .int .i64 ja, .int .i64 jb, .int .i64 col, .int .i64 ck, .int .i64 cn, .string cs] 44)).alloc (.cells #[.int .i64 k1, .int .i64 n1, .string s1] 34)).alloc (.cells #[.int .i64 k2, .int .i64 n2, .string s2] 34)).cell? ⟨w.heap.size + 1 + 1, 1, none⟩ = some (.int .i64 n1) := by go_simp
      have hn6 : ((((w.alloc (.cells #[.int .i64 0, .int .i64 0, .string ⟨#[]⟩] 34)).alloc (.cells #[.int .i64 8, .int .i64 ja, .int .i64 jb, .int .i64 col, .int .i64 ck, .int .i64 cn, .string cs] 44)).alloc (.cells #[.int .i64 k1, .int .i64 n1, .string s1] 34)).alloc (.cells #[.int .i64 k2, .int .i64 n2, .string s2] 34)).cell? ⟨w.heap.size + 1 + 1, 2, none⟩ = some (.string s1) := by go_simp
      have hn7 : ((((w.alloc (.cells #[.int .i64 0, .int .i64 0, .string ⟨#[]⟩] 34)).alloc (.cells #[.int .i64 8, .int .i64 ja, .int .i64 jb, .int .i64 col, .int .i64 ck, .int .i64 cn, .string cs] 44)).alloc (.cells #[.int .i64 k1, .int .i64 n1, .string s1] 34)).alloc (.cells #[.int .i64 k2, .int .i64 n2, .string s2] 34)).cell? ⟨w.heap.size + 1 + 1 + 1, 0, none⟩ = some (.int .i64 k2) := by go_simp
      have hn8 : ((((w.alloc (.cells #[.int .i64 0, .int .i64 0, .string ⟨#[]⟩] 34)).alloc (.cells #[.int .i64 8, .int .i64 ja, .int .i64 jb, .int .i64 col, .int .i64 ck, .int .i64 cn, .string cs] 44)).alloc (.cells #[.int .i64 k1, .int .i64 n1, .string s1] 34)).alloc (.cells #[.int .i64 k2, .int .i64 n2, .string s2] 34)).cell? ⟨w.heap.size + 1 + 1 + 1, 1, none⟩ = some (.int .i64 n2) := by go_simp
      have hn9 : ((((w.alloc (.cells #[.int .i64 0, .int .i64 0, .string ⟨#[]⟩] 34)).alloc (.cells #[.int .i64 8, .int .i64 ja, .int .i64 jb, .int .i64 col, .int .i64 ck, .int .i64 cn, .string cs] 44)).alloc (.cells #[.int .i64 k1, .int .i64 n1, .string s1] 34)).alloc (.cells #[.int .i64 k2, .int .i64 n2, .string s2] 34)).cell? ⟨w.heap.size + 1 + 1 + 1, 2, none⟩ = some (.string s2) := by go_simp
      have hnf0 : ((((w.alloc (.cells #[.int .i64 0, .int .i64 0, .string ⟨#[]⟩] 34)).alloc (.cells #[.int .i64 8, .int .i64 ja, .int .i64 jb, .int .i64 col, .int .i64 ck, .int .i64 cn, .string cs] 44)).alloc (.cells #[.int .i64 k1, .int .i64 n1, .string s1] 34)).alloc (.cells #[.int .i64 k2, .int .i64 n2, .string s2] 34)).frozen? ⟨w.heap.size, 0, none⟩ = false := by go_simp
      have hnf1 : ((((w.alloc (.cells #[.int .i64 0, .int .i64 0, .string ⟨#[]⟩] 34)).alloc (.cells #[.int .i64 8, .int .i64 ja, .int .i64 jb, .int .i64 col, .int .i64 ck, .int .i64 cn, .string cs] 44)).alloc (.cells #[.int .i64 k1, .int .i64 n1, .string s1] 34)).alloc (.cells #[.int .i64 k2, .int .i64 n2, .string s2] 34)).frozen? ⟨w.heap.size, 1, none⟩ = false := by go_simp
      have hnf2 : ((((w.alloc (.cells #[.int .i64 0, .int .i64 0, .string ⟨#[]⟩] 34)).alloc (.cells #[.int .i64 8, .int .i64 ja, .int .i64 jb, .int .i64 col, .int .i64 ck, .int .i64 cn, .string cs] 44)).alloc (.cells #[.int .i64 k1, .int .i64 n1, .string s1] 34)).alloc (.cells #[.int .i64 k2, .int .i64 n2, .string s2] 34)).frozen? ⟨w.heap.size, 2, none⟩ = false := by go_simp
      have hsz0 : ((((w.alloc (.cells #[.int .i64 0, .int .i64 0, .string ⟨#[]⟩] 34)).alloc (.cells #[.int .i64 8, .int .i64 ja, .int .i64 jb, .int .i64 col, .int .i64 ck, .int .i64 cn, .string cs] 44)).alloc (.cells #[.int .i64 k1, .int .i64 n1, .string s1] 34)).alloc (.cells #[.int .i64 k2, .int .i64 n2, .string s2] 34)).heap.size = w.heap.size + 4 := by simp only [World.size_alloc]
      generalize hw0 : ((((w.alloc (.cells #[.int .i64 0, .int .i64 0, .string ⟨#[]⟩] 34)).alloc (.cells #[.int .i64 8, .int .i64 ja, .int .i64 jb, .int .i64 col, .int .i64 ck, .int .i64 cn, .string cs] 44)).alloc (.cells #[.int .i64 k1, .int .i64 n1, .string s1] 34)).alloc (.cells #[.int .i64 k2, .int .i64 n2, .string s2] 34)) = w0 at *
      clear hw0
      have hq0 : w.heap.size < w0.heap.size := by omega
      have hr0 : w.heap.size ≤ w0.heap.size := by omega
      have hq1 : w.heap.size + 1 < w0.heap.size := by omega
      have hr1 : w.heap.size + 1 ≤ w0.heap.size := by omega
      have hq2 : w.heap.size + 1 + 1 < w0.heap.size := by omega
      have hr2 : w.heap.size + 1 + 1 ≤ w0.heap.size := by omega
      have hq3 : w.heap.size + 1 + 1 + 1 < w0.heap.size := by omega
      have hr3 : w.heap.size + 1 + 1 + 1 ≤ w0.heap.size := by omega
      clear hsz0
      refine (ref_isT_call k1 n1 s1 false _ H1.out).mono ?_
      rintro e w1 ⟨rfl, hb1⟩
      have hB1 : Below w.heap.size w w1 := below_chain (hB0') hb1
      have hz1 := hb1.size
      have hl1_0 : w.heap.size < w1.heap.size := by omega
      have hm1_0 : w.heap.size ≤ w1.heap.size := by omega
      have hl1_1 : w.heap.size + 1 < w1.heap.size := by omega
      have hm1_1 : w.heap.size + 1 ≤ w1.heap.size := by omega
      have hl1_2 : w.heap.size + 1 + 1 < w1.heap.size := by omega
      have hm1_2 : w.heap.size + 1 + 1 ≤ w1.heap.size := by omega
      have hl1_3 : w.heap.size + 1 + 1 + 1 < w1.heap.size := by omega
      have hm1_3 : w.heap.size + 1 + 1 + 1 ≤ w1.heap.size := by omega
      obtain ⟨hc1, hf1⟩ := bcell hb1
      clear hb1
      go_wp2_with fail
      refine (ref_bool_call false 0 _ rfl).mono ?_
      rintro e w2 ⟨rfl, hb2⟩
      have hB2 : Below w.heap.size w w2 := below_chain (hB1) hb2
      have hz2 := hb2.size
      have hl2_0 : w.heap.size < w2.heap.size := by omega
      have hm2_0 : w.heap.size ≤ w2.heap.size := by omega
      have hl2_1 : w.heap.size + 1 < w2.heap.size := by omega
      have hm2_1 : w.heap.size + 1 ≤ w2.heap.size := by omega
      have hl2_2 : w.heap.size + 1 + 1 < w2.heap.size := by omega
      have hm2_2 : w.heap.size + 1 + 1 ≤ w2.heap.size := by omega
      have hl2_3 : w.heap.size + 1 + 1 + 1 < w2.heap.size := by omega
      have hm2_3 : w.heap.size + 1 + 1 + 1 ≤ w2.heap.size := by omega
      obtain ⟨hc2, hf2⟩ := bcell hb2
      clear hb2
      go_wp2_with fail
      have sc := two_ops (w := w2) (B := w.heap.size) (a := .int .i64 0) (b := .int .i64 0) (c := .string ⟨#[]⟩) (by go_simp) (by go_simp) (by go_simp) (.int .i64 3) (.int .i64 0) (.string ⟨#[]⟩)
      obtain ⟨sc0, sc1, sc2⟩ := sc
      refine bodyPost_ret (v := .agg #[.int .i64 3, .int .i64 0, .string ⟨#[]⟩]) (by simp [sc0, sc1, sc2, results, Try.results26, go_sem]) rfl ⟨by rw [HW.out]; rfl, ?_⟩
      exact (((hB2).setCell (by simp) _).setCell (by simp) _).setCell (by simp) _


set_option maxRecDepth 100000 in
set_option maxHeartbeats 2000000 in
theorem reval_or (col ck cn : Int) (cs : ByteArray) (k1 n1 : Int) (s1 : ByteArray) (k2 n2 : Int) (s2 : ByteArray) (b off n c k dg dn dc ja jb : Nat) (rv : Value) (w : World) (hb : b < w.heap.size) (hg : dg < w.heap.size) (hk : k < n) (hnc : n ≤ 100000) (hdn : k < dn) (hja : ja < k) (hjb : jb < k)
    (hx : ExAt w b (off + k * 7) ⟨9, ja, jb, col, ⟨ck, cn, cs⟩⟩) (hva : VlAt w dg (ja * 3) ⟨k1, n1, s1⟩) (hvb : VlAt w dg (jb * 3) ⟨k2, n2, s2⟩) :
    Calls Try.prog 26 #[.slice (some ⟨b, off, none⟩) n c, .int .i64 k, rv, .slice (some ⟨dg, 0, none⟩) dn dc] w fun e' w' => e' = .returned ((Xp.bool (Xp.isT ⟨k1, n1, s1⟩ || Xp.isT ⟨k2, n2, s2⟩)).go) ∧ Below w.heap.size w w' := by
  generalize hV : (Xp.bool (Xp.isT ⟨k1, n1, s1⟩ || Xp.isT ⟨k2, n2, s2⟩)).go = V
  have HV := Lib.hid hV
  clear hV
  cases h1 : Xp.isT ⟨k1, n1, s1⟩ with
  | true =>
    have H1 := Lib.hid h1
    cases h2 : Xp.isT ⟨k2, n2, s2⟩ with
    | true =>
      have H2 := Lib.hid h2
      have HW := Lib.hid (HV.out.symm.trans (show (Xp.bool (Xp.isT ⟨k1, n1, s1⟩ || Xp.isT ⟨k2, n2, s2⟩)).go = (Xp.bool true).go by rw [h1, h2]; rfl))
      clear h1 h2
      have HX := Lib.hid hx
      have HL := Lib.hid (show (!Xp.badIx ⟨9, ja, jb, col, ⟨ck, cn, cs⟩⟩ k) = true by unfold Xp.badIx Xp.lgl; simp [hja, hjb])
      obtain ⟨x0, x1, x2, x3, x4, x5, x6⟩ := hx
      simp only at x0 x1 x2 x3 x4 x5 x6
      obtain ⟨u0, u1, u2⟩ := hva
      simp only at u0 u1 u2
      obtain ⟨v0, v1, v2⟩ := hvb
      simp only at v0 v1 v2
      have h0 : (0 : Int) ≤ (k : Int) := by omega
      have h1 : (k : Int) < (n : Int) := by omega
      have h2ja : (0 : Int) ≤ (ja : Int) := by omega
      have h3ja : (ja : Int) < (dn : Int) := by omega
      have h2jb : (0 : Int) ≤ (jb : Int) := by omega
      have h3jb : (jb : Int) < (dn : Int) := by omega
      have hb1 : b < w.heap.size + 1 := by omega
      have hb2 : b < w.heap.size + 1 + 1 := by omega
      have hg1 : dg < w.heap.size + 1 := by omega
      have hg2 : dg < w.heap.size + 1 + 1 := by omega
      have hg3 : dg < w.heap.size + 1 + 1 + 1 := by omega
      have hB0 : Below w.heap.size w w := Below.refl _ _
      go_enter Try.func26, Try.ntmps26
      go_wp2_with fail
      refine (ropn_call _ 2 _ rfl).mono ?_
      rintro e1 w1 ⟨rfl, rfl⟩
      go_wp2_with fail
      refine (legal_call true b off n c k _ w _ hb (below_alloc (below_alloc (Below.refl _ _) _) _) hk hnc HX.out HL.out).mono ?_
      rintro e1 w1 ⟨rfl, rfl⟩
      go_wp2_with fail
      have hB0' : Below w.heap.size w ((((w.alloc (.cells #[.int .i64 0, .int .i64 0, .string ⟨#[]⟩] 34)).alloc (.cells #[.int .i64 9, .int .i64 ja, .int .i64 jb, .int .i64 col, .int .i64 ck, .int .i64 cn, .string cs] 44)).alloc (.cells #[.int .i64 k1, .int .i64 n1, .string s1] 34)).alloc (.cells #[.int .i64 k2, .int .i64 n2, .string s2] 34)) := below_alloc (below_alloc (below_alloc (below_alloc (Below.refl _ _) _) _) _) _
      have hn0 : ((((w.alloc (.cells #[.int .i64 0, .int .i64 0, .string ⟨#[]⟩] 34)).alloc (.cells #[.int .i64 9, .int .i64 ja, .int .i64 jb, .int .i64 col, .int .i64 ck, .int .i64 cn, .string cs] 44)).alloc (.cells #[.int .i64 k1, .int .i64 n1, .string s1] 34)).alloc (.cells #[.int .i64 k2, .int .i64 n2, .string s2] 34)).cell? ⟨w.heap.size, 0, none⟩ = some (.int .i64 0) := by go_simp
      have hn1 : ((((w.alloc (.cells #[.int .i64 0, .int .i64 0, .string ⟨#[]⟩] 34)).alloc (.cells #[.int .i64 9, .int .i64 ja, .int .i64 jb, .int .i64 col, .int .i64 ck, .int .i64 cn, .string cs] 44)).alloc (.cells #[.int .i64 k1, .int .i64 n1, .string s1] 34)).alloc (.cells #[.int .i64 k2, .int .i64 n2, .string s2] 34)).cell? ⟨w.heap.size, 1, none⟩ = some (.int .i64 0) := by go_simp
      have hn2 : ((((w.alloc (.cells #[.int .i64 0, .int .i64 0, .string ⟨#[]⟩] 34)).alloc (.cells #[.int .i64 9, .int .i64 ja, .int .i64 jb, .int .i64 col, .int .i64 ck, .int .i64 cn, .string cs] 44)).alloc (.cells #[.int .i64 k1, .int .i64 n1, .string s1] 34)).alloc (.cells #[.int .i64 k2, .int .i64 n2, .string s2] 34)).cell? ⟨w.heap.size, 2, none⟩ = some (.string ⟨#[]⟩) := by go_simp
      have hn3 : ((((w.alloc (.cells #[.int .i64 0, .int .i64 0, .string ⟨#[]⟩] 34)).alloc (.cells #[.int .i64 9, .int .i64 ja, .int .i64 jb, .int .i64 col, .int .i64 ck, .int .i64 cn, .string cs] 44)).alloc (.cells #[.int .i64 k1, .int .i64 n1, .string s1] 34)).alloc (.cells #[.int .i64 k2, .int .i64 n2, .string s2] 34)).cell? ⟨w.heap.size + 1, 0, none⟩ = some (.int .i64 9) := by go_simp
      have hn4 : ((((w.alloc (.cells #[.int .i64 0, .int .i64 0, .string ⟨#[]⟩] 34)).alloc (.cells #[.int .i64 9, .int .i64 ja, .int .i64 jb, .int .i64 col, .int .i64 ck, .int .i64 cn, .string cs] 44)).alloc (.cells #[.int .i64 k1, .int .i64 n1, .string s1] 34)).alloc (.cells #[.int .i64 k2, .int .i64 n2, .string s2] 34)).cell? ⟨w.heap.size + 1 + 1, 0, none⟩ = some (.int .i64 k1) := by go_simp
      have hn5 : ((((w.alloc (.cells #[.int .i64 0, .int .i64 0, .string ⟨#[]⟩] 34)).alloc (.cells #[.int .i64 9, .int .i64 ja, .int .i64 jb, .int .i64 col, .int .i64 ck, .int .i64 cn, .string cs] 44)).alloc (.cells #[.int .i64 k1, .int .i64 n1, .string s1] 34)).alloc (.cells #[.int .i64 k2, .int .i64 n2, .string s2] 34)).cell? ⟨w.heap.size + 1 + 1, 1, none⟩ = some (.int .i64 n1) := by go_simp
      have hn6 : ((((w.alloc (.cells #[.int .i64 0, .int .i64 0, .string ⟨#[]⟩] 34)).alloc (.cells #[.int .i64 9, .int .i64 ja, .int .i64 jb, .int .i64 col, .int .i64 ck, .int .i64 cn, .string cs] 44)).alloc (.cells #[.int .i64 k1, .int .i64 n1, .string s1] 34)).alloc (.cells #[.int .i64 k2, .int .i64 n2, .string s2] 34)).cell? ⟨w.heap.size + 1 + 1, 2, none⟩ = some (.string s1) := by go_simp
      have hn7 : ((((w.alloc (.cells #[.int .i64 0, .int .i64 0, .string ⟨#[]⟩] 34)).alloc (.cells #[.int .i64 9, .int .i64 ja, .int .i64 jb, .int .i64 col, .int .i64 ck, .int .i64 cn, .string cs] 44)).alloc (.cells #[.int .i64 k1, .int .i64 n1, .string s1] 34)).alloc (.cells #[.int .i64 k2, .int .i64 n2, .string s2] 34)).cell? ⟨w.heap.size + 1 + 1 + 1, 0, none⟩ = some (.int .i64 k2) := by go_simp
      have hn8 : ((((w.alloc (.cells #[.int .i64 0, .int .i64 0, .string ⟨#[]⟩] 34)).alloc (.cells #[.int .i64 9, .int .i64 ja, .int .i64 jb, .int .i64 col, .int .i64 ck, .int .i64 cn, .string cs] 44)).alloc (.cells #[.int .i64 k1, .int .i64 n1, .string s1] 34)).alloc (.cells #[.int .i64 k2, .int .i64 n2, .string s2] 34)).cell? ⟨w.heap.size + 1 + 1 + 1, 1, none⟩ = some (.int .i64 n2) := by go_simp
      have hn9 : ((((w.alloc (.cells #[.int .i64 0, .int .i64 0, .string ⟨#[]⟩] 34)).alloc (.cells #[.int .i64 9, .int .i64 ja, .int .i64 jb, .int .i64 col, .int .i64 ck, .int .i64 cn, .string cs] 44)).alloc (.cells #[.int .i64 k1, .int .i64 n1, .string s1] 34)).alloc (.cells #[.int .i64 k2, .int .i64 n2, .string s2] 34)).cell? ⟨w.heap.size + 1 + 1 + 1, 2, none⟩ = some (.string s2) := by go_simp
      have hnf0 : ((((w.alloc (.cells #[.int .i64 0, .int .i64 0, .string ⟨#[]⟩] 34)).alloc (.cells #[.int .i64 9, .int .i64 ja, .int .i64 jb, .int .i64 col, .int .i64 ck, .int .i64 cn, .string cs] 44)).alloc (.cells #[.int .i64 k1, .int .i64 n1, .string s1] 34)).alloc (.cells #[.int .i64 k2, .int .i64 n2, .string s2] 34)).frozen? ⟨w.heap.size, 0, none⟩ = false := by go_simp
      have hnf1 : ((((w.alloc (.cells #[.int .i64 0, .int .i64 0, .string ⟨#[]⟩] 34)).alloc (.cells #[.int .i64 9, .int .i64 ja, .int .i64 jb, .int .i64 col, .int .i64 ck, .int .i64 cn, .string cs] 44)).alloc (.cells #[.int .i64 k1, .int .i64 n1, .string s1] 34)).alloc (.cells #[.int .i64 k2, .int .i64 n2, .string s2] 34)).frozen? ⟨w.heap.size, 1, none⟩ = false := by go_simp
      have hnf2 : ((((w.alloc (.cells #[.int .i64 0, .int .i64 0, .string ⟨#[]⟩] 34)).alloc (.cells #[.int .i64 9, .int .i64 ja, .int .i64 jb, .int .i64 col, .int .i64 ck, .int .i64 cn, .string cs] 44)).alloc (.cells #[.int .i64 k1, .int .i64 n1, .string s1] 34)).alloc (.cells #[.int .i64 k2, .int .i64 n2, .string s2] 34)).frozen? ⟨w.heap.size, 2, none⟩ = false := by go_simp
      have hsz0 : ((((w.alloc (.cells #[.int .i64 0, .int .i64 0, .string ⟨#[]⟩] 34)).alloc (.cells #[.int .i64 9, .int .i64 ja, .int .i64 jb, .int .i64 col, .int .i64 ck, .int .i64 cn, .string cs] 44)).alloc (.cells #[.int .i64 k1, .int .i64 n1, .string s1] 34)).alloc (.cells #[.int .i64 k2, .int .i64 n2, .string s2] 34)).heap.size = w.heap.size + 4 := by simp only [World.size_alloc]
      generalize hw0 : ((((w.alloc (.cells #[.int .i64 0, .int .i64 0, .string ⟨#[]⟩] 34)).alloc (.cells #[.int .i64 9, .int .i64 ja, .int .i64 jb, .int .i64 col, .int .i64 ck, .int .i64 cn, .string cs] 44)).alloc (.cells #[.int .i64 k1, .int .i64 n1, .string s1] 34)).alloc (.cells #[.int .i64 k2, .int .i64 n2, .string s2] 34)) = w0 at *
      clear hw0
      have hq0 : w.heap.size < w0.heap.size := by omega
      have hr0 : w.heap.size ≤ w0.heap.size := by omega
      have hq1 : w.heap.size + 1 < w0.heap.size := by omega
      have hr1 : w.heap.size + 1 ≤ w0.heap.size := by omega
      have hq2 : w.heap.size + 1 + 1 < w0.heap.size := by omega
      have hr2 : w.heap.size + 1 + 1 ≤ w0.heap.size := by omega
      have hq3 : w.heap.size + 1 + 1 + 1 < w0.heap.size := by omega
      have hr3 : w.heap.size + 1 + 1 + 1 ≤ w0.heap.size := by omega
      clear hsz0
      refine (ref_isT_call k1 n1 s1 true _ H1.out).mono ?_
      rintro e w1 ⟨rfl, hb1⟩
      have hB1 : Below w.heap.size w w1 := below_chain (hB0') hb1
      have hz1 := hb1.size
      have hl1_0 : w.heap.size < w1.heap.size := by omega
      have hm1_0 : w.heap.size ≤ w1.heap.size := by omega
      have hl1_1 : w.heap.size + 1 < w1.heap.size := by omega
      have hm1_1 : w.heap.size + 1 ≤ w1.heap.size := by omega
      have hl1_2 : w.heap.size + 1 + 1 < w1.heap.size := by omega
      have hm1_2 : w.heap.size + 1 + 1 ≤ w1.heap.size := by omega
      have hl1_3 : w.heap.size + 1 + 1 + 1 < w1.heap.size := by omega
      have hm1_3 : w.heap.size + 1 + 1 + 1 ≤ w1.heap.size := by omega
      obtain ⟨hc1, hf1⟩ := bcell hb1
      clear hb1
      go_wp2_with fail
      refine (ref_bool_call true 1 _ rfl).mono ?_
      rintro e w2 ⟨rfl, hb2⟩
      have hB2 : Below w.heap.size w w2 := below_chain (hB1) hb2
      have hz2 := hb2.size
      have hl2_0 : w.heap.size < w2.heap.size := by omega
      have hm2_0 : w.heap.size ≤ w2.heap.size := by omega
      have hl2_1 : w.heap.size + 1 < w2.heap.size := by omega
      have hm2_1 : w.heap.size + 1 ≤ w2.heap.size := by omega
      have hl2_2 : w.heap.size + 1 + 1 < w2.heap.size := by omega
      have hm2_2 : w.heap.size + 1 + 1 ≤ w2.heap.size := by omega
      have hl2_3 : w.heap.size + 1 + 1 + 1 < w2.heap.size := by omega
      have hm2_3 : w.heap.size + 1 + 1 + 1 ≤ w2.heap.size := by omega
      obtain ⟨hc2, hf2⟩ := bcell hb2
      clear hb2
      go_wp2_with fail
      have sc := two_ops (w := w2) (B := w.heap.size) (a := .int .i64 0) (b := .int .i64 0) (c := .string ⟨#[]⟩) (by go_simp) (by go_simp) (by go_simp) (.int .i64 3) (.int .i64 1) (.string ⟨#[]⟩)
      obtain ⟨sc0, sc1, sc2⟩ := sc
      refine bodyPost_ret (v := .agg #[.int .i64 3, .int .i64 1, .string ⟨#[]⟩]) (by simp [sc0, sc1, sc2, results, Try.results26, go_sem]) rfl ⟨by rw [HW.out]; rfl, ?_⟩
      exact (((hB2).setCell (by simp) _).setCell (by simp) _).setCell (by simp) _
    | false =>
      have H2 := Lib.hid h2
      have HW := Lib.hid (HV.out.symm.trans (show (Xp.bool (Xp.isT ⟨k1, n1, s1⟩ || Xp.isT ⟨k2, n2, s2⟩)).go = (Xp.bool true).go by rw [h1, h2]; rfl))
      clear h1 h2
      have HX := Lib.hid hx
      have HL := Lib.hid (show (!Xp.badIx ⟨9, ja, jb, col, ⟨ck, cn, cs⟩⟩ k) = true by unfold Xp.badIx Xp.lgl; simp [hja, hjb])
      obtain ⟨x0, x1, x2, x3, x4, x5, x6⟩ := hx
      simp only at x0 x1 x2 x3 x4 x5 x6
      obtain ⟨u0, u1, u2⟩ := hva
      simp only at u0 u1 u2
      obtain ⟨v0, v1, v2⟩ := hvb
      simp only at v0 v1 v2
      have h0 : (0 : Int) ≤ (k : Int) := by omega
      have h1 : (k : Int) < (n : Int) := by omega
      have h2ja : (0 : Int) ≤ (ja : Int) := by omega
      have h3ja : (ja : Int) < (dn : Int) := by omega
      have h2jb : (0 : Int) ≤ (jb : Int) := by omega
      have h3jb : (jb : Int) < (dn : Int) := by omega
      have hb1 : b < w.heap.size + 1 := by omega
      have hb2 : b < w.heap.size + 1 + 1 := by omega
      have hg1 : dg < w.heap.size + 1 := by omega
      have hg2 : dg < w.heap.size + 1 + 1 := by omega
      have hg3 : dg < w.heap.size + 1 + 1 + 1 := by omega
      have hB0 : Below w.heap.size w w := Below.refl _ _
      go_enter Try.func26, Try.ntmps26
      go_wp2_with fail
      refine (ropn_call _ 2 _ rfl).mono ?_
      rintro e1 w1 ⟨rfl, rfl⟩
      go_wp2_with fail
      refine (legal_call true b off n c k _ w _ hb (below_alloc (below_alloc (Below.refl _ _) _) _) hk hnc HX.out HL.out).mono ?_
      rintro e1 w1 ⟨rfl, rfl⟩
      go_wp2_with fail
      have hB0' : Below w.heap.size w ((((w.alloc (.cells #[.int .i64 0, .int .i64 0, .string ⟨#[]⟩] 34)).alloc (.cells #[.int .i64 9, .int .i64 ja, .int .i64 jb, .int .i64 col, .int .i64 ck, .int .i64 cn, .string cs] 44)).alloc (.cells #[.int .i64 k1, .int .i64 n1, .string s1] 34)).alloc (.cells #[.int .i64 k2, .int .i64 n2, .string s2] 34)) := below_alloc (below_alloc (below_alloc (below_alloc (Below.refl _ _) _) _) _) _
      have hn0 : ((((w.alloc (.cells #[.int .i64 0, .int .i64 0, .string ⟨#[]⟩] 34)).alloc (.cells #[.int .i64 9, .int .i64 ja, .int .i64 jb, .int .i64 col, .int .i64 ck, .int .i64 cn, .string cs] 44)).alloc (.cells #[.int .i64 k1, .int .i64 n1, .string s1] 34)).alloc (.cells #[.int .i64 k2, .int .i64 n2, .string s2] 34)).cell? ⟨w.heap.size, 0, none⟩ = some (.int .i64 0) := by go_simp
      have hn1 : ((((w.alloc (.cells #[.int .i64 0, .int .i64 0, .string ⟨#[]⟩] 34)).alloc (.cells #[.int .i64 9, .int .i64 ja, .int .i64 jb, .int .i64 col, .int .i64 ck, .int .i64 cn, .string cs] 44)).alloc (.cells #[.int .i64 k1, .int .i64 n1, .string s1] 34)).alloc (.cells #[.int .i64 k2, .int .i64 n2, .string s2] 34)).cell? ⟨w.heap.size, 1, none⟩ = some (.int .i64 0) := by go_simp
      have hn2 : ((((w.alloc (.cells #[.int .i64 0, .int .i64 0, .string ⟨#[]⟩] 34)).alloc (.cells #[.int .i64 9, .int .i64 ja, .int .i64 jb, .int .i64 col, .int .i64 ck, .int .i64 cn, .string cs] 44)).alloc (.cells #[.int .i64 k1, .int .i64 n1, .string s1] 34)).alloc (.cells #[.int .i64 k2, .int .i64 n2, .string s2] 34)).cell? ⟨w.heap.size, 2, none⟩ = some (.string ⟨#[]⟩) := by go_simp
      have hn3 : ((((w.alloc (.cells #[.int .i64 0, .int .i64 0, .string ⟨#[]⟩] 34)).alloc (.cells #[.int .i64 9, .int .i64 ja, .int .i64 jb, .int .i64 col, .int .i64 ck, .int .i64 cn, .string cs] 44)).alloc (.cells #[.int .i64 k1, .int .i64 n1, .string s1] 34)).alloc (.cells #[.int .i64 k2, .int .i64 n2, .string s2] 34)).cell? ⟨w.heap.size + 1, 0, none⟩ = some (.int .i64 9) := by go_simp
      have hn4 : ((((w.alloc (.cells #[.int .i64 0, .int .i64 0, .string ⟨#[]⟩] 34)).alloc (.cells #[.int .i64 9, .int .i64 ja, .int .i64 jb, .int .i64 col, .int .i64 ck, .int .i64 cn, .string cs] 44)).alloc (.cells #[.int .i64 k1, .int .i64 n1, .string s1] 34)).alloc (.cells #[.int .i64 k2, .int .i64 n2, .string s2] 34)).cell? ⟨w.heap.size + 1 + 1, 0, none⟩ = some (.int .i64 k1) := by go_simp
      have hn5 : ((((w.alloc (.cells #[.int .i64 0, .int .i64 0, .string ⟨#[]⟩] 34)).alloc (.cells #[.int .i64 9, .int .i64 ja, .int .i64 jb, .int .i64 col, .int .i64 ck, .int .i64 cn, .string cs] 44)).alloc (.cells #[.int .i64 k1, .int .i64 n1, .string s1] 34)).alloc (.cells #[.int .i64 k2, .int .i64 n2, .string s2] 34)).cell? ⟨w.heap.size + 1 + 1, 1, none⟩ = some (.int .i64 n1) := by go_simp
      have hn6 : ((((w.alloc (.cells #[.int .i64 0, .int .i64 0, .string ⟨#[]⟩] 34)).alloc (.cells #[.int .i64 9, .int .i64 ja, .int .i64 jb, .int .i64 col, .int .i64 ck, .int .i64 cn, .string cs] 44)).alloc (.cells #[.int .i64 k1, .int .i64 n1, .string s1] 34)).alloc (.cells #[.int .i64 k2, .int .i64 n2, .string s2] 34)).cell? ⟨w.heap.size + 1 + 1, 2, none⟩ = some (.string s1) := by go_simp
      have hn7 : ((((w.alloc (.cells #[.int .i64 0, .int .i64 0, .string ⟨#[]⟩] 34)).alloc (.cells #[.int .i64 9, .int .i64 ja, .int .i64 jb, .int .i64 col, .int .i64 ck, .int .i64 cn, .string cs] 44)).alloc (.cells #[.int .i64 k1, .int .i64 n1, .string s1] 34)).alloc (.cells #[.int .i64 k2, .int .i64 n2, .string s2] 34)).cell? ⟨w.heap.size + 1 + 1 + 1, 0, none⟩ = some (.int .i64 k2) := by go_simp
      have hn8 : ((((w.alloc (.cells #[.int .i64 0, .int .i64 0, .string ⟨#[]⟩] 34)).alloc (.cells #[.int .i64 9, .int .i64 ja, .int .i64 jb, .int .i64 col, .int .i64 ck, .int .i64 cn, .string cs] 44)).alloc (.cells #[.int .i64 k1, .int .i64 n1, .string s1] 34)).alloc (.cells #[.int .i64 k2, .int .i64 n2, .string s2] 34)).cell? ⟨w.heap.size + 1 + 1 + 1, 1, none⟩ = some (.int .i64 n2) := by go_simp
      have hn9 : ((((w.alloc (.cells #[.int .i64 0, .int .i64 0, .string ⟨#[]⟩] 34)).alloc (.cells #[.int .i64 9, .int .i64 ja, .int .i64 jb, .int .i64 col, .int .i64 ck, .int .i64 cn, .string cs] 44)).alloc (.cells #[.int .i64 k1, .int .i64 n1, .string s1] 34)).alloc (.cells #[.int .i64 k2, .int .i64 n2, .string s2] 34)).cell? ⟨w.heap.size + 1 + 1 + 1, 2, none⟩ = some (.string s2) := by go_simp
      have hnf0 : ((((w.alloc (.cells #[.int .i64 0, .int .i64 0, .string ⟨#[]⟩] 34)).alloc (.cells #[.int .i64 9, .int .i64 ja, .int .i64 jb, .int .i64 col, .int .i64 ck, .int .i64 cn, .string cs] 44)).alloc (.cells #[.int .i64 k1, .int .i64 n1, .string s1] 34)).alloc (.cells #[.int .i64 k2, .int .i64 n2, .string s2] 34)).frozen? ⟨w.heap.size, 0, none⟩ = false := by go_simp
      have hnf1 : ((((w.alloc (.cells #[.int .i64 0, .int .i64 0, .string ⟨#[]⟩] 34)).alloc (.cells #[.int .i64 9, .int .i64 ja, .int .i64 jb, .int .i64 col, .int .i64 ck, .int .i64 cn, .string cs] 44)).alloc (.cells #[.int .i64 k1, .int .i64 n1, .string s1] 34)).alloc (.cells #[.int .i64 k2, .int .i64 n2, .string s2] 34)).frozen? ⟨w.heap.size, 1, none⟩ = false := by go_simp
      have hnf2 : ((((w.alloc (.cells #[.int .i64 0, .int .i64 0, .string ⟨#[]⟩] 34)).alloc (.cells #[.int .i64 9, .int .i64 ja, .int .i64 jb, .int .i64 col, .int .i64 ck, .int .i64 cn, .string cs] 44)).alloc (.cells #[.int .i64 k1, .int .i64 n1, .string s1] 34)).alloc (.cells #[.int .i64 k2, .int .i64 n2, .string s2] 34)).frozen? ⟨w.heap.size, 2, none⟩ = false := by go_simp
      have hsz0 : ((((w.alloc (.cells #[.int .i64 0, .int .i64 0, .string ⟨#[]⟩] 34)).alloc (.cells #[.int .i64 9, .int .i64 ja, .int .i64 jb, .int .i64 col, .int .i64 ck, .int .i64 cn, .string cs] 44)).alloc (.cells #[.int .i64 k1, .int .i64 n1, .string s1] 34)).alloc (.cells #[.int .i64 k2, .int .i64 n2, .string s2] 34)).heap.size = w.heap.size + 4 := by simp only [World.size_alloc]
      generalize hw0 : ((((w.alloc (.cells #[.int .i64 0, .int .i64 0, .string ⟨#[]⟩] 34)).alloc (.cells #[.int .i64 9, .int .i64 ja, .int .i64 jb, .int .i64 col, .int .i64 ck, .int .i64 cn, .string cs] 44)).alloc (.cells #[.int .i64 k1, .int .i64 n1, .string s1] 34)).alloc (.cells #[.int .i64 k2, .int .i64 n2, .string s2] 34)) = w0 at *
      clear hw0
      have hq0 : w.heap.size < w0.heap.size := by omega
      have hr0 : w.heap.size ≤ w0.heap.size := by omega
      have hq1 : w.heap.size + 1 < w0.heap.size := by omega
      have hr1 : w.heap.size + 1 ≤ w0.heap.size := by omega
      have hq2 : w.heap.size + 1 + 1 < w0.heap.size := by omega
      have hr2 : w.heap.size + 1 + 1 ≤ w0.heap.size := by omega
      have hq3 : w.heap.size + 1 + 1 + 1 < w0.heap.size := by omega
      have hr3 : w.heap.size + 1 + 1 + 1 ≤ w0.heap.size := by omega
      clear hsz0
      refine (ref_isT_call k1 n1 s1 true _ H1.out).mono ?_
      rintro e w1 ⟨rfl, hb1⟩
      have hB1 : Below w.heap.size w w1 := below_chain (hB0') hb1
      have hz1 := hb1.size
      have hl1_0 : w.heap.size < w1.heap.size := by omega
      have hm1_0 : w.heap.size ≤ w1.heap.size := by omega
      have hl1_1 : w.heap.size + 1 < w1.heap.size := by omega
      have hm1_1 : w.heap.size + 1 ≤ w1.heap.size := by omega
      have hl1_2 : w.heap.size + 1 + 1 < w1.heap.size := by omega
      have hm1_2 : w.heap.size + 1 + 1 ≤ w1.heap.size := by omega
      have hl1_3 : w.heap.size + 1 + 1 + 1 < w1.heap.size := by omega
      have hm1_3 : w.heap.size + 1 + 1 + 1 ≤ w1.heap.size := by omega
      obtain ⟨hc1, hf1⟩ := bcell hb1
      clear hb1
      go_wp2_with fail
      refine (ref_bool_call true 1 _ rfl).mono ?_
      rintro e w2 ⟨rfl, hb2⟩
      have hB2 : Below w.heap.size w w2 := below_chain (hB1) hb2
      have hz2 := hb2.size
      have hl2_0 : w.heap.size < w2.heap.size := by omega
      have hm2_0 : w.heap.size ≤ w2.heap.size := by omega
      have hl2_1 : w.heap.size + 1 < w2.heap.size := by omega
      have hm2_1 : w.heap.size + 1 ≤ w2.heap.size := by omega
      have hl2_2 : w.heap.size + 1 + 1 < w2.heap.size := by omega
      have hm2_2 : w.heap.size + 1 + 1 ≤ w2.heap.size := by omega
      have hl2_3 : w.heap.size + 1 + 1 + 1 < w2.heap.size := by omega
      have hm2_3 : w.heap.size + 1 + 1 + 1 ≤ w2.heap.size := by omega
      obtain ⟨hc2, hf2⟩ := bcell hb2
      clear hb2
      go_wp2_with fail
      have sc := two_ops (w := w2) (B := w.heap.size) (a := .int .i64 0) (b := .int .i64 0) (c := .string ⟨#[]⟩) (by go_simp) (by go_simp) (by go_simp) (.int .i64 3) (.int .i64 1) (.string ⟨#[]⟩)
      obtain ⟨sc0, sc1, sc2⟩ := sc
      refine bodyPost_ret (v := .agg #[.int .i64 3, .int .i64 1, .string ⟨#[]⟩]) (by simp [sc0, sc1, sc2, results, Try.results26, go_sem]) rfl ⟨by rw [HW.out]; rfl, ?_⟩
      exact (((hB2).setCell (by simp) _).setCell (by simp) _).setCell (by simp) _
  | false =>
    have H1 := Lib.hid h1
    cases h2 : Xp.isT ⟨k2, n2, s2⟩ with
    | true =>
      have H2 := Lib.hid h2
      have HW := Lib.hid (HV.out.symm.trans (show (Xp.bool (Xp.isT ⟨k1, n1, s1⟩ || Xp.isT ⟨k2, n2, s2⟩)).go = (Xp.bool true).go by rw [h1, h2]; rfl))
      clear h1 h2
      have HX := Lib.hid hx
      have HL := Lib.hid (show (!Xp.badIx ⟨9, ja, jb, col, ⟨ck, cn, cs⟩⟩ k) = true by unfold Xp.badIx Xp.lgl; simp [hja, hjb])
      obtain ⟨x0, x1, x2, x3, x4, x5, x6⟩ := hx
      simp only at x0 x1 x2 x3 x4 x5 x6
      obtain ⟨u0, u1, u2⟩ := hva
      simp only at u0 u1 u2
      obtain ⟨v0, v1, v2⟩ := hvb
      simp only at v0 v1 v2
      have h0 : (0 : Int) ≤ (k : Int) := by omega
      have h1 : (k : Int) < (n : Int) := by omega
      have h2ja : (0 : Int) ≤ (ja : Int) := by omega
      have h3ja : (ja : Int) < (dn : Int) := by omega
      have h2jb : (0 : Int) ≤ (jb : Int) := by omega
      have h3jb : (jb : Int) < (dn : Int) := by omega
      have hb1 : b < w.heap.size + 1 := by omega
      have hb2 : b < w.heap.size + 1 + 1 := by omega
      have hg1 : dg < w.heap.size + 1 := by omega
      have hg2 : dg < w.heap.size + 1 + 1 := by omega
      have hg3 : dg < w.heap.size + 1 + 1 + 1 := by omega
      have hB0 : Below w.heap.size w w := Below.refl _ _
      go_enter Try.func26, Try.ntmps26
      go_wp2_with fail
      refine (ropn_call _ 2 _ rfl).mono ?_
      rintro e1 w1 ⟨rfl, rfl⟩
      go_wp2_with fail
      refine (legal_call true b off n c k _ w _ hb (below_alloc (below_alloc (Below.refl _ _) _) _) hk hnc HX.out HL.out).mono ?_
      rintro e1 w1 ⟨rfl, rfl⟩
      go_wp2_with fail
      have hB0' : Below w.heap.size w ((((w.alloc (.cells #[.int .i64 0, .int .i64 0, .string ⟨#[]⟩] 34)).alloc (.cells #[.int .i64 9, .int .i64 ja, .int .i64 jb, .int .i64 col, .int .i64 ck, .int .i64 cn, .string cs] 44)).alloc (.cells #[.int .i64 k1, .int .i64 n1, .string s1] 34)).alloc (.cells #[.int .i64 k2, .int .i64 n2, .string s2] 34)) := below_alloc (below_alloc (below_alloc (below_alloc (Below.refl _ _) _) _) _) _
      have hn0 : ((((w.alloc (.cells #[.int .i64 0, .int .i64 0, .string ⟨#[]⟩] 34)).alloc (.cells #[.int .i64 9, .int .i64 ja, .int .i64 jb, .int .i64 col, .int .i64 ck, .int .i64 cn, .string cs] 44)).alloc (.cells #[.int .i64 k1, .int .i64 n1, .string s1] 34)).alloc (.cells #[.int .i64 k2, .int .i64 n2, .string s2] 34)).cell? ⟨w.heap.size, 0, none⟩ = some (.int .i64 0) := by go_simp
      have hn1 : ((((w.alloc (.cells #[.int .i64 0, .int .i64 0, .string ⟨#[]⟩] 34)).alloc (.cells #[.int .i64 9, .int .i64 ja, .int .i64 jb, .int .i64 col, .int .i64 ck, .int .i64 cn, .string cs] 44)).alloc (.cells #[.int .i64 k1, .int .i64 n1, .string s1] 34)).alloc (.cells #[.int .i64 k2, .int .i64 n2, .string s2] 34)).cell? ⟨w.heap.size, 1, none⟩ = some (.int .i64 0) := by go_simp
      have hn2 : ((((w.alloc (.cells #[.int .i64 0, .int .i64 0, .string ⟨#[]⟩] 34)).alloc (.cells #[.int .i64 9, .int .i64 ja, .int .i64 jb, .int .i64 col, .int .i64 ck, .int .i64 cn, .string cs] 44)).alloc (.cells #[.int .i64 k1, .int .i64 n1, .string s1] 34)).alloc (.cells #[.int .i64 k2, .int .i64 n2, .string s2] 34)).cell? ⟨w.heap.size, 2, none⟩ = some (.string ⟨#[]⟩) := by go_simp
      have hn3 : ((((w.alloc (.cells #[.int .i64 0, .int .i64 0, .string ⟨#[]⟩] 34)).alloc (.cells #[.int .i64 9, .int .i64 ja, .int .i64 jb, .int .i64 col, .int .i64 ck, .int .i64 cn, .string cs] 44)).alloc (.cells #[.int .i64 k1, .int .i64 n1, .string s1] 34)).alloc (.cells #[.int .i64 k2, .int .i64 n2, .string s2] 34)).cell? ⟨w.heap.size + 1, 0, none⟩ = some (.int .i64 9) := by go_simp
      have hn4 : ((((w.alloc (.cells #[.int .i64 0, .int .i64 0, .string ⟨#[]⟩] 34)).alloc (.cells #[.int .i64 9, .int .i64 ja, .int .i64 jb, .int .i64 col, .int .i64 ck, .int .i64 cn, .string cs] 44)).alloc (.cells #[.int .i64 k1, .int .i64 n1, .string s1] 34)).alloc (.cells #[.int .i64 k2, .int .i64 n2, .string s2] 34)).cell? ⟨w.heap.size + 1 + 1, 0, none⟩ = some (.int .i64 k1) := by go_simp
      have hn5 : ((((w.alloc (.cells #[.int .i64 0, .int .i64 0, .string ⟨#[]⟩] 34)).alloc (.cells #[.int .i64 9, .int .i64 ja, .int .i64 jb, .int .i64 col, .int .i64 ck, .int .i64 cn, .string cs] 44)).alloc (.cells #[.int .i64 k1, .int .i64 n1, .string s1] 34)).alloc (.cells #[.int .i64 k2, .int .i64 n2, .string s2] 34)).cell? ⟨w.heap.size + 1 + 1, 1, none⟩ = some (.int .i64 n1) := by go_simp
      have hn6 : ((((w.alloc (.cells #[.int .i64 0, .int .i64 0, .string ⟨#[]⟩] 34)).alloc (.cells #[.int .i64 9, .int .i64 ja, .int .i64 jb, .int .i64 col, .int .i64 ck, .int .i64 cn, .string cs] 44)).alloc (.cells #[.int .i64 k1, .int .i64 n1, .string s1] 34)).alloc (.cells #[.int .i64 k2, .int .i64 n2, .string s2] 34)).cell? ⟨w.heap.size + 1 + 1, 2, none⟩ = some (.string s1) := by go_simp
      have hn7 : ((((w.alloc (.cells #[.int .i64 0, .int .i64 0, .string ⟨#[]⟩] 34)).alloc (.cells #[.int .i64 9, .int .i64 ja, .int .i64 jb, .int .i64 col, .int .i64 ck, .int .i64 cn, .string cs] 44)).alloc (.cells #[.int .i64 k1, .int .i64 n1, .string s1] 34)).alloc (.cells #[.int .i64 k2, .int .i64 n2, .string s2] 34)).cell? ⟨w.heap.size + 1 + 1 + 1, 0, none⟩ = some (.int .i64 k2) := by go_simp
      have hn8 : ((((w.alloc (.cells #[.int .i64 0, .int .i64 0, .string ⟨#[]⟩] 34)).alloc (.cells #[.int .i64 9, .int .i64 ja, .int .i64 jb, .int .i64 col, .int .i64 ck, .int .i64 cn, .string cs] 44)).alloc (.cells #[.int .i64 k1, .int .i64 n1, .string s1] 34)).alloc (.cells #[.int .i64 k2, .int .i64 n2, .string s2] 34)).cell? ⟨w.heap.size + 1 + 1 + 1, 1, none⟩ = some (.int .i64 n2) := by go_simp
      have hn9 : ((((w.alloc (.cells #[.int .i64 0, .int .i64 0, .string ⟨#[]⟩] 34)).alloc (.cells #[.int .i64 9, .int .i64 ja, .int .i64 jb, .int .i64 col, .int .i64 ck, .int .i64 cn, .string cs] 44)).alloc (.cells #[.int .i64 k1, .int .i64 n1, .string s1] 34)).alloc (.cells #[.int .i64 k2, .int .i64 n2, .string s2] 34)).cell? ⟨w.heap.size + 1 + 1 + 1, 2, none⟩ = some (.string s2) := by go_simp
      have hnf0 : ((((w.alloc (.cells #[.int .i64 0, .int .i64 0, .string ⟨#[]⟩] 34)).alloc (.cells #[.int .i64 9, .int .i64 ja, .int .i64 jb, .int .i64 col, .int .i64 ck, .int .i64 cn, .string cs] 44)).alloc (.cells #[.int .i64 k1, .int .i64 n1, .string s1] 34)).alloc (.cells #[.int .i64 k2, .int .i64 n2, .string s2] 34)).frozen? ⟨w.heap.size, 0, none⟩ = false := by go_simp
      have hnf1 : ((((w.alloc (.cells #[.int .i64 0, .int .i64 0, .string ⟨#[]⟩] 34)).alloc (.cells #[.int .i64 9, .int .i64 ja, .int .i64 jb, .int .i64 col, .int .i64 ck, .int .i64 cn, .string cs] 44)).alloc (.cells #[.int .i64 k1, .int .i64 n1, .string s1] 34)).alloc (.cells #[.int .i64 k2, .int .i64 n2, .string s2] 34)).frozen? ⟨w.heap.size, 1, none⟩ = false := by go_simp
      have hnf2 : ((((w.alloc (.cells #[.int .i64 0, .int .i64 0, .string ⟨#[]⟩] 34)).alloc (.cells #[.int .i64 9, .int .i64 ja, .int .i64 jb, .int .i64 col, .int .i64 ck, .int .i64 cn, .string cs] 44)).alloc (.cells #[.int .i64 k1, .int .i64 n1, .string s1] 34)).alloc (.cells #[.int .i64 k2, .int .i64 n2, .string s2] 34)).frozen? ⟨w.heap.size, 2, none⟩ = false := by go_simp
      have hsz0 : ((((w.alloc (.cells #[.int .i64 0, .int .i64 0, .string ⟨#[]⟩] 34)).alloc (.cells #[.int .i64 9, .int .i64 ja, .int .i64 jb, .int .i64 col, .int .i64 ck, .int .i64 cn, .string cs] 44)).alloc (.cells #[.int .i64 k1, .int .i64 n1, .string s1] 34)).alloc (.cells #[.int .i64 k2, .int .i64 n2, .string s2] 34)).heap.size = w.heap.size + 4 := by simp only [World.size_alloc]
      generalize hw0 : ((((w.alloc (.cells #[.int .i64 0, .int .i64 0, .string ⟨#[]⟩] 34)).alloc (.cells #[.int .i64 9, .int .i64 ja, .int .i64 jb, .int .i64 col, .int .i64 ck, .int .i64 cn, .string cs] 44)).alloc (.cells #[.int .i64 k1, .int .i64 n1, .string s1] 34)).alloc (.cells #[.int .i64 k2, .int .i64 n2, .string s2] 34)) = w0 at *
      clear hw0
      have hq0 : w.heap.size < w0.heap.size := by omega
      have hr0 : w.heap.size ≤ w0.heap.size := by omega
      have hq1 : w.heap.size + 1 < w0.heap.size := by omega
      have hr1 : w.heap.size + 1 ≤ w0.heap.size := by omega
      have hq2 : w.heap.size + 1 + 1 < w0.heap.size := by omega
      have hr2 : w.heap.size + 1 + 1 ≤ w0.heap.size := by omega
      have hq3 : w.heap.size + 1 + 1 + 1 < w0.heap.size := by omega
      have hr3 : w.heap.size + 1 + 1 + 1 ≤ w0.heap.size := by omega
      clear hsz0
      refine (ref_isT_call k1 n1 s1 false _ H1.out).mono ?_
      rintro e w1 ⟨rfl, hb1⟩
      have hB1 : Below w.heap.size w w1 := below_chain (hB0') hb1
      have hz1 := hb1.size
      have hl1_0 : w.heap.size < w1.heap.size := by omega
      have hm1_0 : w.heap.size ≤ w1.heap.size := by omega
      have hl1_1 : w.heap.size + 1 < w1.heap.size := by omega
      have hm1_1 : w.heap.size + 1 ≤ w1.heap.size := by omega
      have hl1_2 : w.heap.size + 1 + 1 < w1.heap.size := by omega
      have hm1_2 : w.heap.size + 1 + 1 ≤ w1.heap.size := by omega
      have hl1_3 : w.heap.size + 1 + 1 + 1 < w1.heap.size := by omega
      have hm1_3 : w.heap.size + 1 + 1 + 1 ≤ w1.heap.size := by omega
      obtain ⟨hc1, hf1⟩ := bcell hb1
      clear hb1
      go_wp2_with fail
      refine (ref_isT_call k2 n2 s2 true _ H2.out).mono ?_
      rintro e w2 ⟨rfl, hb2⟩
      have hB2 : Below w.heap.size w w2 := below_chain (hB1) hb2
      have hz2 := hb2.size
      have hl2_0 : w.heap.size < w2.heap.size := by omega
      have hm2_0 : w.heap.size ≤ w2.heap.size := by omega
      have hl2_1 : w.heap.size + 1 < w2.heap.size := by omega
      have hm2_1 : w.heap.size + 1 ≤ w2.heap.size := by omega
      have hl2_2 : w.heap.size + 1 + 1 < w2.heap.size := by omega
      have hm2_2 : w.heap.size + 1 + 1 ≤ w2.heap.size := by omega
      have hl2_3 : w.heap.size + 1 + 1 + 1 < w2.heap.size := by omega
      have hm2_3 : w.heap.size + 1 + 1 + 1 ≤ w2.heap.size := by omega
      obtain ⟨hc2, hf2⟩ := bcell hb2
      clear hb2
      go_wp2_with fail
      refine (ref_bool_call true 1 _ rfl).mono ?_
      rintro e w3 ⟨rfl, hb3⟩
      have hB3 : Below w.heap.size w w3 := below_chain (hB2) hb3
      have hz3 := hb3.size
      have hl3_0 : w.heap.size < w3.heap.size := by omega
      have hm3_0 : w.heap.size ≤ w3.heap.size := by omega
      have hl3_1 : w.heap.size + 1 < w3.heap.size := by omega
      have hm3_1 : w.heap.size + 1 ≤ w3.heap.size := by omega
      have hl3_2 : w.heap.size + 1 + 1 < w3.heap.size := by omega
      have hm3_2 : w.heap.size + 1 + 1 ≤ w3.heap.size := by omega
      have hl3_3 : w.heap.size + 1 + 1 + 1 < w3.heap.size := by omega
      have hm3_3 : w.heap.size + 1 + 1 + 1 ≤ w3.heap.size := by omega
      obtain ⟨hc3, hf3⟩ := bcell hb3
      clear hb3
      go_wp2_with fail
      have sc := two_ops (w := w3) (B := w.heap.size) (a := .int .i64 0) (b := .int .i64 0) (c := .string ⟨#[]⟩) (by go_simp) (by go_simp) (by go_simp) (.int .i64 3) (.int .i64 1) (.string ⟨#[]⟩)
      obtain ⟨sc0, sc1, sc2⟩ := sc
      refine bodyPost_ret (v := .agg #[.int .i64 3, .int .i64 1, .string ⟨#[]⟩]) (by simp [sc0, sc1, sc2, results, Try.results26, go_sem]) rfl ⟨by rw [HW.out]; rfl, ?_⟩
      exact (((hB3).setCell (by simp) _).setCell (by simp) _).setCell (by simp) _
    | false =>
      have H2 := Lib.hid h2
      have HW := Lib.hid (HV.out.symm.trans (show (Xp.bool (Xp.isT ⟨k1, n1, s1⟩ || Xp.isT ⟨k2, n2, s2⟩)).go = (Xp.bool false).go by rw [h1, h2]; rfl))
      clear h1 h2
      have HX := Lib.hid hx
      have HL := Lib.hid (show (!Xp.badIx ⟨9, ja, jb, col, ⟨ck, cn, cs⟩⟩ k) = true by unfold Xp.badIx Xp.lgl; simp [hja, hjb])
      obtain ⟨x0, x1, x2, x3, x4, x5, x6⟩ := hx
      simp only at x0 x1 x2 x3 x4 x5 x6
      obtain ⟨u0, u1, u2⟩ := hva
      simp only at u0 u1 u2
      obtain ⟨v0, v1, v2⟩ := hvb
      simp only at v0 v1 v2
      have h0 : (0 : Int) ≤ (k : Int) := by omega
      have h1 : (k : Int) < (n : Int) := by omega
      have h2ja : (0 : Int) ≤ (ja : Int) := by omega
      have h3ja : (ja : Int) < (dn : Int) := by omega
      have h2jb : (0 : Int) ≤ (jb : Int) := by omega
      have h3jb : (jb : Int) < (dn : Int) := by omega
      have hb1 : b < w.heap.size + 1 := by omega
      have hb2 : b < w.heap.size + 1 + 1 := by omega
      have hg1 : dg < w.heap.size + 1 := by omega
      have hg2 : dg < w.heap.size + 1 + 1 := by omega
      have hg3 : dg < w.heap.size + 1 + 1 + 1 := by omega
      have hB0 : Below w.heap.size w w := Below.refl _ _
      go_enter Try.func26, Try.ntmps26
      go_wp2_with fail
      refine (ropn_call _ 2 _ rfl).mono ?_
      rintro e1 w1 ⟨rfl, rfl⟩
      go_wp2_with fail
      refine (legal_call true b off n c k _ w _ hb (below_alloc (below_alloc (Below.refl _ _) _) _) hk hnc HX.out HL.out).mono ?_
      rintro e1 w1 ⟨rfl, rfl⟩
      go_wp2_with fail
      have hB0' : Below w.heap.size w ((((w.alloc (.cells #[.int .i64 0, .int .i64 0, .string ⟨#[]⟩] 34)).alloc (.cells #[.int .i64 9, .int .i64 ja, .int .i64 jb, .int .i64 col, .int .i64 ck, .int .i64 cn, .string cs] 44)).alloc (.cells #[.int .i64 k1, .int .i64 n1, .string s1] 34)).alloc (.cells #[.int .i64 k2, .int .i64 n2, .string s2] 34)) := below_alloc (below_alloc (below_alloc (below_alloc (Below.refl _ _) _) _) _) _
      have hn0 : ((((w.alloc (.cells #[.int .i64 0, .int .i64 0, .string ⟨#[]⟩] 34)).alloc (.cells #[.int .i64 9, .int .i64 ja, .int .i64 jb, .int .i64 col, .int .i64 ck, .int .i64 cn, .string cs] 44)).alloc (.cells #[.int .i64 k1, .int .i64 n1, .string s1] 34)).alloc (.cells #[.int .i64 k2, .int .i64 n2, .string s2] 34)).cell? ⟨w.heap.size, 0, none⟩ = some (.int .i64 0) := by go_simp
      have hn1 : ((((w.alloc (.cells #[.int .i64 0, .int .i64 0, .string ⟨#[]⟩] 34)).alloc (.cells #[.int .i64 9, .int .i64 ja, .int .i64 jb, .int .i64 col, .int .i64 ck, .int .i64 cn, .string cs] 44)).alloc (.cells #[.int .i64 k1, .int .i64 n1, .string s1] 34)).alloc (.cells #[.int .i64 k2, .int .i64 n2, .string s2] 34)).cell? ⟨w.heap.size, 1, none⟩ = some (.int .i64 0) := by go_simp
      have hn2 : ((((w.alloc (.cells #[.int .i64 0, .int .i64 0, .string ⟨#[]⟩] 34)).alloc (.cells #[.int .i64 9, .int .i64 ja, .int .i64 jb, .int .i64 col, .int .i64 ck, .int .i64 cn, .string cs] 44)).alloc (.cells #[.int .i64 k1, .int .i64 n1, .string s1] 34)).alloc (.cells #[.int .i64 k2, .int .i64 n2, .string s2] 34)).cell? ⟨w.heap.size, 2, none⟩ = some (.string ⟨#[]⟩) := by go_simp
      have hn3 : ((((w.alloc (.cells #[.int .i64 0, .int .i64 0, .string ⟨#[]⟩] 34)).alloc (.cells #[.int .i64 9, .int .i64 ja, .int .i64 jb, .int .i64 col, .int .i64 ck, .int .i64 cn, .string cs] 44)).alloc (.cells #[.int .i64 k1, .int .i64 n1, .string s1] 34)).alloc (.cells #[.int .i64 k2, .int .i64 n2, .string s2] 34)).cell? ⟨w.heap.size + 1, 0, none⟩ = some (.int .i64 9) := by go_simp
      have hn4 : ((((w.alloc (.cells #[.int .i64 0, .int .i64 0, .string ⟨#[]⟩] 34)).alloc (.cells #[.int .i64 9, .int .i64 ja, .int .i64 jb, .int .i64 col, .int .i64 ck, .int .i64 cn, .string cs] 44)).alloc (.cells #[.int .i64 k1, .int .i64 n1, .string s1] 34)).alloc (.cells #[.int .i64 k2, .int .i64 n2, .string s2] 34)).cell? ⟨w.heap.size + 1 + 1, 0, none⟩ = some (.int .i64 k1) := by go_simp
      have hn5 : ((((w.alloc (.cells #[.int .i64 0, .int .i64 0, .string ⟨#[]⟩] 34)).alloc (.cells #[.int .i64 9, .int .i64 ja, .int .i64 jb, .int .i64 col, .int .i64 ck, .int .i64 cn, .string cs] 44)).alloc (.cells #[.int .i64 k1, .int .i64 n1, .string s1] 34)).alloc (.cells #[.int .i64 k2, .int .i64 n2, .string s2] 34)).cell? ⟨w.heap.size + 1 + 1, 1, none⟩ = some (.int .i64 n1) := by go_simp
      have hn6 : ((((w.alloc (.cells #[.int .i64 0, .int .i64 0, .string ⟨#[]⟩] 34)).alloc (.cells #[.int .i64 9, .int .i64 ja, .int .i64 jb, .int .i64 col, .int .i64 ck, .int .i64 cn, .string cs] 44)).alloc (.cells #[.int .i64 k1, .int .i64 n1, .string s1] 34)).alloc (.cells #[.int .i64 k2, .int .i64 n2, .string s2] 34)).cell? ⟨w.heap.size + 1 + 1, 2, none⟩ = some (.string s1) := by go_simp
      have hn7 : ((((w.alloc (.cells #[.int .i64 0, .int .i64 0, .string ⟨#[]⟩] 34)).alloc (.cells #[.int .i64 9, .int .i64 ja, .int .i64 jb, .int .i64 col, .int .i64 ck, .int .i64 cn, .string cs] 44)).alloc (.cells #[.int .i64 k1, .int .i64 n1, .string s1] 34)).alloc (.cells #[.int .i64 k2, .int .i64 n2, .string s2] 34)).cell? ⟨w.heap.size + 1 + 1 + 1, 0, none⟩ = some (.int .i64 k2) := by go_simp
      have hn8 : ((((w.alloc (.cells #[.int .i64 0, .int .i64 0, .string ⟨#[]⟩] 34)).alloc (.cells #[.int .i64 9, .int .i64 ja, .int .i64 jb, .int .i64 col, .int .i64 ck, .int .i64 cn, .string cs] 44)).alloc (.cells #[.int .i64 k1, .int .i64 n1, .string s1] 34)).alloc (.cells #[.int .i64 k2, .int .i64 n2, .string s2] 34)).cell? ⟨w.heap.size + 1 + 1 + 1, 1, none⟩ = some (.int .i64 n2) := by go_simp
      have hn9 : ((((w.alloc (.cells #[.int .i64 0, .int .i64 0, .string ⟨#[]⟩] 34)).alloc (.cells #[.int .i64 9, .int .i64 ja, .int .i64 jb, .int .i64 col, .int .i64 ck, .int .i64 cn, .string cs] 44)).alloc (.cells #[.int .i64 k1, .int .i64 n1, .string s1] 34)).alloc (.cells #[.int .i64 k2, .int .i64 n2, .string s2] 34)).cell? ⟨w.heap.size + 1 + 1 + 1, 2, none⟩ = some (.string s2) := by go_simp
      have hnf0 : ((((w.alloc (.cells #[.int .i64 0, .int .i64 0, .string ⟨#[]⟩] 34)).alloc (.cells #[.int .i64 9, .int .i64 ja, .int .i64 jb, .int .i64 col, .int .i64 ck, .int .i64 cn, .string cs] 44)).alloc (.cells #[.int .i64 k1, .int .i64 n1, .string s1] 34)).alloc (.cells #[.int .i64 k2, .int .i64 n2, .string s2] 34)).frozen? ⟨w.heap.size, 0, none⟩ = false := by go_simp
      have hnf1 : ((((w.alloc (.cells #[.int .i64 0, .int .i64 0, .string ⟨#[]⟩] 34)).alloc (.cells #[.int .i64 9, .int .i64 ja, .int .i64 jb, .int .i64 col, .int .i64 ck, .int .i64 cn, .string cs] 44)).alloc (.cells #[.int .i64 k1, .int .i64 n1, .string s1] 34)).alloc (.cells #[.int .i64 k2, .int .i64 n2, .string s2] 34)).frozen? ⟨w.heap.size, 1, none⟩ = false := by go_simp
      have hnf2 : ((((w.alloc (.cells #[.int .i64 0, .int .i64 0, .string ⟨#[]⟩] 34)).alloc (.cells #[.int .i64 9, .int .i64 ja, .int .i64 jb, .int .i64 col, .int .i64 ck, .int .i64 cn, .string cs] 44)).alloc (.cells #[.int .i64 k1, .int .i64 n1, .string s1] 34)).alloc (.cells #[.int .i64 k2, .int .i64 n2, .string s2] 34)).frozen? ⟨w.heap.size, 2, none⟩ = false := by go_simp
      have hsz0 : ((((w.alloc (.cells #[.int .i64 0, .int .i64 0, .string ⟨#[]⟩] 34)).alloc (.cells #[.int .i64 9, .int .i64 ja, .int .i64 jb, .int .i64 col, .int .i64 ck, .int .i64 cn, .string cs] 44)).alloc (.cells #[.int .i64 k1, .int .i64 n1, .string s1] 34)).alloc (.cells #[.int .i64 k2, .int .i64 n2, .string s2] 34)).heap.size = w.heap.size + 4 := by simp only [World.size_alloc]
      generalize hw0 : ((((w.alloc (.cells #[.int .i64 0, .int .i64 0, .string ⟨#[]⟩] 34)).alloc (.cells #[.int .i64 9, .int .i64 ja, .int .i64 jb, .int .i64 col, .int .i64 ck, .int .i64 cn, .string cs] 44)).alloc (.cells #[.int .i64 k1, .int .i64 n1, .string s1] 34)).alloc (.cells #[.int .i64 k2, .int .i64 n2, .string s2] 34)) = w0 at *
      clear hw0
      have hq0 : w.heap.size < w0.heap.size := by omega
      have hr0 : w.heap.size ≤ w0.heap.size := by omega
      have hq1 : w.heap.size + 1 < w0.heap.size := by omega
      have hr1 : w.heap.size + 1 ≤ w0.heap.size := by omega
      have hq2 : w.heap.size + 1 + 1 < w0.heap.size := by omega
      have hr2 : w.heap.size + 1 + 1 ≤ w0.heap.size := by omega
      have hq3 : w.heap.size + 1 + 1 + 1 < w0.heap.size := by omega
      have hr3 : w.heap.size + 1 + 1 + 1 ≤ w0.heap.size := by omega
      clear hsz0
      refine (ref_isT_call k1 n1 s1 false _ H1.out).mono ?_
      rintro e w1 ⟨rfl, hb1⟩
      have hB1 : Below w.heap.size w w1 := below_chain (hB0') hb1
      have hz1 := hb1.size
      have hl1_0 : w.heap.size < w1.heap.size := by omega
      have hm1_0 : w.heap.size ≤ w1.heap.size := by omega
      have hl1_1 : w.heap.size + 1 < w1.heap.size := by omega
      have hm1_1 : w.heap.size + 1 ≤ w1.heap.size := by omega
      have hl1_2 : w.heap.size + 1 + 1 < w1.heap.size := by omega
      have hm1_2 : w.heap.size + 1 + 1 ≤ w1.heap.size := by omega
      have hl1_3 : w.heap.size + 1 + 1 + 1 < w1.heap.size := by omega
      have hm1_3 : w.heap.size + 1 + 1 + 1 ≤ w1.heap.size := by omega
      obtain ⟨hc1, hf1⟩ := bcell hb1
      clear hb1
      go_wp2_with fail
      refine (ref_isT_call k2 n2 s2 false _ H2.out).mono ?_
      rintro e w2 ⟨rfl, hb2⟩
      have hB2 : Below w.heap.size w w2 := below_chain (hB1) hb2
      have hz2 := hb2.size
      have hl2_0 : w.heap.size < w2.heap.size := by omega
      have hm2_0 : w.heap.size ≤ w2.heap.size := by omega
      have hl2_1 : w.heap.size + 1 < w2.heap.size := by omega
      have hm2_1 : w.heap.size + 1 ≤ w2.heap.size := by omega
      have hl2_2 : w.heap.size + 1 + 1 < w2.heap.size := by omega
      have hm2_2 : w.heap.size + 1 + 1 ≤ w2.heap.size := by omega
      have hl2_3 : w.heap.size + 1 + 1 + 1 < w2.heap.size := by omega
      have hm2_3 : w.heap.size + 1 + 1 + 1 ≤ w2.heap.size := by omega
      obtain ⟨hc2, hf2⟩ := bcell hb2
      clear hb2
      go_wp2_with fail
      refine (ref_bool_call false 0 _ rfl).mono ?_
      rintro e w3 ⟨rfl, hb3⟩
      have hB3 : Below w.heap.size w w3 := below_chain (hB2) hb3
      have hz3 := hb3.size
      have hl3_0 : w.heap.size < w3.heap.size := by omega
      have hm3_0 : w.heap.size ≤ w3.heap.size := by omega
      have hl3_1 : w.heap.size + 1 < w3.heap.size := by omega
      have hm3_1 : w.heap.size + 1 ≤ w3.heap.size := by omega
      have hl3_2 : w.heap.size + 1 + 1 < w3.heap.size := by omega
      have hm3_2 : w.heap.size + 1 + 1 ≤ w3.heap.size := by omega
      have hl3_3 : w.heap.size + 1 + 1 + 1 < w3.heap.size := by omega
      have hm3_3 : w.heap.size + 1 + 1 + 1 ≤ w3.heap.size := by omega
      obtain ⟨hc3, hf3⟩ := bcell hb3
      clear hb3
      go_wp2_with fail
      have sc := two_ops (w := w3) (B := w.heap.size) (a := .int .i64 0) (b := .int .i64 0) (c := .string ⟨#[]⟩) (by go_simp) (by go_simp) (by go_simp) (.int .i64 3) (.int .i64 0) (.string ⟨#[]⟩)
      obtain ⟨sc0, sc1, sc2⟩ := sc
      refine bodyPost_ret (v := .agg #[.int .i64 3, .int .i64 0, .string ⟨#[]⟩]) (by simp [sc0, sc1, sc2, results, Try.results26, go_sem]) rfl ⟨by rw [HW.out]; rfl, ?_⟩
      exact (((hB3).setCell (by simp) _).setCell (by simp) _).setCell (by simp) _


set_option maxRecDepth 100000 in
set_option maxHeartbeats 2000000 in
theorem reval_not (bb : Int) (col ck cn : Int) (cs : ByteArray) (k1 n1 : Int) (s1 : ByteArray) (b off n c k dg dn dc ja : Nat) (rv : Value) (w : World) (hb : b < w.heap.size) (hg : dg < w.heap.size) (hk : k < n) (hnc : n ≤ 100000) (hdn : k < dn) (hja : ja < k)
    (hx : ExAt w b (off + k * 7) ⟨10, ja, bb, col, ⟨ck, cn, cs⟩⟩) (hva : VlAt w dg (ja * 3) ⟨k1, n1, s1⟩) :
    Calls Try.prog 26 #[.slice (some ⟨b, off, none⟩) n c, .int .i64 k, rv, .slice (some ⟨dg, 0, none⟩) dn dc] w fun e' w' => e' = .returned ((Xp.bool (!Xp.isT ⟨k1, n1, s1⟩)).go) ∧ Below w.heap.size w w' := by
  generalize hV : (Xp.bool (!Xp.isT ⟨k1, n1, s1⟩)).go = V
  have HV := Lib.hid hV
  clear hV
  cases h1 : Xp.isT ⟨k1, n1, s1⟩ with
  | true =>
    have H1 := Lib.hid h1
    have HW := Lib.hid (HV.out.symm.trans (show (Xp.bool (!Xp.isT ⟨k1, n1, s1⟩)).go = (Xp.bool false).go by rw [h1]; rfl))
    clear h1
    have HX := Lib.hid hx
    have HL := Lib.hid (show (!Xp.badIx ⟨10, ja, bb, col, ⟨ck, cn, cs⟩⟩ k) = true by unfold Xp.badIx Xp.lgl; simp [Xp.arity, hja])
    obtain ⟨x0, x1, x2, x3, x4, x5, x6⟩ := hx
    simp only at x0 x1 x2 x3 x4 x5 x6
    obtain ⟨u0, u1, u2⟩ := hva
    simp only at u0 u1 u2
    have h0 : (0 : Int) ≤ (k : Int) := by omega
    have h1 : (k : Int) < (n : Int) := by omega
    have h2ja : (0 : Int) ≤ (ja : Int) := by omega
    have h3ja : (ja : Int) < (dn : Int) := by omega
    have hb1 : b < w.heap.size + 1 := by omega
    have hb2 : b < w.heap.size + 1 + 1 := by omega
    have hg1 : dg < w.heap.size + 1 := by omega
    have hg2 : dg < w.heap.size + 1 + 1 := by omega
    have hg3 : dg < w.heap.size + 1 + 1 + 1 := by omega
    have hB0 : Below w.heap.size w w := Below.refl _ _
    go_enter Try.func26, Try.ntmps26
    go_wp2_with fail
    refine (ropn_call _ 1 _ rfl).mono ?_
    rintro e1 w1 ⟨rfl, rfl⟩
    go_wp2_with fail
    refine (legal_call true b off n c k _ w _ hb (below_alloc (below_alloc (Below.refl _ _) _) _) hk hnc HX.out HL.out).mono ?_
    rintro e1 w1 ⟨rfl, rfl⟩
    go_wp2_with fail
    have hB0' : Below w.heap.size w ((((w.alloc (.cells #[.int .i64 0, .int .i64 0, .string ⟨#[]⟩] 34)).alloc (.cells #[.int .i64 10, .int .i64 ja, .int .i64 bb, .int .i64 col, .int .i64 ck, .int .i64 cn, .string cs] 44)).alloc (.cells #[.int .i64 k1, .int .i64 n1, .string s1] 34)).alloc (.cells #[.int .i64 0, .int .i64 0, .string ⟨#[]⟩] 34)) := below_alloc (below_alloc (below_alloc (below_alloc (Below.refl _ _) _) _) _) _
    have hn0 : ((((w.alloc (.cells #[.int .i64 0, .int .i64 0, .string ⟨#[]⟩] 34)).alloc (.cells #[.int .i64 10, .int .i64 ja, .int .i64 bb, .int .i64 col, .int .i64 ck, .int .i64 cn, .string cs] 44)).alloc (.cells #[.int .i64 k1, .int .i64 n1, .string s1] 34)).alloc (.cells #[.int .i64 0, .int .i64 0, .string ⟨#[]⟩] 34)).cell? ⟨w.heap.size, 0, none⟩ = some (.int .i64 0) := by go_simp
    have hn1 : ((((w.alloc (.cells #[.int .i64 0, .int .i64 0, .string ⟨#[]⟩] 34)).alloc (.cells #[.int .i64 10, .int .i64 ja, .int .i64 bb, .int .i64 col, .int .i64 ck, .int .i64 cn, .string cs] 44)).alloc (.cells #[.int .i64 k1, .int .i64 n1, .string s1] 34)).alloc (.cells #[.int .i64 0, .int .i64 0, .string ⟨#[]⟩] 34)).cell? ⟨w.heap.size, 1, none⟩ = some (.int .i64 0) := by go_simp
    have hn2 : ((((w.alloc (.cells #[.int .i64 0, .int .i64 0, .string ⟨#[]⟩] 34)).alloc (.cells #[.int .i64 10, .int .i64 ja, .int .i64 bb, .int .i64 col, .int .i64 ck, .int .i64 cn, .string cs] 44)).alloc (.cells #[.int .i64 k1, .int .i64 n1, .string s1] 34)).alloc (.cells #[.int .i64 0, .int .i64 0, .string ⟨#[]⟩] 34)).cell? ⟨w.heap.size, 2, none⟩ = some (.string ⟨#[]⟩) := by go_simp
    have hn3 : ((((w.alloc (.cells #[.int .i64 0, .int .i64 0, .string ⟨#[]⟩] 34)).alloc (.cells #[.int .i64 10, .int .i64 ja, .int .i64 bb, .int .i64 col, .int .i64 ck, .int .i64 cn, .string cs] 44)).alloc (.cells #[.int .i64 k1, .int .i64 n1, .string s1] 34)).alloc (.cells #[.int .i64 0, .int .i64 0, .string ⟨#[]⟩] 34)).cell? ⟨w.heap.size + 1, 0, none⟩ = some (.int .i64 10) := by go_simp
    have hn4 : ((((w.alloc (.cells #[.int .i64 0, .int .i64 0, .string ⟨#[]⟩] 34)).alloc (.cells #[.int .i64 10, .int .i64 ja, .int .i64 bb, .int .i64 col, .int .i64 ck, .int .i64 cn, .string cs] 44)).alloc (.cells #[.int .i64 k1, .int .i64 n1, .string s1] 34)).alloc (.cells #[.int .i64 0, .int .i64 0, .string ⟨#[]⟩] 34)).cell? ⟨w.heap.size + 1 + 1, 0, none⟩ = some (.int .i64 k1) := by go_simp
    have hn5 : ((((w.alloc (.cells #[.int .i64 0, .int .i64 0, .string ⟨#[]⟩] 34)).alloc (.cells #[.int .i64 10, .int .i64 ja, .int .i64 bb, .int .i64 col, .int .i64 ck, .int .i64 cn, .string cs] 44)).alloc (.cells #[.int .i64 k1, .int .i64 n1, .string s1] 34)).alloc (.cells #[.int .i64 0, .int .i64 0, .string ⟨#[]⟩] 34)).cell? ⟨w.heap.size + 1 + 1, 1, none⟩ = some (.int .i64 n1) := by go_simp
    have hn6 : ((((w.alloc (.cells #[.int .i64 0, .int .i64 0, .string ⟨#[]⟩] 34)).alloc (.cells #[.int .i64 10, .int .i64 ja, .int .i64 bb, .int .i64 col, .int .i64 ck, .int .i64 cn, .string cs] 44)).alloc (.cells #[.int .i64 k1, .int .i64 n1, .string s1] 34)).alloc (.cells #[.int .i64 0, .int .i64 0, .string ⟨#[]⟩] 34)).cell? ⟨w.heap.size + 1 + 1, 2, none⟩ = some (.string s1) := by go_simp
    have hnf0 : ((((w.alloc (.cells #[.int .i64 0, .int .i64 0, .string ⟨#[]⟩] 34)).alloc (.cells #[.int .i64 10, .int .i64 ja, .int .i64 bb, .int .i64 col, .int .i64 ck, .int .i64 cn, .string cs] 44)).alloc (.cells #[.int .i64 k1, .int .i64 n1, .string s1] 34)).alloc (.cells #[.int .i64 0, .int .i64 0, .string ⟨#[]⟩] 34)).frozen? ⟨w.heap.size, 0, none⟩ = false := by go_simp
    have hnf1 : ((((w.alloc (.cells #[.int .i64 0, .int .i64 0, .string ⟨#[]⟩] 34)).alloc (.cells #[.int .i64 10, .int .i64 ja, .int .i64 bb, .int .i64 col, .int .i64 ck, .int .i64 cn, .string cs] 44)).alloc (.cells #[.int .i64 k1, .int .i64 n1, .string s1] 34)).alloc (.cells #[.int .i64 0, .int .i64 0, .string ⟨#[]⟩] 34)).frozen? ⟨w.heap.size, 1, none⟩ = false := by go_simp
    have hnf2 : ((((w.alloc (.cells #[.int .i64 0, .int .i64 0, .string ⟨#[]⟩] 34)).alloc (.cells #[.int .i64 10, .int .i64 ja, .int .i64 bb, .int .i64 col, .int .i64 ck, .int .i64 cn, .string cs] 44)).alloc (.cells #[.int .i64 k1, .int .i64 n1, .string s1] 34)).alloc (.cells #[.int .i64 0, .int .i64 0, .string ⟨#[]⟩] 34)).frozen? ⟨w.heap.size, 2, none⟩ = false := by go_simp
    have hsz0 : ((((w.alloc (.cells #[.int .i64 0, .int .i64 0, .string ⟨#[]⟩] 34)).alloc (.cells #[.int .i64 10, .int .i64 ja, .int .i64 bb, .int .i64 col, .int .i64 ck, .int .i64 cn, .string cs] 44)).alloc (.cells #[.int .i64 k1, .int .i64 n1, .string s1] 34)).alloc (.cells #[.int .i64 0, .int .i64 0, .string ⟨#[]⟩] 34)).heap.size = w.heap.size + 4 := by simp only [World.size_alloc]
    generalize hw0 : ((((w.alloc (.cells #[.int .i64 0, .int .i64 0, .string ⟨#[]⟩] 34)).alloc (.cells #[.int .i64 10, .int .i64 ja, .int .i64 bb, .int .i64 col, .int .i64 ck, .int .i64 cn, .string cs] 44)).alloc (.cells #[.int .i64 k1, .int .i64 n1, .string s1] 34)).alloc (.cells #[.int .i64 0, .int .i64 0, .string ⟨#[]⟩] 34)) = w0 at *
    clear hw0
    have hq0 : w.heap.size < w0.heap.size := by omega
    have hr0 : w.heap.size ≤ w0.heap.size := by omega
    have hq1 : w.heap.size + 1 < w0.heap.size := by omega
    have hr1 : w.heap.size + 1 ≤ w0.heap.size := by omega
    have hq2 : w.heap.size + 1 + 1 < w0.heap.size := by omega
    have hr2 : w.heap.size + 1 + 1 ≤ w0.heap.size := by omega
    have hq3 : w.heap.size + 1 + 1 + 1 < w0.heap.size := by omega
    have hr3 : w.heap.size + 1 + 1 + 1 ≤ w0.heap.size := by omega
    clear hsz0
    refine (ref_isT_call k1 n1 s1 true _ H1.out).mono ?_
    rintro e w1 ⟨rfl, hb1⟩
    have hB1 : Below w.heap.size w w1 := below_chain (hB0') hb1
    have hz1 := hb1.size
    have hl1_0 : w.heap.size < w1.heap.size := by omega
    have hm1_0 : w.heap.size ≤ w1.heap.size := by omega
    have hl1_1 : w.heap.size + 1 < w1.heap.size := by omega
    have hm1_1 : w.heap.size + 1 ≤ w1.heap.size := by omega
    have hl1_2 : w.heap.size + 1 + 1 < w1.heap.size := by omega
    have hm1_2 : w.heap.size + 1 + 1 ≤ w1.heap.size := by omega
    have hl1_3 : w.heap.size + 1 + 1 + 1 < w1.heap.size := by omega
    have hm1_3 : w.heap.size + 1 + 1 + 1 ≤ w1.heap.size := by omega
    obtain ⟨hc1, hf1⟩ := bcell hb1
    clear hb1
    go_wp2_with fail
    refine (ref_bool_call false 0 _ rfl).mono ?_
    rintro e w2 ⟨rfl, hb2⟩
    have hB2 : Below w.heap.size w w2 := below_chain (hB1) hb2
    have hz2 := hb2.size
    have hl2_0 : w.heap.size < w2.heap.size := by omega
    have hm2_0 : w.heap.size ≤ w2.heap.size := by omega
    have hl2_1 : w.heap.size + 1 < w2.heap.size := by omega
    have hm2_1 : w.heap.size + 1 ≤ w2.heap.size := by omega
    have hl2_2 : w.heap.size + 1 + 1 < w2.heap.size := by omega
    have hm2_2 : w.heap.size + 1 + 1 ≤ w2.heap.size := by omega
    have hl2_3 : w.heap.size + 1 + 1 + 1 < w2.heap.size := by omega
    have hm2_3 : w.heap.size + 1 + 1 + 1 ≤ w2.heap.size := by omega
    obtain ⟨hc2, hf2⟩ := bcell hb2
    clear hb2
    go_wp2_with fail
    have sc := two_ops (w := w2) (B := w.heap.size) (a := .int .i64 0) (b := .int .i64 0) (c := .string ⟨#[]⟩) (by go_simp) (by go_simp) (by go_simp) (.int .i64 3) (.int .i64 0) (.string ⟨#[]⟩)
    obtain ⟨sc0, sc1, sc2⟩ := sc
    refine bodyPost_ret (v := .agg #[.int .i64 3, .int .i64 0, .string ⟨#[]⟩]) (by simp [sc0, sc1, sc2, results, Try.results26, go_sem]) rfl ⟨by rw [HW.out]; rfl, ?_⟩
    exact (((hB2).setCell (by simp) _).setCell (by simp) _).setCell (by simp) _
  | false =>
    have H1 := Lib.hid h1
    have HW := Lib.hid (HV.out.symm.trans (show (Xp.bool (!Xp.isT ⟨k1, n1, s1⟩)).go = (Xp.bool true).go by rw [h1]; rfl))
    clear h1
    have HX := Lib.hid hx
    have HL := Lib.hid (show (!Xp.badIx ⟨10, ja, bb, col, ⟨ck, cn, cs⟩⟩ k) = true by unfold Xp.badIx Xp.lgl; simp [Xp.arity, hja])
    obtain ⟨x0, x1, x2, x3, x4, x5, x6⟩ := hx
    simp only at x0 x1 x2 x3 x4 x5 x6
    obtain ⟨u0, u1, u2⟩ := hva
    simp only at u0 u1 u2
    have h0 : (0 : Int) ≤ (k : Int) := by omega
    have h1 : (k : Int) < (n : Int) := by omega
    have h2ja : (0 : Int) ≤ (ja : Int) := by omega
    have h3ja : (ja : Int) < (dn : Int) := by omega
    have hb1 : b < w.heap.size + 1 := by omega
    have hb2 : b < w.heap.size + 1 + 1 := by omega
    have hg1 : dg < w.heap.size + 1 := by omega
    have hg2 : dg < w.heap.size + 1 + 1 := by omega
    have hg3 : dg < w.heap.size + 1 + 1 + 1 := by omega
    have hB0 : Below w.heap.size w w := Below.refl _ _
    go_enter Try.func26, Try.ntmps26
    go_wp2_with fail
    refine (ropn_call _ 1 _ rfl).mono ?_
    rintro e1 w1 ⟨rfl, rfl⟩
    go_wp2_with fail
    refine (legal_call true b off n c k _ w _ hb (below_alloc (below_alloc (Below.refl _ _) _) _) hk hnc HX.out HL.out).mono ?_
    rintro e1 w1 ⟨rfl, rfl⟩
    go_wp2_with fail
    have hB0' : Below w.heap.size w ((((w.alloc (.cells #[.int .i64 0, .int .i64 0, .string ⟨#[]⟩] 34)).alloc (.cells #[.int .i64 10, .int .i64 ja, .int .i64 bb, .int .i64 col, .int .i64 ck, .int .i64 cn, .string cs] 44)).alloc (.cells #[.int .i64 k1, .int .i64 n1, .string s1] 34)).alloc (.cells #[.int .i64 0, .int .i64 0, .string ⟨#[]⟩] 34)) := below_alloc (below_alloc (below_alloc (below_alloc (Below.refl _ _) _) _) _) _
    have hn0 : ((((w.alloc (.cells #[.int .i64 0, .int .i64 0, .string ⟨#[]⟩] 34)).alloc (.cells #[.int .i64 10, .int .i64 ja, .int .i64 bb, .int .i64 col, .int .i64 ck, .int .i64 cn, .string cs] 44)).alloc (.cells #[.int .i64 k1, .int .i64 n1, .string s1] 34)).alloc (.cells #[.int .i64 0, .int .i64 0, .string ⟨#[]⟩] 34)).cell? ⟨w.heap.size, 0, none⟩ = some (.int .i64 0) := by go_simp
    have hn1 : ((((w.alloc (.cells #[.int .i64 0, .int .i64 0, .string ⟨#[]⟩] 34)).alloc (.cells #[.int .i64 10, .int .i64 ja, .int .i64 bb, .int .i64 col, .int .i64 ck, .int .i64 cn, .string cs] 44)).alloc (.cells #[.int .i64 k1, .int .i64 n1, .string s1] 34)).alloc (.cells #[.int .i64 0, .int .i64 0, .string ⟨#[]⟩] 34)).cell? ⟨w.heap.size, 1, none⟩ = some (.int .i64 0) := by go_simp
    have hn2 : ((((w.alloc (.cells #[.int .i64 0, .int .i64 0, .string ⟨#[]⟩] 34)).alloc (.cells #[.int .i64 10, .int .i64 ja, .int .i64 bb, .int .i64 col, .int .i64 ck, .int .i64 cn, .string cs] 44)).alloc (.cells #[.int .i64 k1, .int .i64 n1, .string s1] 34)).alloc (.cells #[.int .i64 0, .int .i64 0, .string ⟨#[]⟩] 34)).cell? ⟨w.heap.size, 2, none⟩ = some (.string ⟨#[]⟩) := by go_simp
    have hn3 : ((((w.alloc (.cells #[.int .i64 0, .int .i64 0, .string ⟨#[]⟩] 34)).alloc (.cells #[.int .i64 10, .int .i64 ja, .int .i64 bb, .int .i64 col, .int .i64 ck, .int .i64 cn, .string cs] 44)).alloc (.cells #[.int .i64 k1, .int .i64 n1, .string s1] 34)).alloc (.cells #[.int .i64 0, .int .i64 0, .string ⟨#[]⟩] 34)).cell? ⟨w.heap.size + 1, 0, none⟩ = some (.int .i64 10) := by go_simp
    have hn4 : ((((w.alloc (.cells #[.int .i64 0, .int .i64 0, .string ⟨#[]⟩] 34)).alloc (.cells #[.int .i64 10, .int .i64 ja, .int .i64 bb, .int .i64 col, .int .i64 ck, .int .i64 cn, .string cs] 44)).alloc (.cells #[.int .i64 k1, .int .i64 n1, .string s1] 34)).alloc (.cells #[.int .i64 0, .int .i64 0, .string ⟨#[]⟩] 34)).cell? ⟨w.heap.size + 1 + 1, 0, none⟩ = some (.int .i64 k1) := by go_simp
    have hn5 : ((((w.alloc (.cells #[.int .i64 0, .int .i64 0, .string ⟨#[]⟩] 34)).alloc (.cells #[.int .i64 10, .int .i64 ja, .int .i64 bb, .int .i64 col, .int .i64 ck, .int .i64 cn, .string cs] 44)).alloc (.cells #[.int .i64 k1, .int .i64 n1, .string s1] 34)).alloc (.cells #[.int .i64 0, .int .i64 0, .string ⟨#[]⟩] 34)).cell? ⟨w.heap.size + 1 + 1, 1, none⟩ = some (.int .i64 n1) := by go_simp
    have hn6 : ((((w.alloc (.cells #[.int .i64 0, .int .i64 0, .string ⟨#[]⟩] 34)).alloc (.cells #[.int .i64 10, .int .i64 ja, .int .i64 bb, .int .i64 col, .int .i64 ck, .int .i64 cn, .string cs] 44)).alloc (.cells #[.int .i64 k1, .int .i64 n1, .string s1] 34)).alloc (.cells #[.int .i64 0, .int .i64 0, .string ⟨#[]⟩] 34)).cell? ⟨w.heap.size + 1 + 1, 2, none⟩ = some (.string s1) := by go_simp
    have hnf0 : ((((w.alloc (.cells #[.int .i64 0, .int .i64 0, .string ⟨#[]⟩] 34)).alloc (.cells #[.int .i64 10, .int .i64 ja, .int .i64 bb, .int .i64 col, .int .i64 ck, .int .i64 cn, .string cs] 44)).alloc (.cells #[.int .i64 k1, .int .i64 n1, .string s1] 34)).alloc (.cells #[.int .i64 0, .int .i64 0, .string ⟨#[]⟩] 34)).frozen? ⟨w.heap.size, 0, none⟩ = false := by go_simp
    have hnf1 : ((((w.alloc (.cells #[.int .i64 0, .int .i64 0, .string ⟨#[]⟩] 34)).alloc (.cells #[.int .i64 10, .int .i64 ja, .int .i64 bb, .int .i64 col, .int .i64 ck, .int .i64 cn, .string cs] 44)).alloc (.cells #[.int .i64 k1, .int .i64 n1, .string s1] 34)).alloc (.cells #[.int .i64 0, .int .i64 0, .string ⟨#[]⟩] 34)).frozen? ⟨w.heap.size, 1, none⟩ = false := by go_simp
    have hnf2 : ((((w.alloc (.cells #[.int .i64 0, .int .i64 0, .string ⟨#[]⟩] 34)).alloc (.cells #[.int .i64 10, .int .i64 ja, .int .i64 bb, .int .i64 col, .int .i64 ck, .int .i64 cn, .string cs] 44)).alloc (.cells #[.int .i64 k1, .int .i64 n1, .string s1] 34)).alloc (.cells #[.int .i64 0, .int .i64 0, .string ⟨#[]⟩] 34)).frozen? ⟨w.heap.size, 2, none⟩ = false := by go_simp
    have hsz0 : ((((w.alloc (.cells #[.int .i64 0, .int .i64 0, .string ⟨#[]⟩] 34)).alloc (.cells #[.int .i64 10, .int .i64 ja, .int .i64 bb, .int .i64 col, .int .i64 ck, .int .i64 cn, .string cs] 44)).alloc (.cells #[.int .i64 k1, .int .i64 n1, .string s1] 34)).alloc (.cells #[.int .i64 0, .int .i64 0, .string ⟨#[]⟩] 34)).heap.size = w.heap.size + 4 := by simp only [World.size_alloc]
    generalize hw0 : ((((w.alloc (.cells #[.int .i64 0, .int .i64 0, .string ⟨#[]⟩] 34)).alloc (.cells #[.int .i64 10, .int .i64 ja, .int .i64 bb, .int .i64 col, .int .i64 ck, .int .i64 cn, .string cs] 44)).alloc (.cells #[.int .i64 k1, .int .i64 n1, .string s1] 34)).alloc (.cells #[.int .i64 0, .int .i64 0, .string ⟨#[]⟩] 34)) = w0 at *
    clear hw0
    have hq0 : w.heap.size < w0.heap.size := by omega
    have hr0 : w.heap.size ≤ w0.heap.size := by omega
    have hq1 : w.heap.size + 1 < w0.heap.size := by omega
    have hr1 : w.heap.size + 1 ≤ w0.heap.size := by omega
    have hq2 : w.heap.size + 1 + 1 < w0.heap.size := by omega
    have hr2 : w.heap.size + 1 + 1 ≤ w0.heap.size := by omega
    have hq3 : w.heap.size + 1 + 1 + 1 < w0.heap.size := by omega
    have hr3 : w.heap.size + 1 + 1 + 1 ≤ w0.heap.size := by omega
    clear hsz0
    refine (ref_isT_call k1 n1 s1 false _ H1.out).mono ?_
    rintro e w1 ⟨rfl, hb1⟩
    have hB1 : Below w.heap.size w w1 := below_chain (hB0') hb1
    have hz1 := hb1.size
    have hl1_0 : w.heap.size < w1.heap.size := by omega
    have hm1_0 : w.heap.size ≤ w1.heap.size := by omega
    have hl1_1 : w.heap.size + 1 < w1.heap.size := by omega
    have hm1_1 : w.heap.size + 1 ≤ w1.heap.size := by omega
    have hl1_2 : w.heap.size + 1 + 1 < w1.heap.size := by omega
    have hm1_2 : w.heap.size + 1 + 1 ≤ w1.heap.size := by omega
    have hl1_3 : w.heap.size + 1 + 1 + 1 < w1.heap.size := by omega
    have hm1_3 : w.heap.size + 1 + 1 + 1 ≤ w1.heap.size := by omega
    obtain ⟨hc1, hf1⟩ := bcell hb1
    clear hb1
    go_wp2_with fail
    refine (ref_bool_call true 1 _ rfl).mono ?_
    rintro e w2 ⟨rfl, hb2⟩
    have hB2 : Below w.heap.size w w2 := below_chain (hB1) hb2
    have hz2 := hb2.size
    have hl2_0 : w.heap.size < w2.heap.size := by omega
    have hm2_0 : w.heap.size ≤ w2.heap.size := by omega
    have hl2_1 : w.heap.size + 1 < w2.heap.size := by omega
    have hm2_1 : w.heap.size + 1 ≤ w2.heap.size := by omega
    have hl2_2 : w.heap.size + 1 + 1 < w2.heap.size := by omega
    have hm2_2 : w.heap.size + 1 + 1 ≤ w2.heap.size := by omega
    have hl2_3 : w.heap.size + 1 + 1 + 1 < w2.heap.size := by omega
    have hm2_3 : w.heap.size + 1 + 1 + 1 ≤ w2.heap.size := by omega
    obtain ⟨hc2, hf2⟩ := bcell hb2
    clear hb2
    go_wp2_with fail
    have sc := two_ops (w := w2) (B := w.heap.size) (a := .int .i64 0) (b := .int .i64 0) (c := .string ⟨#[]⟩) (by go_simp) (by go_simp) (by go_simp) (.int .i64 3) (.int .i64 1) (.string ⟨#[]⟩)
    obtain ⟨sc0, sc1, sc2⟩ := sc
    refine bodyPost_ret (v := .agg #[.int .i64 3, .int .i64 1, .string ⟨#[]⟩]) (by simp [sc0, sc1, sc2, results, Try.results26, go_sem]) rfl ⟨by rw [HW.out]; rfl, ?_⟩
    exact (((hB2).setCell (by simp) _).setCell (by simp) _).setCell (by simp) _


set_option maxRecDepth 100000 in
set_option maxHeartbeats 2000000 in
theorem reval_isnull (bb : Int) (col ck cn : Int) (cs : ByteArray) (k1 n1 : Int) (s1 : ByteArray) (b off n c k dg dn dc ja : Nat) (rv : Value) (w : World) (hb : b < w.heap.size) (hg : dg < w.heap.size) (hk : k < n) (hnc : n ≤ 100000) (hdn : k < dn) (hja : ja < k)
    (hx : ExAt w b (off + k * 7) ⟨11, ja, bb, col, ⟨ck, cn, cs⟩⟩) (hva : VlAt w dg (ja * 3) ⟨k1, n1, s1⟩) :
    Calls Try.prog 26 #[.slice (some ⟨b, off, none⟩) n c, .int .i64 k, rv, .slice (some ⟨dg, 0, none⟩) dn dc] w fun e' w' => e' = .returned ((Xp.bool (decide (k1 = 0))).go) ∧ Below w.heap.size w w' := by
  generalize hV : (Xp.bool (decide (k1 = 0))).go = V
  have HV := Lib.hid hV
  clear hV
  by_cases z1 : k1 = 0
  · subst z1
    have HW := Lib.hid (HV.out.symm.trans (show (Xp.bool _).go = (Xp.bool true).go by simp))
    have HX := Lib.hid hx
    have HL := Lib.hid (show (!Xp.badIx ⟨11, ja, bb, col, ⟨ck, cn, cs⟩⟩ k) = true by unfold Xp.badIx Xp.lgl; simp [Xp.arity, hja])
    obtain ⟨x0, x1, x2, x3, x4, x5, x6⟩ := hx
    simp only at x0 x1 x2 x3 x4 x5 x6
    obtain ⟨u0, u1, u2⟩ := hva
    simp only at u0 u1 u2
    have h0 : (0 : Int) ≤ (k : Int) := by omega
    have h1 : (k : Int) < (n : Int) := by omega
    have h2ja : (0 : Int) ≤ (ja : Int) := by omega
    have h3ja : (ja : Int) < (dn : Int) := by omega
    have hb1 : b < w.heap.size + 1 := by omega
    have hb2 : b < w.heap.size + 1 + 1 := by omega
    have hg1 : dg < w.heap.size + 1 := by omega
    have hg2 : dg < w.heap.size + 1 + 1 := by omega
    have hg3 : dg < w.heap.size + 1 + 1 + 1 := by omega
    have hB0 : Below w.heap.size w w := Below.refl _ _
    go_enter Try.func26, Try.ntmps26
    go_wp2_with fail
    refine (ropn_call _ 1 _ rfl).mono ?_
    rintro e1 w1 ⟨rfl, rfl⟩
    go_wp2_with fail
    refine (legal_call true b off n c k _ w _ hb (below_alloc (below_alloc (Below.refl _ _) _) _) hk hnc HX.out HL.out).mono ?_
    rintro e1 w1 ⟨rfl, rfl⟩
    go_wp2_with fail
    have hB0' : Below w.heap.size w ((((w.alloc (.cells #[.int .i64 0, .int .i64 0, .string ⟨#[]⟩] 34)).alloc (.cells #[.int .i64 11, .int .i64 ja, .int .i64 bb, .int .i64 col, .int .i64 ck, .int .i64 cn, .string cs] 44)).alloc (.cells #[.int .i64 0, .int .i64 n1, .string s1] 34)).alloc (.cells #[.int .i64 0, .int .i64 0, .string ⟨#[]⟩] 34)) := below_alloc (below_alloc (below_alloc (below_alloc (Below.refl _ _) _) _) _) _
    have hn0 : ((((w.alloc (.cells #[.int .i64 0, .int .i64 0, .string ⟨#[]⟩] 34)).alloc (.cells #[.int .i64 11, .int .i64 ja, .int .i64 bb, .int .i64 col, .int .i64 ck, .int .i64 cn, .string cs] 44)).alloc (.cells #[.int .i64 0, .int .i64 n1, .string s1] 34)).alloc (.cells #[.int .i64 0, .int .i64 0, .string ⟨#[]⟩] 34)).cell? ⟨w.heap.size, 0, none⟩ = some (.int .i64 0) := by go_simp
    have hn1 : ((((w.alloc (.cells #[.int .i64 0, .int .i64 0, .string ⟨#[]⟩] 34)).alloc (.cells #[.int .i64 11, .int .i64 ja, .int .i64 bb, .int .i64 col, .int .i64 ck, .int .i64 cn, .string cs] 44)).alloc (.cells #[.int .i64 0, .int .i64 n1, .string s1] 34)).alloc (.cells #[.int .i64 0, .int .i64 0, .string ⟨#[]⟩] 34)).cell? ⟨w.heap.size, 1, none⟩ = some (.int .i64 0) := by go_simp
    have hn2 : ((((w.alloc (.cells #[.int .i64 0, .int .i64 0, .string ⟨#[]⟩] 34)).alloc (.cells #[.int .i64 11, .int .i64 ja, .int .i64 bb, .int .i64 col, .int .i64 ck, .int .i64 cn, .string cs] 44)).alloc (.cells #[.int .i64 0, .int .i64 n1, .string s1] 34)).alloc (.cells #[.int .i64 0, .int .i64 0, .string ⟨#[]⟩] 34)).cell? ⟨w.heap.size, 2, none⟩ = some (.string ⟨#[]⟩) := by go_simp
    have hn3 : ((((w.alloc (.cells #[.int .i64 0, .int .i64 0, .string ⟨#[]⟩] 34)).alloc (.cells #[.int .i64 11, .int .i64 ja, .int .i64 bb, .int .i64 col, .int .i64 ck, .int .i64 cn, .string cs] 44)).alloc (.cells #[.int .i64 0, .int .i64 n1, .string s1] 34)).alloc (.cells #[.int .i64 0, .int .i64 0, .string ⟨#[]⟩] 34)).cell? ⟨w.heap.size + 1, 0, none⟩ = some (.int .i64 11) := by go_simp
    have hn4 : ((((w.alloc (.cells #[.int .i64 0, .int .i64 0, .string ⟨#[]⟩] 34)).alloc (.cells #[.int .i64 11, .int .i64 ja, .int .i64 bb, .int .i64 col, .int .i64 ck, .int .i64 cn, .string cs] 44)).alloc (.cells #[.int .i64 0, .int .i64 n1, .string s1] 34)).alloc (.cells #[.int .i64 0, .int .i64 0, .string ⟨#[]⟩] 34)).cell? ⟨w.heap.size + 1 + 1, 0, none⟩ = some (.int .i64 0) := by go_simp
    have hn5 : ((((w.alloc (.cells #[.int .i64 0, .int .i64 0, .string ⟨#[]⟩] 34)).alloc (.cells #[.int .i64 11, .int .i64 ja, .int .i64 bb, .int .i64 col, .int .i64 ck, .int .i64 cn, .string cs] 44)).alloc (.cells #[.int .i64 0, .int .i64 n1, .string s1] 34)).alloc (.cells #[.int .i64 0, .int .i64 0, .string ⟨#[]⟩] 34)).cell? ⟨w.heap.size + 1 + 1, 1, none⟩ = some (.int .i64 n1) := by go_simp
    have hn6 : ((((w.alloc (.cells #[.int .i64 0, .int .i64 0, .string ⟨#[]⟩] 34)).alloc (.cells #[.int .i64 11, .int .i64 ja, .int .i64 bb, .int .i64 col, .int .i64 ck, .int .i64 cn, .string cs] 44)).alloc (.cells #[.int .i64 0, .int .i64 n1, .string s1] 34)).alloc (.cells #[.int .i64 0, .int .i64 0, .string ⟨#[]⟩] 34)).cell? ⟨w.heap.size + 1 + 1, 2, none⟩ = some (.string s1) := by go_simp
    have hnf0 : ((((w.alloc (.cells #[.int .i64 0, .int .i64 0, .string ⟨#[]⟩] 34)).alloc (.cells #[.int .i64 11, .int .i64 ja, .int .i64 bb, .int .i64 col, .int .i64 ck, .int .i64 cn, .string cs] 44)).alloc (.cells #[.int .i64 0, .int .i64 n1, .string s1] 34)).alloc (.cells #[.int .i64 0, .int .i64 0, .string ⟨#[]⟩] 34)).frozen? ⟨w.heap.size, 0, none⟩ = false := by go_simp
    have hnf1 : ((((w.alloc (.cells #[.int .i64 0, .int .i64 0, .string ⟨#[]⟩] 34)).alloc (.cells #[.int .i64 11, .int .i64 ja, .int .i64 bb, .int .i64 col, .int .i64 ck, .int .i64 cn, .string cs] 44)).alloc (.cells #[.int .i64 0, .int .i64 n1, .string s1] 34)).alloc (.cells #[.int .i64 0, .int .i64 0, .string ⟨#[]⟩] 34)).frozen? ⟨w.heap.size, 1, none⟩ = false := by go_simp
    have hnf2 : ((((w.alloc (.cells #[.int .i64 0, .int .i64 0, .string ⟨#[]⟩] 34)).alloc (.cells #[.int .i64 11, .int .i64 ja, .int .i64 bb, .int .i64 col, .int .i64 ck, .int .i64 cn, .string cs] 44)).alloc (.cells #[.int .i64 0, .int .i64 n1, .string s1] 34)).alloc (.cells #[.int .i64 0, .int .i64 0, .string ⟨#[]⟩] 34)).frozen? ⟨w.heap.size, 2, none⟩ = false := by go_simp
    have hsz0 : ((((w.alloc (.cells #[.int .i64 0, .int .i64 0, .string ⟨#[]⟩] 34)).alloc (.cells #[.int .i64 11, .int .i64 ja, .int .i64 bb, .int .i64 col, .int .i64 ck, .int .i64 cn, .string cs] 44)).alloc (.cells #[.int .i64 0, .int .i64 n1, .string s1] 34)).alloc (.cells #[.int .i64 0, .int .i64 0, .string ⟨#[]⟩] 34)).heap.size = w.heap.size + 4 := by simp only [World.size_alloc]
    generalize hw0 : ((((w.alloc (.cells #[.int .i64 0, .int .i64 0, .string ⟨#[]⟩] 34)).alloc (.cells #[.int .i64 11, .int .i64 ja, .int .i64 bb, .int .i64 col, .int .i64 ck, .int .i64 cn, .string cs] 44)).alloc (.cells #[.int .i64 0, .int .i64 n1, .string s1] 34)).alloc (.cells #[.int .i64 0, .int .i64 0, .string ⟨#[]⟩] 34)) = w0 at *
    clear hw0
    have hq0 : w.heap.size < w0.heap.size := by omega
    have hr0 : w.heap.size ≤ w0.heap.size := by omega
    have hq1 : w.heap.size + 1 < w0.heap.size := by omega
    have hr1 : w.heap.size + 1 ≤ w0.heap.size := by omega
    have hq2 : w.heap.size + 1 + 1 < w0.heap.size := by omega
    have hr2 : w.heap.size + 1 + 1 ≤ w0.heap.size := by omega
    have hq3 : w.heap.size + 1 + 1 + 1 < w0.heap.size := by omega
    have hr3 : w.heap.size + 1 + 1 + 1 ≤ w0.heap.size := by omega
    clear hsz0
    refine (ref_bool_call true 1 _ rfl).mono ?_
    rintro e w1 ⟨rfl, hb1⟩
    have hB1 : Below w.heap.size w w1 := below_chain (hB0') hb1
    have hz1 := hb1.size
    have hl1_0 : w.heap.size < w1.heap.size := by omega
    have hm1_0 : w.heap.size ≤ w1.heap.size := by omega
    have hl1_1 : w.heap.size + 1 < w1.heap.size := by omega
    have hm1_1 : w.heap.size + 1 ≤ w1.heap.size := by omega
    have hl1_2 : w.heap.size + 1 + 1 < w1.heap.size := by omega
    have hm1_2 : w.heap.size + 1 + 1 ≤ w1.heap.size := by omega
    have hl1_3 : w.heap.size + 1 + 1 + 1 < w1.heap.size := by omega
    have hm1_3 : w.heap.size + 1 + 1 + 1 ≤ w1.heap.size := by omega
    obtain ⟨hc1, hf1⟩ := bcell hb1
    clear hb1
    go_wp2_with fail
    have sc := two_ops (w := w1) (B := w.heap.size) (a := .int .i64 0) (b := .int .i64 0) (c := .string ⟨#[]⟩) (by go_simp) (by go_simp) (by go_simp) (.int .i64 3) (.int .i64 1) (.string ⟨#[]⟩)
    obtain ⟨sc0, sc1, sc2⟩ := sc
    refine bodyPost_ret (v := .agg #[.int .i64 3, .int .i64 1, .string ⟨#[]⟩]) (by simp [sc0, sc1, sc2, results, Try.results26, go_sem]) rfl ⟨by rw [HW.out]; rfl, ?_⟩
    exact (((hB1).setCell (by simp) _).setCell (by simp) _).setCell (by simp) _
  · have e1 : (k1 == 0) = false := by simp; exact z1
    have HW := Lib.hid (HV.out.symm.trans (show (Xp.bool _).go = (Xp.bool false).go by simp [z1]))
    have HX := Lib.hid hx
    have HL := Lib.hid (show (!Xp.badIx ⟨11, ja, bb, col, ⟨ck, cn, cs⟩⟩ k) = true by unfold Xp.badIx Xp.lgl; simp [Xp.arity, hja])
    obtain ⟨x0, x1, x2, x3, x4, x5, x6⟩ := hx
    simp only at x0 x1 x2 x3 x4 x5 x6
    obtain ⟨u0, u1, u2⟩ := hva
    simp only at u0 u1 u2
    have h0 : (0 : Int) ≤ (k : Int) := by omega
    have h1 : (k : Int) < (n : Int) := by omega
    have h2ja : (0 : Int) ≤ (ja : Int) := by omega
    have h3ja : (ja : Int) < (dn : Int) := by omega
    have hb1 : b < w.heap.size + 1 := by omega
    have hb2 : b < w.heap.size + 1 + 1 := by omega
    have hg1 : dg < w.heap.size + 1 := by omega
    have hg2 : dg < w.heap.size + 1 + 1 := by omega
    have hg3 : dg < w.heap.size + 1 + 1 + 1 := by omega
    have hB0 : Below w.heap.size w w := Below.refl _ _
    go_enter Try.func26, Try.ntmps26
    go_wp2_with fail
    refine (ropn_call _ 1 _ rfl).mono ?_
    rintro e1 w1 ⟨rfl, rfl⟩
    go_wp2_with fail
    refine (legal_call true b off n c k _ w _ hb (below_alloc (below_alloc (Below.refl _ _) _) _) hk hnc HX.out HL.out).mono ?_
    rintro e1 w1 ⟨rfl, rfl⟩
    go_wp2_with fail
    have hB0' : Below w.heap.size w ((((w.alloc (.cells #[.int .i64 0, .int .i64 0, .string ⟨#[]⟩] 34)).alloc (.cells #[.int .i64 11, .int .i64 ja, .int .i64 bb, .int .i64 col, .int .i64 ck, .int .i64 cn, .string cs] 44)).alloc (.cells #[.int .i64 k1, .int .i64 n1, .string s1] 34)).alloc (.cells #[.int .i64 0, .int .i64 0, .string ⟨#[]⟩] 34)) := below_alloc (below_alloc (below_alloc (below_alloc (Below.refl _ _) _) _) _) _
    have hn0 : ((((w.alloc (.cells #[.int .i64 0, .int .i64 0, .string ⟨#[]⟩] 34)).alloc (.cells #[.int .i64 11, .int .i64 ja, .int .i64 bb, .int .i64 col, .int .i64 ck, .int .i64 cn, .string cs] 44)).alloc (.cells #[.int .i64 k1, .int .i64 n1, .string s1] 34)).alloc (.cells #[.int .i64 0, .int .i64 0, .string ⟨#[]⟩] 34)).cell? ⟨w.heap.size, 0, none⟩ = some (.int .i64 0) := by go_simp
    have hn1 : ((((w.alloc (.cells #[.int .i64 0, .int .i64 0, .string ⟨#[]⟩] 34)).alloc (.cells #[.int .i64 11, .int .i64 ja, .int .i64 bb, .int .i64 col, .int .i64 ck, .int .i64 cn, .string cs] 44)).alloc (.cells #[.int .i64 k1, .int .i64 n1, .string s1] 34)).alloc (.cells #[.int .i64 0, .int .i64 0, .string ⟨#[]⟩] 34)).cell? ⟨w.heap.size, 1, none⟩ = some (.int .i64 0) := by go_simp
    have hn2 : ((((w.alloc (.cells #[.int .i64 0, .int .i64 0, .string ⟨#[]⟩] 34)).alloc (.cells #[.int .i64 11, .int .i64 ja, .int .i64 bb, .int .i64 col, .int .i64 ck, .int .i64 cn, .string cs] 44)).alloc (.cells #[.int .i64 k1, .int .i64 n1, .string s1] 34)).alloc (.cells #[.int .i64 0, .int .i64 0, .string ⟨#[]⟩] 34)).cell? ⟨w.heap.size, 2, none⟩ = some (.string ⟨#[]⟩) := by go_simp
    have hn3 : ((((w.alloc (.cells #[.int .i64 0, .int .i64 0, .string ⟨#[]⟩] 34)).alloc (.cells #[.int .i64 11, .int .i64 ja, .int .i64 bb, .int .i64 col, .int .i64 ck, .int .i64 cn, .string cs] 44)).alloc (.cells #[.int .i64 k1, .int .i64 n1, .string s1] 34)).alloc (.cells #[.int .i64 0, .int .i64 0, .string ⟨#[]⟩] 34)).cell? ⟨w.heap.size + 1, 0, none⟩ = some (.int .i64 11) := by go_simp
    have hn4 : ((((w.alloc (.cells #[.int .i64 0, .int .i64 0, .string ⟨#[]⟩] 34)).alloc (.cells #[.int .i64 11, .int .i64 ja, .int .i64 bb, .int .i64 col, .int .i64 ck, .int .i64 cn, .string cs] 44)).alloc (.cells #[.int .i64 k1, .int .i64 n1, .string s1] 34)).alloc (.cells #[.int .i64 0, .int .i64 0, .string ⟨#[]⟩] 34)).cell? ⟨w.heap.size + 1 + 1, 0, none⟩ = some (.int .i64 k1) := by go_simp
    have hn5 : ((((w.alloc (.cells #[.int .i64 0, .int .i64 0, .string ⟨#[]⟩] 34)).alloc (.cells #[.int .i64 11, .int .i64 ja, .int .i64 bb, .int .i64 col, .int .i64 ck, .int .i64 cn, .string cs] 44)).alloc (.cells #[.int .i64 k1, .int .i64 n1, .string s1] 34)).alloc (.cells #[.int .i64 0, .int .i64 0, .string ⟨#[]⟩] 34)).cell? ⟨w.heap.size + 1 + 1, 1, none⟩ = some (.int .i64 n1) := by go_simp
    have hn6 : ((((w.alloc (.cells #[.int .i64 0, .int .i64 0, .string ⟨#[]⟩] 34)).alloc (.cells #[.int .i64 11, .int .i64 ja, .int .i64 bb, .int .i64 col, .int .i64 ck, .int .i64 cn, .string cs] 44)).alloc (.cells #[.int .i64 k1, .int .i64 n1, .string s1] 34)).alloc (.cells #[.int .i64 0, .int .i64 0, .string ⟨#[]⟩] 34)).cell? ⟨w.heap.size + 1 + 1, 2, none⟩ = some (.string s1) := by go_simp
    have hnf0 : ((((w.alloc (.cells #[.int .i64 0, .int .i64 0, .string ⟨#[]⟩] 34)).alloc (.cells #[.int .i64 11, .int .i64 ja, .int .i64 bb, .int .i64 col, .int .i64 ck, .int .i64 cn, .string cs] 44)).alloc (.cells #[.int .i64 k1, .int .i64 n1, .string s1] 34)).alloc (.cells #[.int .i64 0, .int .i64 0, .string ⟨#[]⟩] 34)).frozen? ⟨w.heap.size, 0, none⟩ = false := by go_simp
    have hnf1 : ((((w.alloc (.cells #[.int .i64 0, .int .i64 0, .string ⟨#[]⟩] 34)).alloc (.cells #[.int .i64 11, .int .i64 ja, .int .i64 bb, .int .i64 col, .int .i64 ck, .int .i64 cn, .string cs] 44)).alloc (.cells #[.int .i64 k1, .int .i64 n1, .string s1] 34)).alloc (.cells #[.int .i64 0, .int .i64 0, .string ⟨#[]⟩] 34)).frozen? ⟨w.heap.size, 1, none⟩ = false := by go_simp
    have hnf2 : ((((w.alloc (.cells #[.int .i64 0, .int .i64 0, .string ⟨#[]⟩] 34)).alloc (.cells #[.int .i64 11, .int .i64 ja, .int .i64 bb, .int .i64 col, .int .i64 ck, .int .i64 cn, .string cs] 44)).alloc (.cells #[.int .i64 k1, .int .i64 n1, .string s1] 34)).alloc (.cells #[.int .i64 0, .int .i64 0, .string ⟨#[]⟩] 34)).frozen? ⟨w.heap.size, 2, none⟩ = false := by go_simp
    have hsz0 : ((((w.alloc (.cells #[.int .i64 0, .int .i64 0, .string ⟨#[]⟩] 34)).alloc (.cells #[.int .i64 11, .int .i64 ja, .int .i64 bb, .int .i64 col, .int .i64 ck, .int .i64 cn, .string cs] 44)).alloc (.cells #[.int .i64 k1, .int .i64 n1, .string s1] 34)).alloc (.cells #[.int .i64 0, .int .i64 0, .string ⟨#[]⟩] 34)).heap.size = w.heap.size + 4 := by simp only [World.size_alloc]
    generalize hw0 : ((((w.alloc (.cells #[.int .i64 0, .int .i64 0, .string ⟨#[]⟩] 34)).alloc (.cells #[.int .i64 11, .int .i64 ja, .int .i64 bb, .int .i64 col, .int .i64 ck, .int .i64 cn, .string cs] 44)).alloc (.cells #[.int .i64 k1, .int .i64 n1, .string s1] 34)).alloc (.cells #[.int .i64 0, .int .i64 0, .string ⟨#[]⟩] 34)) = w0 at *
    clear hw0
    have hq0 : w.heap.size < w0.heap.size := by omega
    have hr0 : w.heap.size ≤ w0.heap.size := by omega
    have hq1 : w.heap.size + 1 < w0.heap.size := by omega
    have hr1 : w.heap.size + 1 ≤ w0.heap.size := by omega
    have hq2 : w.heap.size + 1 + 1 < w0.heap.size := by omega
    have hr2 : w.heap.size + 1 + 1 ≤ w0.heap.size := by omega
    have hq3 : w.heap.size + 1 + 1 + 1 < w0.heap.size := by omega
    have hr3 : w.heap.size + 1 + 1 + 1 ≤ w0.heap.size := by omega
    clear hsz0
    refine (ref_bool_call false 0 _ rfl).mono ?_
    rintro e w1 ⟨rfl, hb1⟩
    have hB1 : Below w.heap.size w w1 := below_chain (hB0') hb1
    have hz1 := hb1.size
    have hl1_0 : w.heap.size < w1.heap.size := by omega
    have hm1_0 : w.heap.size ≤ w1.heap.size := by omega
    have hl1_1 : w.heap.size + 1 < w1.heap.size := by omega
    have hm1_1 : w.heap.size + 1 ≤ w1.heap.size := by omega
    have hl1_2 : w.heap.size + 1 + 1 < w1.heap.size := by omega
    have hm1_2 : w.heap.size + 1 + 1 ≤ w1.heap.size := by omega
    have hl1_3 : w.heap.size + 1 + 1 + 1 < w1.heap.size := by omega
    have hm1_3 : w.heap.size + 1 + 1 + 1 ≤ w1.heap.size := by omega
    obtain ⟨hc1, hf1⟩ := bcell hb1
    clear hb1
    go_wp2_with fail
    have sc := two_ops (w := w1) (B := w.heap.size) (a := .int .i64 0) (b := .int .i64 0) (c := .string ⟨#[]⟩) (by go_simp) (by go_simp) (by go_simp) (.int .i64 3) (.int .i64 0) (.string ⟨#[]⟩)
    obtain ⟨sc0, sc1, sc2⟩ := sc
    refine bodyPost_ret (v := .agg #[.int .i64 3, .int .i64 0, .string ⟨#[]⟩]) (by simp [sc0, sc1, sc2, results, Try.results26, go_sem]) rfl ⟨by rw [HW.out]; rfl, ?_⟩
    exact (((hB1).setCell (by simp) _).setCell (by simp) _).setCell (by simp) _

end Go.Proofs.Ytpgaldkedeohaaa
