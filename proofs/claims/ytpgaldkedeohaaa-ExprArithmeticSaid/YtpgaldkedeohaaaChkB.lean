/-
  The reference's check, case by case.
-/
import Derived.Test.YtpgaldkedeohaaaChkA
namespace Go.Proofs.Ytpgaldkedeohaaa
open Go.RowKit
set_option linter.unusedVariables false

set_option maxRecDepth 100000 in
set_option maxHeartbeats 2000000 in
theorem rck_not_no (bb : Int) (col ck cn : Int) (cs : ByteArray) (ka : Int) (b off n c k dg dn dc ja : Nat) (cv : Value) (w : World) (hb : b < w.heap.size) (hg : dg < w.heap.size) (hk : k < n) (hnc : n ≤ 100000) (hdn : k < dn) (hja : ja < k)
    (hx : ExAt w b (off + k * 7) ⟨10, ja, bb, col, ⟨ck, cn, cs⟩⟩) (u0 : w.cell? ⟨dg, ja * 2, none⟩ = some (.int .i64 ka)) (u1 : w.cell? ⟨dg, ja * 2 + 1, none⟩ = some (.int .i64 0)) (ha : Xp.acc ka 3 = false) :
    Calls Try.prog 22 #[.slice (some ⟨b, off, none⟩) n c, .int .i64 k, cv, .slice (some ⟨dg, 0, none⟩) dn dc] w fun e' w' => e' = .returned (.agg #[.int .i64 0, .int .i64 7]) ∧ Below w.heap.size w w' := by
  have HA := Lib.hid ha
  clear ha
  have HX := Lib.hid hx
  have HL := Lib.hid (show (!Xp.badIx ⟨10, ja, bb, col, ⟨ck, cn, cs⟩⟩ k) = true by unfold Xp.badIx Xp.lgl; simp [Xp.arity, hja])
  obtain ⟨x0, x1, x2, x3, x4, x5, x6⟩ := hx
  simp only at x0 x1 x2 x3 x4 x5 x6
  have h0 : (0 : Int) ≤ (k : Int) := by omega
  have h1 : (k : Int) < (n : Int) := by omega
  have h2ja : (0 : Int) ≤ (ja : Int) := by omega
  have h3ja : (ja : Int) < (dn : Int) := by omega
  have hb1 : b < w.heap.size + 1 := by omega
  have hb2 : b < w.heap.size + 1 + 1 := by omega
  have hg1 : dg < w.heap.size + 1 := by omega
  have hg2 : dg < w.heap.size + 1 + 1 := by omega
  have hg3 : dg < w.heap.size + 1 + 1 + 1 := by omega
  have hB0 : Below w.heap.size w w := Below.refl _ _
  go_enter Try.func22, Try.ntmps22
  go_wp2_with fail
  refine (ropn_call _ (1) _ rfl).mono ?_
  rintro e1 w1 ⟨rfl, rfl⟩
  go_wp2_with fail
  refine (legal_call true b off n c k _ w _ hb (below_alloc (below_alloc (Below.refl _ _) _) _) hk hnc HX.out HL.out).mono ?_
  rintro e1 w1 ⟨rfl, rfl⟩
  go_wp2_with fail
  refine (fits_call _ _ false _ HA.out).mono ?_
  rintro e1 w1 ⟨rfl, rfl⟩
  go_wp2_with fail
  refine bodyPost_ret (v := .agg #[.int .i64 0, .int .i64 7]) (by simp [results, Try.results22, go_sem]) rfl ⟨rfl, ?_⟩
  exact below_alloc (below_alloc (Below.refl _ _) _) _


set_option maxRecDepth 100000 in
set_option maxHeartbeats 2000000 in
theorem rck_not_yes (bb : Int) (col ck cn : Int) (cs : ByteArray) (ka : Int) (b off n c k dg dn dc ja : Nat) (cv : Value) (w : World) (hb : b < w.heap.size) (hg : dg < w.heap.size) (hk : k < n) (hnc : n ≤ 100000) (hdn : k < dn) (hja : ja < k)
    (hx : ExAt w b (off + k * 7) ⟨10, ja, bb, col, ⟨ck, cn, cs⟩⟩) (u0 : w.cell? ⟨dg, ja * 2, none⟩ = some (.int .i64 ka)) (u1 : w.cell? ⟨dg, ja * 2 + 1, none⟩ = some (.int .i64 0)) (ha : Xp.acc ka 3 = true) :
    Calls Try.prog 22 #[.slice (some ⟨b, off, none⟩) n c, .int .i64 k, cv, .slice (some ⟨dg, 0, none⟩) dn dc] w fun e' w' => e' = .returned (.agg #[.int .i64 3, .int .i64 0]) ∧ Below w.heap.size w w' := by
  have HA := Lib.hid ha
  clear ha
  have HX := Lib.hid hx
  have HL := Lib.hid (show (!Xp.badIx ⟨10, ja, bb, col, ⟨ck, cn, cs⟩⟩ k) = true by unfold Xp.badIx Xp.lgl; simp [Xp.arity, hja])
  obtain ⟨x0, x1, x2, x3, x4, x5, x6⟩ := hx
  simp only at x0 x1 x2 x3 x4 x5 x6
  have h0 : (0 : Int) ≤ (k : Int) := by omega
  have h1 : (k : Int) < (n : Int) := by omega
  have h2ja : (0 : Int) ≤ (ja : Int) := by omega
  have h3ja : (ja : Int) < (dn : Int) := by omega
  have hb1 : b < w.heap.size + 1 := by omega
  have hb2 : b < w.heap.size + 1 + 1 := by omega
  have hg1 : dg < w.heap.size + 1 := by omega
  have hg2 : dg < w.heap.size + 1 + 1 := by omega
  have hg3 : dg < w.heap.size + 1 + 1 + 1 := by omega
  have hB0 : Below w.heap.size w w := Below.refl _ _
  go_enter Try.func22, Try.ntmps22
  go_wp2_with fail
  refine (ropn_call _ (1) _ rfl).mono ?_
  rintro e1 w1 ⟨rfl, rfl⟩
  go_wp2_with fail
  refine (legal_call true b off n c k _ w _ hb (below_alloc (below_alloc (Below.refl _ _) _) _) hk hnc HX.out HL.out).mono ?_
  rintro e1 w1 ⟨rfl, rfl⟩
  go_wp2_with fail
  refine (fits_call _ _ true _ HA.out).mono ?_
  rintro e1 w1 ⟨rfl, rfl⟩
  go_wp2_with fail
  refine bodyPost_ret (v := .agg #[.int .i64 3, .int .i64 0]) (by simp [results, Try.results22, go_sem]) rfl ⟨rfl, ?_⟩
  exact below_alloc (below_alloc (Below.refl _ _) _) _


set_option maxRecDepth 100000 in
set_option maxHeartbeats 2000000 in
theorem rck_isnull (bb : Int) (col ck cn : Int) (cs : ByteArray) (ka : Int) (b off n c k dg dn dc ja : Nat) (cv : Value) (w : World) (hb : b < w.heap.size) (hg : dg < w.heap.size) (hk : k < n) (hnc : n ≤ 100000) (hdn : k < dn) (hja : ja < k)
    (hx : ExAt w b (off + k * 7) ⟨11, ja, bb, col, ⟨ck, cn, cs⟩⟩) (u0 : w.cell? ⟨dg, ja * 2, none⟩ = some (.int .i64 ka)) (u1 : w.cell? ⟨dg, ja * 2 + 1, none⟩ = some (.int .i64 0)) :
    Calls Try.prog 22 #[.slice (some ⟨b, off, none⟩) n c, .int .i64 k, cv, .slice (some ⟨dg, 0, none⟩) dn dc] w fun e' w' => e' = .returned (.agg #[.int .i64 3, .int .i64 0]) ∧ Below w.heap.size w w' := by
  have HX := Lib.hid hx
  have HL := Lib.hid (show (!Xp.badIx ⟨11, ja, bb, col, ⟨ck, cn, cs⟩⟩ k) = true by unfold Xp.badIx Xp.lgl; simp [Xp.arity, hja])
  obtain ⟨x0, x1, x2, x3, x4, x5, x6⟩ := hx
  simp only at x0 x1 x2 x3 x4 x5 x6
  have h0 : (0 : Int) ≤ (k : Int) := by omega
  have h1 : (k : Int) < (n : Int) := by omega
  have h2ja : (0 : Int) ≤ (ja : Int) := by omega
  have h3ja : (ja : Int) < (dn : Int) := by omega
  have hb1 : b < w.heap.size + 1 := by omega
  have hb2 : b < w.heap.size + 1 + 1 := by omega
  have hg1 : dg < w.heap.size + 1 := by omega
  have hg2 : dg < w.heap.size + 1 + 1 := by omega
  have hg3 : dg < w.heap.size + 1 + 1 + 1 := by omega
  have hB0 : Below w.heap.size w w := Below.refl _ _
  go_enter Try.func22, Try.ntmps22
  go_wp2_with fail
  refine (ropn_call _ (1) _ rfl).mono ?_
  rintro e1 w1 ⟨rfl, rfl⟩
  go_wp2_with fail
  refine (legal_call true b off n c k _ w _ hb (below_alloc (below_alloc (Below.refl _ _) _) _) hk hnc HX.out HL.out).mono ?_
  rintro e1 w1 ⟨rfl, rfl⟩
  go_wp2_with fail
  refine bodyPost_ret (v := .agg #[.int .i64 3, .int .i64 0]) (by simp [results, Try.results22, go_sem]) rfl ⟨rfl, ?_⟩
  exact below_alloc (below_alloc (Below.refl _ _) _) _


set_option maxRecDepth 100000 in
set_option maxHeartbeats 2000000 in
theorem rck_3_no1 (col ck cn : Int) (cs : ByteArray) (ka : Int) (kb : Int) (b off n c k dg dn dc ja jb : Nat) (cv : Value) (w : World) (hb : b < w.heap.size) (hg : dg < w.heap.size) (hk : k < n) (hnc : n ≤ 100000) (hdn : k < dn) (hja : ja < k) (hjb : jb < k)
    (hx : ExAt w b (off + k * 7) ⟨3, ja, jb, col, ⟨ck, cn, cs⟩⟩) (u0 : w.cell? ⟨dg, ja * 2, none⟩ = some (.int .i64 ka)) (u1 : w.cell? ⟨dg, ja * 2 + 1, none⟩ = some (.int .i64 0)) (v0 : w.cell? ⟨dg, jb * 2, none⟩ = some (.int .i64 kb)) (v1 : w.cell? ⟨dg, jb * 2 + 1, none⟩ = some (.int .i64 0)) (ha : Xp.acc ka 1 = false) :
    Calls Try.prog 22 #[.slice (some ⟨b, off, none⟩) n c, .int .i64 k, cv, .slice (some ⟨dg, 0, none⟩) dn dc] w fun e' w' => e' = .returned (.agg #[.int .i64 0, .int .i64 7]) ∧ Below w.heap.size w w' := by
  have HA := Lib.hid ha
  clear ha
  have HX := Lib.hid hx
  have HL := Lib.hid (show (!Xp.badIx ⟨3, ja, jb, col, ⟨ck, cn, cs⟩⟩ k) = true by unfold Xp.badIx Xp.lgl; simp [hja, hjb])
  obtain ⟨x0, x1, x2, x3, x4, x5, x6⟩ := hx
  simp only at x0 x1 x2 x3 x4 x5 x6
  have h0 : (0 : Int) ≤ (k : Int) := by omega
  have h1 : (k : Int) < (n : Int) := by omega
  have h2ja : (0 : Int) ≤ (ja : Int) := by omega
  have h3ja : (ja : Int) < (dn : Int) := by omega
  have h2jb : (0 : Int) ≤ (jb : Int) := by omega
  have h3jb : (jb : Int) < (dn : Int) := by omega
  have hb1 : b < w.heap.size + 1 := by omega
  have hb2 : b < w.heap.size + 1 + 1 := by omega
  have hg1 : dg < w.heap.size + 1 := by omega
  have hg2 : dg < w.heap.size + 1 + 1 := by omega
  have hg3 : dg < w.heap.size + 1 + 1 + 1 := by omega
  have hB0 : Below w.heap.size w w := Below.refl _ _
  go_enter Try.func22, Try.ntmps22
  go_wp2_with fail
  refine (ropn_call _ (2) _ rfl).mono ?_
  rintro e1 w1 ⟨rfl, rfl⟩
  go_wp2_with fail
  refine (legal_call true b off n c k _ w _ hb (below_alloc (below_alloc (Below.refl _ _) _) _) hk hnc HX.out HL.out).mono ?_
  rintro e1 w1 ⟨rfl, rfl⟩
  go_wp2_with fail
  refine (fits_call _ _ false _ HA.out).mono ?_
  rintro e1 w1 ⟨rfl, rfl⟩
  go_wp2_with fail
  refine bodyPost_ret (v := .agg #[.int .i64 0, .int .i64 7]) (by simp [results, Try.results22, go_sem]) rfl ⟨rfl, ?_⟩
  exact below_alloc (below_alloc (Below.refl _ _) _) _


set_option maxRecDepth 100000 in
set_option maxHeartbeats 2000000 in
theorem rck_3_no2 (col ck cn : Int) (cs : ByteArray) (ka : Int) (kb : Int) (b off n c k dg dn dc ja jb : Nat) (cv : Value) (w : World) (hb : b < w.heap.size) (hg : dg < w.heap.size) (hk : k < n) (hnc : n ≤ 100000) (hdn : k < dn) (hja : ja < k) (hjb : jb < k)
    (hx : ExAt w b (off + k * 7) ⟨3, ja, jb, col, ⟨ck, cn, cs⟩⟩) (u0 : w.cell? ⟨dg, ja * 2, none⟩ = some (.int .i64 ka)) (u1 : w.cell? ⟨dg, ja * 2 + 1, none⟩ = some (.int .i64 0)) (v0 : w.cell? ⟨dg, jb * 2, none⟩ = some (.int .i64 kb)) (v1 : w.cell? ⟨dg, jb * 2 + 1, none⟩ = some (.int .i64 0)) (ha : Xp.acc ka 1 = true) (hb' : Xp.acc kb 1 = false) :
    Calls Try.prog 22 #[.slice (some ⟨b, off, none⟩) n c, .int .i64 k, cv, .slice (some ⟨dg, 0, none⟩) dn dc] w fun e' w' => e' = .returned (.agg #[.int .i64 0, .int .i64 7]) ∧ Below w.heap.size w w' := by
  have HA := Lib.hid ha
  clear ha
  have HB := Lib.hid hb'
  clear hb'
  have HX := Lib.hid hx
  have HL := Lib.hid (show (!Xp.badIx ⟨3, ja, jb, col, ⟨ck, cn, cs⟩⟩ k) = true by unfold Xp.badIx Xp.lgl; simp [hja, hjb])
  obtain ⟨x0, x1, x2, x3, x4, x5, x6⟩ := hx
  simp only at x0 x1 x2 x3 x4 x5 x6
  have h0 : (0 : Int) ≤ (k : Int) := by omega
  have h1 : (k : Int) < (n : Int) := by omega
  have h2ja : (0 : Int) ≤ (ja : Int) := by omega
  have h3ja : (ja : Int) < (dn : Int) := by omega
  have h2jb : (0 : Int) ≤ (jb : Int) := by omega
  have h3jb : (jb : Int) < (dn : Int) := by omega
  have hb1 : b < w.heap.size + 1 := by omega
  have hb2 : b < w.heap.size + 1 + 1 := by omega
  have hg1 : dg < w.heap.size + 1 := by omega
  have hg2 : dg < w.heap.size + 1 + 1 := by omega
  have hg3 : dg < w.heap.size + 1 + 1 + 1 := by omega
  have hB0 : Below w.heap.size w w := Below.refl _ _
  go_enter Try.func22, Try.ntmps22
  go_wp2_with fail
  refine (ropn_call _ (2) _ rfl).mono ?_
  rintro e1 w1 ⟨rfl, rfl⟩
  go_wp2_with fail
  refine (legal_call true b off n c k _ w _ hb (below_alloc (below_alloc (Below.refl _ _) _) _) hk hnc HX.out HL.out).mono ?_
  rintro e1 w1 ⟨rfl, rfl⟩
  go_wp2_with fail
  refine (fits_call _ _ true _ HA.out).mono ?_
  rintro e1 w1 ⟨rfl, rfl⟩
  go_wp2_with fail
  refine (fits_call _ _ false _ HB.out).mono ?_
  rintro e1 w1 ⟨rfl, rfl⟩
  go_wp2_with fail
  refine bodyPost_ret (v := .agg #[.int .i64 0, .int .i64 7]) (by simp [results, Try.results22, go_sem]) rfl ⟨rfl, ?_⟩
  exact below_alloc (below_alloc (Below.refl _ _) _) _


set_option maxRecDepth 100000 in
set_option maxHeartbeats 2000000 in
theorem rck_3_yes (col ck cn : Int) (cs : ByteArray) (ka : Int) (kb : Int) (b off n c k dg dn dc ja jb : Nat) (cv : Value) (w : World) (hb : b < w.heap.size) (hg : dg < w.heap.size) (hk : k < n) (hnc : n ≤ 100000) (hdn : k < dn) (hja : ja < k) (hjb : jb < k)
    (hx : ExAt w b (off + k * 7) ⟨3, ja, jb, col, ⟨ck, cn, cs⟩⟩) (u0 : w.cell? ⟨dg, ja * 2, none⟩ = some (.int .i64 ka)) (u1 : w.cell? ⟨dg, ja * 2 + 1, none⟩ = some (.int .i64 0)) (v0 : w.cell? ⟨dg, jb * 2, none⟩ = some (.int .i64 kb)) (v1 : w.cell? ⟨dg, jb * 2 + 1, none⟩ = some (.int .i64 0)) (ha : Xp.acc ka 1 = true) (hb' : Xp.acc kb 1 = true) :
    Calls Try.prog 22 #[.slice (some ⟨b, off, none⟩) n c, .int .i64 k, cv, .slice (some ⟨dg, 0, none⟩) dn dc] w fun e' w' => e' = .returned (.agg #[.int .i64 1, .int .i64 0]) ∧ Below w.heap.size w w' := by
  have HA := Lib.hid ha
  clear ha
  have HB := Lib.hid hb'
  clear hb'
  have HX := Lib.hid hx
  have HL := Lib.hid (show (!Xp.badIx ⟨3, ja, jb, col, ⟨ck, cn, cs⟩⟩ k) = true by unfold Xp.badIx Xp.lgl; simp [hja, hjb])
  obtain ⟨x0, x1, x2, x3, x4, x5, x6⟩ := hx
  simp only at x0 x1 x2 x3 x4 x5 x6
  have h0 : (0 : Int) ≤ (k : Int) := by omega
  have h1 : (k : Int) < (n : Int) := by omega
  have h2ja : (0 : Int) ≤ (ja : Int) := by omega
  have h3ja : (ja : Int) < (dn : Int) := by omega
  have h2jb : (0 : Int) ≤ (jb : Int) := by omega
  have h3jb : (jb : Int) < (dn : Int) := by omega
  have hb1 : b < w.heap.size + 1 := by omega
  have hb2 : b < w.heap.size + 1 + 1 := by omega
  have hg1 : dg < w.heap.size + 1 := by omega
  have hg2 : dg < w.heap.size + 1 + 1 := by omega
  have hg3 : dg < w.heap.size + 1 + 1 + 1 := by omega
  have hB0 : Below w.heap.size w w := Below.refl _ _
  go_enter Try.func22, Try.ntmps22
  go_wp2_with fail
  refine (ropn_call _ (2) _ rfl).mono ?_
  rintro e1 w1 ⟨rfl, rfl⟩
  go_wp2_with fail
  refine (legal_call true b off n c k _ w _ hb (below_alloc (below_alloc (Below.refl _ _) _) _) hk hnc HX.out HL.out).mono ?_
  rintro e1 w1 ⟨rfl, rfl⟩
  go_wp2_with fail
  refine (fits_call _ _ true _ HA.out).mono ?_
  rintro e1 w1 ⟨rfl, rfl⟩
  go_wp2_with fail
  refine (fits_call _ _ true _ HB.out).mono ?_
  rintro e1 w1 ⟨rfl, rfl⟩
  go_wp2_with fail
  refine bodyPost_ret (v := .agg #[.int .i64 1, .int .i64 0]) (by simp [results, Try.results22, go_sem]) rfl ⟨rfl, ?_⟩
  exact below_alloc (below_alloc (Below.refl _ _) _) _


set_option maxRecDepth 100000 in
set_option maxHeartbeats 2000000 in
theorem rck_4_no1 (col ck cn : Int) (cs : ByteArray) (ka : Int) (kb : Int) (b off n c k dg dn dc ja jb : Nat) (cv : Value) (w : World) (hb : b < w.heap.size) (hg : dg < w.heap.size) (hk : k < n) (hnc : n ≤ 100000) (hdn : k < dn) (hja : ja < k) (hjb : jb < k)
    (hx : ExAt w b (off + k * 7) ⟨4, ja, jb, col, ⟨ck, cn, cs⟩⟩) (u0 : w.cell? ⟨dg, ja * 2, none⟩ = some (.int .i64 ka)) (u1 : w.cell? ⟨dg, ja * 2 + 1, none⟩ = some (.int .i64 0)) (v0 : w.cell? ⟨dg, jb * 2, none⟩ = some (.int .i64 kb)) (v1 : w.cell? ⟨dg, jb * 2 + 1, none⟩ = some (.int .i64 0)) (ha : Xp.acc ka 1 = false) :
    Calls Try.prog 22 #[.slice (some ⟨b, off, none⟩) n c, .int .i64 k, cv, .slice (some ⟨dg, 0, none⟩) dn dc] w fun e' w' => e' = .returned (.agg #[.int .i64 0, .int .i64 7]) ∧ Below w.heap.size w w' := by
  have HA := Lib.hid ha
  clear ha
  have HX := Lib.hid hx
  have HL := Lib.hid (show (!Xp.badIx ⟨4, ja, jb, col, ⟨ck, cn, cs⟩⟩ k) = true by unfold Xp.badIx Xp.lgl; simp [hja, hjb])
  obtain ⟨x0, x1, x2, x3, x4, x5, x6⟩ := hx
  simp only at x0 x1 x2 x3 x4 x5 x6
  have h0 : (0 : Int) ≤ (k : Int) := by omega
  have h1 : (k : Int) < (n : Int) := by omega
  have h2ja : (0 : Int) ≤ (ja : Int) := by omega
  have h3ja : (ja : Int) < (dn : Int) := by omega
  have h2jb : (0 : Int) ≤ (jb : Int) := by omega
  have h3jb : (jb : Int) < (dn : Int) := by omega
  have hb1 : b < w.heap.size + 1 := by omega
  have hb2 : b < w.heap.size + 1 + 1 := by omega
  have hg1 : dg < w.heap.size + 1 := by omega
  have hg2 : dg < w.heap.size + 1 + 1 := by omega
  have hg3 : dg < w.heap.size + 1 + 1 + 1 := by omega
  have hB0 : Below w.heap.size w w := Below.refl _ _
  go_enter Try.func22, Try.ntmps22
  go_wp2_with fail
  refine (ropn_call _ (2) _ rfl).mono ?_
  rintro e1 w1 ⟨rfl, rfl⟩
  go_wp2_with fail
  refine (legal_call true b off n c k _ w _ hb (below_alloc (below_alloc (Below.refl _ _) _) _) hk hnc HX.out HL.out).mono ?_
  rintro e1 w1 ⟨rfl, rfl⟩
  go_wp2_with fail
  refine (fits_call _ _ false _ HA.out).mono ?_
  rintro e1 w1 ⟨rfl, rfl⟩
  go_wp2_with fail
  refine bodyPost_ret (v := .agg #[.int .i64 0, .int .i64 7]) (by simp [results, Try.results22, go_sem]) rfl ⟨rfl, ?_⟩
  exact below_alloc (below_alloc (Below.refl _ _) _) _


set_option maxRecDepth 100000 in
set_option maxHeartbeats 2000000 in
theorem rck_4_no2 (col ck cn : Int) (cs : ByteArray) (ka : Int) (kb : Int) (b off n c k dg dn dc ja jb : Nat) (cv : Value) (w : World) (hb : b < w.heap.size) (hg : dg < w.heap.size) (hk : k < n) (hnc : n ≤ 100000) (hdn : k < dn) (hja : ja < k) (hjb : jb < k)
    (hx : ExAt w b (off + k * 7) ⟨4, ja, jb, col, ⟨ck, cn, cs⟩⟩) (u0 : w.cell? ⟨dg, ja * 2, none⟩ = some (.int .i64 ka)) (u1 : w.cell? ⟨dg, ja * 2 + 1, none⟩ = some (.int .i64 0)) (v0 : w.cell? ⟨dg, jb * 2, none⟩ = some (.int .i64 kb)) (v1 : w.cell? ⟨dg, jb * 2 + 1, none⟩ = some (.int .i64 0)) (ha : Xp.acc ka 1 = true) (hb' : Xp.acc kb 1 = false) :
    Calls Try.prog 22 #[.slice (some ⟨b, off, none⟩) n c, .int .i64 k, cv, .slice (some ⟨dg, 0, none⟩) dn dc] w fun e' w' => e' = .returned (.agg #[.int .i64 0, .int .i64 7]) ∧ Below w.heap.size w w' := by
  have HA := Lib.hid ha
  clear ha
  have HB := Lib.hid hb'
  clear hb'
  have HX := Lib.hid hx
  have HL := Lib.hid (show (!Xp.badIx ⟨4, ja, jb, col, ⟨ck, cn, cs⟩⟩ k) = true by unfold Xp.badIx Xp.lgl; simp [hja, hjb])
  obtain ⟨x0, x1, x2, x3, x4, x5, x6⟩ := hx
  simp only at x0 x1 x2 x3 x4 x5 x6
  have h0 : (0 : Int) ≤ (k : Int) := by omega
  have h1 : (k : Int) < (n : Int) := by omega
  have h2ja : (0 : Int) ≤ (ja : Int) := by omega
  have h3ja : (ja : Int) < (dn : Int) := by omega
  have h2jb : (0 : Int) ≤ (jb : Int) := by omega
  have h3jb : (jb : Int) < (dn : Int) := by omega
  have hb1 : b < w.heap.size + 1 := by omega
  have hb2 : b < w.heap.size + 1 + 1 := by omega
  have hg1 : dg < w.heap.size + 1 := by omega
  have hg2 : dg < w.heap.size + 1 + 1 := by omega
  have hg3 : dg < w.heap.size + 1 + 1 + 1 := by omega
  have hB0 : Below w.heap.size w w := Below.refl _ _
  go_enter Try.func22, Try.ntmps22
  go_wp2_with fail
  refine (ropn_call _ (2) _ rfl).mono ?_
  rintro e1 w1 ⟨rfl, rfl⟩
  go_wp2_with fail
  refine (legal_call true b off n c k _ w _ hb (below_alloc (below_alloc (Below.refl _ _) _) _) hk hnc HX.out HL.out).mono ?_
  rintro e1 w1 ⟨rfl, rfl⟩
  go_wp2_with fail
  refine (fits_call _ _ true _ HA.out).mono ?_
  rintro e1 w1 ⟨rfl, rfl⟩
  go_wp2_with fail
  refine (fits_call _ _ false _ HB.out).mono ?_
  rintro e1 w1 ⟨rfl, rfl⟩
  go_wp2_with fail
  refine bodyPost_ret (v := .agg #[.int .i64 0, .int .i64 7]) (by simp [results, Try.results22, go_sem]) rfl ⟨rfl, ?_⟩
  exact below_alloc (below_alloc (Below.refl _ _) _) _


set_option maxRecDepth 100000 in
set_option maxHeartbeats 2000000 in
theorem rck_4_yes (col ck cn : Int) (cs : ByteArray) (ka : Int) (kb : Int) (b off n c k dg dn dc ja jb : Nat) (cv : Value) (w : World) (hb : b < w.heap.size) (hg : dg < w.heap.size) (hk : k < n) (hnc : n ≤ 100000) (hdn : k < dn) (hja : ja < k) (hjb : jb < k)
    (hx : ExAt w b (off + k * 7) ⟨4, ja, jb, col, ⟨ck, cn, cs⟩⟩) (u0 : w.cell? ⟨dg, ja * 2, none⟩ = some (.int .i64 ka)) (u1 : w.cell? ⟨dg, ja * 2 + 1, none⟩ = some (.int .i64 0)) (v0 : w.cell? ⟨dg, jb * 2, none⟩ = some (.int .i64 kb)) (v1 : w.cell? ⟨dg, jb * 2 + 1, none⟩ = some (.int .i64 0)) (ha : Xp.acc ka 1 = true) (hb' : Xp.acc kb 1 = true) :
    Calls Try.prog 22 #[.slice (some ⟨b, off, none⟩) n c, .int .i64 k, cv, .slice (some ⟨dg, 0, none⟩) dn dc] w fun e' w' => e' = .returned (.agg #[.int .i64 1, .int .i64 0]) ∧ Below w.heap.size w w' := by
  have HA := Lib.hid ha
  clear ha
  have HB := Lib.hid hb'
  clear hb'
  have HX := Lib.hid hx
  have HL := Lib.hid (show (!Xp.badIx ⟨4, ja, jb, col, ⟨ck, cn, cs⟩⟩ k) = true by unfold Xp.badIx Xp.lgl; simp [hja, hjb])
  obtain ⟨x0, x1, x2, x3, x4, x5, x6⟩ := hx
  simp only at x0 x1 x2 x3 x4 x5 x6
  have h0 : (0 : Int) ≤ (k : Int) := by omega
  have h1 : (k : Int) < (n : Int) := by omega
  have h2ja : (0 : Int) ≤ (ja : Int) := by omega
  have h3ja : (ja : Int) < (dn : Int) := by omega
  have h2jb : (0 : Int) ≤ (jb : Int) := by omega
  have h3jb : (jb : Int) < (dn : Int) := by omega
  have hb1 : b < w.heap.size + 1 := by omega
  have hb2 : b < w.heap.size + 1 + 1 := by omega
  have hg1 : dg < w.heap.size + 1 := by omega
  have hg2 : dg < w.heap.size + 1 + 1 := by omega
  have hg3 : dg < w.heap.size + 1 + 1 + 1 := by omega
  have hB0 : Below w.heap.size w w := Below.refl _ _
  go_enter Try.func22, Try.ntmps22
  go_wp2_with fail
  refine (ropn_call _ (2) _ rfl).mono ?_
  rintro e1 w1 ⟨rfl, rfl⟩
  go_wp2_with fail
  refine (legal_call true b off n c k _ w _ hb (below_alloc (below_alloc (Below.refl _ _) _) _) hk hnc HX.out HL.out).mono ?_
  rintro e1 w1 ⟨rfl, rfl⟩
  go_wp2_with fail
  refine (fits_call _ _ true _ HA.out).mono ?_
  rintro e1 w1 ⟨rfl, rfl⟩
  go_wp2_with fail
  refine (fits_call _ _ true _ HB.out).mono ?_
  rintro e1 w1 ⟨rfl, rfl⟩
  go_wp2_with fail
  refine bodyPost_ret (v := .agg #[.int .i64 1, .int .i64 0]) (by simp [results, Try.results22, go_sem]) rfl ⟨rfl, ?_⟩
  exact below_alloc (below_alloc (Below.refl _ _) _) _


set_option maxRecDepth 100000 in
set_option maxHeartbeats 2000000 in
theorem rck_5_no1 (col ck cn : Int) (cs : ByteArray) (ka : Int) (kb : Int) (b off n c k dg dn dc ja jb : Nat) (cv : Value) (w : World) (hb : b < w.heap.size) (hg : dg < w.heap.size) (hk : k < n) (hnc : n ≤ 100000) (hdn : k < dn) (hja : ja < k) (hjb : jb < k)
    (hx : ExAt w b (off + k * 7) ⟨5, ja, jb, col, ⟨ck, cn, cs⟩⟩) (u0 : w.cell? ⟨dg, ja * 2, none⟩ = some (.int .i64 ka)) (u1 : w.cell? ⟨dg, ja * 2 + 1, none⟩ = some (.int .i64 0)) (v0 : w.cell? ⟨dg, jb * 2, none⟩ = some (.int .i64 kb)) (v1 : w.cell? ⟨dg, jb * 2 + 1, none⟩ = some (.int .i64 0)) (ha : Xp.acc ka 1 = false) :
    Calls Try.prog 22 #[.slice (some ⟨b, off, none⟩) n c, .int .i64 k, cv, .slice (some ⟨dg, 0, none⟩) dn dc] w fun e' w' => e' = .returned (.agg #[.int .i64 0, .int .i64 7]) ∧ Below w.heap.size w w' := by
  have HA := Lib.hid ha
  clear ha
  have HX := Lib.hid hx
  have HL := Lib.hid (show (!Xp.badIx ⟨5, ja, jb, col, ⟨ck, cn, cs⟩⟩ k) = true by unfold Xp.badIx Xp.lgl; simp [hja, hjb])
  obtain ⟨x0, x1, x2, x3, x4, x5, x6⟩ := hx
  simp only at x0 x1 x2 x3 x4 x5 x6
  have h0 : (0 : Int) ≤ (k : Int) := by omega
  have h1 : (k : Int) < (n : Int) := by omega
  have h2ja : (0 : Int) ≤ (ja : Int) := by omega
  have h3ja : (ja : Int) < (dn : Int) := by omega
  have h2jb : (0 : Int) ≤ (jb : Int) := by omega
  have h3jb : (jb : Int) < (dn : Int) := by omega
  have hb1 : b < w.heap.size + 1 := by omega
  have hb2 : b < w.heap.size + 1 + 1 := by omega
  have hg1 : dg < w.heap.size + 1 := by omega
  have hg2 : dg < w.heap.size + 1 + 1 := by omega
  have hg3 : dg < w.heap.size + 1 + 1 + 1 := by omega
  have hB0 : Below w.heap.size w w := Below.refl _ _
  go_enter Try.func22, Try.ntmps22
  go_wp2_with fail
  refine (ropn_call _ (2) _ rfl).mono ?_
  rintro e1 w1 ⟨rfl, rfl⟩
  go_wp2_with fail
  refine (legal_call true b off n c k _ w _ hb (below_alloc (below_alloc (Below.refl _ _) _) _) hk hnc HX.out HL.out).mono ?_
  rintro e1 w1 ⟨rfl, rfl⟩
  go_wp2_with fail
  refine (fits_call _ _ false _ HA.out).mono ?_
  rintro e1 w1 ⟨rfl, rfl⟩
  go_wp2_with fail
  refine bodyPost_ret (v := .agg #[.int .i64 0, .int .i64 7]) (by simp [results, Try.results22, go_sem]) rfl ⟨rfl, ?_⟩
  exact below_alloc (below_alloc (Below.refl _ _) _) _


set_option maxRecDepth 100000 in
set_option maxHeartbeats 2000000 in
theorem rck_5_no2 (col ck cn : Int) (cs : ByteArray) (ka : Int) (kb : Int) (b off n c k dg dn dc ja jb : Nat) (cv : Value) (w : World) (hb : b < w.heap.size) (hg : dg < w.heap.size) (hk : k < n) (hnc : n ≤ 100000) (hdn : k < dn) (hja : ja < k) (hjb : jb < k)
    (hx : ExAt w b (off + k * 7) ⟨5, ja, jb, col, ⟨ck, cn, cs⟩⟩) (u0 : w.cell? ⟨dg, ja * 2, none⟩ = some (.int .i64 ka)) (u1 : w.cell? ⟨dg, ja * 2 + 1, none⟩ = some (.int .i64 0)) (v0 : w.cell? ⟨dg, jb * 2, none⟩ = some (.int .i64 kb)) (v1 : w.cell? ⟨dg, jb * 2 + 1, none⟩ = some (.int .i64 0)) (ha : Xp.acc ka 1 = true) (hb' : Xp.acc kb 1 = false) :
    Calls Try.prog 22 #[.slice (some ⟨b, off, none⟩) n c, .int .i64 k, cv, .slice (some ⟨dg, 0, none⟩) dn dc] w fun e' w' => e' = .returned (.agg #[.int .i64 0, .int .i64 7]) ∧ Below w.heap.size w w' := by
  have HA := Lib.hid ha
  clear ha
  have HB := Lib.hid hb'
  clear hb'
  have HX := Lib.hid hx
  have HL := Lib.hid (show (!Xp.badIx ⟨5, ja, jb, col, ⟨ck, cn, cs⟩⟩ k) = true by unfold Xp.badIx Xp.lgl; simp [hja, hjb])
  obtain ⟨x0, x1, x2, x3, x4, x5, x6⟩ := hx
  simp only at x0 x1 x2 x3 x4 x5 x6
  have h0 : (0 : Int) ≤ (k : Int) := by omega
  have h1 : (k : Int) < (n : Int) := by omega
  have h2ja : (0 : Int) ≤ (ja : Int) := by omega
  have h3ja : (ja : Int) < (dn : Int) := by omega
  have h2jb : (0 : Int) ≤ (jb : Int) := by omega
  have h3jb : (jb : Int) < (dn : Int) := by omega
  have hb1 : b < w.heap.size + 1 := by omega
  have hb2 : b < w.heap.size + 1 + 1 := by omega
  have hg1 : dg < w.heap.size + 1 := by omega
  have hg2 : dg < w.heap.size + 1 + 1 := by omega
  have hg3 : dg < w.heap.size + 1 + 1 + 1 := by omega
  have hB0 : Below w.heap.size w w := Below.refl _ _
  go_enter Try.func22, Try.ntmps22
  go_wp2_with fail
  refine (ropn_call _ (2) _ rfl).mono ?_
  rintro e1 w1 ⟨rfl, rfl⟩
  go_wp2_with fail
  refine (legal_call true b off n c k _ w _ hb (below_alloc (below_alloc (Below.refl _ _) _) _) hk hnc HX.out HL.out).mono ?_
  rintro e1 w1 ⟨rfl, rfl⟩
  go_wp2_with fail
  refine (fits_call _ _ true _ HA.out).mono ?_
  rintro e1 w1 ⟨rfl, rfl⟩
  go_wp2_with fail
  refine (fits_call _ _ false _ HB.out).mono ?_
  rintro e1 w1 ⟨rfl, rfl⟩
  go_wp2_with fail
  refine bodyPost_ret (v := .agg #[.int .i64 0, .int .i64 7]) (by simp [results, Try.results22, go_sem]) rfl ⟨rfl, ?_⟩
  exact below_alloc (below_alloc (Below.refl _ _) _) _


set_option maxRecDepth 100000 in
set_option maxHeartbeats 2000000 in
theorem rck_5_yes (col ck cn : Int) (cs : ByteArray) (ka : Int) (kb : Int) (b off n c k dg dn dc ja jb : Nat) (cv : Value) (w : World) (hb : b < w.heap.size) (hg : dg < w.heap.size) (hk : k < n) (hnc : n ≤ 100000) (hdn : k < dn) (hja : ja < k) (hjb : jb < k)
    (hx : ExAt w b (off + k * 7) ⟨5, ja, jb, col, ⟨ck, cn, cs⟩⟩) (u0 : w.cell? ⟨dg, ja * 2, none⟩ = some (.int .i64 ka)) (u1 : w.cell? ⟨dg, ja * 2 + 1, none⟩ = some (.int .i64 0)) (v0 : w.cell? ⟨dg, jb * 2, none⟩ = some (.int .i64 kb)) (v1 : w.cell? ⟨dg, jb * 2 + 1, none⟩ = some (.int .i64 0)) (ha : Xp.acc ka 1 = true) (hb' : Xp.acc kb 1 = true) :
    Calls Try.prog 22 #[.slice (some ⟨b, off, none⟩) n c, .int .i64 k, cv, .slice (some ⟨dg, 0, none⟩) dn dc] w fun e' w' => e' = .returned (.agg #[.int .i64 1, .int .i64 0]) ∧ Below w.heap.size w w' := by
  have HA := Lib.hid ha
  clear ha
  have HB := Lib.hid hb'
  clear hb'
  have HX := Lib.hid hx
  have HL := Lib.hid (show (!Xp.badIx ⟨5, ja, jb, col, ⟨ck, cn, cs⟩⟩ k) = true by unfold Xp.badIx Xp.lgl; simp [hja, hjb])
  obtain ⟨x0, x1, x2, x3, x4, x5, x6⟩ := hx
  simp only at x0 x1 x2 x3 x4 x5 x6
  have h0 : (0 : Int) ≤ (k : Int) := by omega
  have h1 : (k : Int) < (n : Int) := by omega
  have h2ja : (0 : Int) ≤ (ja : Int) := by omega
  have h3ja : (ja : Int) < (dn : Int) := by omega
  have h2jb : (0 : Int) ≤ (jb : Int) := by omega
  have h3jb : (jb : Int) < (dn : Int) := by omega
  have hb1 : b < w.heap.size + 1 := by omega
  have hb2 : b < w.heap.size + 1 + 1 := by omega
  have hg1 : dg < w.heap.size + 1 := by omega
  have hg2 : dg < w.heap.size + 1 + 1 := by omega
  have hg3 : dg < w.heap.size + 1 + 1 + 1 := by omega
  have hB0 : Below w.heap.size w w := Below.refl _ _
  go_enter Try.func22, Try.ntmps22
  go_wp2_with fail
  refine (ropn_call _ (2) _ rfl).mono ?_
  rintro e1 w1 ⟨rfl, rfl⟩
  go_wp2_with fail
  refine (legal_call true b off n c k _ w _ hb (below_alloc (below_alloc (Below.refl _ _) _) _) hk hnc HX.out HL.out).mono ?_
  rintro e1 w1 ⟨rfl, rfl⟩
  go_wp2_with fail
  refine (fits_call _ _ true _ HA.out).mono ?_
  rintro e1 w1 ⟨rfl, rfl⟩
  go_wp2_with fail
  refine (fits_call _ _ true _ HB.out).mono ?_
  rintro e1 w1 ⟨rfl, rfl⟩
  go_wp2_with fail
  refine bodyPost_ret (v := .agg #[.int .i64 1, .int .i64 0]) (by simp [results, Try.results22, go_sem]) rfl ⟨rfl, ?_⟩
  exact below_alloc (below_alloc (Below.refl _ _) _) _


set_option maxRecDepth 100000 in
set_option maxHeartbeats 2000000 in
theorem rck_8_no1 (col ck cn : Int) (cs : ByteArray) (ka : Int) (kb : Int) (b off n c k dg dn dc ja jb : Nat) (cv : Value) (w : World) (hb : b < w.heap.size) (hg : dg < w.heap.size) (hk : k < n) (hnc : n ≤ 100000) (hdn : k < dn) (hja : ja < k) (hjb : jb < k)
    (hx : ExAt w b (off + k * 7) ⟨8, ja, jb, col, ⟨ck, cn, cs⟩⟩) (u0 : w.cell? ⟨dg, ja * 2, none⟩ = some (.int .i64 ka)) (u1 : w.cell? ⟨dg, ja * 2 + 1, none⟩ = some (.int .i64 0)) (v0 : w.cell? ⟨dg, jb * 2, none⟩ = some (.int .i64 kb)) (v1 : w.cell? ⟨dg, jb * 2 + 1, none⟩ = some (.int .i64 0)) (ha : Xp.acc ka 3 = false) :
    Calls Try.prog 22 #[.slice (some ⟨b, off, none⟩) n c, .int .i64 k, cv, .slice (some ⟨dg, 0, none⟩) dn dc] w fun e' w' => e' = .returned (.agg #[.int .i64 0, .int .i64 7]) ∧ Below w.heap.size w w' := by
  have HA := Lib.hid ha
  clear ha
  have HX := Lib.hid hx
  have HL := Lib.hid (show (!Xp.badIx ⟨8, ja, jb, col, ⟨ck, cn, cs⟩⟩ k) = true by unfold Xp.badIx Xp.lgl; simp [hja, hjb])
  obtain ⟨x0, x1, x2, x3, x4, x5, x6⟩ := hx
  simp only at x0 x1 x2 x3 x4 x5 x6
  have h0 : (0 : Int) ≤ (k : Int) := by omega
  have h1 : (k : Int) < (n : Int) := by omega
  have h2ja : (0 : Int) ≤ (ja : Int) := by omega
  have h3ja : (ja : Int) < (dn : Int) := by omega
  have h2jb : (0 : Int) ≤ (jb : Int) := by omega
  have h3jb : (jb : Int) < (dn : Int) := by omega
  have hb1 : b < w.heap.size + 1 := by omega
  have hb2 : b < w.heap.size + 1 + 1 := by omega
  have hg1 : dg < w.heap.size + 1 := by omega
  have hg2 : dg < w.heap.size + 1 + 1 := by omega
  have hg3 : dg < w.heap.size + 1 + 1 + 1 := by omega
  have hB0 : Below w.heap.size w w := Below.refl _ _
  go_enter Try.func22, Try.ntmps22
  go_wp2_with fail
  refine (ropn_call _ (2) _ rfl).mono ?_
  rintro e1 w1 ⟨rfl, rfl⟩
  go_wp2_with fail
  refine (legal_call true b off n c k _ w _ hb (below_alloc (below_alloc (Below.refl _ _) _) _) hk hnc HX.out HL.out).mono ?_
  rintro e1 w1 ⟨rfl, rfl⟩
  go_wp2_with fail
  refine (fits_call _ _ false _ HA.out).mono ?_
  rintro e1 w1 ⟨rfl, rfl⟩
  go_wp2_with fail
  refine bodyPost_ret (v := .agg #[.int .i64 0, .int .i64 7]) (by simp [results, Try.results22, go_sem]) rfl ⟨rfl, ?_⟩
  exact below_alloc (below_alloc (Below.refl _ _) _) _


set_option maxRecDepth 100000 in
set_option maxHeartbeats 2000000 in
theorem rck_8_no2 (col ck cn : Int) (cs : ByteArray) (ka : Int) (kb : Int) (b off n c k dg dn dc ja jb : Nat) (cv : Value) (w : World) (hb : b < w.heap.size) (hg : dg < w.heap.size) (hk : k < n) (hnc : n ≤ 100000) (hdn : k < dn) (hja : ja < k) (hjb : jb < k)
    (hx : ExAt w b (off + k * 7) ⟨8, ja, jb, col, ⟨ck, cn, cs⟩⟩) (u0 : w.cell? ⟨dg, ja * 2, none⟩ = some (.int .i64 ka)) (u1 : w.cell? ⟨dg, ja * 2 + 1, none⟩ = some (.int .i64 0)) (v0 : w.cell? ⟨dg, jb * 2, none⟩ = some (.int .i64 kb)) (v1 : w.cell? ⟨dg, jb * 2 + 1, none⟩ = some (.int .i64 0)) (ha : Xp.acc ka 3 = true) (hb' : Xp.acc kb 3 = false) :
    Calls Try.prog 22 #[.slice (some ⟨b, off, none⟩) n c, .int .i64 k, cv, .slice (some ⟨dg, 0, none⟩) dn dc] w fun e' w' => e' = .returned (.agg #[.int .i64 0, .int .i64 7]) ∧ Below w.heap.size w w' := by
  have HA := Lib.hid ha
  clear ha
  have HB := Lib.hid hb'
  clear hb'
  have HX := Lib.hid hx
  have HL := Lib.hid (show (!Xp.badIx ⟨8, ja, jb, col, ⟨ck, cn, cs⟩⟩ k) = true by unfold Xp.badIx Xp.lgl; simp [hja, hjb])
  obtain ⟨x0, x1, x2, x3, x4, x5, x6⟩ := hx
  simp only at x0 x1 x2 x3 x4 x5 x6
  have h0 : (0 : Int) ≤ (k : Int) := by omega
  have h1 : (k : Int) < (n : Int) := by omega
  have h2ja : (0 : Int) ≤ (ja : Int) := by omega
  have h3ja : (ja : Int) < (dn : Int) := by omega
  have h2jb : (0 : Int) ≤ (jb : Int) := by omega
  have h3jb : (jb : Int) < (dn : Int) := by omega
  have hb1 : b < w.heap.size + 1 := by omega
  have hb2 : b < w.heap.size + 1 + 1 := by omega
  have hg1 : dg < w.heap.size + 1 := by omega
  have hg2 : dg < w.heap.size + 1 + 1 := by omega
  have hg3 : dg < w.heap.size + 1 + 1 + 1 := by omega
  have hB0 : Below w.heap.size w w := Below.refl _ _
  go_enter Try.func22, Try.ntmps22
  go_wp2_with fail
  refine (ropn_call _ (2) _ rfl).mono ?_
  rintro e1 w1 ⟨rfl, rfl⟩
  go_wp2_with fail
  refine (legal_call true b off n c k _ w _ hb (below_alloc (below_alloc (Below.refl _ _) _) _) hk hnc HX.out HL.out).mono ?_
  rintro e1 w1 ⟨rfl, rfl⟩
  go_wp2_with fail
  refine (fits_call _ _ true _ HA.out).mono ?_
  rintro e1 w1 ⟨rfl, rfl⟩
  go_wp2_with fail
  refine (fits_call _ _ false _ HB.out).mono ?_
  rintro e1 w1 ⟨rfl, rfl⟩
  go_wp2_with fail
  refine bodyPost_ret (v := .agg #[.int .i64 0, .int .i64 7]) (by simp [results, Try.results22, go_sem]) rfl ⟨rfl, ?_⟩
  exact below_alloc (below_alloc (Below.refl _ _) _) _


set_option maxRecDepth 100000 in
set_option maxHeartbeats 2000000 in
theorem rck_8_yes (col ck cn : Int) (cs : ByteArray) (ka : Int) (kb : Int) (b off n c k dg dn dc ja jb : Nat) (cv : Value) (w : World) (hb : b < w.heap.size) (hg : dg < w.heap.size) (hk : k < n) (hnc : n ≤ 100000) (hdn : k < dn) (hja : ja < k) (hjb : jb < k)
    (hx : ExAt w b (off + k * 7) ⟨8, ja, jb, col, ⟨ck, cn, cs⟩⟩) (u0 : w.cell? ⟨dg, ja * 2, none⟩ = some (.int .i64 ka)) (u1 : w.cell? ⟨dg, ja * 2 + 1, none⟩ = some (.int .i64 0)) (v0 : w.cell? ⟨dg, jb * 2, none⟩ = some (.int .i64 kb)) (v1 : w.cell? ⟨dg, jb * 2 + 1, none⟩ = some (.int .i64 0)) (ha : Xp.acc ka 3 = true) (hb' : Xp.acc kb 3 = true) :
    Calls Try.prog 22 #[.slice (some ⟨b, off, none⟩) n c, .int .i64 k, cv, .slice (some ⟨dg, 0, none⟩) dn dc] w fun e' w' => e' = .returned (.agg #[.int .i64 3, .int .i64 0]) ∧ Below w.heap.size w w' := by
  have HA := Lib.hid ha
  clear ha
  have HB := Lib.hid hb'
  clear hb'
  have HX := Lib.hid hx
  have HL := Lib.hid (show (!Xp.badIx ⟨8, ja, jb, col, ⟨ck, cn, cs⟩⟩ k) = true by unfold Xp.badIx Xp.lgl; simp [hja, hjb])
  obtain ⟨x0, x1, x2, x3, x4, x5, x6⟩ := hx
  simp only at x0 x1 x2 x3 x4 x5 x6
  have h0 : (0 : Int) ≤ (k : Int) := by omega
  have h1 : (k : Int) < (n : Int) := by omega
  have h2ja : (0 : Int) ≤ (ja : Int) := by omega
  have h3ja : (ja : Int) < (dn : Int) := by omega
  have h2jb : (0 : Int) ≤ (jb : Int) := by omega
  have h3jb : (jb : Int) < (dn : Int) := by omega
  have hb1 : b < w.heap.size + 1 := by omega
  have hb2 : b < w.heap.size + 1 + 1 := by omega
  have hg1 : dg < w.heap.size + 1 := by omega
  have hg2 : dg < w.heap.size + 1 + 1 := by omega
  have hg3 : dg < w.heap.size + 1 + 1 + 1 := by omega
  have hB0 : Below w.heap.size w w := Below.refl _ _
  go_enter Try.func22, Try.ntmps22
  go_wp2_with fail
  refine (ropn_call _ (2) _ rfl).mono ?_
  rintro e1 w1 ⟨rfl, rfl⟩
  go_wp2_with fail
  refine (legal_call true b off n c k _ w _ hb (below_alloc (below_alloc (Below.refl _ _) _) _) hk hnc HX.out HL.out).mono ?_
  rintro e1 w1 ⟨rfl, rfl⟩
  go_wp2_with fail
  refine (fits_call _ _ true _ HA.out).mono ?_
  rintro e1 w1 ⟨rfl, rfl⟩
  go_wp2_with fail
  refine (fits_call _ _ true _ HB.out).mono ?_
  rintro e1 w1 ⟨rfl, rfl⟩
  go_wp2_with fail
  refine bodyPost_ret (v := .agg #[.int .i64 3, .int .i64 0]) (by simp [results, Try.results22, go_sem]) rfl ⟨rfl, ?_⟩
  exact below_alloc (below_alloc (Below.refl _ _) _) _


set_option maxRecDepth 100000 in
set_option maxHeartbeats 2000000 in
theorem rck_9_no1 (col ck cn : Int) (cs : ByteArray) (ka : Int) (kb : Int) (b off n c k dg dn dc ja jb : Nat) (cv : Value) (w : World) (hb : b < w.heap.size) (hg : dg < w.heap.size) (hk : k < n) (hnc : n ≤ 100000) (hdn : k < dn) (hja : ja < k) (hjb : jb < k)
    (hx : ExAt w b (off + k * 7) ⟨9, ja, jb, col, ⟨ck, cn, cs⟩⟩) (u0 : w.cell? ⟨dg, ja * 2, none⟩ = some (.int .i64 ka)) (u1 : w.cell? ⟨dg, ja * 2 + 1, none⟩ = some (.int .i64 0)) (v0 : w.cell? ⟨dg, jb * 2, none⟩ = some (.int .i64 kb)) (v1 : w.cell? ⟨dg, jb * 2 + 1, none⟩ = some (.int .i64 0)) (ha : Xp.acc ka 3 = false) :
    Calls Try.prog 22 #[.slice (some ⟨b, off, none⟩) n c, .int .i64 k, cv, .slice (some ⟨dg, 0, none⟩) dn dc] w fun e' w' => e' = .returned (.agg #[.int .i64 0, .int .i64 7]) ∧ Below w.heap.size w w' := by
  have HA := Lib.hid ha
  clear ha
  have HX := Lib.hid hx
  have HL := Lib.hid (show (!Xp.badIx ⟨9, ja, jb, col, ⟨ck, cn, cs⟩⟩ k) = true by unfold Xp.badIx Xp.lgl; simp [hja, hjb])
  obtain ⟨x0, x1, x2, x3, x4, x5, x6⟩ := hx
  simp only at x0 x1 x2 x3 x4 x5 x6
  have h0 : (0 : Int) ≤ (k : Int) := by omega
  have h1 : (k : Int) < (n : Int) := by omega
  have h2ja : (0 : Int) ≤ (ja : Int) := by omega
  have h3ja : (ja : Int) < (dn : Int) := by omega
  have h2jb : (0 : Int) ≤ (jb : Int) := by omega
  have h3jb : (jb : Int) < (dn : Int) := by omega
  have hb1 : b < w.heap.size + 1 := by omega
  have hb2 : b < w.heap.size + 1 + 1 := by omega
  have hg1 : dg < w.heap.size + 1 := by omega
  have hg2 : dg < w.heap.size + 1 + 1 := by omega
  have hg3 : dg < w.heap.size + 1 + 1 + 1 := by omega
  have hB0 : Below w.heap.size w w := Below.refl _ _
  go_enter Try.func22, Try.ntmps22
  go_wp2_with fail
  refine (ropn_call _ (2) _ rfl).mono ?_
  rintro e1 w1 ⟨rfl, rfl⟩
  go_wp2_with fail
  refine (legal_call true b off n c k _ w _ hb (below_alloc (below_alloc (Below.refl _ _) _) _) hk hnc HX.out HL.out).mono ?_
  rintro e1 w1 ⟨rfl, rfl⟩
  go_wp2_with fail
  refine (fits_call _ _ false _ HA.out).mono ?_
  rintro e1 w1 ⟨rfl, rfl⟩
  go_wp2_with fail
  refine bodyPost_ret (v := .agg #[.int .i64 0, .int .i64 7]) (by simp [results, Try.results22, go_sem]) rfl ⟨rfl, ?_⟩
  exact below_alloc (below_alloc (Below.refl _ _) _) _


set_option maxRecDepth 100000 in
set_option maxHeartbeats 2000000 in
theorem rck_9_no2 (col ck cn : Int) (cs : ByteArray) (ka : Int) (kb : Int) (b off n c k dg dn dc ja jb : Nat) (cv : Value) (w : World) (hb : b < w.heap.size) (hg : dg < w.heap.size) (hk : k < n) (hnc : n ≤ 100000) (hdn : k < dn) (hja : ja < k) (hjb : jb < k)
    (hx : ExAt w b (off + k * 7) ⟨9, ja, jb, col, ⟨ck, cn, cs⟩⟩) (u0 : w.cell? ⟨dg, ja * 2, none⟩ = some (.int .i64 ka)) (u1 : w.cell? ⟨dg, ja * 2 + 1, none⟩ = some (.int .i64 0)) (v0 : w.cell? ⟨dg, jb * 2, none⟩ = some (.int .i64 kb)) (v1 : w.cell? ⟨dg, jb * 2 + 1, none⟩ = some (.int .i64 0)) (ha : Xp.acc ka 3 = true) (hb' : Xp.acc kb 3 = false) :
    Calls Try.prog 22 #[.slice (some ⟨b, off, none⟩) n c, .int .i64 k, cv, .slice (some ⟨dg, 0, none⟩) dn dc] w fun e' w' => e' = .returned (.agg #[.int .i64 0, .int .i64 7]) ∧ Below w.heap.size w w' := by
  have HA := Lib.hid ha
  clear ha
  have HB := Lib.hid hb'
  clear hb'
  have HX := Lib.hid hx
  have HL := Lib.hid (show (!Xp.badIx ⟨9, ja, jb, col, ⟨ck, cn, cs⟩⟩ k) = true by unfold Xp.badIx Xp.lgl; simp [hja, hjb])
  obtain ⟨x0, x1, x2, x3, x4, x5, x6⟩ := hx
  simp only at x0 x1 x2 x3 x4 x5 x6
  have h0 : (0 : Int) ≤ (k : Int) := by omega
  have h1 : (k : Int) < (n : Int) := by omega
  have h2ja : (0 : Int) ≤ (ja : Int) := by omega
  have h3ja : (ja : Int) < (dn : Int) := by omega
  have h2jb : (0 : Int) ≤ (jb : Int) := by omega
  have h3jb : (jb : Int) < (dn : Int) := by omega
  have hb1 : b < w.heap.size + 1 := by omega
  have hb2 : b < w.heap.size + 1 + 1 := by omega
  have hg1 : dg < w.heap.size + 1 := by omega
  have hg2 : dg < w.heap.size + 1 + 1 := by omega
  have hg3 : dg < w.heap.size + 1 + 1 + 1 := by omega
  have hB0 : Below w.heap.size w w := Below.refl _ _
  go_enter Try.func22, Try.ntmps22
  go_wp2_with fail
  refine (ropn_call _ (2) _ rfl).mono ?_
  rintro e1 w1 ⟨rfl, rfl⟩
  go_wp2_with fail
  refine (legal_call true b off n c k _ w _ hb (below_alloc (below_alloc (Below.refl _ _) _) _) hk hnc HX.out HL.out).mono ?_
  rintro e1 w1 ⟨rfl, rfl⟩
  go_wp2_with fail
  refine (fits_call _ _ true _ HA.out).mono ?_
  rintro e1 w1 ⟨rfl, rfl⟩
  go_wp2_with fail
  refine (fits_call _ _ false _ HB.out).mono ?_
  rintro e1 w1 ⟨rfl, rfl⟩
  go_wp2_with fail
  refine bodyPost_ret (v := .agg #[.int .i64 0, .int .i64 7]) (by simp [results, Try.results22, go_sem]) rfl ⟨rfl, ?_⟩
  exact below_alloc (below_alloc (Below.refl _ _) _) _


set_option maxRecDepth 100000 in
set_option maxHeartbeats 2000000 in
theorem rck_9_yes (col ck cn : Int) (cs : ByteArray) (ka : Int) (kb : Int) (b off n c k dg dn dc ja jb : Nat) (cv : Value) (w : World) (hb : b < w.heap.size) (hg : dg < w.heap.size) (hk : k < n) (hnc : n ≤ 100000) (hdn : k < dn) (hja : ja < k) (hjb : jb < k)
    (hx : ExAt w b (off + k * 7) ⟨9, ja, jb, col, ⟨ck, cn, cs⟩⟩) (u0 : w.cell? ⟨dg, ja * 2, none⟩ = some (.int .i64 ka)) (u1 : w.cell? ⟨dg, ja * 2 + 1, none⟩ = some (.int .i64 0)) (v0 : w.cell? ⟨dg, jb * 2, none⟩ = some (.int .i64 kb)) (v1 : w.cell? ⟨dg, jb * 2 + 1, none⟩ = some (.int .i64 0)) (ha : Xp.acc ka 3 = true) (hb' : Xp.acc kb 3 = true) :
    Calls Try.prog 22 #[.slice (some ⟨b, off, none⟩) n c, .int .i64 k, cv, .slice (some ⟨dg, 0, none⟩) dn dc] w fun e' w' => e' = .returned (.agg #[.int .i64 3, .int .i64 0]) ∧ Below w.heap.size w w' := by
  have HA := Lib.hid ha
  clear ha
  have HB := Lib.hid hb'
  clear hb'
  have HX := Lib.hid hx
  have HL := Lib.hid (show (!Xp.badIx ⟨9, ja, jb, col, ⟨ck, cn, cs⟩⟩ k) = true by unfold Xp.badIx Xp.lgl; simp [hja, hjb])
  obtain ⟨x0, x1, x2, x3, x4, x5, x6⟩ := hx
  simp only at x0 x1 x2 x3 x4 x5 x6
  have h0 : (0 : Int) ≤ (k : Int) := by omega
  have h1 : (k : Int) < (n : Int) := by omega
  have h2ja : (0 : Int) ≤ (ja : Int) := by omega
  have h3ja : (ja : Int) < (dn : Int) := by omega
  have h2jb : (0 : Int) ≤ (jb : Int) := by omega
  have h3jb : (jb : Int) < (dn : Int) := by omega
  have hb1 : b < w.heap.size + 1 := by omega
  have hb2 : b < w.heap.size + 1 + 1 := by omega
  have hg1 : dg < w.heap.size + 1 := by omega
  have hg2 : dg < w.heap.size + 1 + 1 := by omega
  have hg3 : dg < w.heap.size + 1 + 1 + 1 := by omega
  have hB0 : Below w.heap.size w w := Below.refl _ _
  go_enter Try.func22, Try.ntmps22
  go_wp2_with fail
  refine (ropn_call _ (2) _ rfl).mono ?_
  rintro e1 w1 ⟨rfl, rfl⟩
  go_wp2_with fail
  refine (legal_call true b off n c k _ w _ hb (below_alloc (below_alloc (Below.refl _ _) _) _) hk hnc HX.out HL.out).mono ?_
  rintro e1 w1 ⟨rfl, rfl⟩
  go_wp2_with fail
  refine (fits_call _ _ true _ HA.out).mono ?_
  rintro e1 w1 ⟨rfl, rfl⟩
  go_wp2_with fail
  refine (fits_call _ _ true _ HB.out).mono ?_
  rintro e1 w1 ⟨rfl, rfl⟩
  go_wp2_with fail
  refine bodyPost_ret (v := .agg #[.int .i64 3, .int .i64 0]) (by simp [results, Try.results22, go_sem]) rfl ⟨rfl, ?_⟩
  exact below_alloc (below_alloc (Below.refl _ _) _) _


set_option maxRecDepth 100000 in
set_option maxHeartbeats 2000000 in
theorem rck_6_same (col ck cn : Int) (cs : ByteArray) (ka : Int) (kb : Int) (b off n c k dg dn dc ja jb : Nat) (cv : Value) (w : World) (hb : b < w.heap.size) (hg : dg < w.heap.size) (hk : k < n) (hnc : n ≤ 100000) (hdn : k < dn) (hja : ja < k) (hjb : jb < k)
    (hx : ExAt w b (off + k * 7) ⟨6, ja, jb, col, ⟨ck, cn, cs⟩⟩) (u0 : w.cell? ⟨dg, ja * 2, none⟩ = some (.int .i64 ka)) (u1 : w.cell? ⟨dg, ja * 2 + 1, none⟩ = some (.int .i64 0)) (v0 : w.cell? ⟨dg, jb * 2, none⟩ = some (.int .i64 kb)) (v1 : w.cell? ⟨dg, jb * 2 + 1, none⟩ = some (.int .i64 0)) (hs : kb = ka) :
    Calls Try.prog 22 #[.slice (some ⟨b, off, none⟩) n c, .int .i64 k, cv, .slice (some ⟨dg, 0, none⟩) dn dc] w fun e' w' => e' = .returned (.agg #[.int .i64 3, .int .i64 0]) ∧ Below w.heap.size w w' := by
  subst hs
  have HX := Lib.hid hx
  have HL := Lib.hid (show (!Xp.badIx ⟨6, ja, jb, col, ⟨ck, cn, cs⟩⟩ k) = true by unfold Xp.badIx Xp.lgl; simp [hja, hjb])
  obtain ⟨x0, x1, x2, x3, x4, x5, x6⟩ := hx
  simp only at x0 x1 x2 x3 x4 x5 x6
  have h0 : (0 : Int) ≤ (k : Int) := by omega
  have h1 : (k : Int) < (n : Int) := by omega
  have h2ja : (0 : Int) ≤ (ja : Int) := by omega
  have h3ja : (ja : Int) < (dn : Int) := by omega
  have h2jb : (0 : Int) ≤ (jb : Int) := by omega
  have h3jb : (jb : Int) < (dn : Int) := by omega
  have hb1 : b < w.heap.size + 1 := by omega
  have hb2 : b < w.heap.size + 1 + 1 := by omega
  have hg1 : dg < w.heap.size + 1 := by omega
  have hg2 : dg < w.heap.size + 1 + 1 := by omega
  have hg3 : dg < w.heap.size + 1 + 1 + 1 := by omega
  have hB0 : Below w.heap.size w w := Below.refl _ _
  go_enter Try.func22, Try.ntmps22
  go_wp2_with fail
  refine (ropn_call _ (2) _ rfl).mono ?_
  rintro e1 w1 ⟨rfl, rfl⟩
  go_wp2_with fail
  refine (legal_call true b off n c k _ w _ hb (below_alloc (below_alloc (Below.refl _ _) _) _) hk hnc HX.out HL.out).mono ?_
  rintro e1 w1 ⟨rfl, rfl⟩
  go_wp2_with fail
  refine bodyPost_ret (v := .agg #[.int .i64 3, .int .i64 0]) (by simp [results, Try.results22, go_sem]) rfl ⟨rfl, ?_⟩
  exact below_alloc (below_alloc (Below.refl _ _) _) _


set_option maxRecDepth 100000 in
set_option maxHeartbeats 2000000 in
theorem rck_6_za (col ck cn : Int) (cs : ByteArray) (ka : Int) (kb : Int) (b off n c k dg dn dc ja jb : Nat) (cv : Value) (w : World) (hb : b < w.heap.size) (hg : dg < w.heap.size) (hk : k < n) (hnc : n ≤ 100000) (hdn : k < dn) (hja : ja < k) (hjb : jb < k)
    (hx : ExAt w b (off + k * 7) ⟨6, ja, jb, col, ⟨ck, cn, cs⟩⟩) (u0 : w.cell? ⟨dg, ja * 2, none⟩ = some (.int .i64 ka)) (u1 : w.cell? ⟨dg, ja * 2 + 1, none⟩ = some (.int .i64 0)) (v0 : w.cell? ⟨dg, jb * 2, none⟩ = some (.int .i64 kb)) (v1 : w.cell? ⟨dg, jb * 2 + 1, none⟩ = some (.int .i64 0)) (hs : ka = 0) (hne : kb ≠ 0) :
    Calls Try.prog 22 #[.slice (some ⟨b, off, none⟩) n c, .int .i64 k, cv, .slice (some ⟨dg, 0, none⟩) dn dc] w fun e' w' => e' = .returned (.agg #[.int .i64 3, .int .i64 0]) ∧ Below w.heap.size w w' := by
  subst hs
  have ek : ((0 : Int) != kb) = true := by simp; omega
  have HX := Lib.hid hx
  have HL := Lib.hid (show (!Xp.badIx ⟨6, ja, jb, col, ⟨ck, cn, cs⟩⟩ k) = true by unfold Xp.badIx Xp.lgl; simp [hja, hjb])
  obtain ⟨x0, x1, x2, x3, x4, x5, x6⟩ := hx
  simp only at x0 x1 x2 x3 x4 x5 x6
  have h0 : (0 : Int) ≤ (k : Int) := by omega
  have h1 : (k : Int) < (n : Int) := by omega
  have h2ja : (0 : Int) ≤ (ja : Int) := by omega
  have h3ja : (ja : Int) < (dn : Int) := by omega
  have h2jb : (0 : Int) ≤ (jb : Int) := by omega
  have h3jb : (jb : Int) < (dn : Int) := by omega
  have hb1 : b < w.heap.size + 1 := by omega
  have hb2 : b < w.heap.size + 1 + 1 := by omega
  have hg1 : dg < w.heap.size + 1 := by omega
  have hg2 : dg < w.heap.size + 1 + 1 := by omega
  have hg3 : dg < w.heap.size + 1 + 1 + 1 := by omega
  have hB0 : Below w.heap.size w w := Below.refl _ _
  go_enter Try.func22, Try.ntmps22
  go_wp2_with fail
  refine (ropn_call _ (2) _ rfl).mono ?_
  rintro e1 w1 ⟨rfl, rfl⟩
  go_wp2_with fail
  refine (legal_call true b off n c k _ w _ hb (below_alloc (below_alloc (Below.refl _ _) _) _) hk hnc HX.out HL.out).mono ?_
  rintro e1 w1 ⟨rfl, rfl⟩
  go_wp2_with fail
  refine bodyPost_ret (v := .agg #[.int .i64 3, .int .i64 0]) (by simp [results, Try.results22, go_sem]) rfl ⟨rfl, ?_⟩
  exact below_alloc (below_alloc (Below.refl _ _) _) _


set_option maxRecDepth 100000 in
set_option maxHeartbeats 2000000 in
theorem rck_6_zb (col ck cn : Int) (cs : ByteArray) (ka : Int) (kb : Int) (b off n c k dg dn dc ja jb : Nat) (cv : Value) (w : World) (hb : b < w.heap.size) (hg : dg < w.heap.size) (hk : k < n) (hnc : n ≤ 100000) (hdn : k < dn) (hja : ja < k) (hjb : jb < k)
    (hx : ExAt w b (off + k * 7) ⟨6, ja, jb, col, ⟨ck, cn, cs⟩⟩) (u0 : w.cell? ⟨dg, ja * 2, none⟩ = some (.int .i64 ka)) (u1 : w.cell? ⟨dg, ja * 2 + 1, none⟩ = some (.int .i64 0)) (v0 : w.cell? ⟨dg, jb * 2, none⟩ = some (.int .i64 kb)) (v1 : w.cell? ⟨dg, jb * 2 + 1, none⟩ = some (.int .i64 0)) (hs : kb = 0) (hne : ka ≠ 0) :
    Calls Try.prog 22 #[.slice (some ⟨b, off, none⟩) n c, .int .i64 k, cv, .slice (some ⟨dg, 0, none⟩) dn dc] w fun e' w' => e' = .returned (.agg #[.int .i64 3, .int .i64 0]) ∧ Below w.heap.size w w' := by
  subst hs
  have ek : (ka != 0) = true := by simp; exact hne
  have HX := Lib.hid hx
  have HL := Lib.hid (show (!Xp.badIx ⟨6, ja, jb, col, ⟨ck, cn, cs⟩⟩ k) = true by unfold Xp.badIx Xp.lgl; simp [hja, hjb])
  obtain ⟨x0, x1, x2, x3, x4, x5, x6⟩ := hx
  simp only at x0 x1 x2 x3 x4 x5 x6
  have h0 : (0 : Int) ≤ (k : Int) := by omega
  have h1 : (k : Int) < (n : Int) := by omega
  have h2ja : (0 : Int) ≤ (ja : Int) := by omega
  have h3ja : (ja : Int) < (dn : Int) := by omega
  have h2jb : (0 : Int) ≤ (jb : Int) := by omega
  have h3jb : (jb : Int) < (dn : Int) := by omega
  have hb1 : b < w.heap.size + 1 := by omega
  have hb2 : b < w.heap.size + 1 + 1 := by omega
  have hg1 : dg < w.heap.size + 1 := by omega
  have hg2 : dg < w.heap.size + 1 + 1 := by omega
  have hg3 : dg < w.heap.size + 1 + 1 + 1 := by omega
  have hB0 : Below w.heap.size w w := Below.refl _ _
  go_enter Try.func22, Try.ntmps22
  go_wp2_with fail
  refine (ropn_call _ (2) _ rfl).mono ?_
  rintro e1 w1 ⟨rfl, rfl⟩
  go_wp2_with fail
  refine (legal_call true b off n c k _ w _ hb (below_alloc (below_alloc (Below.refl _ _) _) _) hk hnc HX.out HL.out).mono ?_
  rintro e1 w1 ⟨rfl, rfl⟩
  go_wp2_with fail
  refine bodyPost_ret (v := .agg #[.int .i64 3, .int .i64 0]) (by simp [results, Try.results22, go_sem]) rfl ⟨rfl, ?_⟩
  exact below_alloc (below_alloc (Below.refl _ _) _) _


set_option maxRecDepth 100000 in
set_option maxHeartbeats 2000000 in
theorem rck_6_no (col ck cn : Int) (cs : ByteArray) (ka : Int) (kb : Int) (b off n c k dg dn dc ja jb : Nat) (cv : Value) (w : World) (hb : b < w.heap.size) (hg : dg < w.heap.size) (hk : k < n) (hnc : n ≤ 100000) (hdn : k < dn) (hja : ja < k) (hjb : jb < k)
    (hx : ExAt w b (off + k * 7) ⟨6, ja, jb, col, ⟨ck, cn, cs⟩⟩) (u0 : w.cell? ⟨dg, ja * 2, none⟩ = some (.int .i64 ka)) (u1 : w.cell? ⟨dg, ja * 2 + 1, none⟩ = some (.int .i64 0)) (v0 : w.cell? ⟨dg, jb * 2, none⟩ = some (.int .i64 kb)) (v1 : w.cell? ⟨dg, jb * 2 + 1, none⟩ = some (.int .i64 0)) (hne : ka ≠ kb) (hna : ka ≠ 0) (hnb : kb ≠ 0) :
    Calls Try.prog 22 #[.slice (some ⟨b, off, none⟩) n c, .int .i64 k, cv, .slice (some ⟨dg, 0, none⟩) dn dc] w fun e' w' => e' = .returned (.agg #[.int .i64 0, .int .i64 7]) ∧ Below w.heap.size w w' := by
  have ek : (ka != kb) = true := by simp; exact hne
  have eka : (ka != 0) = true := by simp; exact hna
  have ekb : (kb != 0) = true := by simp; exact hnb
  have HX := Lib.hid hx
  have HL := Lib.hid (show (!Xp.badIx ⟨6, ja, jb, col, ⟨ck, cn, cs⟩⟩ k) = true by unfold Xp.badIx Xp.lgl; simp [hja, hjb])
  obtain ⟨x0, x1, x2, x3, x4, x5, x6⟩ := hx
  simp only at x0 x1 x2 x3 x4 x5 x6
  have h0 : (0 : Int) ≤ (k : Int) := by omega
  have h1 : (k : Int) < (n : Int) := by omega
  have h2ja : (0 : Int) ≤ (ja : Int) := by omega
  have h3ja : (ja : Int) < (dn : Int) := by omega
  have h2jb : (0 : Int) ≤ (jb : Int) := by omega
  have h3jb : (jb : Int) < (dn : Int) := by omega
  have hb1 : b < w.heap.size + 1 := by omega
  have hb2 : b < w.heap.size + 1 + 1 := by omega
  have hg1 : dg < w.heap.size + 1 := by omega
  have hg2 : dg < w.heap.size + 1 + 1 := by omega
  have hg3 : dg < w.heap.size + 1 + 1 + 1 := by omega
  have hB0 : Below w.heap.size w w := Below.refl _ _
  go_enter Try.func22, Try.ntmps22
  go_wp2_with fail
  refine (ropn_call _ (2) _ rfl).mono ?_
  rintro e1 w1 ⟨rfl, rfl⟩
  go_wp2_with fail
  refine (legal_call true b off n c k _ w _ hb (below_alloc (below_alloc (Below.refl _ _) _) _) hk hnc HX.out HL.out).mono ?_
  rintro e1 w1 ⟨rfl, rfl⟩
  go_wp2_with fail
  refine bodyPost_ret (v := .agg #[.int .i64 0, .int .i64 7]) (by simp [results, Try.results22, go_sem]) rfl ⟨rfl, ?_⟩
  exact below_alloc (below_alloc (Below.refl _ _) _) _


set_option maxRecDepth 100000 in
set_option maxHeartbeats 2000000 in
theorem rck_7_same (col ck cn : Int) (cs : ByteArray) (ka : Int) (kb : Int) (b off n c k dg dn dc ja jb : Nat) (cv : Value) (w : World) (hb : b < w.heap.size) (hg : dg < w.heap.size) (hk : k < n) (hnc : n ≤ 100000) (hdn : k < dn) (hja : ja < k) (hjb : jb < k)
    (hx : ExAt w b (off + k * 7) ⟨7, ja, jb, col, ⟨ck, cn, cs⟩⟩) (u0 : w.cell? ⟨dg, ja * 2, none⟩ = some (.int .i64 ka)) (u1 : w.cell? ⟨dg, ja * 2 + 1, none⟩ = some (.int .i64 0)) (v0 : w.cell? ⟨dg, jb * 2, none⟩ = some (.int .i64 kb)) (v1 : w.cell? ⟨dg, jb * 2 + 1, none⟩ = some (.int .i64 0)) (hs : kb = ka) :
    Calls Try.prog 22 #[.slice (some ⟨b, off, none⟩) n c, .int .i64 k, cv, .slice (some ⟨dg, 0, none⟩) dn dc] w fun e' w' => e' = .returned (.agg #[.int .i64 3, .int .i64 0]) ∧ Below w.heap.size w w' := by
  subst hs
  have HX := Lib.hid hx
  have HL := Lib.hid (show (!Xp.badIx ⟨7, ja, jb, col, ⟨ck, cn, cs⟩⟩ k) = true by unfold Xp.badIx Xp.lgl; simp [hja, hjb])
  obtain ⟨x0, x1, x2, x3, x4, x5, x6⟩ := hx
  simp only at x0 x1 x2 x3 x4 x5 x6
  have h0 : (0 : Int) ≤ (k : Int) := by omega
  have h1 : (k : Int) < (n : Int) := by omega
  have h2ja : (0 : Int) ≤ (ja : Int) := by omega
  have h3ja : (ja : Int) < (dn : Int) := by omega
  have h2jb : (0 : Int) ≤ (jb : Int) := by omega
  have h3jb : (jb : Int) < (dn : Int) := by omega
  have hb1 : b < w.heap.size + 1 := by omega
  have hb2 : b < w.heap.size + 1 + 1 := by omega
  have hg1 : dg < w.heap.size + 1 := by omega
  have hg2 : dg < w.heap.size + 1 + 1 := by omega
  have hg3 : dg < w.heap.size + 1 + 1 + 1 := by omega
  have hB0 : Below w.heap.size w w := Below.refl _ _
  go_enter Try.func22, Try.ntmps22
  go_wp2_with fail
  refine (ropn_call _ (2) _ rfl).mono ?_
  rintro e1 w1 ⟨rfl, rfl⟩
  go_wp2_with fail
  refine (legal_call true b off n c k _ w _ hb (below_alloc (below_alloc (Below.refl _ _) _) _) hk hnc HX.out HL.out).mono ?_
  rintro e1 w1 ⟨rfl, rfl⟩
  go_wp2_with fail
  refine bodyPost_ret (v := .agg #[.int .i64 3, .int .i64 0]) (by simp [results, Try.results22, go_sem]) rfl ⟨rfl, ?_⟩
  exact below_alloc (below_alloc (Below.refl _ _) _) _


set_option maxRecDepth 100000 in
set_option maxHeartbeats 2000000 in
theorem rck_7_za (col ck cn : Int) (cs : ByteArray) (ka : Int) (kb : Int) (b off n c k dg dn dc ja jb : Nat) (cv : Value) (w : World) (hb : b < w.heap.size) (hg : dg < w.heap.size) (hk : k < n) (hnc : n ≤ 100000) (hdn : k < dn) (hja : ja < k) (hjb : jb < k)
    (hx : ExAt w b (off + k * 7) ⟨7, ja, jb, col, ⟨ck, cn, cs⟩⟩) (u0 : w.cell? ⟨dg, ja * 2, none⟩ = some (.int .i64 ka)) (u1 : w.cell? ⟨dg, ja * 2 + 1, none⟩ = some (.int .i64 0)) (v0 : w.cell? ⟨dg, jb * 2, none⟩ = some (.int .i64 kb)) (v1 : w.cell? ⟨dg, jb * 2 + 1, none⟩ = some (.int .i64 0)) (hs : ka = 0) (hne : kb ≠ 0) :
    Calls Try.prog 22 #[.slice (some ⟨b, off, none⟩) n c, .int .i64 k, cv, .slice (some ⟨dg, 0, none⟩) dn dc] w fun e' w' => e' = .returned (.agg #[.int .i64 3, .int .i64 0]) ∧ Below w.heap.size w w' := by
  subst hs
  have ek : ((0 : Int) != kb) = true := by simp; omega
  have HX := Lib.hid hx
  have HL := Lib.hid (show (!Xp.badIx ⟨7, ja, jb, col, ⟨ck, cn, cs⟩⟩ k) = true by unfold Xp.badIx Xp.lgl; simp [hja, hjb])
  obtain ⟨x0, x1, x2, x3, x4, x5, x6⟩ := hx
  simp only at x0 x1 x2 x3 x4 x5 x6
  have h0 : (0 : Int) ≤ (k : Int) := by omega
  have h1 : (k : Int) < (n : Int) := by omega
  have h2ja : (0 : Int) ≤ (ja : Int) := by omega
  have h3ja : (ja : Int) < (dn : Int) := by omega
  have h2jb : (0 : Int) ≤ (jb : Int) := by omega
  have h3jb : (jb : Int) < (dn : Int) := by omega
  have hb1 : b < w.heap.size + 1 := by omega
  have hb2 : b < w.heap.size + 1 + 1 := by omega
  have hg1 : dg < w.heap.size + 1 := by omega
  have hg2 : dg < w.heap.size + 1 + 1 := by omega
  have hg3 : dg < w.heap.size + 1 + 1 + 1 := by omega
  have hB0 : Below w.heap.size w w := Below.refl _ _
  go_enter Try.func22, Try.ntmps22
  go_wp2_with fail
  refine (ropn_call _ (2) _ rfl).mono ?_
  rintro e1 w1 ⟨rfl, rfl⟩
  go_wp2_with fail
  refine (legal_call true b off n c k _ w _ hb (below_alloc (below_alloc (Below.refl _ _) _) _) hk hnc HX.out HL.out).mono ?_
  rintro e1 w1 ⟨rfl, rfl⟩
  go_wp2_with fail
  refine bodyPost_ret (v := .agg #[.int .i64 3, .int .i64 0]) (by simp [results, Try.results22, go_sem]) rfl ⟨rfl, ?_⟩
  exact below_alloc (below_alloc (Below.refl _ _) _) _


set_option maxRecDepth 100000 in
set_option maxHeartbeats 2000000 in
theorem rck_7_zb (col ck cn : Int) (cs : ByteArray) (ka : Int) (kb : Int) (b off n c k dg dn dc ja jb : Nat) (cv : Value) (w : World) (hb : b < w.heap.size) (hg : dg < w.heap.size) (hk : k < n) (hnc : n ≤ 100000) (hdn : k < dn) (hja : ja < k) (hjb : jb < k)
    (hx : ExAt w b (off + k * 7) ⟨7, ja, jb, col, ⟨ck, cn, cs⟩⟩) (u0 : w.cell? ⟨dg, ja * 2, none⟩ = some (.int .i64 ka)) (u1 : w.cell? ⟨dg, ja * 2 + 1, none⟩ = some (.int .i64 0)) (v0 : w.cell? ⟨dg, jb * 2, none⟩ = some (.int .i64 kb)) (v1 : w.cell? ⟨dg, jb * 2 + 1, none⟩ = some (.int .i64 0)) (hs : kb = 0) (hne : ka ≠ 0) :
    Calls Try.prog 22 #[.slice (some ⟨b, off, none⟩) n c, .int .i64 k, cv, .slice (some ⟨dg, 0, none⟩) dn dc] w fun e' w' => e' = .returned (.agg #[.int .i64 3, .int .i64 0]) ∧ Below w.heap.size w w' := by
  subst hs
  have ek : (ka != 0) = true := by simp; exact hne
  have HX := Lib.hid hx
  have HL := Lib.hid (show (!Xp.badIx ⟨7, ja, jb, col, ⟨ck, cn, cs⟩⟩ k) = true by unfold Xp.badIx Xp.lgl; simp [hja, hjb])
  obtain ⟨x0, x1, x2, x3, x4, x5, x6⟩ := hx
  simp only at x0 x1 x2 x3 x4 x5 x6
  have h0 : (0 : Int) ≤ (k : Int) := by omega
  have h1 : (k : Int) < (n : Int) := by omega
  have h2ja : (0 : Int) ≤ (ja : Int) := by omega
  have h3ja : (ja : Int) < (dn : Int) := by omega
  have h2jb : (0 : Int) ≤ (jb : Int) := by omega
  have h3jb : (jb : Int) < (dn : Int) := by omega
  have hb1 : b < w.heap.size + 1 := by omega
  have hb2 : b < w.heap.size + 1 + 1 := by omega
  have hg1 : dg < w.heap.size + 1 := by omega
  have hg2 : dg < w.heap.size + 1 + 1 := by omega
  have hg3 : dg < w.heap.size + 1 + 1 + 1 := by omega
  have hB0 : Below w.heap.size w w := Below.refl _ _
  go_enter Try.func22, Try.ntmps22
  go_wp2_with fail
  refine (ropn_call _ (2) _ rfl).mono ?_
  rintro e1 w1 ⟨rfl, rfl⟩
  go_wp2_with fail
  refine (legal_call true b off n c k _ w _ hb (below_alloc (below_alloc (Below.refl _ _) _) _) hk hnc HX.out HL.out).mono ?_
  rintro e1 w1 ⟨rfl, rfl⟩
  go_wp2_with fail
  refine bodyPost_ret (v := .agg #[.int .i64 3, .int .i64 0]) (by simp [results, Try.results22, go_sem]) rfl ⟨rfl, ?_⟩
  exact below_alloc (below_alloc (Below.refl _ _) _) _


set_option maxRecDepth 100000 in
set_option maxHeartbeats 2000000 in
theorem rck_7_no (col ck cn : Int) (cs : ByteArray) (ka : Int) (kb : Int) (b off n c k dg dn dc ja jb : Nat) (cv : Value) (w : World) (hb : b < w.heap.size) (hg : dg < w.heap.size) (hk : k < n) (hnc : n ≤ 100000) (hdn : k < dn) (hja : ja < k) (hjb : jb < k)
    (hx : ExAt w b (off + k * 7) ⟨7, ja, jb, col, ⟨ck, cn, cs⟩⟩) (u0 : w.cell? ⟨dg, ja * 2, none⟩ = some (.int .i64 ka)) (u1 : w.cell? ⟨dg, ja * 2 + 1, none⟩ = some (.int .i64 0)) (v0 : w.cell? ⟨dg, jb * 2, none⟩ = some (.int .i64 kb)) (v1 : w.cell? ⟨dg, jb * 2 + 1, none⟩ = some (.int .i64 0)) (hne : ka ≠ kb) (hna : ka ≠ 0) (hnb : kb ≠ 0) :
    Calls Try.prog 22 #[.slice (some ⟨b, off, none⟩) n c, .int .i64 k, cv, .slice (some ⟨dg, 0, none⟩) dn dc] w fun e' w' => e' = .returned (.agg #[.int .i64 0, .int .i64 7]) ∧ Below w.heap.size w w' := by
  have ek : (ka != kb) = true := by simp; exact hne
  have eka : (ka != 0) = true := by simp; exact hna
  have ekb : (kb != 0) = true := by simp; exact hnb
  have HX := Lib.hid hx
  have HL := Lib.hid (show (!Xp.badIx ⟨7, ja, jb, col, ⟨ck, cn, cs⟩⟩ k) = true by unfold Xp.badIx Xp.lgl; simp [hja, hjb])
  obtain ⟨x0, x1, x2, x3, x4, x5, x6⟩ := hx
  simp only at x0 x1 x2 x3 x4 x5 x6
  have h0 : (0 : Int) ≤ (k : Int) := by omega
  have h1 : (k : Int) < (n : Int) := by omega
  have h2ja : (0 : Int) ≤ (ja : Int) := by omega
  have h3ja : (ja : Int) < (dn : Int) := by omega
  have h2jb : (0 : Int) ≤ (jb : Int) := by omega
  have h3jb : (jb : Int) < (dn : Int) := by omega
  have hb1 : b < w.heap.size + 1 := by omega
  have hb2 : b < w.heap.size + 1 + 1 := by omega
  have hg1 : dg < w.heap.size + 1 := by omega
  have hg2 : dg < w.heap.size + 1 + 1 := by omega
  have hg3 : dg < w.heap.size + 1 + 1 + 1 := by omega
  have hB0 : Below w.heap.size w w := Below.refl _ _
  go_enter Try.func22, Try.ntmps22
  go_wp2_with fail
  refine (ropn_call _ (2) _ rfl).mono ?_
  rintro e1 w1 ⟨rfl, rfl⟩
  go_wp2_with fail
  refine (legal_call true b off n c k _ w _ hb (below_alloc (below_alloc (Below.refl _ _) _) _) hk hnc HX.out HL.out).mono ?_
  rintro e1 w1 ⟨rfl, rfl⟩
  go_wp2_with fail
  refine bodyPost_ret (v := .agg #[.int .i64 0, .int .i64 7]) (by simp [results, Try.results22, go_sem]) rfl ⟨rfl, ?_⟩
  exact below_alloc (below_alloc (Below.refl _ _) _) _

end Go.Proofs.Ytpgaldkedeohaaa
