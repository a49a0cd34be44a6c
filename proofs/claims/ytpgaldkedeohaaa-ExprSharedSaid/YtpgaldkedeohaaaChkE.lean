/-
  combine of package expr, case by case.
-/
import Derived.Test.YtpgaldkedeohaaaChkD
namespace Go.Proofs.Ytpgaldkedeohaaa
open Go.RowKit
set_option linter.unusedVariables false

theorem quiet_eq {P : Program} {f : FuncId} {args : Array Value} {w : World} {n : Nat} {v : Value} (h : Calls P f args (w.drewN n) fun e w' => e = .returned v ∧ w.drewN n = w') : Calls P f args (w.drewN n) fun e w'' => e = .returned v ∧ ∃ m, w'' = w.drewN m :=
  h.mono fun _ _ ⟨he, hm⟩ => ⟨he, n, hm.symm⟩

theorem acc_call (k r : Int) (v : Bool) (w : World) (h : Xp.acc k r = v) : Calls Try.prog 64 #[.int .i64 k, .int .i64 r] w fun e w' => e = .returned (.bool v) ∧ w = w' := by
  subst h; exact expr_accepts k r w


set_option maxRecDepth 100000 in
set_option maxHeartbeats 2000000 in
theorem cmb_const (aa bb col ck cn : Int) (cs : ByteArray) (pv : Value) (kv : Value) (w : World) :
    Calls Try.prog 47 #[pv, .agg #[.int .i64 1, .int .i64 aa, .int .i64 bb, .int .i64 col, .int .i64 ck, .int .i64 cn, .string cs], kv] w fun e' w' => e' = .returned (.tuple #[.int .i64 ck, .int .i64 0]) ∧ Below w.heap.size w w' := by
  have hB0 : Below w.heap.size w w := Below.refl _ _
  go_enter Try.func47, Try.ntmps47
  go_wp2_with fail
  go_ret2
  exact ⟨rfl, below_alloc (Below.refl _ _) _⟩


set_option maxRecDepth 100000 in
set_option maxHeartbeats 2000000 in
theorem cmb_col (aa bb ck cn : Int) (cs : ByteArray) (kv : Value) (P : Nat) (x : Int) (j qb qo qn qc : Nat) (w : World) (hj : j < qn) (hP : P < w.heap.size) (p1 : w.cell? ⟨P, 1, none⟩ = some (.slice (some ⟨qb, qo, none⟩) qn qc)) (hqb : qb < w.heap.size) (hq : w.cell? ⟨qb, qo + j, none⟩ = some (.int .i64 x)) :
    Calls Try.prog 47 #[.pointer (some ⟨P, 0, none⟩), .agg #[.int .i64 2, .int .i64 aa, .int .i64 bb, .int .i64 (j : Int), .int .i64 ck, .int .i64 cn, .string cs], kv] w fun e' w' => e' = .returned (.tuple #[.int .i64 x, .int .i64 0]) ∧ Below w.heap.size w w' := by
  have hj0 : (0 : Int) ≤ (j : Int) := by omega
  have hj1 : (j : Int) < (qn : Int) := by omega
  have hqb1 : qb < w.heap.size + 1 := by omega
  have hP1 : P < w.heap.size + 1 := by omega
  have hB0 : Below w.heap.size w w := Below.refl _ _
  go_enter Try.func47, Try.ntmps47
  go_wp2_with fail
  go_quiet (fail)
  go_wp2
  go_ret2
  exact ⟨rfl, below_drewN (below_alloc (Below.refl _ _) _) _⟩


set_option maxRecDepth 100000 in
set_option maxHeartbeats 2000000 in
theorem cmb_isnull (aa bb col ck cn : Int) (cs : ByteArray) (pv : Value) (kv : Value) (w : World) :
    Calls Try.prog 47 #[pv, .agg #[.int .i64 11, .int .i64 aa, .int .i64 bb, .int .i64 col, .int .i64 ck, .int .i64 cn, .string cs], kv] w fun e' w' => e' = .returned (.tuple #[.int .i64 3, .int .i64 0]) ∧ Below w.heap.size w w' := by
  have hB0 : Below w.heap.size w w := Below.refl _ _
  go_enter Try.func47, Try.ntmps47
  go_wp2_with fail
  go_ret2
  exact ⟨rfl, below_alloc (Below.refl _ _) _⟩


set_option maxRecDepth 100000 in
set_option maxHeartbeats 2000000 in
theorem cmb_6_yes1 (aa bb col ck cn : Int) (cs : ByteArray) (pv : Value) (ka : Int) (kb : Int) (g gc : Nat) (w : World) (hg : g < w.heap.size) (hgc : 2 ≤ gc) (u0 : w.cell? ⟨g, 0, none⟩ = some (.int .i64 ka)) (u1 : w.cell? ⟨g, 1, none⟩ = some (.int .i64 kb)) (ha : Xp.acc ka kb = true) :
    Calls Try.prog 47 #[pv, .agg #[.int .i64 6, .int .i64 aa, .int .i64 bb, .int .i64 col, .int .i64 ck, .int .i64 cn, .string cs], .slice (some ⟨g, 0, none⟩) 2 gc] w fun e' w' => e' = .returned (.tuple #[.int .i64 3, .int .i64 0]) ∧ Below w.heap.size w w' := by
  have HA := Lib.hid ha
  clear ha
  have hg1 : g < w.heap.size + 1 := by omega
  have hB0 : Below w.heap.size w w := Below.refl _ _
  go_enter Try.func47, Try.ntmps47
  go_wp2_with fail
  go_quiet ((first | (go_at_call 64; exact quiet_eq (acc_call _ _ true _ HA.out))))
  go_wp2
  go_ret2
  exact ⟨rfl, below_drewN (below_alloc (Below.refl _ _) _) _⟩


set_option maxRecDepth 100000 in
set_option maxHeartbeats 2000000 in
theorem cmb_6_yes2 (aa bb col ck cn : Int) (cs : ByteArray) (pv : Value) (ka : Int) (kb : Int) (g gc : Nat) (w : World) (hg : g < w.heap.size) (hgc : 2 ≤ gc) (u0 : w.cell? ⟨g, 0, none⟩ = some (.int .i64 ka)) (u1 : w.cell? ⟨g, 1, none⟩ = some (.int .i64 kb)) (ha : Xp.acc ka kb = false) (hb' : Xp.acc kb ka = true) :
    Calls Try.prog 47 #[pv, .agg #[.int .i64 6, .int .i64 aa, .int .i64 bb, .int .i64 col, .int .i64 ck, .int .i64 cn, .string cs], .slice (some ⟨g, 0, none⟩) 2 gc] w fun e' w' => e' = .returned (.tuple #[.int .i64 3, .int .i64 0]) ∧ Below w.heap.size w w' := by
  have HA := Lib.hid ha
  clear ha
  have HB := Lib.hid hb'
  clear hb'
  have hg1 : g < w.heap.size + 1 := by omega
  have hB0 : Below w.heap.size w w := Below.refl _ _
  go_enter Try.func47, Try.ntmps47
  go_wp2_with fail
  go_quiet ((first | (go_at_call 64; exact quiet_eq (acc_call _ _ false _ HA.out)) | (go_at_call 64; exact quiet_eq (acc_call _ _ true _ HB.out))))
  go_wp2
  go_ret2
  exact ⟨rfl, below_drewN (below_alloc (Below.refl _ _) _) _⟩


set_option maxRecDepth 100000 in
set_option maxHeartbeats 2000000 in
theorem cmb_6_no (aa bb col ck cn : Int) (cs : ByteArray) (pv : Value) (ka : Int) (kb : Int) (g gc : Nat) (w : World) (hg : g < w.heap.size) (hgc : 2 ≤ gc) (u0 : w.cell? ⟨g, 0, none⟩ = some (.int .i64 ka)) (u1 : w.cell? ⟨g, 1, none⟩ = some (.int .i64 kb)) (ha : Xp.acc ka kb = false) (hb' : Xp.acc kb ka = false) :
    Calls Try.prog 47 #[pv, .agg #[.int .i64 6, .int .i64 aa, .int .i64 bb, .int .i64 col, .int .i64 ck, .int .i64 cn, .string cs], .slice (some ⟨g, 0, none⟩) 2 gc] w fun e' w' => e' = .returned (.tuple #[.int .i64 0, .int .i64 7]) ∧ Below w.heap.size w w' := by
  have HA := Lib.hid ha
  clear ha
  have HB := Lib.hid hb'
  clear hb'
  have hg1 : g < w.heap.size + 1 := by omega
  have hB0 : Below w.heap.size w w := Below.refl _ _
  go_enter Try.func47, Try.ntmps47
  go_wp2_with fail
  go_quiet ((first | (go_at_call 64; exact quiet_eq (acc_call _ _ false _ HA.out)) | (go_at_call 64; exact quiet_eq (acc_call _ _ false _ HB.out))))
  go_wp2
  go_ret2
  exact ⟨rfl, below_drewN (below_alloc (Below.refl _ _) _) _⟩


set_option maxRecDepth 100000 in
set_option maxHeartbeats 2000000 in
theorem cmb_7_yes1 (aa bb col ck cn : Int) (cs : ByteArray) (pv : Value) (ka : Int) (kb : Int) (g gc : Nat) (w : World) (hg : g < w.heap.size) (hgc : 2 ≤ gc) (u0 : w.cell? ⟨g, 0, none⟩ = some (.int .i64 ka)) (u1 : w.cell? ⟨g, 1, none⟩ = some (.int .i64 kb)) (ha : Xp.acc ka kb = true) :
    Calls Try.prog 47 #[pv, .agg #[.int .i64 7, .int .i64 aa, .int .i64 bb, .int .i64 col, .int .i64 ck, .int .i64 cn, .string cs], .slice (some ⟨g, 0, none⟩) 2 gc] w fun e' w' => e' = .returned (.tuple #[.int .i64 3, .int .i64 0]) ∧ Below w.heap.size w w' := by
  have HA := Lib.hid ha
  clear ha
  have hg1 : g < w.heap.size + 1 := by omega
  have hB0 : Below w.heap.size w w := Below.refl _ _
  go_enter Try.func47, Try.ntmps47
  go_wp2_with fail
  go_quiet ((first | (go_at_call 64; exact quiet_eq (acc_call _ _ true _ HA.out))))
  go_wp2
  go_ret2
  exact ⟨rfl, below_drewN (below_alloc (Below.refl _ _) _) _⟩


set_option maxRecDepth 100000 in
set_option maxHeartbeats 2000000 in
theorem cmb_7_yes2 (aa bb col ck cn : Int) (cs : ByteArray) (pv : Value) (ka : Int) (kb : Int) (g gc : Nat) (w : World) (hg : g < w.heap.size) (hgc : 2 ≤ gc) (u0 : w.cell? ⟨g, 0, none⟩ = some (.int .i64 ka)) (u1 : w.cell? ⟨g, 1, none⟩ = some (.int .i64 kb)) (ha : Xp.acc ka kb = false) (hb' : Xp.acc kb ka = true) :
    Calls Try.prog 47 #[pv, .agg #[.int .i64 7, .int .i64 aa, .int .i64 bb, .int .i64 col, .int .i64 ck, .int .i64 cn, .string cs], .slice (some ⟨g, 0, none⟩) 2 gc] w fun e' w' => e' = .returned (.tuple #[.int .i64 3, .int .i64 0]) ∧ Below w.heap.size w w' := by
  have HA := Lib.hid ha
  clear ha
  have HB := Lib.hid hb'
  clear hb'
  have hg1 : g < w.heap.size + 1 := by omega
  have hB0 : Below w.heap.size w w := Below.refl _ _
  go_enter Try.func47, Try.ntmps47
  go_wp2_with fail
  go_quiet ((first | (go_at_call 64; exact quiet_eq (acc_call _ _ false _ HA.out)) | (go_at_call 64; exact quiet_eq (acc_call _ _ true _ HB.out))))
  go_wp2
  go_ret2
  exact ⟨rfl, below_drewN (below_alloc (Below.refl _ _) _) _⟩


set_option maxRecDepth 100000 in
set_option maxHeartbeats 2000000 in
theorem cmb_7_no (aa bb col ck cn : Int) (cs : ByteArray) (pv : Value) (ka : Int) (kb : Int) (g gc : Nat) (w : World) (hg : g < w.heap.size) (hgc : 2 ≤ gc) (u0 : w.cell? ⟨g, 0, none⟩ = some (.int .i64 ka)) (u1 : w.cell? ⟨g, 1, none⟩ = some (.int .i64 kb)) (ha : Xp.acc ka kb = false) (hb' : Xp.acc kb ka = false) :
    Calls Try.prog 47 #[pv, .agg #[.int .i64 7, .int .i64 aa, .int .i64 bb, .int .i64 col, .int .i64 ck, .int .i64 cn, .string cs], .slice (some ⟨g, 0, none⟩) 2 gc] w fun e' w' => e' = .returned (.tuple #[.int .i64 0, .int .i64 7]) ∧ Below w.heap.size w w' := by
  have HA := Lib.hid ha
  clear ha
  have HB := Lib.hid hb'
  clear hb'
  have hg1 : g < w.heap.size + 1 := by omega
  have hB0 : Below w.heap.size w w := Below.refl _ _
  go_enter Try.func47, Try.ntmps47
  go_wp2_with fail
  go_quiet ((first | (go_at_call 64; exact quiet_eq (acc_call _ _ false _ HA.out)) | (go_at_call 64; exact quiet_eq (acc_call _ _ false _ HB.out))))
  go_wp2
  go_ret2
  exact ⟨rfl, below_drewN (below_alloc (Below.refl _ _) _) _⟩


set_option maxRecDepth 100000 in
set_option maxHeartbeats 2000000 in
theorem cmb_3_no1 (aa bb col ck cn : Int) (cs : ByteArray) (pv : Value) (ka : Int) (kb : Int) (g gc : Nat) (w : World) (hg : g < w.heap.size) (hgc : 2 ≤ gc) (u0 : w.cell? ⟨g, 0, none⟩ = some (.int .i64 ka)) (u1 : w.cell? ⟨g, 1, none⟩ = some (.int .i64 kb)) (ha : Xp.acc ka 1 = false) :
    Calls Try.prog 47 #[pv, .agg #[.int .i64 3, .int .i64 aa, .int .i64 bb, .int .i64 col, .int .i64 ck, .int .i64 cn, .string cs], .slice (some ⟨g, 0, none⟩) 2 gc] w fun e' w' => e' = .returned (.tuple #[.int .i64 0, .int .i64 7]) ∧ Below w.heap.size w w' := by
  have HA := Lib.hid ha
  clear ha
  have hg1 : g < w.heap.size + 1 := by omega
  have hB0 : Below w.heap.size w w := Below.refl _ _
  go_enter Try.func47, Try.ntmps47
  go_wp2_with fail
  refine wp_loop_rounds 3 ?_
  rw [rounds_succ]
  go_wp2_with fail
  refine (acc_call _ _ false _ HA.out).mono ?_
  rintro e1 w1 ⟨rfl, rfl⟩
  go_wp2_with fail
  go_ret2
  exact ⟨rfl, below_alloc (Below.refl _ _) _⟩


set_option maxRecDepth 100000 in
set_option maxHeartbeats 2000000 in
theorem cmb_3_no2 (aa bb col ck cn : Int) (cs : ByteArray) (pv : Value) (ka : Int) (kb : Int) (g gc : Nat) (w : World) (hg : g < w.heap.size) (hgc : 2 ≤ gc) (u0 : w.cell? ⟨g, 0, none⟩ = some (.int .i64 ka)) (u1 : w.cell? ⟨g, 1, none⟩ = some (.int .i64 kb)) (ha : Xp.acc ka 1 = true) (hb' : Xp.acc kb 1 = false) :
    Calls Try.prog 47 #[pv, .agg #[.int .i64 3, .int .i64 aa, .int .i64 bb, .int .i64 col, .int .i64 ck, .int .i64 cn, .string cs], .slice (some ⟨g, 0, none⟩) 2 gc] w fun e' w' => e' = .returned (.tuple #[.int .i64 0, .int .i64 7]) ∧ Below w.heap.size w w' := by
  have HA := Lib.hid ha
  clear ha
  have HB := Lib.hid hb'
  clear hb'
  have hg1 : g < w.heap.size + 1 := by omega
  have hB0 : Below w.heap.size w w := Below.refl _ _
  go_enter Try.func47, Try.ntmps47
  go_wp2_with fail
  refine wp_loop_rounds 3 ?_
  rw [rounds_succ]
  go_wp2_with fail
  refine (acc_call _ _ true _ HA.out).mono ?_
  rintro e1 w1 ⟨rfl, rfl⟩
  go_wp2_with fail
  rw [rounds_succ]
  go_wp2_with fail
  refine (acc_call _ _ false _ HB.out).mono ?_
  rintro e1 w1 ⟨rfl, rfl⟩
  go_wp2_with fail
  go_ret2
  exact ⟨rfl, below_alloc (Below.refl _ _) _⟩


set_option maxRecDepth 100000 in
set_option maxHeartbeats 2000000 in
theorem cmb_3_yes (aa bb col ck cn : Int) (cs : ByteArray) (pv : Value) (ka : Int) (kb : Int) (g gc : Nat) (w : World) (hg : g < w.heap.size) (hgc : 2 ≤ gc) (u0 : w.cell? ⟨g, 0, none⟩ = some (.int .i64 ka)) (u1 : w.cell? ⟨g, 1, none⟩ = some (.int .i64 kb)) (ha : Xp.acc ka 1 = true) (hb' : Xp.acc kb 1 = true) :
    Calls Try.prog 47 #[pv, .agg #[.int .i64 3, .int .i64 aa, .int .i64 bb, .int .i64 col, .int .i64 ck, .int .i64 cn, .string cs], .slice (some ⟨g, 0, none⟩) 2 gc] w fun e' w' => e' = .returned (.tuple #[.int .i64 1, .int .i64 0]) ∧ Below w.heap.size w w' := by
  have HA := Lib.hid ha
  clear ha
  have HB := Lib.hid hb'
  clear hb'
  have hg1 : g < w.heap.size + 1 := by omega
  have hB0 : Below w.heap.size w w := Below.refl _ _
  go_enter Try.func47, Try.ntmps47
  go_wp2_with fail
  refine wp_loop_rounds 3 ?_
  rw [rounds_succ]
  go_wp2_with fail
  refine (acc_call _ _ true _ HA.out).mono ?_
  rintro e1 w1 ⟨rfl, rfl⟩
  go_wp2_with fail
  rw [rounds_succ]
  go_wp2_with fail
  refine (acc_call _ _ true _ HB.out).mono ?_
  rintro e1 w1 ⟨rfl, rfl⟩
  go_wp2_with fail
  rw [rounds_succ]
  go_wp2_with fail
  go_ret2
  exact ⟨rfl, below_alloc (Below.refl _ _) _⟩


set_option maxRecDepth 100000 in
set_option maxHeartbeats 2000000 in
theorem cmb_4_no1 (aa bb col ck cn : Int) (cs : ByteArray) (pv : Value) (ka : Int) (kb : Int) (g gc : Nat) (w : World) (hg : g < w.heap.size) (hgc : 2 ≤ gc) (u0 : w.cell? ⟨g, 0, none⟩ = some (.int .i64 ka)) (u1 : w.cell? ⟨g, 1, none⟩ = some (.int .i64 kb)) (ha : Xp.acc ka 1 = false) :
    Calls Try.prog 47 #[pv, .agg #[.int .i64 4, .int .i64 aa, .int .i64 bb, .int .i64 col, .int .i64 ck, .int .i64 cn, .string cs], .slice (some ⟨g, 0, none⟩) 2 gc] w fun e' w' => e' = .returned (.tuple #[.int .i64 0, .int .i64 7]) ∧ Below w.heap.size w w' := by
  have HA := Lib.hid ha
  clear ha
  have hg1 : g < w.heap.size + 1 := by omega
  have hB0 : Below w.heap.size w w := Below.refl _ _
  go_enter Try.func47, Try.ntmps47
  go_wp2_with fail
  refine wp_loop_rounds 3 ?_
  rw [rounds_succ]
  go_wp2_with fail
  refine (acc_call _ _ false _ HA.out).mono ?_
  rintro e1 w1 ⟨rfl, rfl⟩
  go_wp2_with fail
  go_ret2
  exact ⟨rfl, below_alloc (Below.refl _ _) _⟩


set_option maxRecDepth 100000 in
set_option maxHeartbeats 2000000 in
theorem cmb_4_no2 (aa bb col ck cn : Int) (cs : ByteArray) (pv : Value) (ka : Int) (kb : Int) (g gc : Nat) (w : World) (hg : g < w.heap.size) (hgc : 2 ≤ gc) (u0 : w.cell? ⟨g, 0, none⟩ = some (.int .i64 ka)) (u1 : w.cell? ⟨g, 1, none⟩ = some (.int .i64 kb)) (ha : Xp.acc ka 1 = true) (hb' : Xp.acc kb 1 = false) :
    Calls Try.prog 47 #[pv, .agg #[.int .i64 4, .int .i64 aa, .int .i64 bb, .int .i64 col, .int .i64 ck, .int .i64 cn, .string cs], .slice (some ⟨g, 0, none⟩) 2 gc] w fun e' w' => e' = .returned (.tuple #[.int .i64 0, .int .i64 7]) ∧ Below w.heap.size w w' := by
  have HA := Lib.hid ha
  clear ha
  have HB := Lib.hid hb'
  clear hb'
  have hg1 : g < w.heap.size + 1 := by omega
  have hB0 : Below w.heap.size w w := Below.refl _ _
  go_enter Try.func47, Try.ntmps47
  go_wp2_with fail
  refine wp_loop_rounds 3 ?_
  rw [rounds_succ]
  go_wp2_with fail
  refine (acc_call _ _ true _ HA.out).mono ?_
  rintro e1 w1 ⟨rfl, rfl⟩
  go_wp2_with fail
  rw [rounds_succ]
  go_wp2_with fail
  refine (acc_call _ _ false _ HB.out).mono ?_
  rintro e1 w1 ⟨rfl, rfl⟩
  go_wp2_with fail
  go_ret2
  exact ⟨rfl, below_alloc (Below.refl _ _) _⟩


set_option maxRecDepth 100000 in
set_option maxHeartbeats 2000000 in
theorem cmb_4_yes (aa bb col ck cn : Int) (cs : ByteArray) (pv : Value) (ka : Int) (kb : Int) (g gc : Nat) (w : World) (hg : g < w.heap.size) (hgc : 2 ≤ gc) (u0 : w.cell? ⟨g, 0, none⟩ = some (.int .i64 ka)) (u1 : w.cell? ⟨g, 1, none⟩ = some (.int .i64 kb)) (ha : Xp.acc ka 1 = true) (hb' : Xp.acc kb 1 = true) :
    Calls Try.prog 47 #[pv, .agg #[.int .i64 4, .int .i64 aa, .int .i64 bb, .int .i64 col, .int .i64 ck, .int .i64 cn, .string cs], .slice (some ⟨g, 0, none⟩) 2 gc] w fun e' w' => e' = .returned (.tuple #[.int .i64 1, .int .i64 0]) ∧ Below w.heap.size w w' := by
  have HA := Lib.hid ha
  clear ha
  have HB := Lib.hid hb'
  clear hb'
  have hg1 : g < w.heap.size + 1 := by omega
  have hB0 : Below w.heap.size w w := Below.refl _ _
  go_enter Try.func47, Try.ntmps47
  go_wp2_with fail
  refine wp_loop_rounds 3 ?_
  rw [rounds_succ]
  go_wp2_with fail
  refine (acc_call _ _ true _ HA.out).mono ?_
  rintro e1 w1 ⟨rfl, rfl⟩
  go_wp2_with fail
  rw [rounds_succ]
  go_wp2_with fail
  refine (acc_call _ _ true _ HB.out).mono ?_
  rintro e1 w1 ⟨rfl, rfl⟩
  go_wp2_with fail
  rw [rounds_succ]
  go_wp2_with fail
  go_ret2
  exact ⟨rfl, below_alloc (Below.refl _ _) _⟩


set_option maxRecDepth 100000 in
set_option maxHeartbeats 2000000 in
theorem cmb_5_no1 (aa bb col ck cn : Int) (cs : ByteArray) (pv : Value) (ka : Int) (kb : Int) (g gc : Nat) (w : World) (hg : g < w.heap.size) (hgc : 2 ≤ gc) (u0 : w.cell? ⟨g, 0, none⟩ = some (.int .i64 ka)) (u1 : w.cell? ⟨g, 1, none⟩ = some (.int .i64 kb)) (ha : Xp.acc ka 1 = false) :
    Calls Try.prog 47 #[pv, .agg #[.int .i64 5, .int .i64 aa, .int .i64 bb, .int .i64 col, .int .i64 ck, .int .i64 cn, .string cs], .slice (some ⟨g, 0, none⟩) 2 gc] w fun e' w' => e' = .returned (.tuple #[.int .i64 0, .int .i64 7]) ∧ Below w.heap.size w w' := by
  have HA := Lib.hid ha
  clear ha
  have hg1 : g < w.heap.size + 1 := by omega
  have hB0 : Below w.heap.size w w := Below.refl _ _
  go_enter Try.func47, Try.ntmps47
  go_wp2_with fail
  refine wp_loop_rounds 3 ?_
  rw [rounds_succ]
  go_wp2_with fail
  refine (acc_call _ _ false _ HA.out).mono ?_
  rintro e1 w1 ⟨rfl, rfl⟩
  go_wp2_with fail
  go_ret2
  exact ⟨rfl, below_alloc (Below.refl _ _) _⟩


set_option maxRecDepth 100000 in
set_option maxHeartbeats 2000000 in
theorem cmb_5_no2 (aa bb col ck cn : Int) (cs : ByteArray) (pv : Value) (ka : Int) (kb : Int) (g gc : Nat) (w : World) (hg : g < w.heap.size) (hgc : 2 ≤ gc) (u0 : w.cell? ⟨g, 0, none⟩ = some (.int .i64 ka)) (u1 : w.cell? ⟨g, 1, none⟩ = some (.int .i64 kb)) (ha : Xp.acc ka 1 = true) (hb' : Xp.acc kb 1 = false) :
    Calls Try.prog 47 #[pv, .agg #[.int .i64 5, .int .i64 aa, .int .i64 bb, .int .i64 col, .int .i64 ck, .int .i64 cn, .string cs], .slice (some ⟨g, 0, none⟩) 2 gc] w fun e' w' => e' = .returned (.tuple #[.int .i64 0, .int .i64 7]) ∧ Below w.heap.size w w' := by
  have HA := Lib.hid ha
  clear ha
  have HB := Lib.hid hb'
  clear hb'
  have hg1 : g < w.heap.size + 1 := by omega
  have hB0 : Below w.heap.size w w := Below.refl _ _
  go_enter Try.func47, Try.ntmps47
  go_wp2_with fail
  refine wp_loop_rounds 3 ?_
  rw [rounds_succ]
  go_wp2_with fail
  refine (acc_call _ _ true _ HA.out).mono ?_
  rintro e1 w1 ⟨rfl, rfl⟩
  go_wp2_with fail
  rw [rounds_succ]
  go_wp2_with fail
  refine (acc_call _ _ false _ HB.out).mono ?_
  rintro e1 w1 ⟨rfl, rfl⟩
  go_wp2_with fail
  go_ret2
  exact ⟨rfl, below_alloc (Below.refl _ _) _⟩


set_option maxRecDepth 100000 in
set_option maxHeartbeats 2000000 in
theorem cmb_5_yes (aa bb col ck cn : Int) (cs : ByteArray) (pv : Value) (ka : Int) (kb : Int) (g gc : Nat) (w : World) (hg : g < w.heap.size) (hgc : 2 ≤ gc) (u0 : w.cell? ⟨g, 0, none⟩ = some (.int .i64 ka)) (u1 : w.cell? ⟨g, 1, none⟩ = some (.int .i64 kb)) (ha : Xp.acc ka 1 = true) (hb' : Xp.acc kb 1 = true) :
    Calls Try.prog 47 #[pv, .agg #[.int .i64 5, .int .i64 aa, .int .i64 bb, .int .i64 col, .int .i64 ck, .int .i64 cn, .string cs], .slice (some ⟨g, 0, none⟩) 2 gc] w fun e' w' => e' = .returned (.tuple #[.int .i64 1, .int .i64 0]) ∧ Below w.heap.size w w' := by
  have HA := Lib.hid ha
  clear ha
  have HB := Lib.hid hb'
  clear hb'
  have hg1 : g < w.heap.size + 1 := by omega
  have hB0 : Below w.heap.size w w := Below.refl _ _
  go_enter Try.func47, Try.ntmps47
  go_wp2_with fail
  refine wp_loop_rounds 3 ?_
  rw [rounds_succ]
  go_wp2_with fail
  refine (acc_call _ _ true _ HA.out).mono ?_
  rintro e1 w1 ⟨rfl, rfl⟩
  go_wp2_with fail
  rw [rounds_succ]
  go_wp2_with fail
  refine (acc_call _ _ true _ HB.out).mono ?_
  rintro e1 w1 ⟨rfl, rfl⟩
  go_wp2_with fail
  rw [rounds_succ]
  go_wp2_with fail
  go_ret2
  exact ⟨rfl, below_alloc (Below.refl _ _) _⟩


set_option maxRecDepth 100000 in
set_option maxHeartbeats 2000000 in
theorem cmb_8_no1 (aa bb col ck cn : Int) (cs : ByteArray) (pv : Value) (ka : Int) (kb : Int) (g gc : Nat) (w : World) (hg : g < w.heap.size) (hgc : 2 ≤ gc) (u0 : w.cell? ⟨g, 0, none⟩ = some (.int .i64 ka)) (u1 : w.cell? ⟨g, 1, none⟩ = some (.int .i64 kb)) (ha : Xp.acc ka 3 = false) :
    Calls Try.prog 47 #[pv, .agg #[.int .i64 8, .int .i64 aa, .int .i64 bb, .int .i64 col, .int .i64 ck, .int .i64 cn, .string cs], .slice (some ⟨g, 0, none⟩) 2 gc] w fun e' w' => e' = .returned (.tuple #[.int .i64 0, .int .i64 7]) ∧ Below w.heap.size w w' := by
  have HA := Lib.hid ha
  clear ha
  have hg1 : g < w.heap.size + 1 := by omega
  have hB0 : Below w.heap.size w w := Below.refl _ _
  go_enter Try.func47, Try.ntmps47
  go_wp2_with fail
  refine wp_loop_rounds 3 ?_
  rw [rounds_succ]
  go_wp2_with fail
  refine (acc_call _ _ false _ HA.out).mono ?_
  rintro e1 w1 ⟨rfl, rfl⟩
  go_wp2_with fail
  go_ret2
  exact ⟨rfl, below_alloc (Below.refl _ _) _⟩


set_option maxRecDepth 100000 in
set_option maxHeartbeats 2000000 in
theorem cmb_8_no2 (aa bb col ck cn : Int) (cs : ByteArray) (pv : Value) (ka : Int) (kb : Int) (g gc : Nat) (w : World) (hg : g < w.heap.size) (hgc : 2 ≤ gc) (u0 : w.cell? ⟨g, 0, none⟩ = some (.int .i64 ka)) (u1 : w.cell? ⟨g, 1, none⟩ = some (.int .i64 kb)) (ha : Xp.acc ka 3 = true) (hb' : Xp.acc kb 3 = false) :
    Calls Try.prog 47 #[pv, .agg #[.int .i64 8, .int .i64 aa, .int .i64 bb, .int .i64 col, .int .i64 ck, .int .i64 cn, .string cs], .slice (some ⟨g, 0, none⟩) 2 gc] w fun e' w' => e' = .returned (.tuple #[.int .i64 0, .int .i64 7]) ∧ Below w.heap.size w w' := by
  have HA := Lib.hid ha
  clear ha
  have HB := Lib.hid hb'
  clear hb'
  have hg1 : g < w.heap.size + 1 := by omega
  have hB0 : Below w.heap.size w w := Below.refl _ _
  go_enter Try.func47, Try.ntmps47
  go_wp2_with fail
  refine wp_loop_rounds 3 ?_
  rw [rounds_succ]
  go_wp2_with fail
  refine (acc_call _ _ true _ HA.out).mono ?_
  rintro e1 w1 ⟨rfl, rfl⟩
  go_wp2_with fail
  rw [rounds_succ]
  go_wp2_with fail
  refine (acc_call _ _ false _ HB.out).mono ?_
  rintro e1 w1 ⟨rfl, rfl⟩
  go_wp2_with fail
  go_ret2
  exact ⟨rfl, below_alloc (Below.refl _ _) _⟩


set_option maxRecDepth 100000 in
set_option maxHeartbeats 2000000 in
theorem cmb_8_yes (aa bb col ck cn : Int) (cs : ByteArray) (pv : Value) (ka : Int) (kb : Int) (g gc : Nat) (w : World) (hg : g < w.heap.size) (hgc : 2 ≤ gc) (u0 : w.cell? ⟨g, 0, none⟩ = some (.int .i64 ka)) (u1 : w.cell? ⟨g, 1, none⟩ = some (.int .i64 kb)) (ha : Xp.acc ka 3 = true) (hb' : Xp.acc kb 3 = true) :
    Calls Try.prog 47 #[pv, .agg #[.int .i64 8, .int .i64 aa, .int .i64 bb, .int .i64 col, .int .i64 ck, .int .i64 cn, .string cs], .slice (some ⟨g, 0, none⟩) 2 gc] w fun e' w' => e' = .returned (.tuple #[.int .i64 3, .int .i64 0]) ∧ Below w.heap.size w w' := by
  have HA := Lib.hid ha
  clear ha
  have HB := Lib.hid hb'
  clear hb'
  have hg1 : g < w.heap.size + 1 := by omega
  have hB0 : Below w.heap.size w w := Below.refl _ _
  go_enter Try.func47, Try.ntmps47
  go_wp2_with fail
  refine wp_loop_rounds 3 ?_
  rw [rounds_succ]
  go_wp2_with fail
  refine (acc_call _ _ true _ HA.out).mono ?_
  rintro e1 w1 ⟨rfl, rfl⟩
  go_wp2_with fail
  rw [rounds_succ]
  go_wp2_with fail
  refine (acc_call _ _ true _ HB.out).mono ?_
  rintro e1 w1 ⟨rfl, rfl⟩
  go_wp2_with fail
  rw [rounds_succ]
  go_wp2_with fail
  go_ret2
  exact ⟨rfl, below_alloc (Below.refl _ _) _⟩


set_option maxRecDepth 100000 in
set_option maxHeartbeats 2000000 in
theorem cmb_9_no1 (aa bb col ck cn : Int) (cs : ByteArray) (pv : Value) (ka : Int) (kb : Int) (g gc : Nat) (w : World) (hg : g < w.heap.size) (hgc : 2 ≤ gc) (u0 : w.cell? ⟨g, 0, none⟩ = some (.int .i64 ka)) (u1 : w.cell? ⟨g, 1, none⟩ = some (.int .i64 kb)) (ha : Xp.acc ka 3 = false) :
    Calls Try.prog 47 #[pv, .agg #[.int .i64 9, .int .i64 aa, .int .i64 bb, .int .i64 col, .int .i64 ck, .int .i64 cn, .string cs], .slice (some ⟨g, 0, none⟩) 2 gc] w fun e' w' => e' = .returned (.tuple #[.int .i64 0, .int .i64 7]) ∧ Below w.heap.size w w' := by
  have HA := Lib.hid ha
  clear ha
  have hg1 : g < w.heap.size + 1 := by omega
  have hB0 : Below w.heap.size w w := Below.refl _ _
  go_enter Try.func47, Try.ntmps47
  go_wp2_with fail
  refine wp_loop_rounds 3 ?_
  rw [rounds_succ]
  go_wp2_with fail
  refine (acc_call _ _ false _ HA.out).mono ?_
  rintro e1 w1 ⟨rfl, rfl⟩
  go_wp2_with fail
  go_ret2
  exact ⟨rfl, below_alloc (Below.refl _ _) _⟩


set_option maxRecDepth 100000 in
set_option maxHeartbeats 2000000 in
theorem cmb_9_no2 (aa bb col ck cn : Int) (cs : ByteArray) (pv : Value) (ka : Int) (kb : Int) (g gc : Nat) (w : World) (hg : g < w.heap.size) (hgc : 2 ≤ gc) (u0 : w.cell? ⟨g, 0, none⟩ = some (.int .i64 ka)) (u1 : w.cell? ⟨g, 1, none⟩ = some (.int .i64 kb)) (ha : Xp.acc ka 3 = true) (hb' : Xp.acc kb 3 = false) :
    Calls Try.prog 47 #[pv, .agg #[.int .i64 9, .int .i64 aa, .int .i64 bb, .int .i64 col, .int .i64 ck, .int .i64 cn, .string cs], .slice (some ⟨g, 0, none⟩) 2 gc] w fun e' w' => e' = .returned (.tuple #[.int .i64 0, .int .i64 7]) ∧ Below w.heap.size w w' := by
  have HA := Lib.hid ha
  clear ha
  have HB := Lib.hid hb'
  clear hb'
  have hg1 : g < w.heap.size + 1 := by omega
  have hB0 : Below w.heap.size w w := Below.refl _ _
  go_enter Try.func47, Try.ntmps47
  go_wp2_with fail
  refine wp_loop_rounds 3 ?_
  rw [rounds_succ]
  go_wp2_with fail
  refine (acc_call _ _ true _ HA.out).mono ?_
  rintro e1 w1 ⟨rfl, rfl⟩
  go_wp2_with fail
  rw [rounds_succ]
  go_wp2_with fail
  refine (acc_call _ _ false _ HB.out).mono ?_
  rintro e1 w1 ⟨rfl, rfl⟩
  go_wp2_with fail
  go_ret2
  exact ⟨rfl, below_alloc (Below.refl _ _) _⟩


set_option maxRecDepth 100000 in
set_option maxHeartbeats 2000000 in
theorem cmb_9_yes (aa bb col ck cn : Int) (cs : ByteArray) (pv : Value) (ka : Int) (kb : Int) (g gc : Nat) (w : World) (hg : g < w.heap.size) (hgc : 2 ≤ gc) (u0 : w.cell? ⟨g, 0, none⟩ = some (.int .i64 ka)) (u1 : w.cell? ⟨g, 1, none⟩ = some (.int .i64 kb)) (ha : Xp.acc ka 3 = true) (hb' : Xp.acc kb 3 = true) :
    Calls Try.prog 47 #[pv, .agg #[.int .i64 9, .int .i64 aa, .int .i64 bb, .int .i64 col, .int .i64 ck, .int .i64 cn, .string cs], .slice (some ⟨g, 0, none⟩) 2 gc] w fun e' w' => e' = .returned (.tuple #[.int .i64 3, .int .i64 0]) ∧ Below w.heap.size w w' := by
  have HA := Lib.hid ha
  clear ha
  have HB := Lib.hid hb'
  clear hb'
  have hg1 : g < w.heap.size + 1 := by omega
  have hB0 : Below w.heap.size w w := Below.refl _ _
  go_enter Try.func47, Try.ntmps47
  go_wp2_with fail
  refine wp_loop_rounds 3 ?_
  rw [rounds_succ]
  go_wp2_with fail
  refine (acc_call _ _ true _ HA.out).mono ?_
  rintro e1 w1 ⟨rfl, rfl⟩
  go_wp2_with fail
  rw [rounds_succ]
  go_wp2_with fail
  refine (acc_call _ _ true _ HB.out).mono ?_
  rintro e1 w1 ⟨rfl, rfl⟩
  go_wp2_with fail
  rw [rounds_succ]
  go_wp2_with fail
  go_ret2
  exact ⟨rfl, below_alloc (Below.refl _ _) _⟩


set_option maxRecDepth 100000 in
set_option maxHeartbeats 2000000 in
theorem cmb_not_no (aa bb col ck cn : Int) (cs : ByteArray) (pv : Value) (ka : Int) (g gc : Nat) (w : World) (hg : g < w.heap.size) (hgc : 1 ≤ gc) (u0 : w.cell? ⟨g, 0, none⟩ = some (.int .i64 ka)) (ha : Xp.acc ka 3 = false) :
    Calls Try.prog 47 #[pv, .agg #[.int .i64 10, .int .i64 aa, .int .i64 bb, .int .i64 col, .int .i64 ck, .int .i64 cn, .string cs], .slice (some ⟨g, 0, none⟩) 1 gc] w fun e' w' => e' = .returned (.tuple #[.int .i64 0, .int .i64 7]) ∧ Below w.heap.size w w' := by
  have HA := Lib.hid ha
  clear ha
  have hg1 : g < w.heap.size + 1 := by omega
  have hB0 : Below w.heap.size w w := Below.refl _ _
  go_enter Try.func47, Try.ntmps47
  go_wp2_with fail
  refine wp_loop_rounds 2 ?_
  rw [rounds_succ]
  go_wp2_with fail
  refine (acc_call _ _ false _ HA.out).mono ?_
  rintro e1 w1 ⟨rfl, rfl⟩
  go_wp2_with fail
  go_ret2
  exact ⟨rfl, below_alloc (Below.refl _ _) _⟩


set_option maxRecDepth 100000 in
set_option maxHeartbeats 2000000 in
theorem cmb_not_yes (aa bb col ck cn : Int) (cs : ByteArray) (pv : Value) (ka : Int) (g gc : Nat) (w : World) (hg : g < w.heap.size) (hgc : 1 ≤ gc) (u0 : w.cell? ⟨g, 0, none⟩ = some (.int .i64 ka)) (ha : Xp.acc ka 3 = true) :
    Calls Try.prog 47 #[pv, .agg #[.int .i64 10, .int .i64 aa, .int .i64 bb, .int .i64 col, .int .i64 ck, .int .i64 cn, .string cs], .slice (some ⟨g, 0, none⟩) 1 gc] w fun e' w' => e' = .returned (.tuple #[.int .i64 3, .int .i64 0]) ∧ Below w.heap.size w w' := by
  have HA := Lib.hid ha
  clear ha
  have hg1 : g < w.heap.size + 1 := by omega
  have hB0 : Below w.heap.size w w := Below.refl _ _
  go_enter Try.func47, Try.ntmps47
  go_wp2_with fail
  refine wp_loop_rounds 2 ?_
  rw [rounds_succ]
  go_wp2_with fail
  refine (acc_call _ _ true _ HA.out).mono ?_
  rintro e1 w1 ⟨rfl, rfl⟩
  go_wp2_with fail
  rw [rounds_succ]
  go_wp2_with fail
  go_ret2
  exact ⟨rfl, below_alloc (Below.refl _ _) _⟩

end Go.Proofs.Ytpgaldkedeohaaa
