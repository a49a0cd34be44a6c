/-
  operands and apply of package expr.
-/
import Derived.Test.YtpgaldkedeohaaaExprG
namespace Go.Proofs.Ytpgaldkedeohaaa
open Go.RowKit

/-- An expression in Go. -/
def Ex.go (e : Ex) : Value := .agg #[.int .i64 e.op, .int .i64 e.a, .int .i64 e.b, .int .i64 e.col, .int .i64 e.c.k, .int .i64 e.c.n, .string e.c.s]

/-- How many operands. -/
def nops (op : Int) : Nat := (Xp.arity op).toNat

def OpsPost (a b : Int) (n : Nat) (w : World) (e : Ending) (w' : World) : Prop :=
  ∃ g, e = .returned (.slice (some ⟨g, 0, none⟩) n 2) ∧ w.heap.size ≤ g ∧ g < w'.heap.size ∧ w'.cell? ⟨g, 0, none⟩ = some (.int .i64 a) ∧ w'.cell? ⟨g, 1, none⟩ = some (.int .i64 b) ∧ Below w.heap.size w w'

theorem new2 (w : World) (x y : Value) (t : TypeId) : (w.alloc (.cells #[x, y] t)).drew.cell? ⟨w.heap.size, 0, none⟩ = some x ∧ (w.alloc (.cells #[x, y] t)).drew.cell? ⟨w.heap.size, 1, none⟩ = some y :=
  ⟨(World.cell?_alloc_at (w := w) #[x, y] t _ _ rfl).trans rfl, (World.cell?_alloc_at (w := w) #[x, y] t _ _ rfl).trans rfl⟩

theorem max_arity (op : Int) : max (Xp.arity op) 0 = (nops op : Int) := by unfold nops; omega
theorem nops_le (op : Int) : nops op ≤ 2 := by
  unfold nops
  rcases Xp.arity_cases op with ⟨_, h⟩ | ⟨_, h⟩ | ⟨_, h⟩ | ⟨_, h⟩ | ⟨_, _, h⟩ | ⟨_, h⟩ <;> rw [h] <;> decide


set_option maxRecDepth 100000 in
set_option maxHeartbeats 1000000 in
theorem expr_operands (e : Ex) (w : World) : Calls Try.prog 23 #[e.go] w (OpsPost e.a e.b (nops e.op) w) := by
  obtain ⟨op, a, b, col, k, n, s⟩ := e
  unfold Ex.go
  have hm := max_arity op
  have hl := nops_le op
  generalize nops op = N at *
  have hl1 : (0 : Int) ≤ (N : Int) := by omega
  have hl2 : (N : Int) ≤ 2 := by omega
  have hB0 : Below w.heap.size w w := Below.refl _ _
  go_enter Try.func23, Try.ntmps23
  go_wp2_with fail
  have hB0' : Below w.heap.size w (w.alloc (.cells #[.int .i64 op, .int .i64 a, .int .i64 b, .int .i64 col, .int .i64 k, .int .i64 n, .string s] 44)) := below_alloc (Below.refl _ _) _
  have hn0 : (w.alloc (.cells #[.int .i64 op, .int .i64 a, .int .i64 b, .int .i64 col, .int .i64 k, .int .i64 n, .string s] 44)).cell? ⟨w.heap.size, 0, none⟩ = some (.int .i64 op) := by go_simp
  have hn1 : (w.alloc (.cells #[.int .i64 op, .int .i64 a, .int .i64 b, .int .i64 col, .int .i64 k, .int .i64 n, .string s] 44)).cell? ⟨w.heap.size, 1, none⟩ = some (.int .i64 a) := by go_simp
  have hn2 : (w.alloc (.cells #[.int .i64 op, .int .i64 a, .int .i64 b, .int .i64 col, .int .i64 k, .int .i64 n, .string s] 44)).cell? ⟨w.heap.size, 2, none⟩ = some (.int .i64 b) := by go_simp
  have hn3 : (w.alloc (.cells #[.int .i64 op, .int .i64 a, .int .i64 b, .int .i64 col, .int .i64 k, .int .i64 n, .string s] 44)).cell? ⟨w.heap.size, 3, none⟩ = some (.int .i64 col) := by go_simp
  have hn4 : (w.alloc (.cells #[.int .i64 op, .int .i64 a, .int .i64 b, .int .i64 col, .int .i64 k, .int .i64 n, .string s] 44)).cell? ⟨w.heap.size, 4, none⟩ = some (.int .i64 k) := by go_simp
  have hn5 : (w.alloc (.cells #[.int .i64 op, .int .i64 a, .int .i64 b, .int .i64 col, .int .i64 k, .int .i64 n, .string s] 44)).cell? ⟨w.heap.size, 5, none⟩ = some (.int .i64 n) := by go_simp
  have hn6 : (w.alloc (.cells #[.int .i64 op, .int .i64 a, .int .i64 b, .int .i64 col, .int .i64 k, .int .i64 n, .string s] 44)).cell? ⟨w.heap.size, 6, none⟩ = some (.string s) := by go_simp
  have hsz0 : (w.alloc (.cells #[.int .i64 op, .int .i64 a, .int .i64 b, .int .i64 col, .int .i64 k, .int .i64 n, .string s] 44)).heap.size = w.heap.size + 1 := by simp only [World.size_alloc]
  generalize hw0 : (w.alloc (.cells #[.int .i64 op, .int .i64 a, .int .i64 b, .int .i64 col, .int .i64 k, .int .i64 n, .string s] 44)) = w0 at *
  clear hw0
  have hq0 : w.heap.size < w0.heap.size := by omega
  have hr0 : w.heap.size ≤ w0.heap.size := by omega
  clear hsz0
  have hi0_0 : w0.cell? ⟨w.heap.size, 0, none⟩ = some (.int .i64 op) := by go_simp
  have hi0_1 : w0.cell? ⟨w.heap.size, 1, none⟩ = some (.int .i64 a) := by go_simp
  have hi0_2 : w0.cell? ⟨w.heap.size, 2, none⟩ = some (.int .i64 b) := by go_simp
  have hi0_3 : w0.cell? ⟨w.heap.size, 3, none⟩ = some (.int .i64 col) := by go_simp
  have hi0_4 : w0.cell? ⟨w.heap.size, 4, none⟩ = some (.int .i64 k) := by go_simp
  have hi0_5 : w0.cell? ⟨w.heap.size, 5, none⟩ = some (.int .i64 n) := by go_simp
  have hi0_6 : w0.cell? ⟨w.heap.size, 6, none⟩ = some (.string s) := by go_simp
  have KEEP0 := Lib.hid (show ∀ W1 W2 : World, (W1.cell? ⟨w.heap.size, 0, none⟩ = some (.int .i64 op) ∧ W1.cell? ⟨w.heap.size, 1, none⟩ = some (.int .i64 a) ∧ W1.cell? ⟨w.heap.size, 2, none⟩ = some (.int .i64 b) ∧ W1.cell? ⟨w.heap.size, 3, none⟩ = some (.int .i64 col) ∧ W1.cell? ⟨w.heap.size, 4, none⟩ = some (.int .i64 k) ∧ W1.cell? ⟨w.heap.size, 5, none⟩ = some (.int .i64 n) ∧ W1.cell? ⟨w.heap.size, 6, none⟩ = some (.string s) ∧ w0.heap.size ≤ W1.heap.size ∧ Below w.heap.size w W1) → Below W1.heap.size W1 W2 → (W2.cell? ⟨w.heap.size, 0, none⟩ = some (.int .i64 op) ∧ W2.cell? ⟨w.heap.size, 1, none⟩ = some (.int .i64 a) ∧ W2.cell? ⟨w.heap.size, 2, none⟩ = some (.int .i64 b) ∧ W2.cell? ⟨w.heap.size, 3, none⟩ = some (.int .i64 col) ∧ W2.cell? ⟨w.heap.size, 4, none⟩ = some (.int .i64 k) ∧ W2.cell? ⟨w.heap.size, 5, none⟩ = some (.int .i64 n) ∧ W2.cell? ⟨w.heap.size, 6, none⟩ = some (.string s) ∧ w0.heap.size ≤ W2.heap.size ∧ Below w.heap.size w W2) from fun W1 W2 ⟨a0, a1, a2, a3, a4, a5, a6, hs, hB⟩ hb => ⟨(hb.cell (p := ⟨w.heap.size, 0, none⟩) (show w.heap.size < W1.heap.size by omega)).trans a0, (hb.cell (p := ⟨w.heap.size, 1, none⟩) (show w.heap.size < W1.heap.size by omega)).trans a1, (hb.cell (p := ⟨w.heap.size, 2, none⟩) (show w.heap.size < W1.heap.size by omega)).trans a2, (hb.cell (p := ⟨w.heap.size, 3, none⟩) (show w.heap.size < W1.heap.size by omega)).trans a3, (hb.cell (p := ⟨w.heap.size, 4, none⟩) (show w.heap.size < W1.heap.size by omega)).trans a4, (hb.cell (p := ⟨w.heap.size, 5, none⟩) (show w.heap.size < W1.heap.size by omega)).trans a5, (hb.cell (p := ⟨w.heap.size, 6, none⟩) (show w.heap.size < W1.heap.size by omega)).trans a6, Nat.le_trans hs hb.size, hB.trans (hb.mono hB.size)⟩)
  have INIT0 := Lib.hid (show (w0.drew.cell? ⟨w.heap.size, 0, none⟩ = some (.int .i64 op) ∧ w0.drew.cell? ⟨w.heap.size, 1, none⟩ = some (.int .i64 a) ∧ w0.drew.cell? ⟨w.heap.size, 2, none⟩ = some (.int .i64 b) ∧ w0.drew.cell? ⟨w.heap.size, 3, none⟩ = some (.int .i64 col) ∧ w0.drew.cell? ⟨w.heap.size, 4, none⟩ = some (.int .i64 k) ∧ w0.drew.cell? ⟨w.heap.size, 5, none⟩ = some (.int .i64 n) ∧ w0.drew.cell? ⟨w.heap.size, 6, none⟩ = some (.string s) ∧ w0.heap.size ≤ w0.drew.heap.size ∧ Below w.heap.size w w0.drew) from ⟨hi0_0, hi0_1, hi0_2, hi0_3, hi0_4, hi0_5, hi0_6, Nat.le_refl _, hB0'.drew⟩)
  go_region_held3 (fun w' => (w'.cell? ⟨w.heap.size, 0, none⟩ = some (.int .i64 op) ∧ w'.cell? ⟨w.heap.size, 1, none⟩ = some (.int .i64 a) ∧ w'.cell? ⟨w.heap.size, 2, none⟩ = some (.int .i64 b) ∧ w'.cell? ⟨w.heap.size, 3, none⟩ = some (.int .i64 col) ∧ w'.cell? ⟨w.heap.size, 4, none⟩ = some (.int .i64 k) ∧ w'.cell? ⟨w.heap.size, 5, none⟩ = some (.int .i64 n) ∧ w'.cell? ⟨w.heap.size, 6, none⟩ = some (.string s) ∧ w0.heap.size ≤ w'.heap.size ∧ Below w.heap.size w w')) (first | assumption | exact INIT0.out | exact KEEP0.out _ _ (by assumption) (by assumption) | exact KEEP0.out _ _ (by assumption) ((Below.refl _ _).alloc (Nat.le_refl _) _))
    (first | (go_at_call 35; refine (expr_arity _ _).mono ?_; rintro e w9 ⟨rfl, rfl⟩))
  all_goals obtain ⟨hr0_0, hr0_1, hr0_2, hr0_3, hr0_4, hr0_5, hr0_6, hsz0, hBr0⟩ := ‹_ ∧ _›
  all_goals
    have hx := new2 w0 (.int .i64 a) (.int .i64 b) 3
    go_wp2
    go_ret
    exact ⟨_, rfl, hr0, by simp, hx.1, hx.2, hBr0⟩


/-- A value's three cells lie there. -/
def VlAt (w : World) (g o : Nat) (v : Vl) : Prop := w.cell? ⟨g, o, none⟩ = some (.int .i64 v.k) ∧ w.cell? ⟨g, o + 1, none⟩ = some (.int .i64 v.n) ∧ w.cell? ⟨g, o + 2, none⟩ = some (.string v.s)

/-- A value whose number has 64 bits. -/
def Vl.wf (v : Vl) : Prop := -9223372036854775808 ≤ v.n ∧ v.n ≤ 9223372036854775807

theorem arith_call (op k1 n1 : Int) (s1 : ByteArray) (k2 n2 : Int) (s2 : ByteArray) (rk rn : Int) (rs : ByteArray) (W : World) (hop : op = 3 ∨ op = 4 ∨ op = 5) (h : Xp.arith op ⟨k1, n1, s1⟩ ⟨k2, n2, s2⟩ = ⟨rk, rn, rs⟩)
    (h1 : -9223372036854775808 ≤ n1) (h2 : n1 ≤ 9223372036854775807) (h3 : -9223372036854775808 ≤ n2) (h4 : n2 ≤ 9223372036854775807) :
    Calls Try.prog 36 #[.int .i64 op, .agg #[.int .i64 k1, .int .i64 n1, .string s1], .agg #[.int .i64 k2, .int .i64 n2, .string s2]] W fun e w' => e = .returned (.agg #[.int .i64 rk, .int .i64 rn, .string rs]) ∧ Below W.heap.size W w' := by
  have e : (Vl.mk rk rn rs).go = .agg #[.int .i64 rk, .int .i64 rn, .string rs] := rfl
  rw [← e, ← h]
  rcases hop with rfl | rfl | rfl
  · exact expr_add ⟨k1, n1, s1⟩ ⟨k2, n2, s2⟩ W h1 h2 h3 h4
  · exact expr_sub ⟨k1, n1, s1⟩ ⟨k2, n2, s2⟩ W h1 h2 h3 h4
  · exact expr_mul ⟨k1, n1, s1⟩ ⟨k2, n2, s2⟩ W h1 h2 h3 h4

theorem ref_arith_call (op k1 n1 : Int) (s1 : ByteArray) (k2 n2 : Int) (s2 : ByteArray) (rk rn : Int) (rs : ByteArray) (W : World) (hop : op = 3 ∨ op = 4 ∨ op = 5) (h : Xp.arith op ⟨k1, n1, s1⟩ ⟨k2, n2, s2⟩ = ⟨rk, rn, rs⟩)
    (h1 : -9223372036854775808 ≤ n1) (h2 : n1 ≤ 9223372036854775807) (h3 : -9223372036854775808 ≤ n2) (h4 : n2 ≤ 9223372036854775807) :
    Calls Try.prog 43 #[.int .i64 op, .agg #[.int .i64 k1, .int .i64 n1, .string s1], .agg #[.int .i64 k2, .int .i64 n2, .string s2]] W fun e w' => e = .returned (.agg #[.int .i64 rk, .int .i64 rn, .string rs]) ∧ Below W.heap.size W w' := by
  have e : (Vl.mk rk rn rs).go = .agg #[.int .i64 rk, .int .i64 rn, .string rs] := rfl
  rw [← e, ← h]
  rcases hop with rfl | rfl | rfl
  · exact ref_add ⟨k1, n1, s1⟩ ⟨k2, n2, s2⟩ W h1 h2 h3 h4
  · exact ref_sub ⟨k1, n1, s1⟩ ⟨k2, n2, s2⟩ W h1 h2 h3 h4
  · exact ref_mul ⟨k1, n1, s1⟩ ⟨k2, n2, s2⟩ W h1 h2 h3 h4

theorem bool_call (b : Bool) (n : Int) (W : World) (h : (if b = true then 1 else 0) = n) : Calls Try.prog 37 #[.bool b] W fun e w' => e = .returned (.agg #[.int .i64 3, .int .i64 n, .string ⟨#[]⟩]) ∧ Below W.heap.size W w' := by
  subst h; exact expr_boolean b W

theorem ref_bool_call (b : Bool) (n : Int) (W : World) (h : (if b = true then 1 else 0) = n) : Calls Try.prog 40 #[.bool b] W fun e w' => e = .returned (.agg #[.int .i64 3, .int .i64 n, .string ⟨#[]⟩]) ∧ Below W.heap.size W w' := by
  subst h; exact ref_boolean b W

theorem isT_call (k n : Int) (s : ByteArray) (b : Bool) (W : World) (h : Xp.isT ⟨k, n, s⟩ = b) : Calls Try.prog 39 #[.agg #[.int .i64 k, .int .i64 n, .string s]] W fun e w' => e = .returned (.bool b) ∧ Below W.heap.size W w' := by
  subst h; exact expr_isTrue ⟨k, n, s⟩ W

theorem ref_isT_call (k n : Int) (s : ByteArray) (b : Bool) (W : World) (h : Xp.isT ⟨k, n, s⟩ = b) : Calls Try.prog 42 #[.agg #[.int .i64 k, .int .i64 n, .string s]] W fun e w' => e = .returned (.bool b) ∧ Below W.heap.size W w' := by
  subst h; exact ref_True ⟨k, n, s⟩ W

theorem cmp_call (k1 n1 : Int) (s1 : ByteArray) (k2 n2 : Int) (s2 : ByteArray) (v : Int) (W : World) (h : Xp.vcmp ⟨k1, n1, s1⟩ ⟨k2, n2, s2⟩ = v) :
    Calls Try.prog 38 #[.agg #[.int .i64 k1, .int .i64 n1, .string s1], .agg #[.int .i64 k2, .int .i64 n2, .string s2]] W fun e w' => e = .returned (.int .i64 v) ∧ Below W.heap.size W w' := by
  subst h; exact value_Compare ⟨k1, n1, s1⟩ ⟨k2, n2, s2⟩ W

theorem ref_cmp_call (k1 n1 : Int) (s1 : ByteArray) (k2 n2 : Int) (s2 : ByteArray) (v : Int) (W : World) (h : Xp.vcmp ⟨k1, n1, s1⟩ ⟨k2, n2, s2⟩ = v) :
    Calls Try.prog 41 #[.agg #[.int .i64 k1, .int .i64 n1, .string s1], .agg #[.int .i64 k2, .int .i64 n2, .string s2]] W fun e w' => e = .returned (.int .i64 v) ∧ Below W.heap.size W w' := by
  subst h; exact ref_Compare ⟨k1, n1, s1⟩ ⟨k2, n2, s2⟩ W

end Go.Proofs.Ytpgaldkedeohaaa
