/-
  The order of values: cmp.Compare, cmp.Or, strings.Compare, Compare of package value and the reference's.
-/
import Derived.Test.YtpgaldkedeohaaaExprB
import Derived.Lib.Bytealg
import Derived.WalkLawsBesides
namespace Go.Proofs.Ytpgaldkedeohaaa
open Go.RowKit

theorem compareBytes_eq : ∀ a b : List UInt8, Lib.compareBytes a b = if a = b then 0 else if Op.bytesLess a b = true then -1 else 1 := by
  intro a
  induction a with
  | nil =>
    intro b
    cases b with
    | nil => rfl
    | cons y b => rfl
  | cons x a ih =>
    intro b
    cases b with
    | nil => rfl
    | cons y b =>
      show (if x < y then (-1 : Int) else if y < x then 1 else Lib.compareBytes a b) = if (x :: a : List UInt8) = y :: b then 0 else if (decide (x < y) || (x == y && Op.bytesLess a b)) = true then -1 else 1
      by_cases h1 : x < y
      · have hne : ¬ (x :: a : List UInt8) = y :: b := by
          intro h; injection h with h; subst h; exact UInt8.lt_irrefl _ h1
        rw [if_pos h1, if_neg hne, if_pos (by simp [h1])]
      · rw [if_neg h1]
        by_cases h2 : y < x
        · have hxy : ¬ x = y := by rintro rfl; exact UInt8.lt_irrefl _ h2
          have hne : ¬ (x :: a : List UInt8) = y :: b := by
            intro h; injection h with h; exact hxy h
          rw [if_pos h2, if_neg hne, if_neg (by simp [h1, hxy])]
        · have hxy : x = y := by
            rw [UInt8.lt_iff_toNat_lt] at h1 h2
            exact UInt8.toNat_inj.1 (by omega)
          subst hxy
          rw [if_neg h2, ih b]
          by_cases h3 : a = b
          · subst h3; rw [if_pos rfl, if_pos rfl]
          · have hne : ¬ (x :: a : List UInt8) = x :: b := by intro h; injection h with _ h; exact h3 h
            rw [if_neg h3, if_neg hne]
            have e : (decide (x < x) || (x == x && Op.bytesLess a b)) = Op.bytesLess a b := by simp
            rw [e]

theorem scmp_eq (a b : ByteArray) : Lib.compareBytes a.data.toList b.data.toList = Xp.scmp a b := by
  rw [compareBytes_eq]
  unfold Xp.scmp
  rw [ByteArray.toList_eq, ByteArray.toList_eq]

set_option maxRecDepth 100000 in
theorem str_Compare (a b : ByteArray) (w : World) : Calls Try.prog 52 #[.string a, .string b] w fun e w' => e = .returned (.int .i64 (Xp.scmp a b)) ∧ w = w' := by
  have hbb : Calls Try.prog 69 #[.string a, .string b] w fun e w' => e = .returned (.int .i64 (Xp.scmp a b)) ∧ w = w' := by
    go_enter Try.func69, Try.ntmps69
    go_wp2
    rw [run_callFunc_extern Try.func75 (by kernel_rfl) (by kernel_rfl) (by kernel_rfl) (e := Extern.BytealgCompare.compare) (by kernel_rfl), Lib.run_compareString]
    simp only [Result.andThen]
    rw [Oper.upon_value, scmp_eq]
    go_wp2
    go_ret
    exact ⟨rfl, rfl⟩
  have HB := Lib.hid hbb
  clear hbb
  go_enter Try.func52, Try.ntmps52
  go_wp2_with fail
  refine (HB.out).mono ?_
  rintro e w' ⟨rfl, rfl⟩
  go_wp2_with fail
  go_ret
  exact ⟨rfl, rfl⟩

theorem sgn_lt {a b : Int} (h : a < b) : Xp.sgn a b = -1 := by unfold Xp.sgn; rw [if_pos h]
theorem sgn_eq {a b : Int} (h : a = b) : Xp.sgn a b = 0 := by unfold Xp.sgn; rw [if_neg (by omega), if_pos h]
theorem sgn_gt {a b : Int} (h : b < a) : Xp.sgn a b = 1 := by unfold Xp.sgn; rw [if_neg (by omega), if_neg (by omega)]

set_option maxRecDepth 100000 in
theorem cmp_isNaN (a : Int) (w : World) : Calls Try.prog 67 #[.int .i64 a] w fun e w' => e = .returned (.bool false) ∧ w = w' := by
  go_enter Try.func67, Try.ntmps67
  go_wp2
  go_ret
  exact ⟨ret_bool (by simp), rfl⟩

set_option maxRecDepth 100000 in
theorem cmp_isNaN64 (a : Int) (w : World) : Calls Try.prog 68 #[.int .i64 a] w fun e w' => e = .returned (.bool false) ∧ w = w' := by
  go_enter Try.func68, Try.ntmps68
  go_wp2
  go_ret
  exact ⟨ret_bool (by simp), rfl⟩

set_option maxRecDepth 100000 in
theorem cmp_Compare (a b : Int) (w : World) : Calls Try.prog 50 #[.int .i64 a, .int .i64 b] w fun e w' => e = .returned (.int .i64 (Xp.sgn a b)) ∧ w = w' := by
  generalize hv : Xp.sgn a b = v
  have HV := Lib.hid hv
  clear hv
  rcases Int.lt_trichotomy a b with h | h | h
  · have E := Lib.hid (HV.out.symm.trans (sgn_lt h))
    go_enter Try.func50, Try.ntmps50
    go_wp2_with (go_at_call 67; refine (cmp_isNaN _ _).mono ?_; rintro e w' ⟨rfl, rfl⟩)
    go_ret
    exact ⟨by rw [E.out]; rfl, rfl⟩
  · have E := Lib.hid (HV.out.symm.trans (sgn_eq h))
    subst h
    go_enter Try.func50, Try.ntmps50
    go_wp2_with (go_at_call 67; refine (cmp_isNaN _ _).mono ?_; rintro e w' ⟨rfl, rfl⟩)
    go_ret
    exact ⟨by rw [E.out]; rfl, rfl⟩
  · have E := Lib.hid (HV.out.symm.trans (sgn_gt h))
    go_enter Try.func50, Try.ntmps50
    go_wp2_with (go_at_call 67; refine (cmp_isNaN _ _).mono ?_; rintro e w' ⟨rfl, rfl⟩)
    go_ret
    exact ⟨by rw [E.out]; rfl, rfl⟩

set_option maxRecDepth 100000 in
theorem cmp_Compare64 (a b : Int) (w : World) : Calls Try.prog 51 #[.int .i64 a, .int .i64 b] w fun e w' => e = .returned (.int .i64 (Xp.sgn a b)) ∧ w = w' := by
  generalize hv : Xp.sgn a b = v
  have HV := Lib.hid hv
  clear hv
  rcases Int.lt_trichotomy a b with h | h | h
  · have E := Lib.hid (HV.out.symm.trans (sgn_lt h))
    go_enter Try.func51, Try.ntmps51
    go_wp2_with (go_at_call 68; refine (cmp_isNaN64 _ _).mono ?_; rintro e w' ⟨rfl, rfl⟩)
    go_ret
    exact ⟨by rw [E.out]; rfl, rfl⟩
  · have E := Lib.hid (HV.out.symm.trans (sgn_eq h))
    subst h
    go_enter Try.func51, Try.ntmps51
    go_wp2_with (go_at_call 68; refine (cmp_isNaN64 _ _).mono ?_; rintro e w' ⟨rfl, rfl⟩)
    go_ret
    exact ⟨by rw [E.out]; rfl, rfl⟩
  · have E := Lib.hid (HV.out.symm.trans (sgn_gt h))
    go_enter Try.func51, Try.ntmps51
    go_wp2_with (go_at_call 68; refine (cmp_isNaN64 _ _).mono ?_; rintro e w' ⟨rfl, rfl⟩)
    go_ret
    exact ⟨by rw [E.out]; rfl, rfl⟩

/-- The first of three numbers that is not 0. -/
def or3 (x y z : Int) : Int := if x ≠ 0 then x else if y ≠ 0 then y else z

set_option maxRecDepth 100000 in
set_option maxHeartbeats 1000000 in
theorem cmp_Or (x y z : Int) (b : Nat) (w : World) (h0 : w.cell? ⟨b, 0, none⟩ = some (.int .i64 x)) (h1 : w.cell? ⟨b, 1, none⟩ = some (.int .i64 y)) (h2 : w.cell? ⟨b, 2, none⟩ = some (.int .i64 z)) :
    Calls Try.prog 49 #[.slice (some ⟨b, 0, none⟩) 3 3] w fun e w' => e = .returned (.int .i64 (or3 x y z)) ∧ w = w' := by
  generalize hv : or3 x y z = v
  have HV := Lib.hid hv
  clear hv
  go_enter Try.func49, Try.ntmps49
  go_wp2
  go_loop [5, 8] (fun _ i => ∃ j : Nat, j ≤ 3 ∧ (0 < j → x = 0) ∧ (1 < j → y = 0) ∧ (2 < j → z = 0) ∧ i = .int .i64 j) (fun _ i => 3 - (intOf i).toNat)
  case atStart => exact ⟨0, by omega, by omega, by omega, by omega, rfl⟩
  case round =>
    obtain ⟨j, hj, g0, g1, g2, rfl⟩ := hrel
    have hc : j = 0 ∨ j = 1 ∨ j = 2 ∨ j = 3 := by omega
    rcases hc with rfl | rfl | rfl | rfl
    · clear g0 g1 g2
      by_cases hx : x = 0
      · subst hx
        go_wp2
        go_round
        case rel => exact ⟨1, by omega, by first | omega | simp, by first | omega | simp, by first | omega | simp, rfl⟩
        case measure => simp [intOf]
      · have E := Lib.hid (HV.out.symm.trans (show or3 x y z = x by unfold or3; rw [if_pos hx]))
        go_wp2
        go_ret
        exact ⟨by rw [E.out]; rfl, rfl⟩
    · obtain rfl := g0 (by omega)
      clear g0 g1 g2
      by_cases hx : y = 0
      · subst hx
        go_wp2
        go_round
        case rel => exact ⟨2, by omega, by first | omega | simp, by first | omega | simp, by first | omega | simp, rfl⟩
        case measure => simp [intOf]
      · have E := Lib.hid (HV.out.symm.trans (show or3 0 y z = y by unfold or3; rw [if_neg (by simp), if_pos hx]))
        go_wp2
        go_ret
        exact ⟨by rw [E.out]; rfl, rfl⟩
    · obtain rfl := g0 (by omega)
      obtain rfl := g1 (by omega)
      clear g0 g1 g2
      by_cases hx : z = 0
      · subst hx
        go_wp2
        go_round
        case rel => exact ⟨3, by omega, by first | omega | simp, by first | omega | simp, by first | omega | simp, rfl⟩
        case measure => simp [intOf]
      · have E := Lib.hid (HV.out.symm.trans (show or3 0 0 z = z by unfold or3; rw [if_neg (by simp), if_neg (by simp)]))
        go_wp2
        go_ret
        exact ⟨by rw [E.out]; rfl, rfl⟩
    · obtain rfl := g0 (by omega)
      obtain rfl := g1 (by omega)
      obtain rfl := g2 (by omega)
      have E := Lib.hid (HV.out.symm.trans (show or3 0 0 0 = 0 from rfl))
      go_wp2
      go_ret
      exact ⟨by rw [E.out]; rfl, rfl⟩

theorem new3_0 (w : World) (x y z : Value) (t : TypeId) : (w.alloc (.cells #[x, y, z] t)).drew.cell? ⟨w.heap.size, 0, none⟩ = some x := (World.cell?_alloc_at (w := w) #[x, y, z] t _ _ rfl).trans rfl
theorem new3_1 (w : World) (x y z : Value) (t : TypeId) : (w.alloc (.cells #[x, y, z] t)).drew.cell? ⟨w.heap.size, 1, none⟩ = some y := (World.cell?_alloc_at (w := w) #[x, y, z] t _ _ rfl).trans rfl
theorem new3_2 (w : World) (x y z : Value) (t : TypeId) : (w.alloc (.cells #[x, y, z] t)).drew.cell? ⟨w.heap.size, 2, none⟩ = some z := (World.cell?_alloc_at (w := w) #[x, y, z] t _ _ rfl).trans rfl

theorem vcmp_or (x y : Vl) : or3 (Xp.sgn x.k y.k) (Xp.sgn x.n y.n) (Xp.scmp x.s y.s) = Xp.vcmp x y := rfl

set_option maxRecDepth 100000 in
set_option maxHeartbeats 1000000 in
theorem value_Compare (x y : Vl) (w : World) : Calls Try.prog 38 #[x.go, y.go] w fun e w' => e = .returned (.int .i64 (Xp.vcmp x y)) ∧ Below w.heap.size w w' := by
  obtain ⟨k1, n1, s1⟩ := x
  obtain ⟨k2, n2, s2⟩ := y
  unfold Vl.go
  generalize hv : Xp.vcmp ⟨k1, n1, s1⟩ ⟨k2, n2, s2⟩ = v
  have HV := Lib.hid hv
  clear hv
  go_enter Try.func38, Try.ntmps38
  go_wp2_with fail
  have hB0' : Below w.heap.size w ((w.alloc (.cells #[.int .i64 k1, .int .i64 n1, .string s1] 34)).alloc (.cells #[.int .i64 k2, .int .i64 n2, .string s2] 34)) := below_alloc (below_alloc (Below.refl _ _) _) _
  have hn0 : ((w.alloc (.cells #[.int .i64 k1, .int .i64 n1, .string s1] 34)).alloc (.cells #[.int .i64 k2, .int .i64 n2, .string s2] 34)).cell? ⟨w.heap.size, 0, none⟩ = some (.int .i64 k1) := by go_simp
  have hn1 : ((w.alloc (.cells #[.int .i64 k1, .int .i64 n1, .string s1] 34)).alloc (.cells #[.int .i64 k2, .int .i64 n2, .string s2] 34)).cell? ⟨w.heap.size, 1, none⟩ = some (.int .i64 n1) := by go_simp
  have hn2 : ((w.alloc (.cells #[.int .i64 k1, .int .i64 n1, .string s1] 34)).alloc (.cells #[.int .i64 k2, .int .i64 n2, .string s2] 34)).cell? ⟨w.heap.size, 2, none⟩ = some (.string s1) := by go_simp
  have hn3 : ((w.alloc (.cells #[.int .i64 k1, .int .i64 n1, .string s1] 34)).alloc (.cells #[.int .i64 k2, .int .i64 n2, .string s2] 34)).cell? ⟨w.heap.size + 1, 0, none⟩ = some (.int .i64 k2) := by go_simp
  have hn4 : ((w.alloc (.cells #[.int .i64 k1, .int .i64 n1, .string s1] 34)).alloc (.cells #[.int .i64 k2, .int .i64 n2, .string s2] 34)).cell? ⟨w.heap.size + 1, 1, none⟩ = some (.int .i64 n2) := by go_simp
  have hn5 : ((w.alloc (.cells #[.int .i64 k1, .int .i64 n1, .string s1] 34)).alloc (.cells #[.int .i64 k2, .int .i64 n2, .string s2] 34)).cell? ⟨w.heap.size + 1, 2, none⟩ = some (.string s2) := by go_simp
  have hsz0 : ((w.alloc (.cells #[.int .i64 k1, .int .i64 n1, .string s1] 34)).alloc (.cells #[.int .i64 k2, .int .i64 n2, .string s2] 34)).heap.size = w.heap.size + 2 := by simp only [World.size_alloc]
  generalize hw0 : ((w.alloc (.cells #[.int .i64 k1, .int .i64 n1, .string s1] 34)).alloc (.cells #[.int .i64 k2, .int .i64 n2, .string s2] 34)) = w0 at *
  clear hw0
  have hq0 : w.heap.size < w0.heap.size := by omega
  have hr0 : w.heap.size ≤ w0.heap.size := by omega
  have hq1 : w.heap.size + 1 < w0.heap.size := by omega
  have hr1 : w.heap.size + 1 ≤ w0.heap.size := by omega
  clear hsz0
  have hi0_0 : w0.cell? ⟨w.heap.size, 0, none⟩ = some (.int .i64 k1) := by go_simp
  have hi0_1 : w0.cell? ⟨w.heap.size, 1, none⟩ = some (.int .i64 n1) := by go_simp
  have hi0_2 : w0.cell? ⟨w.heap.size, 2, none⟩ = some (.string s1) := by go_simp
  have hi0_3 : w0.cell? ⟨w.heap.size + 1, 0, none⟩ = some (.int .i64 k2) := by go_simp
  have hi0_4 : w0.cell? ⟨w.heap.size + 1, 1, none⟩ = some (.int .i64 n2) := by go_simp
  have hi0_5 : w0.cell? ⟨w.heap.size + 1, 2, none⟩ = some (.string s2) := by go_simp
  have KEEP0 := Lib.hid (show ∀ W1 W2 : World, (W1.cell? ⟨w.heap.size, 0, none⟩ = some (.int .i64 k1) ∧ W1.cell? ⟨w.heap.size, 1, none⟩ = some (.int .i64 n1) ∧ W1.cell? ⟨w.heap.size, 2, none⟩ = some (.string s1) ∧ W1.cell? ⟨w.heap.size + 1, 0, none⟩ = some (.int .i64 k2) ∧ W1.cell? ⟨w.heap.size + 1, 1, none⟩ = some (.int .i64 n2) ∧ W1.cell? ⟨w.heap.size + 1, 2, none⟩ = some (.string s2) ∧ w0.heap.size ≤ W1.heap.size ∧ Below w.heap.size w W1) → Below W1.heap.size W1 W2 → (W2.cell? ⟨w.heap.size, 0, none⟩ = some (.int .i64 k1) ∧ W2.cell? ⟨w.heap.size, 1, none⟩ = some (.int .i64 n1) ∧ W2.cell? ⟨w.heap.size, 2, none⟩ = some (.string s1) ∧ W2.cell? ⟨w.heap.size + 1, 0, none⟩ = some (.int .i64 k2) ∧ W2.cell? ⟨w.heap.size + 1, 1, none⟩ = some (.int .i64 n2) ∧ W2.cell? ⟨w.heap.size + 1, 2, none⟩ = some (.string s2) ∧ w0.heap.size ≤ W2.heap.size ∧ Below w.heap.size w W2) from fun W1 W2 ⟨a0, a1, a2, a3, a4, a5, hs, hB⟩ hb => ⟨(hb.cell (p := ⟨w.heap.size, 0, none⟩) (show w.heap.size < W1.heap.size by omega)).trans a0, (hb.cell (p := ⟨w.heap.size, 1, none⟩) (show w.heap.size < W1.heap.size by omega)).trans a1, (hb.cell (p := ⟨w.heap.size, 2, none⟩) (show w.heap.size < W1.heap.size by omega)).trans a2, (hb.cell (p := ⟨w.heap.size + 1, 0, none⟩) (show w.heap.size + 1 < W1.heap.size by omega)).trans a3, (hb.cell (p := ⟨w.heap.size + 1, 1, none⟩) (show w.heap.size + 1 < W1.heap.size by omega)).trans a4, (hb.cell (p := ⟨w.heap.size + 1, 2, none⟩) (show w.heap.size + 1 < W1.heap.size by omega)).trans a5, Nat.le_trans hs hb.size, hB.trans (hb.mono hB.size)⟩)
  have INIT0 := Lib.hid (show (w0.drew.cell? ⟨w.heap.size, 0, none⟩ = some (.int .i64 k1) ∧ w0.drew.cell? ⟨w.heap.size, 1, none⟩ = some (.int .i64 n1) ∧ w0.drew.cell? ⟨w.heap.size, 2, none⟩ = some (.string s1) ∧ w0.drew.cell? ⟨w.heap.size + 1, 0, none⟩ = some (.int .i64 k2) ∧ w0.drew.cell? ⟨w.heap.size + 1, 1, none⟩ = some (.int .i64 n2) ∧ w0.drew.cell? ⟨w.heap.size + 1, 2, none⟩ = some (.string s2) ∧ w0.heap.size ≤ w0.drew.heap.size ∧ Below w.heap.size w w0.drew) from ⟨hi0_0, hi0_1, hi0_2, hi0_3, hi0_4, hi0_5, Nat.le_refl _, hB0'.drew⟩)
  go_region_held3 (fun w' => (w'.cell? ⟨w.heap.size, 0, none⟩ = some (.int .i64 k1) ∧ w'.cell? ⟨w.heap.size, 1, none⟩ = some (.int .i64 n1) ∧ w'.cell? ⟨w.heap.size, 2, none⟩ = some (.string s1) ∧ w'.cell? ⟨w.heap.size + 1, 0, none⟩ = some (.int .i64 k2) ∧ w'.cell? ⟨w.heap.size + 1, 1, none⟩ = some (.int .i64 n2) ∧ w'.cell? ⟨w.heap.size + 1, 2, none⟩ = some (.string s2) ∧ w0.heap.size ≤ w'.heap.size ∧ Below w.heap.size w w')) (first | assumption | exact INIT0.out | exact KEEP0.out _ _ (by assumption) (by assumption) | exact KEEP0.out _ _ (by assumption) ((Below.refl _ _).alloc (Nat.le_refl _) _))
    (first | (go_at_call 50; refine (cmp_Compare _ _ _).mono ?_; rintro e w9 ⟨rfl, rfl⟩) | (go_at_call 51; refine (cmp_Compare64 _ _ _).mono ?_; rintro e w9 ⟨rfl, rfl⟩) | (go_at_call 52; refine (str_Compare _ _ _).mono ?_; rintro e w9 ⟨rfl, rfl⟩) | (go_at_call 49; refine (cmp_Or (Xp.sgn k1 k2) (Xp.sgn n1 n2) (Xp.scmp s1 s2) _ _ ?_ ?_ ?_).mono ?_; exact new3_0 _ _ _ _ _; exact new3_1 _ _ _ _ _; exact new3_2 _ _ _ _ _; rintro e w9 ⟨rfl, rfl⟩))
  obtain ⟨hr0_0, hr0_1, hr0_2, hr0_3, hr0_4, hr0_5, hsz0, hBr0⟩ := ‹_ ∧ _›
  go_wp2
  go_ret
  exact ⟨by rw [← HV.out]; rfl, hBr0⟩

theorem vcmp_k1 {x y : Vl} (h : x.k < y.k) : Xp.vcmp x y = -1 := by unfold Xp.vcmp; rw [sgn_lt h]; rfl
theorem vcmp_k2 {x y : Vl} (h : y.k < x.k) : Xp.vcmp x y = 1 := by unfold Xp.vcmp; rw [sgn_gt h]; rfl
theorem vcmp_n1 {x y : Vl} (h : x.k = y.k) (g : x.n < y.n) : Xp.vcmp x y = -1 := by unfold Xp.vcmp; rw [sgn_eq h, sgn_lt g]; rfl
theorem vcmp_n2 {x y : Vl} (h : x.k = y.k) (g : y.n < x.n) : Xp.vcmp x y = 1 := by unfold Xp.vcmp; rw [sgn_eq h, sgn_gt g]; rfl
theorem vcmp_s {x y : Vl} (h : x.k = y.k) (g : x.n = y.n) : Xp.vcmp x y = Xp.scmp x.s y.s := by unfold Xp.vcmp; rw [sgn_eq h, sgn_eq g]; rfl
theorem scmp_same (s : ByteArray) : Xp.scmp s s = 0 := by unfold Xp.scmp; rw [if_pos rfl]

theorem toList_inj {s t : ByteArray} (h : s.toList = t.toList) : s = t := by
  rw [ByteArray.toList_eq, ByteArray.toList_eq] at h
  obtain ⟨⟨a⟩⟩ := s
  obtain ⟨⟨b⟩⟩ := t
  have h : a = b := h
  rw [h]

theorem less_irrefl : ∀ l : List UInt8, Op.bytesLess l l = false := by
  intro l
  induction l with
  | nil => rfl
  | cons c l ih =>
    show (decide (c < c) || (c == c && Op.bytesLess l l)) = false
    rw [ih]; simp

set_option maxRecDepth 100000 in
set_option maxHeartbeats 1000000 in
theorem ref_Compare (x y : Vl) (w : World) : Calls Try.prog 41 #[x.go, y.go] w fun e w' => e = .returned (.int .i64 (Xp.vcmp x y)) ∧ Below w.heap.size w w' := by
  generalize hv : Xp.vcmp x y = v
  have HV := Lib.hid hv
  clear hv
  have hB := Lib.hid (fun o1 o2 => below_alloc (below_alloc (Below.refl w.heap.size w) o1) o2)
  obtain ⟨k1, n1, s1⟩ := x
  obtain ⟨k2, n2, s2⟩ := y
  unfold Vl.go
  rcases Int.lt_trichotomy k1 k2 with hk | hk | hk
  · have E := Lib.hid (HV.out.symm.trans (vcmp_k1 hk))
    go_enter Try.func41, Try.ntmps41
    go_wp2
    go_ret
    exact ⟨by rw [E.out]; rfl, hB.out _ _⟩
  · subst hk
    rcases Int.lt_trichotomy n1 n2 with hn | hn | hn
    · have E := Lib.hid (HV.out.symm.trans (vcmp_n1 rfl hn))
      go_enter Try.func41, Try.ntmps41
      go_wp2
      go_ret
      exact ⟨by rw [E.out]; rfl, hB.out _ _⟩
    · subst hn
      cases hl : Op.bytesLess s1.toList s2.toList with
      | true =>
        have E := Lib.hid (HV.out.symm.trans ((vcmp_s (x := ⟨k1, n1, s1⟩) (y := ⟨k1, n1, s2⟩) rfl rfl).trans (show Xp.scmp s1 s2 = -1 by
          unfold Xp.scmp
          rw [if_neg (fun h => by rw [h, less_irrefl] at hl; cases hl), if_pos hl])))
        go_enter Try.func41, Try.ntmps41
        go_wp2
        go_ret
        exact ⟨by rw [E.out]; rfl, hB.out _ _⟩
      | false =>
        by_cases hs : s1 = s2
        · subst hs
          have E := Lib.hid (HV.out.symm.trans ((vcmp_s rfl rfl).trans (scmp_same _)))
          go_enter Try.func41, Try.ntmps41
          go_wp2
          go_ret
          exact ⟨by rw [E.out]; rfl, hB.out _ _⟩
        · have E := Lib.hid (HV.out.symm.trans ((vcmp_s (x := ⟨k1, n1, s1⟩) (y := ⟨k1, n1, s2⟩) rfl rfl).trans (show Xp.scmp s1 s2 = 1 by
            unfold Xp.scmp
            rw [if_neg (fun h => hs (toList_inj h)), hl]; rfl)))
          have hse : (s1.toList == s2.toList) = false := by
            cases e : (s1.toList == s2.toList) with
            | false => rfl
            | true => exact absurd (toList_inj (eq_of_beq e)) hs
          go_enter Try.func41, Try.ntmps41
          go_wp2
          go_ret
          exact ⟨by rw [E.out]; rfl, hB.out _ _⟩
    · have E := Lib.hid (HV.out.symm.trans (vcmp_n2 rfl hn))
      go_enter Try.func41, Try.ntmps41
      go_wp2
      go_ret
      exact ⟨by rw [E.out]; rfl, hB.out _ _⟩
  · have E := Lib.hid (HV.out.symm.trans (vcmp_k2 hk))
    go_enter Try.func41, Try.ntmps41
    go_wp2
    go_ret
    exact ⟨by rw [E.out]; rfl, hB.out _ _⟩

end Go.Proofs.Ytpgaldkedeohaaa
