/-
  The operators on numbers: arithmetic of package expr, and the reference's.
-/
import Derived.Test.YtpgaldkedeohaaaExprD
namespace Go.Proofs.Ytpgaldkedeohaaa
open Go.RowKit

theorem below_box3 (w : World) (o1 o2 o3 : Obj) (n : Nat) (u v x : Value) :
    Below w.heap.size w ((((((((w.alloc o1).alloc o2).alloc o3)).drewN n).setCell ⟨w.heap.size + 1 + 1, 0, none⟩ u).setCell ⟨w.heap.size + 1 + 1, 1, none⟩ v).setCell ⟨w.heap.size + 1 + 1, 2, none⟩ x) :=
  (((below_drewN (below_alloc (below_alloc (below_alloc (Below.refl w.heap.size w) o1) o2) o3) n).setCell (by simp; omega) _).setCell (by simp; omega) _).setCell (by simp; omega) _

theorem arith_no {op : Int} {x y : Vl} (h : ¬ (x.k = 1 ∧ y.k = 1)) : Xp.arith op x y = Xp.zero := by unfold Xp.arith; rw [if_neg h]
theorem arith_3 {x y : Vl} (h : x.k = 1 ∧ y.k = 1) : Xp.arith 3 x y = if Xp.i64 (x.n + y.n) = true then ⟨1, x.n + y.n, ⟨#[]⟩⟩ else Xp.zero := by unfold Xp.arith; rw [if_pos h]; rfl
theorem arith_4 {x y : Vl} (h : x.k = 1 ∧ y.k = 1) : Xp.arith 4 x y = if Xp.i64 (x.n - y.n) = true then ⟨1, x.n - y.n, ⟨#[]⟩⟩ else Xp.zero := by unfold Xp.arith; rw [if_pos h]; rfl
theorem arith_5 {x y : Vl} (h : x.k = 1 ∧ y.k = 1) : Xp.arith 5 x y = if Xp.i64 (x.n * y.n) = true then ⟨1, x.n * y.n, ⟨#[]⟩⟩ else Xp.zero := by unfold Xp.arith; rw [if_pos h]; rfl

theorem i64_yes {n : Int} (h : -9223372036854775808 ≤ n ∧ n ≤ 9223372036854775807) : Xp.i64 n = true := (i64_iff n).2 h
theorem i64_no {n : Int} (h : ¬ (-9223372036854775808 ≤ n ∧ n ≤ 9223372036854775807)) : Xp.i64 n = false := by
  cases e : Xp.i64 n with
  | false => rfl
  | true => exact absurd ((i64_iff n).1 e) h

theorem two_ops {w : World} {B : Nat} {a b c : Value} (h0 : w.cell? ⟨B, 0, none⟩ = some a) (h1 : w.cell? ⟨B, 1, none⟩ = some b) (h2 : w.cell? ⟨B, 2, none⟩ = some c) (u v x : Value) :
    (((w.setCell ⟨B, 0, none⟩ u).setCell ⟨B, 1, none⟩ v).setCell ⟨B, 2, none⟩ x).cell? ⟨B, 0, none⟩ = some u ∧ (((w.setCell ⟨B, 0, none⟩ u).setCell ⟨B, 1, none⟩ v).setCell ⟨B, 2, none⟩ x).cell? ⟨B, 1, none⟩ = some v ∧
      (((w.setCell ⟨B, 0, none⟩ u).setCell ⟨B, 1, none⟩ v).setCell ⟨B, 2, none⟩ x).cell? ⟨B, 2, none⟩ = some x := by
  have e1 : (w.setCell ⟨B, 0, none⟩ u).cell? ⟨B, 1, none⟩ = some b := by rw [World.cell?_setCell_other _ _ _ _ (by simp)]; exact h1
  have e2 : ((w.setCell ⟨B, 0, none⟩ u).setCell ⟨B, 1, none⟩ v).cell? ⟨B, 2, none⟩ = some c := by
    rw [World.cell?_setCell_other _ _ _ _ (by simp), World.cell?_setCell_other _ _ _ _ (by simp)]; exact h2
  refine ⟨?_, ?_, World.cell?_setCell_same' _ _ _ (by rw [e2]; rfl)⟩
  · rw [World.cell?_setCell_other _ _ _ _ (by simp), World.cell?_setCell_other _ _ _ _ (by simp)]
    exact World.cell?_setCell_same' _ _ _ (by rw [h0]; rfl)
  · rw [World.cell?_setCell_other _ _ _ _ (by simp)]
    exact World.cell?_setCell_same' _ _ _ (by rw [e1]; rfl)


set_option maxRecDepth 100000 in
set_option maxHeartbeats 2000000 in
theorem expr_add (x y : Vl) (w : World) (hx1 : -9223372036854775808 ≤ x.n) (hx2 : x.n ≤ 9223372036854775807) (hy1 : -9223372036854775808 ≤ y.n) (hy2 : y.n ≤ 9223372036854775807) :
    Calls Try.prog 36 #[.int .i64 3, x.go, y.go] w fun e w' => e = .returned (Xp.arith 3 x y).go ∧ Below w.heap.size w w' := by
  generalize hv : (Xp.arith 3 x y).go = V
  have HV := Lib.hid hv
  clear hv
  have hB := Lib.hid (fun o1 o2 o3 => below_alloc (below_alloc (below_alloc (Below.refl w.heap.size w) o1) o2) o3)
  obtain ⟨k1, x, s1⟩ := x
  obtain ⟨k2, y, s2⟩ := y
  unfold Vl.go
  have hx1 : -9223372036854775808 ≤ x := hx1
  have hx2 : x ≤ 9223372036854775807 := hx2
  have hy1 : -9223372036854775808 ≤ y := hy1
  have hy2 : y ≤ 9223372036854775807 := hy2
  by_cases c1 : k1 = 1
  case neg =>
    have E := Lib.hid (HV.out.symm.trans (congrArg Vl.go (arith_no (op := 3) (x := ⟨k1, x, s1⟩) (y := ⟨k2, y, s2⟩) (fun g => c1 g.1))))
    go_enter Try.func36, Try.ntmps36
    go_wp2_with fail
    refine bodyPost_ret (v := .agg #[.int .i64 0, .int .i64 0, .string ⟨#[]⟩]) (by simp [results, Try.results36, go_sem]) rfl ⟨by rw [E.out]; rfl, by first | exact hB.out _ _ _ | exact below_drewN (hB.out _ _ _) _ | exact below_box3 _ _ _ _ _ _ _ _⟩
  subst c1
  by_cases c2 : k2 = 1
  case neg =>
    have E := Lib.hid (HV.out.symm.trans (congrArg Vl.go (arith_no (op := 3) (x := ⟨1, x, s1⟩) (y := ⟨k2, y, s2⟩) (fun g => c2 g.2))))
    go_enter Try.func36, Try.ntmps36
    go_wp2_with fail
    refine bodyPost_ret (v := .agg #[.int .i64 0, .int .i64 0, .string ⟨#[]⟩]) (by simp [results, Try.results36, go_sem]) rfl ⟨by rw [E.out]; rfl, by first | exact hB.out _ _ _ | exact below_drewN (hB.out _ _ _) _ | exact below_box3 _ _ _ _ _ _ _ _⟩
  subst c2
  have HW := Lib.hid (HV.out.symm.trans (congrArg Vl.go (arith_3 (x := ⟨1, x, s1⟩) (y := ⟨1, y, s2⟩) ⟨rfl, rfl⟩)))
  clear HV

  have hy : y = 0 ∨ 0 < y ∨ y < 0 := by omega
  rcases hy with rfl | hy | hy
  · have E := Lib.hid (HW.out.trans (congrArg Vl.go (if_pos (i64_yes (show -9223372036854775808 ≤ x + 0 ∧ x + 0 ≤ 9223372036854775807 by omega)))))
    rw [show (⟨1, x, s1⟩ : Vl).n + (⟨1, 0, s2⟩ : Vl).n = x from by show x + 0 = x; omega] at E
    go_enter Try.func36, Try.ntmps36
    go_wp2_with fail
    refine bodyPost_ret (v := .agg #[.int .i64 1, .int .i64 x, .string ⟨#[]⟩]) (by simp [results, Try.results36, go_sem]) rfl ⟨by rw [E.out]; rfl, by first | exact hB.out _ _ _ | exact below_drewN (hB.out _ _ _) _ | exact below_box3 _ _ _ _ _ _ _ _⟩
  · have hd : decide (0 < y) = true := by simp; omega
    by_cases hf : -9223372036854775808 ≤ x + y ∧ x + y ≤ 9223372036854775807
    · obtain ⟨hf1, hf2⟩ := hf
      have E := Lib.hid (HW.out.trans (congrArg Vl.go (if_pos (i64_yes (show -9223372036854775808 ≤ x + y ∧ x + y ≤ 9223372036854775807 by omega)))))
      go_enter Try.func36, Try.ntmps36
      go_wp2_with fail
      refine bodyPost_ret (v := .agg #[.int .i64 1, .int .i64 (x + y), .string ⟨#[]⟩]) (by simp [results, Try.results36, go_sem]) rfl ⟨by rw [E.out]; rfl, by first | exact hB.out _ _ _ | exact below_drewN (hB.out _ _ _) _ | exact below_box3 _ _ _ _ _ _ _ _⟩
    · have E := Lib.hid (HW.out.trans (congrArg Vl.go (if_neg (fun h => by rw [i64_no (show ¬ (-9223372036854775808 ≤ x + y ∧ x + y ≤ 9223372036854775807) by omega)] at h; cases h))))
      obtain ⟨z, hz⟩ : ∃ z, wrap64 (x + y) = z := ⟨_, rfl⟩
      have hz1 : z < x := by rw [← hz]; unfold wrap64; omega
      clear hf
      have hdz : decide (x < z) = false := by simp; omega
      have hdy : (y == 0) = false := by simp; omega
      go_enter Try.func36, Try.ntmps36
      go_wp2_with fail
      refine bodyPost_ret (v := .agg #[.int .i64 0, .int .i64 0, .string ⟨#[]⟩]) (by simp [results, Try.results36, go_sem]) rfl ⟨by rw [E.out]; rfl, by first | exact hB.out _ _ _ | exact below_drewN (hB.out _ _ _) _ | exact below_box3 _ _ _ _ _ _ _ _⟩
  · have hd : decide (0 < y) = false := by simp; omega
    have hd0 : ¬ y = 0 := by omega
    by_cases hf : -9223372036854775808 ≤ x + y ∧ x + y ≤ 9223372036854775807
    · obtain ⟨hf1, hf2⟩ := hf
      have E := Lib.hid (HW.out.trans (congrArg Vl.go (if_pos (i64_yes (show -9223372036854775808 ≤ x + y ∧ x + y ≤ 9223372036854775807 by omega)))))
      go_enter Try.func36, Try.ntmps36
      go_wp2_with fail
      refine bodyPost_ret (v := .agg #[.int .i64 1, .int .i64 (x + y), .string ⟨#[]⟩]) (by simp [results, Try.results36, go_sem]) rfl ⟨by rw [E.out]; rfl, by first | exact hB.out _ _ _ | exact below_drewN (hB.out _ _ _) _ | exact below_box3 _ _ _ _ _ _ _ _⟩
    · have E := Lib.hid (HW.out.trans (congrArg Vl.go (if_neg (fun h => by rw [i64_no (show ¬ (-9223372036854775808 ≤ x + y ∧ x + y ≤ 9223372036854775807) by omega)] at h; cases h))))
      obtain ⟨z, hz⟩ : ∃ z, wrap64 (x + y) = z := ⟨_, rfl⟩
      have hz1 : x < z := by rw [← hz]; unfold wrap64; omega
      clear hf
      have hdz : decide (x < z) = true := by simp; omega
      have hdy : (y == 0) = false := by simp; omega
      go_enter Try.func36, Try.ntmps36
      go_wp2_with fail
      refine bodyPost_ret (v := .agg #[.int .i64 0, .int .i64 0, .string ⟨#[]⟩]) (by simp [results, Try.results36, go_sem]) rfl ⟨by rw [E.out]; rfl, by first | exact hB.out _ _ _ | exact below_drewN (hB.out _ _ _) _ | exact below_box3 _ _ _ _ _ _ _ _⟩


set_option maxRecDepth 100000 in
set_option maxHeartbeats 2000000 in
theorem expr_sub (x y : Vl) (w : World) (hx1 : -9223372036854775808 ≤ x.n) (hx2 : x.n ≤ 9223372036854775807) (hy1 : -9223372036854775808 ≤ y.n) (hy2 : y.n ≤ 9223372036854775807) :
    Calls Try.prog 36 #[.int .i64 4, x.go, y.go] w fun e w' => e = .returned (Xp.arith 4 x y).go ∧ Below w.heap.size w w' := by
  generalize hv : (Xp.arith 4 x y).go = V
  have HV := Lib.hid hv
  clear hv
  have hB := Lib.hid (fun o1 o2 o3 => below_alloc (below_alloc (below_alloc (Below.refl w.heap.size w) o1) o2) o3)
  obtain ⟨k1, x, s1⟩ := x
  obtain ⟨k2, y, s2⟩ := y
  unfold Vl.go
  have hx1 : -9223372036854775808 ≤ x := hx1
  have hx2 : x ≤ 9223372036854775807 := hx2
  have hy1 : -9223372036854775808 ≤ y := hy1
  have hy2 : y ≤ 9223372036854775807 := hy2
  by_cases c1 : k1 = 1
  case neg =>
    have E := Lib.hid (HV.out.symm.trans (congrArg Vl.go (arith_no (op := 4) (x := ⟨k1, x, s1⟩) (y := ⟨k2, y, s2⟩) (fun g => c1 g.1))))
    go_enter Try.func36, Try.ntmps36
    go_wp2_with fail
    refine bodyPost_ret (v := .agg #[.int .i64 0, .int .i64 0, .string ⟨#[]⟩]) (by simp [results, Try.results36, go_sem]) rfl ⟨by rw [E.out]; rfl, by first | exact hB.out _ _ _ | exact below_drewN (hB.out _ _ _) _ | exact below_box3 _ _ _ _ _ _ _ _⟩
  subst c1
  by_cases c2 : k2 = 1
  case neg =>
    have E := Lib.hid (HV.out.symm.trans (congrArg Vl.go (arith_no (op := 4) (x := ⟨1, x, s1⟩) (y := ⟨k2, y, s2⟩) (fun g => c2 g.2))))
    go_enter Try.func36, Try.ntmps36
    go_wp2_with fail
    refine bodyPost_ret (v := .agg #[.int .i64 0, .int .i64 0, .string ⟨#[]⟩]) (by simp [results, Try.results36, go_sem]) rfl ⟨by rw [E.out]; rfl, by first | exact hB.out _ _ _ | exact below_drewN (hB.out _ _ _) _ | exact below_box3 _ _ _ _ _ _ _ _⟩
  subst c2
  have HW := Lib.hid (HV.out.symm.trans (congrArg Vl.go (arith_4 (x := ⟨1, x, s1⟩) (y := ⟨1, y, s2⟩) ⟨rfl, rfl⟩)))
  clear HV

  have hy : y = 0 ∨ 0 < y ∨ y < 0 := by omega
  rcases hy with rfl | hy | hy
  · have E := Lib.hid (HW.out.trans (congrArg Vl.go (if_pos (i64_yes (show -9223372036854775808 ≤ x - 0 ∧ x - 0 ≤ 9223372036854775807 by omega)))))
    rw [show (⟨1, x, s1⟩ : Vl).n - (⟨1, 0, s2⟩ : Vl).n = x from by show x - 0 = x; omega] at E
    go_enter Try.func36, Try.ntmps36
    go_wp2_with fail
    refine bodyPost_ret (v := .agg #[.int .i64 1, .int .i64 x, .string ⟨#[]⟩]) (by simp [results, Try.results36, go_sem]) rfl ⟨by rw [E.out]; rfl, by first | exact hB.out _ _ _ | exact below_drewN (hB.out _ _ _) _ | exact below_box3 _ _ _ _ _ _ _ _⟩
  · have hd : decide (0 < y) = true := by simp; omega
    by_cases hf : -9223372036854775808 ≤ x - y ∧ x - y ≤ 9223372036854775807
    · obtain ⟨hf1, hf2⟩ := hf
      have E := Lib.hid (HW.out.trans (congrArg Vl.go (if_pos (i64_yes (show -9223372036854775808 ≤ x - y ∧ x - y ≤ 9223372036854775807 by omega)))))
      go_enter Try.func36, Try.ntmps36
      go_wp2_with fail
      refine bodyPost_ret (v := .agg #[.int .i64 1, .int .i64 (x - y), .string ⟨#[]⟩]) (by simp [results, Try.results36, go_sem]) rfl ⟨by rw [E.out]; rfl, by first | exact hB.out _ _ _ | exact below_drewN (hB.out _ _ _) _ | exact below_box3 _ _ _ _ _ _ _ _⟩
    · have E := Lib.hid (HW.out.trans (congrArg Vl.go (if_neg (fun h => by rw [i64_no (show ¬ (-9223372036854775808 ≤ x - y ∧ x - y ≤ 9223372036854775807) by omega)] at h; cases h))))
      obtain ⟨z, hz⟩ : ∃ z, wrap64 (x - y) = z := ⟨_, rfl⟩
      have hz1 : x < z := by rw [← hz]; unfold wrap64; omega
      clear hf
      have hdz : decide (z < x) = false := by simp; omega
      have hdy : (y == 0) = false := by simp; omega
      go_enter Try.func36, Try.ntmps36
      go_wp2_with fail
      refine bodyPost_ret (v := .agg #[.int .i64 0, .int .i64 0, .string ⟨#[]⟩]) (by simp [results, Try.results36, go_sem]) rfl ⟨by rw [E.out]; rfl, by first | exact hB.out _ _ _ | exact below_drewN (hB.out _ _ _) _ | exact below_box3 _ _ _ _ _ _ _ _⟩
  · have hd : decide (0 < y) = false := by simp; omega
    have hd0 : ¬ y = 0 := by omega
    by_cases hf : -9223372036854775808 ≤ x - y ∧ x - y ≤ 9223372036854775807
    · obtain ⟨hf1, hf2⟩ := hf
      have E := Lib.hid (HW.out.trans (congrArg Vl.go (if_pos (i64_yes (show -9223372036854775808 ≤ x - y ∧ x - y ≤ 9223372036854775807 by omega)))))
      go_enter Try.func36, Try.ntmps36
      go_wp2_with fail
      refine bodyPost_ret (v := .agg #[.int .i64 1, .int .i64 (x - y), .string ⟨#[]⟩]) (by simp [results, Try.results36, go_sem]) rfl ⟨by rw [E.out]; rfl, by first | exact hB.out _ _ _ | exact below_drewN (hB.out _ _ _) _ | exact below_box3 _ _ _ _ _ _ _ _⟩
    · have E := Lib.hid (HW.out.trans (congrArg Vl.go (if_neg (fun h => by rw [i64_no (show ¬ (-9223372036854775808 ≤ x - y ∧ x - y ≤ 9223372036854775807) by omega)] at h; cases h))))
      obtain ⟨z, hz⟩ : ∃ z, wrap64 (x - y) = z := ⟨_, rfl⟩
      have hz1 : z < x := by rw [← hz]; unfold wrap64; omega
      clear hf
      have hdz : decide (z < x) = true := by simp; omega
      have hdy : (y == 0) = false := by simp; omega
      go_enter Try.func36, Try.ntmps36
      go_wp2_with fail
      refine bodyPost_ret (v := .agg #[.int .i64 0, .int .i64 0, .string ⟨#[]⟩]) (by simp [results, Try.results36, go_sem]) rfl ⟨by rw [E.out]; rfl, by first | exact hB.out _ _ _ | exact below_drewN (hB.out _ _ _) _ | exact below_box3 _ _ _ _ _ _ _ _⟩


theorem multiply_yes (a b : Int) (w : World) (h : Xp.i64 (a * b) = true) (h1 : -9223372036854775808 ≤ a ∧ a ≤ 9223372036854775807) (h2 : -9223372036854775808 ≤ b ∧ b ≤ 9223372036854775807) :
    Calls Try.prog 48 #[.int .i64 a, .int .i64 b] w fun e w' => e = .returned (.tuple #[.int .i64 (a * b), .bool true]) ∧ w = w' :=
  (expr_multiply a b w h1 h2).mono fun e w' ⟨n, e1, e2, e3⟩ => ⟨by rw [e1, e2 h, h], e3⟩

def MulNo (w : World) (e : Ending) (w' : World) : Prop := ∃ n : Int, e = .returned (.tuple #[.int .i64 n, .bool false]) ∧ w = w'

theorem multiply_no (a b : Int) (w : World) (h : Xp.i64 (a * b) = false) (h1 : -9223372036854775808 ≤ a ∧ a ≤ 9223372036854775807) (h2 : -9223372036854775808 ≤ b ∧ b ≤ 9223372036854775807) :
    Calls Try.prog 48 #[.int .i64 a, .int .i64 b] w (MulNo w) :=
  (expr_multiply a b w h1 h2).mono fun e w' ⟨n, e1, _, e3⟩ => ⟨n, by rw [e1, h], e3⟩


set_option maxRecDepth 100000 in
set_option maxHeartbeats 2000000 in
theorem expr_mul (x y : Vl) (w : World) (hx1 : -9223372036854775808 ≤ x.n) (hx2 : x.n ≤ 9223372036854775807) (hy1 : -9223372036854775808 ≤ y.n) (hy2 : y.n ≤ 9223372036854775807) :
    Calls Try.prog 36 #[.int .i64 5, x.go, y.go] w fun e w' => e = .returned (Xp.arith 5 x y).go ∧ Below w.heap.size w w' := by
  generalize hv : (Xp.arith 5 x y).go = V
  have HV := Lib.hid hv
  clear hv
  have hB := Lib.hid (fun o1 o2 o3 => below_alloc (below_alloc (below_alloc (Below.refl w.heap.size w) o1) o2) o3)
  obtain ⟨k1, x, s1⟩ := x
  obtain ⟨k2, y, s2⟩ := y
  unfold Vl.go
  have hx1 : -9223372036854775808 ≤ x := hx1
  have hx2 : x ≤ 9223372036854775807 := hx2
  have hy1 : -9223372036854775808 ≤ y := hy1
  have hy2 : y ≤ 9223372036854775807 := hy2
  by_cases c1 : k1 = 1
  case neg =>
    have E := Lib.hid (HV.out.symm.trans (congrArg Vl.go (arith_no (op := 5) (x := ⟨k1, x, s1⟩) (y := ⟨k2, y, s2⟩) (fun g => c1 g.1))))
    go_enter Try.func36, Try.ntmps36
    go_wp2_with fail
    refine bodyPost_ret (v := .agg #[.int .i64 0, .int .i64 0, .string ⟨#[]⟩]) (by simp [results, Try.results36, go_sem]) rfl ⟨by rw [E.out]; rfl, by first | exact hB.out _ _ _ | exact below_drewN (hB.out _ _ _) _ | exact below_box3 _ _ _ _ _ _ _ _⟩
  subst c1
  by_cases c2 : k2 = 1
  case neg =>
    have E := Lib.hid (HV.out.symm.trans (congrArg Vl.go (arith_no (op := 5) (x := ⟨1, x, s1⟩) (y := ⟨k2, y, s2⟩) (fun g => c2 g.2))))
    go_enter Try.func36, Try.ntmps36
    go_wp2_with fail
    refine bodyPost_ret (v := .agg #[.int .i64 0, .int .i64 0, .string ⟨#[]⟩]) (by simp [results, Try.results36, go_sem]) rfl ⟨by rw [E.out]; rfl, by first | exact hB.out _ _ _ | exact below_drewN (hB.out _ _ _) _ | exact below_box3 _ _ _ _ _ _ _ _⟩
  subst c2
  have HW := Lib.hid (HV.out.symm.trans (congrArg Vl.go (arith_5 (x := ⟨1, x, s1⟩) (y := ⟨1, y, s2⟩) ⟨rfl, rfl⟩)))
  clear HV

  cases hp : Xp.i64 (x * y) with
  | true =>
    have E := Lib.hid (HW.out.trans (congrArg Vl.go (if_pos hp)))
    have HP := Lib.hid hp
    clear hp
    go_enter Try.func36, Try.ntmps36
    go_wp2_with fail
    refine (multiply_yes x y _ HP.out ⟨hx1, hx2⟩ ⟨hy1, hy2⟩).mono ?_
    rintro e w9 ⟨rfl, rfl⟩
    go_wp2_with fail
    refine bodyPost_ret (v := .agg #[.int .i64 1, .int .i64 (x * y), .string ⟨#[]⟩]) (by simp [results, Try.results36, go_sem]) rfl ⟨by rw [E.out]; rfl, by first | exact hB.out _ _ _ | exact below_drewN (hB.out _ _ _) _ | exact below_box3 _ _ _ _ _ _ _ _⟩
  | false =>
    have E := Lib.hid (HW.out.trans (congrArg Vl.go (if_neg (fun h => by rw [hp] at h; cases h))))
    have HP := Lib.hid hp
    clear hp
    go_enter Try.func36, Try.ntmps36
    go_wp2_with fail
    refine (multiply_no x y _ HP.out ⟨hx1, hx2⟩ ⟨hy1, hy2⟩).mono ?_
    rintro e w9 ⟨n, rfl, rfl⟩
    go_wp2_with fail
    refine bodyPost_ret (v := .agg #[.int .i64 0, .int .i64 0, .string ⟨#[]⟩]) (by simp [results, Try.results36, go_sem]) rfl ⟨by rw [E.out]; rfl, by first | exact hB.out _ _ _ | exact below_drewN (hB.out _ _ _) _ | exact below_box3 _ _ _ _ _ _ _ _⟩

end Go.Proofs.Ytpgaldkedeohaaa
