/-
  The reference's sums and differences.
-/
import Derived.Test.YtpgaldkedeohaaaExprF
namespace Go.Proofs.Ytpgaldkedeohaaa
open Go.RowKit


set_option maxRecDepth 100000 in
set_option maxHeartbeats 2000000 in
theorem ref_add (x y : Vl) (w : World) (hx1 : -9223372036854775808 ≤ x.n) (hx2 : x.n ≤ 9223372036854775807) (hy1 : -9223372036854775808 ≤ y.n) (hy2 : y.n ≤ 9223372036854775807) :
    Calls Try.prog 43 #[.int .i64 3, x.go, y.go] w fun e w' => e = .returned (Xp.arith 3 x y).go ∧ Below w.heap.size w w' := by
  generalize hv : (Xp.arith 3 x y).go = V
  have HV := Lib.hid hv
  clear hv
  have hB := Lib.hid (fun o1 o2 o3 => below_alloc (below_alloc (below_alloc (Below.refl w.heap.size w) o1) o2) o3)
  obtain ⟨k1, x, s1⟩ := x
  obtain ⟨k2, y, s2⟩ := y
  unfold Vl.go
  have hx1 : -9223372036854775808 ≤ x := hx1
  have hx2 : x ≤ 9223372036854775807 := hx2
  have hy1 : -9223372036854775808 ≤ y := hy1
  have hy2 : y ≤ 9223372036854775807 := hy2
  by_cases c1 : k1 = 1
  case neg =>
    have E := Lib.hid (HV.out.symm.trans (congrArg Vl.go (arith_no (op := 3) (x := ⟨k1, x, s1⟩) (y := ⟨k2, y, s2⟩) (fun g => c1 g.1))))
    go_enter Try.func43, Try.ntmps43
    go_wp2_with fail
    refine bodyPost_ret (v := .agg #[.int .i64 0, .int .i64 0, .string ⟨#[]⟩]) (by simp [results, Try.results43, go_sem]) rfl ⟨by rw [E.out]; rfl, by first | exact hB.out _ _ _ | exact below_drewN (hB.out _ _ _) _ | exact below_box3 _ _ _ _ _ _ _ _⟩
  subst c1
  by_cases c2 : k2 = 1
  case neg =>
    have E := Lib.hid (HV.out.symm.trans (congrArg Vl.go (arith_no (op := 3) (x := ⟨1, x, s1⟩) (y := ⟨k2, y, s2⟩) (fun g => c2 g.2))))
    go_enter Try.func43, Try.ntmps43
    go_wp2_with fail
    refine bodyPost_ret (v := .agg #[.int .i64 0, .int .i64 0, .string ⟨#[]⟩]) (by simp [results, Try.results43, go_sem]) rfl ⟨by rw [E.out]; rfl, by first | exact hB.out _ _ _ | exact below_drewN (hB.out _ _ _) _ | exact below_box3 _ _ _ _ _ _ _ _⟩
  subst c2
  have HW := Lib.hid (HV.out.symm.trans (congrArg Vl.go (arith_3 (x := ⟨1, x, s1⟩) (y := ⟨1, y, s2⟩) ⟨rfl, rfl⟩)))
  clear HV

  have hy : y = 0 ∨ 0 < y ∨ y < 0 := by omega
  rcases hy with rfl | hy | hy
  · have E := Lib.hid (HW.out.trans (congrArg Vl.go (if_pos (i64_yes (show -9223372036854775808 ≤ x + 0 ∧ x + 0 ≤ 9223372036854775807 by omega)))))
    rw [show (⟨1, x, s1⟩ : Vl).n + (⟨1, 0, s2⟩ : Vl).n = x from by show x + 0 = x; omega] at E
    go_enter Try.func43, Try.ntmps43
    go_wp2_with fail
    go_quiet (fail)
    go_wp2_with fail
    refine bodyPost_ret (v := .agg #[.int .i64 1, .int .i64 x, .string ⟨#[]⟩]) (by simp [results, Try.results43, go_sem]) rfl ⟨by rw [E.out]; rfl, by first | exact hB.out _ _ _ | exact below_drewN (hB.out _ _ _) _ | exact below_box3 _ _ _ _ _ _ _ _⟩
  · have hd : decide (0 < y) = true := by simp; omega
    by_cases hf : -9223372036854775808 ≤ x + y ∧ x + y ≤ 9223372036854775807
    · obtain ⟨hf1, hf2⟩ := hf
      have hdz : decide (x < x + y) = true := decide_eq_true (by omega)
      have E := Lib.hid (HW.out.trans (congrArg Vl.go (if_pos (i64_yes (show -9223372036854775808 ≤ x + y ∧ x + y ≤ 9223372036854775807 by omega)))))
      go_enter Try.func43, Try.ntmps43
      go_wp2_with fail
      go_quiet (fail)
      go_wp2_with fail
      refine bodyPost_ret (v := .agg #[.int .i64 1, .int .i64 (x + y), .string ⟨#[]⟩]) (by simp [results, Try.results43, go_sem]) rfl ⟨by rw [E.out]; rfl, by first | exact hB.out _ _ _ | exact below_drewN (hB.out _ _ _) _ | exact below_box3 _ _ _ _ _ _ _ _⟩
    · have E := Lib.hid (HW.out.trans (congrArg Vl.go (if_neg (fun h => by rw [i64_no (show ¬ (-9223372036854775808 ≤ x + y ∧ x + y ≤ 9223372036854775807) by omega)] at h; cases h))))
      obtain ⟨z, hz⟩ : ∃ z, wrap64 (x + y) = z := ⟨_, rfl⟩
      have hz1 : z < x := by rw [← hz]; unfold wrap64; omega
      clear hf
      have hdz : decide (x < z) = false := by simp; omega
      have hdy : (y == 0) = false := by simp; omega
      go_enter Try.func43, Try.ntmps43
      go_wp2_with fail
      go_quiet (fail)
      go_wp2_with fail
      refine bodyPost_ret (v := .agg #[.int .i64 0, .int .i64 0, .string ⟨#[]⟩]) (by simp [results, Try.results43, go_sem]) rfl ⟨by rw [E.out]; rfl, by first | exact hB.out _ _ _ | exact below_drewN (hB.out _ _ _) _ | exact below_box3 _ _ _ _ _ _ _ _⟩
  · have hd : decide (0 < y) = false := by simp; omega
    have hd0 : ¬ y = 0 := by omega
    by_cases hf : -9223372036854775808 ≤ x + y ∧ x + y ≤ 9223372036854775807
    · obtain ⟨hf1, hf2⟩ := hf
      have hdz : decide (x < x + y) = false := decide_eq_false (by omega)
      have E := Lib.hid (HW.out.trans (congrArg Vl.go (if_pos (i64_yes (show -9223372036854775808 ≤ x + y ∧ x + y ≤ 9223372036854775807 by omega)))))
      go_enter Try.func43, Try.ntmps43
      go_wp2_with fail
      go_quiet (fail)
      go_wp2_with fail
      refine bodyPost_ret (v := .agg #[.int .i64 1, .int .i64 (x + y), .string ⟨#[]⟩]) (by simp [results, Try.results43, go_sem]) rfl ⟨by rw [E.out]; rfl, by first | exact hB.out _ _ _ | exact below_drewN (hB.out _ _ _) _ | exact below_box3 _ _ _ _ _ _ _ _⟩
    · have E := Lib.hid (HW.out.trans (congrArg Vl.go (if_neg (fun h => by rw [i64_no (show ¬ (-9223372036854775808 ≤ x + y ∧ x + y ≤ 9223372036854775807) by omega)] at h; cases h))))
      obtain ⟨z, hz⟩ : ∃ z, wrap64 (x + y) = z := ⟨_, rfl⟩
      have hz1 : x < z := by rw [← hz]; unfold wrap64; omega
      clear hf
      have hdz : decide (x < z) = true := by simp; omega
      have hdy : (y == 0) = false := by simp; omega
      go_enter Try.func43, Try.ntmps43
      go_wp2_with fail
      go_quiet (fail)
      go_wp2_with fail
      refine bodyPost_ret (v := .agg #[.int .i64 0, .int .i64 0, .string ⟨#[]⟩]) (by simp [results, Try.results43, go_sem]) rfl ⟨by rw [E.out]; rfl, by first | exact hB.out _ _ _ | exact below_drewN (hB.out _ _ _) _ | exact below_box3 _ _ _ _ _ _ _ _⟩


set_option maxRecDepth 100000 in
set_option maxHeartbeats 2000000 in
theorem ref_sub (x y : Vl) (w : World) (hx1 : -9223372036854775808 ≤ x.n) (hx2 : x.n ≤ 9223372036854775807) (hy1 : -9223372036854775808 ≤ y.n) (hy2 : y.n ≤ 9223372036854775807) :
    Calls Try.prog 43 #[.int .i64 4, x.go, y.go] w fun e w' => e = .returned (Xp.arith 4 x y).go ∧ Below w.heap.size w w' := by
  generalize hv : (Xp.arith 4 x y).go = V
  have HV := Lib.hid hv
  clear hv
  have hB := Lib.hid (fun o1 o2 o3 => below_alloc (below_alloc (below_alloc (Below.refl w.heap.size w) o1) o2) o3)
  obtain ⟨k1, x, s1⟩ := x
  obtain ⟨k2, y, s2⟩ := y
  unfold Vl.go
  have hx1 : -9223372036854775808 ≤ x := hx1
  have hx2 : x ≤ 9223372036854775807 := hx2
  have hy1 : -9223372036854775808 ≤ y := hy1
  have hy2 : y ≤ 9223372036854775807 := hy2
  by_cases c1 : k1 = 1
  case neg =>
    have E := Lib.hid (HV.out.symm.trans (congrArg Vl.go (arith_no (op := 4) (x := ⟨k1, x, s1⟩) (y := ⟨k2, y, s2⟩) (fun g => c1 g.1))))
    go_enter Try.func43, Try.ntmps43
    go_wp2_with fail
    refine bodyPost_ret (v := .agg #[.int .i64 0, .int .i64 0, .string ⟨#[]⟩]) (by simp [results, Try.results43, go_sem]) rfl ⟨by rw [E.out]; rfl, by first | exact hB.out _ _ _ | exact below_drewN (hB.out _ _ _) _ | exact below_box3 _ _ _ _ _ _ _ _⟩
  subst c1
  by_cases c2 : k2 = 1
  case neg =>
    have E := Lib.hid (HV.out.symm.trans (congrArg Vl.go (arith_no (op := 4) (x := ⟨1, x, s1⟩) (y := ⟨k2, y, s2⟩) (fun g => c2 g.2))))
    go_enter Try.func43, Try.ntmps43
    go_wp2_with fail
    refine bodyPost_ret (v := .agg #[.int .i64 0, .int .i64 0, .string ⟨#[]⟩]) (by simp [results, Try.results43, go_sem]) rfl ⟨by rw [E.out]; rfl, by first | exact hB.out _ _ _ | exact below_drewN (hB.out _ _ _) _ | exact below_box3 _ _ _ _ _ _ _ _⟩
  subst c2
  have HW := Lib.hid (HV.out.symm.trans (congrArg Vl.go (arith_4 (x := ⟨1, x, s1⟩) (y := ⟨1, y, s2⟩) ⟨rfl, rfl⟩)))
  clear HV

  have hy : y = 0 ∨ 0 < y ∨ y < 0 := by omega
  rcases hy with rfl | hy | hy
  · have E := Lib.hid (HW.out.trans (congrArg Vl.go (if_pos (i64_yes (show -9223372036854775808 ≤ x - 0 ∧ x - 0 ≤ 9223372036854775807 by omega)))))
    rw [show (⟨1, x, s1⟩ : Vl).n - (⟨1, 0, s2⟩ : Vl).n = x from by show x - 0 = x; omega] at E
    go_enter Try.func43, Try.ntmps43
    go_wp2_with fail
    go_quiet (fail)
    go_wp2_with fail
    refine bodyPost_ret (v := .agg #[.int .i64 1, .int .i64 x, .string ⟨#[]⟩]) (by simp [results, Try.results43, go_sem]) rfl ⟨by rw [E.out]; rfl, by first | exact hB.out _ _ _ | exact below_drewN (hB.out _ _ _) _ | exact below_box3 _ _ _ _ _ _ _ _⟩
  · have hd : decide (0 < y) = true := by simp; omega
    by_cases hf : -9223372036854775808 ≤ x - y ∧ x - y ≤ 9223372036854775807
    · obtain ⟨hf1, hf2⟩ := hf
      have hdz : decide (x - y < x) = true := decide_eq_true (by omega)
      have E := Lib.hid (HW.out.trans (congrArg Vl.go (if_pos (i64_yes (show -9223372036854775808 ≤ x - y ∧ x - y ≤ 9223372036854775807 by omega)))))
      go_enter Try.func43, Try.ntmps43
      go_wp2_with fail
      go_quiet (fail)
      go_wp2_with fail
      refine bodyPost_ret (v := .agg #[.int .i64 1, .int .i64 (x - y), .string ⟨#[]⟩]) (by simp [results, Try.results43, go_sem]) rfl ⟨by rw [E.out]; rfl, by first | exact hB.out _ _ _ | exact below_drewN (hB.out _ _ _) _ | exact below_box3 _ _ _ _ _ _ _ _⟩
    · have E := Lib.hid (HW.out.trans (congrArg Vl.go (if_neg (fun h => by rw [i64_no (show ¬ (-9223372036854775808 ≤ x - y ∧ x - y ≤ 9223372036854775807) by omega)] at h; cases h))))
      obtain ⟨z, hz⟩ : ∃ z, wrap64 (x - y) = z := ⟨_, rfl⟩
      have hz1 : x < z := by rw [← hz]; unfold wrap64; omega
      clear hf
      have hdz : decide (z < x) = false := by simp; omega
      have hdy : (y == 0) = false := by simp; omega
      go_enter Try.func43, Try.ntmps43
      go_wp2_with fail
      go_quiet (fail)
      go_wp2_with fail
      refine bodyPost_ret (v := .agg #[.int .i64 0, .int .i64 0, .string ⟨#[]⟩]) (by simp [results, Try.results43, go_sem]) rfl ⟨by rw [E.out]; rfl, by first | exact hB.out _ _ _ | exact below_drewN (hB.out _ _ _) _ | exact below_box3 _ _ _ _ _ _ _ _⟩
  · have hd : decide (0 < y) = false := by simp; omega
    have hd0 : ¬ y = 0 := by omega
    by_cases hf : -9223372036854775808 ≤ x - y ∧ x - y ≤ 9223372036854775807
    · obtain ⟨hf1, hf2⟩ := hf
      have hdz : decide (x - y < x) = false := decide_eq_false (by omega)
      have E := Lib.hid (HW.out.trans (congrArg Vl.go (if_pos (i64_yes (show -9223372036854775808 ≤ x - y ∧ x - y ≤ 9223372036854775807 by omega)))))
      go_enter Try.func43, Try.ntmps43
      go_wp2_with fail
      go_quiet (fail)
      go_wp2_with fail
      refine bodyPost_ret (v := .agg #[.int .i64 1, .int .i64 (x - y), .string ⟨#[]⟩]) (by simp [results, Try.results43, go_sem]) rfl ⟨by rw [E.out]; rfl, by first | exact hB.out _ _ _ | exact below_drewN (hB.out _ _ _) _ | exact below_box3 _ _ _ _ _ _ _ _⟩
    · have E := Lib.hid (HW.out.trans (congrArg Vl.go (if_neg (fun h => by rw [i64_no (show ¬ (-9223372036854775808 ≤ x - y ∧ x - y ≤ 9223372036854775807) by omega)] at h; cases h))))
      obtain ⟨z, hz⟩ : ∃ z, wrap64 (x - y) = z := ⟨_, rfl⟩
      have hz1 : z < x := by rw [← hz]; unfold wrap64; omega
      clear hf
      have hdz : decide (z < x) = true := by simp; omega
      have hdy : (y == 0) = false := by simp; omega
      go_enter Try.func43, Try.ntmps43
      go_wp2_with fail
      go_quiet (fail)
      go_wp2_with fail
      refine bodyPost_ret (v := .agg #[.int .i64 0, .int .i64 0, .string ⟨#[]⟩]) (by simp [results, Try.results43, go_sem]) rfl ⟨by rw [E.out]; rfl, by first | exact hB.out _ _ _ | exact below_drewN (hB.out _ _ _) _ | exact below_box3 _ _ _ _ _ _ _ _⟩

end Go.Proofs.Ytpgaldkedeohaaa
