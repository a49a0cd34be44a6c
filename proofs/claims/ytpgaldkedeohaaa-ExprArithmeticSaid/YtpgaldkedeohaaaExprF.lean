/-
  The reference's operators on numbers.
-/
import Derived.Test.YtpgaldkedeohaaaExprE
namespace Go.Proofs.Ytpgaldkedeohaaa
open Go.RowKit


theorem mul_div {x y z : Int} (hy : -9223372036854775808 ≤ y ∧ y ≤ 9223372036854775807) (hz : wrap64 (x * y) = z) (h0 : y ≠ 0) (hq : z.tdiv y = x) : z = x * y := by
  have e := Int.mul_tdiv_add_tmod z y
  rw [hq] at e
  obtain ⟨P, hP⟩ : ∃ P, x * y = P := ⟨_, rfl⟩
  rw [Int.mul_comm] at e
  rw [hP] at e hz ⊢
  have hr : (z.tmod y).natAbs < y.natAbs := by
    have := Int.natAbs_tmod z y
    rw [this]
    exact Nat.mod_lt _ (by omega)
  unfold wrap64 at hz
  omega

theorem tdiv_bd {z y : Int} (hz : -9223372036854775808 ≤ z ∧ z ≤ 9223372036854775807) (h0 : y ≠ 0) (h2 : ¬ y = -1) : -9223372036854775808 ≤ z.tdiv y ∧ z.tdiv y ≤ 9223372036854775807 := by
  have h : (z.tdiv y).natAbs = z.natAbs / y.natAbs := Int.natAbs_tdiv z y
  by_cases h1 : y = 1
  · subst h1; rw [Int.tdiv_one]; exact hz
  · have h3 : z.natAbs / y.natAbs ≤ z.natAbs / 2 := Nat.div_le_div_left (by omega) (by omega)
    rw [← h] at h3
    generalize z.tdiv y = q at *
    omega

theorem tdiv_mul {x y : Int} (h0 : y ≠ 0) : (x * y).tdiv y = x := Int.mul_tdiv_cancel x h0


set_option maxRecDepth 100000 in
set_option maxHeartbeats 2000000 in
theorem ref_mul (x y : Vl) (w : World) (hx1 : -9223372036854775808 ≤ x.n) (hx2 : x.n ≤ 9223372036854775807) (hy1 : -9223372036854775808 ≤ y.n) (hy2 : y.n ≤ 9223372036854775807) :
    Calls Try.prog 43 #[.int .i64 5, x.go, y.go] w fun e w' => e = .returned (Xp.arith 5 x y).go ∧ Below w.heap.size w w' := by
  generalize hv : (Xp.arith 5 x y).go = V
  have HV := Lib.hid hv
  clear hv
  have hB := Lib.hid (fun o1 o2 o3 => below_alloc (below_alloc (below_alloc (Below.refl w.heap.size w) o1) o2) o3)
  obtain ⟨k1, x, s1⟩ := x
  obtain ⟨k2, y, s2⟩ := y
  unfold Vl.go
  have hx1 : -9223372036854775808 ≤ x := hx1
  have hx2 : x ≤ 9223372036854775807 := hx2
  have hy1 : -9223372036854775808 ≤ y := hy1
  have hy2 : y ≤ 9223372036854775807 := hy2
  by_cases c1 : k1 = 1
  case neg =>
    have E := Lib.hid (HV.out.symm.trans (congrArg Vl.go (arith_no (op := 5) (x := ⟨k1, x, s1⟩) (y := ⟨k2, y, s2⟩) (fun g => c1 g.1))))
    go_enter Try.func43, Try.ntmps43
    go_wp2_with fail
    refine bodyPost_ret (v := .agg #[.int .i64 0, .int .i64 0, .string ⟨#[]⟩]) (by simp [results, Try.results43, go_sem]) rfl ⟨by rw [E.out]; rfl, by first | exact hB.out _ _ _ | exact below_drewN (hB.out _ _ _) _ | exact below_box3 _ _ _ _ _ _ _ _⟩
  subst c1
  by_cases c2 : k2 = 1
  case neg =>
    have E := Lib.hid (HV.out.symm.trans (congrArg Vl.go (arith_no (op := 5) (x := ⟨1, x, s1⟩) (y := ⟨k2, y, s2⟩) (fun g => c2 g.2))))
    go_enter Try.func43, Try.ntmps43
    go_wp2_with fail
    refine bodyPost_ret (v := .agg #[.int .i64 0, .int .i64 0, .string ⟨#[]⟩]) (by simp [results, Try.results43, go_sem]) rfl ⟨by rw [E.out]; rfl, by first | exact hB.out _ _ _ | exact below_drewN (hB.out _ _ _) _ | exact below_box3 _ _ _ _ _ _ _ _⟩
  subst c2
  have HW := Lib.hid (HV.out.symm.trans (congrArg Vl.go (arith_5 (x := ⟨1, x, s1⟩) (y := ⟨1, y, s2⟩) ⟨rfl, rfl⟩)))
  clear HV

  by_cases qx0 : x = 0
  · subst qx0
    have E := Lib.hid (HW.out.trans (congrArg Vl.go ((if_pos (i64_yes (show -9223372036854775808 ≤ 0 * y ∧ 0 * y ≤ 9223372036854775807 by omega))).trans (show (⟨1, 0 * y, ⟨#[]⟩⟩ : Vl) = ⟨1, 0, ⟨#[]⟩⟩ by congr 1; omega))))
    go_enter Try.func43, Try.ntmps43
    go_wp2_with fail
    go_quiet (fail)
    go_wp2_with fail
    refine bodyPost_ret (v := .agg #[.int .i64 1, .int .i64 (0), .string ⟨#[]⟩]) (by simp [results, Try.results43, go_sem]) rfl ⟨by rw [E.out]; rfl, by first | exact hB.out _ _ _ | exact below_drewN (hB.out _ _ _) _ | exact below_box3 _ _ _ _ _ _ _ _⟩
  by_cases qy0 : y = 0
  · subst qy0
    have E := Lib.hid (HW.out.trans (congrArg Vl.go ((if_pos (i64_yes (show -9223372036854775808 ≤ x * 0 ∧ x * 0 ≤ 9223372036854775807 by omega))).trans (show (⟨1, x * 0, ⟨#[]⟩⟩ : Vl) = ⟨1, 0, ⟨#[]⟩⟩ by congr 1; omega))))
    go_enter Try.func43, Try.ntmps43
    go_wp2_with fail
    go_quiet (fail)
    go_wp2_with fail
    refine bodyPost_ret (v := .agg #[.int .i64 1, .int .i64 (0), .string ⟨#[]⟩]) (by simp [results, Try.results43, go_sem]) rfl ⟨by rw [E.out]; rfl, by first | exact hB.out _ _ _ | exact below_drewN (hB.out _ _ _) _ | exact below_box3 _ _ _ _ _ _ _ _⟩
  by_cases qx1 : x = 1
  · subst qx1
    have E := Lib.hid (HW.out.trans (congrArg Vl.go ((if_pos (i64_yes (show -9223372036854775808 ≤ 1 * y ∧ 1 * y ≤ 9223372036854775807 by omega))).trans (show (⟨1, 1 * y, ⟨#[]⟩⟩ : Vl) = ⟨1, y, ⟨#[]⟩⟩ by congr 1; omega))))
    go_enter Try.func43, Try.ntmps43
    go_wp2_with fail
    go_quiet (fail)
    go_wp2_with fail
    refine bodyPost_ret (v := .agg #[.int .i64 1, .int .i64 (y), .string ⟨#[]⟩]) (by simp [results, Try.results43, go_sem]) rfl ⟨by rw [E.out]; rfl, by first | exact hB.out _ _ _ | exact below_drewN (hB.out _ _ _) _ | exact below_box3 _ _ _ _ _ _ _ _⟩
  by_cases qy1 : y = 1
  · subst qy1
    have E := Lib.hid (HW.out.trans (congrArg Vl.go ((if_pos (i64_yes (show -9223372036854775808 ≤ x * 1 ∧ x * 1 ≤ 9223372036854775807 by omega))).trans (show (⟨1, x * 1, ⟨#[]⟩⟩ : Vl) = ⟨1, x, ⟨#[]⟩⟩ by congr 1; omega))))
    go_enter Try.func43, Try.ntmps43
    go_wp2_with fail
    go_quiet (fail)
    go_wp2_with fail
    refine bodyPost_ret (v := .agg #[.int .i64 1, .int .i64 (x), .string ⟨#[]⟩]) (by simp [results, Try.results43, go_sem]) rfl ⟨by rw [E.out]; rfl, by first | exact hB.out _ _ _ | exact below_drewN (hB.out _ _ _) _ | exact below_box3 _ _ _ _ _ _ _ _⟩
  obtain ⟨z, hz⟩ : ∃ z, wrap64 (x * y) = z := ⟨_, rfl⟩
  obtain ⟨q, hq⟩ : ∃ q, wrap64 (z.tdiv y) = q := ⟨_, rfl⟩
  have hz1 : -9223372036854775808 ≤ z ∧ z ≤ 9223372036854775807 := by rw [← hz]; unfold wrap64; omega
  by_cases hf : -9223372036854775808 ≤ x * y ∧ x * y ≤ 9223372036854775807
  · have hzz : z = x * y := by rw [← hz]; exact IntWalk.wrap64_in _ hf
    have hqq : q = x := by rw [← hq, hzz, tdiv_mul qy0]; exact IntWalk.wrap64_in _ ⟨hx1, hx2⟩
    subst hqq
    have hn : ¬ (q = -1 ∧ y = -9223372036854775808) ∧ ¬ (y = -1 ∧ q = -9223372036854775808) := by
      constructor
      · rintro ⟨rfl, rfl⟩; omega
      · rintro ⟨rfl, rfl⟩; omega
    have E := Lib.hid (HW.out.trans (congrArg Vl.go (if_pos (i64_yes hf))))
    have HZ := Lib.hid hzz
    obtain ⟨hz1, hz2⟩ := hz1
    obtain ⟨hn1, hn2⟩ := hn
    have hn1 := Lib.hid hn1
    have hn2 := Lib.hid hn2
    have y0 : (y == 0) = false := by simp; omega
    have y1 : (y == 1) = false := by simp; omega
    have x0 : (q == 0) = false := by simp; omega
    have x1 : (q == 1) = false := by simp; omega
    clear hf hzz
    go_enter Try.func43, Try.ntmps43
    go_wp2_with fail
    go_quiet (fail)
    go_wp2_with fail
    all_goals first
      | (exfalso; have h1 := hn1.out; have h2 := hn2.out; omega)
      | (refine bodyPost_ret (v := .agg #[.int .i64 1, .int .i64 z, .string ⟨#[]⟩]) (by simp [results, Try.results43, go_sem]) rfl ⟨by rw [E.out, ← HZ.out]; rfl, by first | exact hB.out _ _ _ | exact below_drewN (hB.out _ _ _) _ | exact below_box3 _ _ _ _ _ _ _ _⟩)
  · by_cases y1 : y = -1
    · subst y1
      obtain rfl : x = -9223372036854775808 := by omega
      have hz3 : z = -9223372036854775808 := by rw [← hz]; decide +kernel
      subst hz3
      have hq3 : q = -9223372036854775808 := by rw [← hq]; decide +kernel
      subst hq3
      clear hz hq
      have hw : wrap64 9223372036854775808 = -9223372036854775808 := by decide +kernel
      have E := Lib.hid (HW.out.trans (congrArg Vl.go (if_neg (fun h => by rw [i64_no hf] at h; cases h))))
      clear hf hz1
      go_enter Try.func43, Try.ntmps43
      go_wp2_with fail
      go_quiet (fail)
      go_wp2_with fail
      refine bodyPost_ret (v := .agg #[.int .i64 0, .int .i64 0, .string ⟨#[]⟩]) (by simp [results, Try.results43, go_sem]) rfl ⟨by rw [E.out]; rfl, by first | exact hB.out _ _ _ | exact below_drewN (hB.out _ _ _) _ | exact below_box3 _ _ _ _ _ _ _ _⟩
    · have hne : ¬ q = x := by
        intro e
        have hb := tdiv_bd hz1 qy0 y1
        have : z.tdiv y = x := by rw [← e, ← hq]; exact (IntWalk.wrap64_in _ hb).symm
        have := mul_div ⟨hy1, hy2⟩ hz qy0 this
        rw [← this] at hf
        exact hf hz1
      have E := Lib.hid (HW.out.trans (congrArg Vl.go (if_neg (fun h => by rw [i64_no hf] at h; cases h))))
      have hqx : (q == x) = false := by simp; exact hne
      clear hf
      obtain ⟨hz1, hz2⟩ := hz1
      have y0 : (y == 0) = false := by simp; omega
      have y1' : (y == 1) = false := by simp; omega
      have x0 : (x == 0) = false := by simp; omega
      have x1 : (x == 1) = false := by simp; omega
      go_enter Try.func43, Try.ntmps43
      go_wp2_with fail
      go_quiet (fail)
      go_wp2_with fail
      refine bodyPost_ret (v := .agg #[.int .i64 0, .int .i64 0, .string ⟨#[]⟩]) (by simp [results, Try.results43, go_sem]) rfl ⟨by rw [E.out]; rfl, by first | exact hB.out _ _ _ | exact below_drewN (hB.out _ _ _) _ | exact below_box3 _ _ _ _ _ _ _ _⟩

end Go.Proofs.Ytpgaldkedeohaaa
