/-
  Law 34: FewVersions, FewRows: some bool. Printed by gen_cf.py.
-/
import Derived.Test.YtfppjpmflpaffaaCfA
namespace Go.Proofs.Ytfppjpmflpaffaa
open Go.RowKit
set_option linter.unusedVariables false
set_option linter.unusedSimpArgs false

set_option maxRecDepth 100000 in
set_option maxHeartbeats 4000000 in
theorem few_Versions (w : World) (v : Value) (x : List (Ty.T tVersion)) (hx : (Ty.rd (.list tVersion)).rd w (· < w.heap.size) [v] x) : Calls Try.prog 32 #[v, .int .i64 20] w (FewA w) := by
  obtain ⟨a, n, c, e, hn, hcap, hcm, hel⟩ := hx
  obtain rfl : v = .slice a n c := by simpa using e
  have HEL := Lib.hid hel
  have HN := Lib.hid (show n = List.length x from hn)
  have hn0 : 0 ≤ (n : Int) := by omega
  have hn1 : (n : Int) ≤ 9223372036854775807 := by unfold maxLen at hcm; omega
  clear hel hn hcap hcm e
  go_enter Try.func32, Try.ntmps32
  go_wp2
  go_loopg [5] n (fun gk t5 wr => ∃ (i : Nat), i ≤ n ∧ gk + i = n ∧ t5 = .int .i64 (i : Int) ∧ Below w.heap.size w wr)
  case atStart => exact ⟨0, by omega, by omega, rfl, Below.refl _ _⟩
  case round =>
    obtain ⟨i, hi, hgk, rfl, hB⟩ := hrel
    have HGK := Lib.hid hgk
    have HB := Lib.hid hB
    have hi0 : 0 ≤ (i : Int) := by omega
    clear hgk hB
    by_cases hin : i < n
    · have hd1 : decide ((i : Int) < (n : Int)) = true := decide_eq_true (by omega)
      have hi1 : (i : Int) < (n : Int) := by omega
      by_cases h6 : i ≤ 20
      · have hd2 : decide ((i : Int) ≤ 20) = true := decide_eq_true (by omega)
        have hd2' : (i : Int) ≤ 20 := by omega
        obtain ⟨y, hy⟩ : ∃ y, x[i]? = some y := ⟨_, List.getElem?_eq_getElem (by have := HN.out; omega)⟩
        rcases HEL.out with h0 | ⟨b, off, rfl, hbF, hbl, hget⟩
        · omega
        obtain ⟨ys, hA, hr⟩ := hget i y hy
        obtain ⟨z0, za1, zn1, zc1, z2, z3, z4, z5, rfl⟩ := shape_Version (id hr)
        have q1 : wr.cell? ⟨b, off + i * 6 + 1, none⟩ = some (.slice za1 zn1 zc1) := (HB.out.cell (p := ⟨b, off + i * 6 + 1, none⟩) hbl).trans (hA 1 _ rfl)
        have hz1 : 0 ≤ (zn1 : Int) := by omega
        clear hget hA hy hr hbF
        by_cases hc1 : 6 < zn1
        · have ga1 : decide ((6 : Int) < (zn1 : Int)) = true := decide_eq_true (by omega)
          have gb1 : decide (6 < zn1) = true := decide_eq_true hc1
          go_wp2
          go_ret
          exact ⟨_, rfl, HB.out⟩
        · have ga1 : decide ((6 : Int) < (zn1 : Int)) = false := decide_eq_false (by omega)
          have gb1 : decide (6 < zn1) = false := decide_eq_false hc1
          go_wp2
          go_roundg (gk - 1)
          case rel => exact ⟨i + 1, by omega, by have := HGK.out; omega, by go_num, HB.out⟩
          case measure => have := HGK.out; omega
      · have hd2 : decide ((i : Int) ≤ 20) = false := decide_eq_false (by omega)
        have hd2' : ¬ (i : Int) ≤ 20 := by omega
        clear h6
        go_wp2
        go_ret
        exact ⟨_, rfl, HB.out⟩
    · obtain rfl : n = i := by omega
      have hd1 : decide ((n : Int) < (n : Int)) = false := by simp
      clear hin hi
      go_wp2
      go_ret
      exact ⟨_, rfl, HB.out⟩

set_option maxRecDepth 100000 in
set_option maxHeartbeats 4000000 in
theorem few_Rows (w : World) (v : Value) (x : List (Ty.T tRow)) (hx : (Ty.rd (.list tRow)).rd w (· < w.heap.size) [v] x) : Calls Try.prog 33 #[v, .int .i64 20] w (FewA w) := by
  obtain ⟨a, n, c, e, hn, hcap, hcm, hel⟩ := hx
  obtain rfl : v = .slice a n c := by simpa using e
  have HEL := Lib.hid hel
  have HN := Lib.hid (show n = List.length x from hn)
  have hn0 : 0 ≤ (n : Int) := by omega
  have hn1 : (n : Int) ≤ 9223372036854775807 := by unfold maxLen at hcm; omega
  clear hel hn hcap hcm e
  go_enter Try.func33, Try.ntmps33
  go_wp2
  go_loopg [5] n (fun gk t5 wr => ∃ (i : Nat), i ≤ n ∧ gk + i = n ∧ t5 = .int .i64 (i : Int) ∧ Below w.heap.size w wr)
  case atStart => exact ⟨0, by omega, by omega, rfl, Below.refl _ _⟩
  case round =>
    obtain ⟨i, hi, hgk, rfl, hB⟩ := hrel
    have HGK := Lib.hid hgk
    have HB := Lib.hid hB
    have hi0 : 0 ≤ (i : Int) := by omega
    clear hgk hB
    by_cases hin : i < n
    · have hd1 : decide ((i : Int) < (n : Int)) = true := decide_eq_true (by omega)
      have hi1 : (i : Int) < (n : Int) := by omega
      by_cases h6 : i ≤ 20
      · have hd2 : decide ((i : Int) ≤ 20) = true := decide_eq_true (by omega)
        have hd2' : (i : Int) ≤ 20 := by omega
        obtain ⟨y, hy⟩ : ∃ y, x[i]? = some y := ⟨_, List.getElem?_eq_getElem (by have := HN.out; omega)⟩
        rcases HEL.out with h0 | ⟨b, off, rfl, hbF, hbl, hget⟩
        · omega
        obtain ⟨ys, hA, hr⟩ := hget i y hy
        obtain ⟨za0, zn0, zc0, za1, zn1, zc1, rfl⟩ := shape_Row (id hr)
        have q0 : wr.cell? ⟨b, off + i * 2, none⟩ = some (.slice za0 zn0 zc0) := (HB.out.cell (p := ⟨b, off + i * 2 + 0, none⟩) hbl).trans (hA 0 _ rfl)
        have q1 : wr.cell? ⟨b, off + i * 2 + 1, none⟩ = some (.slice za1 zn1 zc1) := (HB.out.cell (p := ⟨b, off + i * 2 + 1, none⟩) hbl).trans (hA 1 _ rfl)
        have hz0 : 0 ≤ (zn0 : Int) := by omega
        have hz1 : 0 ≤ (zn1 : Int) := by omega
        clear hget hA hy hr hbF
        by_cases hc1 : 6 < zn0
        · have ga1 : decide ((6 : Int) < (zn0 : Int)) = true := decide_eq_true (by omega)
          have gb1 : decide (6 < zn0) = true := decide_eq_true hc1
          go_wp2
          go_ret
          exact ⟨_, rfl, HB.out⟩
        · have ga1 : decide ((6 : Int) < (zn0 : Int)) = false := decide_eq_false (by omega)
          have gb1 : decide (6 < zn0) = false := decide_eq_false hc1
          by_cases hc2 : 6 < zn1
          · have ga2 : decide ((6 : Int) < (zn1 : Int)) = true := decide_eq_true (by omega)
            have gb2 : decide (6 < zn1) = true := decide_eq_true hc2
            go_wp2
            go_ret
            exact ⟨_, rfl, HB.out⟩
          · have ga2 : decide ((6 : Int) < (zn1 : Int)) = false := decide_eq_false (by omega)
            have gb2 : decide (6 < zn1) = false := decide_eq_false hc2
            go_wp2
            go_roundg (gk - 1)
            case rel => exact ⟨i + 1, by omega, by have := HGK.out; omega, by go_num, HB.out⟩
            case measure => have := HGK.out; omega
      · have hd2 : decide ((i : Int) ≤ 20) = false := decide_eq_false (by omega)
        have hd2' : ¬ (i : Int) ≤ 20 := by omega
        clear h6
        go_wp2
        go_ret
        exact ⟨_, rfl, HB.out⟩
    · obtain rfl : n = i := by omega
      have hd1 : decide ((n : Int) < (n : Int)) = false := by simp
      clear hin hi
      go_wp2
      go_ret
      exact ⟨_, rfl, HB.out⟩
end Go.Proofs.Ytfppjpmflpaffaa
