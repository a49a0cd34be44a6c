/-
  Merged: RlO.
-/
import Derived.Test.YtngddhoolijimaaGreatDoorRmC
namespace Go.Proofs.YtngddhoolijimaaGreatDoor
open Go.RowKit
set_option linter.unusedVariables false
set_option linter.unusedSimpArgs false

/-- What few answers. -/
def Few37 (w : World) (L : List (List UInt8)) (e : Ending) (w' : World) : Prop := ∃ r, e = .returned (.bool r) ∧ w' = w ∧ (r = true → L.length ≤ 20 ∧ ∀ x ∈ L, x.length ≤ 500)

set_option maxRecDepth 100000 in
set_option maxHeartbeats 4000000 in
theorem few37 {F : Nat → Prop} (v : Value) (L : List (List UInt8)) (w : World) (h : rRs.rd w F [v] L) : Calls Tryz.prog 6 #[v] w (Few37 w L) := by
  obtain ⟨a, c, rfl, _, hlm, hget⟩ := rs_get h
  have HG := Lib.hid hget
  have hll : 0 ≤ (L.length : Int) := by omega
  have hlm2 : (L.length : Int) ≤ 9223372036854775807 := by unfold maxLen at hlm; omega
  clear h hget hlm
  go_enter Tryz.func6, Tryz.ntmps6
  go_wp2
  go_loopg [3] 21 (fun gk t3 wr => ∃ i : Nat, i ≤ 21 ∧ i ≤ L.length ∧ gk + i = 21 ∧ t3 = .int .i64 (i : Int) ∧ (∀ (j : Nat) x, j < i → L[j]? = some x → x.length ≤ 500) ∧ w = wr)
  case atStart => exact ⟨0, by omega, by omega, by omega, rfl, fun j x hj => by omega, rfl⟩
  case round =>
    obtain ⟨i, hi, hil, hgk, rfl, hpre, rfl⟩ := hrel
    have HGK := Lib.hid hgk
    have HPRE := Lib.hid hpre
    have hi0 : 0 ≤ (i : Int) ∧ (i : Int) ≤ 21 := by omega
    clear hgk hpre
    by_cases hc : i < L.length ∧ i ≤ 20
    · have hd1 : decide ((i : Int) < (L.length : Int)) = true := by simp; omega
      have hd2 : decide ((i : Int) ≤ 20) = true := by simp; omega
      have hd2' : (i : Int) ≤ 20 := by omega
      have hi1 : (i : Int) < (L.length : Int) := by omega
      obtain ⟨x, hx⟩ : ∃ x, L[i]? = some x := ⟨_, List.getElem?_eq_getElem hc.1⟩
      obtain ⟨g, off, u, rfl, _, hgl, hcell, hu⟩ := HG.out i x hx
      obtain ⟨ua, uc, rfl⟩ := (Dat.of_rd hu).len
      have HX := Lib.hid hx
      have hm0 : 0 ≤ (x.length : Int) := by omega
      clear hu hx
      by_cases h500 : 500 < x.length
      · have g3 : decide ((500 : Int) < (x.length : Int)) = true := by simp; omega
        have g3' : (500 : Int) < (x.length : Int) := by omega
        go_wp2
        go_ret
        exact ⟨false, rfl, rfl, fun e => by cases e⟩
      · have g3 : decide ((500 : Int) < (x.length : Int)) = false := by simp; omega
        have g3' : ¬ (500 : Int) < (x.length : Int) := by omega
        have HN := Lib.hid (show ∀ (j : Nat) y, j < i + 1 → L[j]? = some y → y.length ≤ 500 from fun j y hj hy => by
          by_cases hji : j < i
          · exact HPRE.out j y hji hy
          · obtain rfl : j = i := by omega
            rw [HX.out] at hy; cases hy; omega)
        go_wp2
        go_roundg (gk - 1)
        case rel => exact ⟨i + 1, by omega, by omega, by have := HGK.out; omega, by go_num, HN.out, rfl⟩
        case measure => have := HGK.out; omega
    · have HFIN := Lib.hid (show L.length ≤ 20 → ∀ x ∈ L, x.length ≤ 500 from fun h20 x hx => by
        obtain ⟨j, hj, e⟩ := List.getElem_of_mem hx
        exact HPRE.out j x (by omega) (by rw [List.getElem?_eq_getElem hj, e]))
      by_cases hil2 : i = L.length
      · subst hil2
        have hd1 : decide ((L.length : Int) < (L.length : Int)) = false := by simp
        by_cases hp : L.length ≤ 20
        · have g1 : decide ((L.length : Int) ≤ 20) = true := by simp; omega
          have g1' : (L.length : Int) ≤ 20 := by omega
          have HFF := Lib.hid (show L.length ≤ 20 ∧ ∀ x ∈ L, x.length ≤ 500 from ⟨hp, HFIN.out hp⟩)
          clear hc
          go_wp2
          go_ret
          exact ⟨true, rfl, rfl, fun _ => HFF.out⟩
        · have g1 : decide ((L.length : Int) ≤ 20) = false := by simp; omega
          have g1' : ¬ (L.length : Int) ≤ 20 := by omega
          clear hc
          go_wp2
          go_ret
          exact ⟨false, rfl, rfl, fun e => by cases e⟩
      · obtain rfl : i = 21 := by omega
        have hi1 : (21 : Int) < (L.length : Int) := by omega
        have hd1 : decide ((21 : Int) < (L.length : Int)) = true := decide_eq_true hi1
        have g1 : decide ((L.length : Int) ≤ 20) = false := by simp; omega
        have g1' : ¬ (L.length : Int) ≤ 20 := by omega
        clear hc
        go_wp2
        go_ret
        exact ⟨false, rfl, rfl, fun e => by cases e⟩