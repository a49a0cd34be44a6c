/-
  Merged: RlO.
-/
import Derived.Test.YtngddhoolijimaaDoorRmC
namespace Go.Proofs.YtngddhoolijimaaDoor
open Go.RowKit
set_option linter.unusedVariables false
set_option linter.unusedSimpArgs false

/-- What few answers. -/
def Few37 (w : World) (L : List (List UInt8)) (e : Ending) (w' : World) : Prop := ∃ r, e = .returned (.bool r) ∧ w' = w ∧ (r = true → L.length ≤ 20 ∧ ∀ x ∈ L, x.length ≤ 500)

set_option maxRecDepth 100000 in
set_option maxHeartbeats 4000000 in
theorem few37 {F : Nat → Prop} (v : Value) (L : List (List UInt8)) (w : World) (h : rRs.rd w F [v] L) : Calls Tryd.prog 36 #[v] w (Few37 w L) := by
  obtain ⟨a, c, rfl, _, hlm, hget⟩ := rs_get h
  have HG := Lib.hid hget
  have hll : 0 ≤ (L.length : Int) := by omega
  have hlm2 : (L.length : Int) ≤ 9223372036854775807 := by unfold maxLen at hlm; omega
  clear h hget hlm
  go_enter Tryd.func36, Tryd.ntmps36
  go_wp2
  go_loopg [3] 21 (fun gk t3 wr => ∃ i : Nat, i ≤ 21 ∧ i ≤ L.length ∧ gk + i = 21 ∧ t3 = .int .i64 (i : Int) ∧ (∀ (j : Nat) x, j < i → L[j]? = some x → x.length ≤ 500) ∧ w = wr)
  case atStart => exact ⟨0, by omega, by omega, by omega, rfl, fun j x hj => by omega, rfl⟩
  case round =>
    obtain ⟨i, hi, hil, hgk, rfl, hpre, rfl⟩ := hrel
    have HGK := Lib.hid hgk
    have HPRE := Lib.hid hpre
    have hi0 : 0 ≤ (i : Int) ∧ (i : Int) ≤ 21 := by omega
    clear hgk hpre
    by_cases hc : i < L.length ∧ i ≤ 20
    · have hd1 : decide ((i : Int) < (L.length : Int)) = true := by simp; omega
      have hd2 : decide ((i : Int) ≤ 20) = true := by simp; omega
      have hd2' : (i : Int) ≤ 20 := by omega
      have hi1 : (i : Int) < (L.length : Int) := by omega
      obtain ⟨x, hx⟩ : ∃ x, L[i]? = some x := ⟨_, List.getElem?_eq_getElem hc.1⟩
      obtain ⟨g, off, u, rfl, _, hgl, hcell, hu⟩ := HG.out i x hx
      obtain ⟨ua, uc, rfl⟩ := (Dat.of_rd hu).len
      have HX := Lib.hid hx
      have hm0 : 0 ≤ (x.length : Int) := by omega
      clear hu hx
      by_cases h500 : 500 < x.length
      · have g3 : decide ((500 : Int) < (x.length : Int)) = true := by simp; omega
        have g3' : (500 : Int) < (x.length : Int) := by omega
        go_wp2
        go_ret
        exact ⟨false, rfl, rfl, fun e => by cases e⟩
      · have g3 : decide ((500 : Int) < (x.length : Int)) = false := by simp; omega
        have g3' : ¬ (500 : Int) < (x.length : Int) := by omega
        have HN := Lib.hid (show ∀ (j : Nat) y, j < i + 1 → L[j]? = some y → y.length ≤ 500 from fun j y hj hy => by
          by_cases hji : j < i
          · exact HPRE.out j y hji hy
          · obtain rfl : j = i := by omega
            rw [HX.out] at hy; cases hy; omega)
        go_wp2
        go_roundg (gk - 1)
        case rel => exact ⟨i + 1, by omega, by omega, by have := HGK.out; omega, by go_num, HN.out, rfl⟩
        case measure => have := HGK.out; omega
    · have HFIN := Lib.hid (show L.length ≤ 20 → ∀ x ∈ L, x.length ≤ 500 from fun h20 x hx => by
        obtain ⟨j, hj, e⟩ := List.getElem_of_mem hx
        exact HPRE.out j x (by omega) (by rw [List.getElem?_eq_getElem hj, e]))
      by_cases hil2 : i = L.length
      · subst hil2
        have hd1 : decide ((L.length : Int) < (L.length : Int)) = false := by simp
        by_cases hp : L.length ≤ 20
        · have g1 : decide ((L.length : Int) ≤ 20) = true := by simp; omega
          have g1' : (L.length : Int) ≤ 20 := by omega
          have HFF := Lib.hid (show L.length ≤ 20 ∧ ∀ x ∈ L, x.length ≤ 500 from ⟨hp, HFIN.out hp⟩)
          clear hc
          go_wp2
          go_ret
          exact ⟨true, rfl, rfl, fun _ => HFF.out⟩
        · have g1 : decide ((L.length : Int) ≤ 20) = false := by simp; omega
          have g1' : ¬ (L.length : Int) ≤ 20 := by omega
          clear hc
          go_wp2
          go_ret
          exact ⟨false, rfl, rfl, fun e => by cases e⟩
      · obtain rfl : i = 21 := by omega
        have hi1 : (21 : Int) < (L.length : Int) := by omega
        have hd1 : decide ((21 : Int) < (L.length : Int)) = true := decide_eq_true hi1
        have g1 : decide ((L.length : Int) ≤ 20) = false := by simp; omega
        have g1' : ¬ (L.length : Int) ≤ 20 := by omega
        clear hc
        go_wp2
        go_ret
        exact ⟨false, rfl, rfl, fun e => by cases e⟩

set_option maxRecDepth 100000 in
set_option maxHeartbeats 4000000 in
theorem rf_Same {F G : Nat → Prop} (v1 v2 : Value) (L : List (List UInt8)) (w : World) (h1 : rRs.rd w F [v1] L) (h2 : rRs.rd w G [v2] L) :
    Calls Tryd.prog 40 #[v1, v2] w fun e w' => e = .returned (.bool true) ∧ Below w.heap.size w w' := by
  obtain ⟨a1, c1, rfl, _, hlm, hg1⟩ := rs_get h1
  obtain ⟨a2, c2, rfl, _, _, hg2⟩ := rs_get h2
  have HG1 := Lib.hid hg1
  have HG2 := Lib.hid hg2
  have hll : 0 ≤ (L.length : Int) := by omega
  have hlm2 : (L.length : Int) ≤ 9223372036854775807 := by unfold maxLen at hlm; omega
  clear h1 h2 hg1 hg2 hlm
  go_enter Tryd.func40, Tryd.ntmps40
  go_wp2
  go_loopg [5] (L.length) (fun gk t5 wr => ∃ k : Nat, k ≤ L.length ∧ gk + k = L.length ∧ t5 = .int .i64 (k : Int) ∧ Below w.heap.size w wr)
  case atStart => exact ⟨0, by omega, by omega, rfl, Below.refl _ _⟩
  case round =>
    obtain ⟨k, hk, hgk, rfl, hB⟩ := hrel
    have HGK := Lib.hid hgk
    have HB := Lib.hid hB
    clear hgk hB
    by_cases hin : k < L.length
    · have hd1 : decide ((k : Int) < (L.length : Int)) = true := by simp; omega
      have i0 : (0 : Int) ≤ (k : Int) := by omega
      have i1 : (k : Int) < (L.length : Int) := by omega
      obtain ⟨x, hx⟩ : ∃ x, L[k]? = some x := ⟨_, List.getElem?_eq_getElem hin⟩
      obtain ⟨g1, o1, u1, rfl, _, hgl1, hc1, hu1⟩ := HG1.out k x hx
      obtain ⟨g2, o2, u2, rfl, _, hgl2, hc2, hu2⟩ := HG2.out k x hx
      obtain ⟨ua1, uc1, rfl⟩ := (Dat.of_rd hu1).len
      obtain ⟨ua2, uc2, rfl⟩ := (Dat.of_rd hu2).len
      go_wp2_with fail
      refine region_all (by kernel_rfl) (by kernel_rfl) ?_
      intro wD hWD
      have hbD : Below w.heap.size w wD := by rw [hWD]; exact HB.out.drew
      have k1 := (hbD.cell (p := ⟨g1, o1 + k, none⟩) hgl1).trans hc1
      have k2 := (hbD.cell (p := ⟨g2, o2 + k, none⟩) hgl2).trans hc2
      have cv1 := convert_data ((Dat.of_rd hu1).keep hbD).1
      have cv2 := convert_data ((Dat.of_rd hu2).keep hbD).1
      unfold txt at cv1 cv2
      have HBD := Lib.hid hbD
      clear hWD hbD hc1 hc2 hu1 hu2 hx
      generalize (⟨x.toArray⟩ : ByteArray) = sx at *
      iterate 11 (refine stillH_want (by kernel_rfl) (fun K hK => ?_); go_simp; refine hK _ ?_; clear hK K)
      refine stillH_nil ?_
      go_wp2
      go_roundg (gk - 1)
      case rel => exact ⟨k + 1, by omega, by have := HGK.out; omega, by go_num, HBD.out⟩
      case measure => have := HGK.out; omega
    · have hd1 : decide ((k : Int) < (L.length : Int)) = false := by simp; omega
      obtain rfl : k = L.length := by omega
      go_wp2
      go_ret
      exact ⟨rfl, HB.out⟩
end Go.Proofs.YtngddhoolijimaaDoor
