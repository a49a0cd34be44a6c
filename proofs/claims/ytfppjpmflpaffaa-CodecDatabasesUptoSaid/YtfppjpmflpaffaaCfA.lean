/-
  Law 34: FewEdits, FewSchema: some bool. Printed by gen_cf.py.
-/
import Derived.Test.YtfppjpmflpaffaaCeH
import Derived.Deep.Cut
namespace Go.Proofs.Ytfppjpmflpaffaa
open Go.RowKit
set_option linter.unusedVariables false
set_option linter.unusedSimpArgs false

/-- Some bool. -/
def FewA (w : World) (e : Ending) (w' : World) : Prop := ∃ r, e = .returned (.bool r) ∧ Below w.heap.size w w'


set_option maxRecDepth 100000 in
set_option maxHeartbeats 4000000 in
theorem few_Schema (w : World) (cs : List Value) (x : Ty.T tSchema) (hx : (Ty.rd tSchema).rd w (· < w.heap.size) cs x) : Calls Try.prog 16 #[goV cs] w (FewA w) := by
  obtain ⟨d0, d1, d2, d3, d4⟩ := x
  obtain ⟨u0, r0, rfl, h0, u1, r1, rfl, h1, u2, r2, rfl, h2, u3, r3, rfl, h3, h4⟩ := hx
  dsimp only at h0 h1 h2 h3 h4
  obtain ⟨z0, rfl⟩ : ∃ z : ByteArray, u0 = [.string z] := ⟨_, h0.1⟩
  obtain ⟨a1, n1, c1, rfl, hn1, hcap1, hcm1, hel1⟩ := h1
  have hn0_1 : 0 ≤ (n1 : Int) := by omega
  have hn1_1 : (n1 : Int) ≤ 9223372036854775807 := by unfold maxLen at hcm1; omega
  obtain ⟨a2, n2, c2, rfl, hn2, hcap2, hcm2, hel2⟩ := h2
  have hn0_2 : 0 ≤ (n2 : Int) := by omega
  have hn1_2 : (n2 : Int) ≤ 9223372036854775807 := by unfold maxLen at hcm2; omega
  obtain ⟨a3, n3, c3, rfl, hn3, hcap3, hcm3, hel3⟩ := h3
  have hn0_3 : 0 ≤ (n3 : Int) := by omega
  have hn1_3 : (n3 : Int) ≤ 9223372036854775807 := by unfold maxLen at hcm3; omega
  obtain ⟨a4, n4, c4, rfl, hn4, hcap4, hcm4, hel4⟩ := h4
  have hn0_4 : 0 ≤ (n4 : Int) := by omega
  have hn1_4 : (n4 : Int) ≤ 9223372036854775807 := by unfold maxLen at hcm4; omega
  obtain ⟨ns, hns⟩ : ∃ ns, ns = z0.size := ⟨_, rfl⟩
  show Calls _ _ #[.agg #[.string z0, .slice a1 n1 c1, .slice a2 n2 c2, .slice a3 n3 c3, .slice a4 n4 c4]] _ _
  obtain ⟨W0, hW0⟩ : ∃ W0, W0 = w.alloc (.cells #[.string z0, .slice a1 n1 c1, .slice a2 n2 c2, .slice a3 n3 c3, .slice a4 n4 c4] 59) := ⟨_, rfl⟩
  have HB0 := Lib.hid (show Below w.heap.size w W0 from by rw [hW0]; exact (Below.refl _ _).alloc (Nat.le_refl _) _)
  have hbx : ∀ (j : Nat) u, ([.string z0, .slice a1 n1 c1, .slice a2 n2 c2, .slice a3 n3 c3, .slice a4 n4 c4] : List Value)[j]? = some u → W0.cell? ⟨w.heap.size, j, none⟩ = some u := fun j u hu => by
    rw [hW0]
    have := new_cells w [.string z0, .slice a1 n1 c1, .slice a2 n2 c2, .slice a3 n3 c3, .slice a4 n4 c4] 59 j u hu
    rw [Addr.add_mid, Nat.zero_add] at this; exact this
  have b0 := hbx 0 _ rfl
  have b1 := hbx 1 _ rfl
  have b2 := hbx 2 _ rfl
  have b3 := hbx 3 _ rfl
  have b4 := hbx 4 _ rfl
  have HW0 := Lib.hid hW0
  have HNS := Lib.hid hns
  have hns0 : 0 ≤ (ns : Int) := by omega
  have HE1 := Lib.hid (And.intro hn1 hel1)
  have HE3 := Lib.hid (And.intro hn3 hel3)
  have HE4 := Lib.hid (And.intro hn4 hel4)
  clear hbx hW0 hns h0 hn1 hcap1 hcm1 hel1 hn2 hcap2 hcm2 hel2 hn3 hcap3 hcm3 hel3 hn4 hcap4 hcm4 hel4
  go_enter Try.func16, Try.ntmps16
  go_upto_region 1 with fail
  rw [← HW0.out]
  have hsz : z0.size = ns := HNS.out.symm
  by_cases hc1 : 200 < ns
  · have ga1 : decide ((200 : Int) < (ns : Int)) = true := decide_eq_true (by omega)
    have gb1 : decide (200 < ns) = true := decide_eq_true hc1
    go_wp2
    go_ret
    exact ⟨_, rfl, HB0.out⟩
  · have ga1 : decide ((200 : Int) < (ns : Int)) = false := decide_eq_false (by omega)
    have gb1 : decide (200 < ns) = false := decide_eq_false hc1
    by_cases hc2 : 12 < n1
    · have ga2 : decide ((12 : Int) < (n1 : Int)) = true := decide_eq_true (by omega)
      have gb2 : decide (12 < n1) = true := decide_eq_true hc2
      go_wp2
      go_ret
      exact ⟨_, rfl, HB0.out⟩
    · have ga2 : decide ((12 : Int) < (n1 : Int)) = false := decide_eq_false (by omega)
      have gb2 : decide (12 < n1) = false := decide_eq_false hc2
      by_cases hc3 : 20 < n2
      · have ga3 : decide ((20 : Int) < (n2 : Int)) = true := decide_eq_true (by omega)
        have gb3 : decide (20 < n2) = true := decide_eq_true hc3
        go_wp2
        go_ret
        exact ⟨_, rfl, HB0.out⟩
      · have ga3 : decide ((20 : Int) < (n2 : Int)) = false := decide_eq_false (by omega)
        have gb3 : decide (20 < n2) = false := decide_eq_false hc3
        by_cases hc4 : 10 < n3
        · have ga4 : decide ((10 : Int) < (n3 : Int)) = true := decide_eq_true (by omega)
          have gb4 : decide (10 < n3) = true := decide_eq_true hc4
          go_wp2
          go_ret
          exact ⟨_, rfl, HB0.out⟩
        · have ga4 : decide ((10 : Int) < (n3 : Int)) = false := decide_eq_false (by omega)
          have gb4 : decide (10 < n3) = false := decide_eq_false hc4
          by_cases hc5 : 10 < n4
          · have ga5 : decide ((10 : Int) < (n4 : Int)) = true := decide_eq_true (by omega)
            have gb5 : decide (10 < n4) = true := decide_eq_true hc5
            go_wp2
            go_ret
            exact ⟨_, rfl, HB0.out⟩
          · have ga5 : decide ((10 : Int) < (n4 : Int)) = false := decide_eq_false (by omega)
            have gb5 : decide (10 < n4) = false := decide_eq_false hc5
            go_wp2
            go_loopg [3] n1 (fun gk t3 wr => ∃ (i : Nat), i ≤ n1 ∧ gk + i = n1 ∧ t3 = .int .i64 (i : Int) ∧ W0 = wr)
            case atStart => exact ⟨0, by omega, by omega, rfl, rfl⟩
            case round =>
              obtain ⟨i, hi, hgk, rfl, rfl⟩ := hrel
              have HGK := Lib.hid hgk
              have hi0 : 0 ≤ (i : Int) := by omega
              clear hgk
              by_cases hin : i < n1
              · have hd1 : decide ((i : Int) < (n1 : Int)) = true := decide_eq_true (by omega)
                have hi1 : (i : Int) < (n1 : Int) := by omega
                obtain ⟨y, hy⟩ : ∃ y, d1[i]? = some y := ⟨_, List.getElem?_eq_getElem (by have := HE1.out.1; omega)⟩
                rcases HE1.out.2 with h0 | ⟨b, off, haddr, hbF, hbl, hget⟩
                · omega
                subst haddr
                obtain ⟨ys, hA, hr⟩ := hget i y hy
                obtain ⟨z0, z1, za2, zn2, zc2, rfl⟩ := shape_SchemaVersion hr
                have q2 : W0.cell? ⟨b, off + i * 3 + 2, none⟩ = some (.slice za2 zn2 zc2) := (HB0.out.cell (p := ⟨b, off + i * 3 + 2, none⟩) hbl).trans (hA 2 _ rfl)
                have hz2 : 0 ≤ (zn2 : Int) := by omega
                clear hget hA hy hr hbF
                by_cases hc6 : 20 < zn2
                · have ga6 : decide ((20 : Int) < (zn2 : Int)) = true := decide_eq_true (by omega)
                  have gb6 : decide (20 < zn2) = true := decide_eq_true hc6
                  go_wp2
                  go_ret
                  exact ⟨_, rfl, HB0.out⟩
                · have ga6 : decide ((20 : Int) < (zn2 : Int)) = false := decide_eq_false (by omega)
                  have gb6 : decide (20 < zn2) = false := decide_eq_false hc6
                  go_wp2
                  go_roundg (gk - 1)
                  case rel => exact ⟨i + 1, by omega, by have := HGK.out; omega, by go_num, rfl⟩
                  case measure => have := HGK.out; omega
              · obtain rfl : n1 = i := by omega
                have hd1 : decide ((n1 : Int) < (n1 : Int)) = false := by simp
                clear hin hi HGK hi0
                go_wp2
                go_loopg [4] n3 (fun gk t4 wr => ∃ (i : Nat), i ≤ n3 ∧ gk + i = n3 ∧ t4 = .int .i64 (i : Int) ∧ W0 = wr)
                case atStart => exact ⟨0, by omega, by omega, rfl, rfl⟩
                case round =>
                  obtain ⟨i, hi, hgk, rfl, rfl⟩ := hrel
                  have HGK := Lib.hid hgk
                  have hi0 : 0 ≤ (i : Int) := by omega
                  clear hgk
                  by_cases hin : i < n3
                  · have hd1 : decide ((i : Int) < (n3 : Int)) = true := decide_eq_true (by omega)
                    have hi1 : (i : Int) < (n3 : Int) := by omega
                    obtain ⟨y, hy⟩ : ∃ y, d3[i]? = some y := ⟨_, List.getElem?_eq_getElem (by have := HE3.out.1; omega)⟩
                    rcases HE3.out.2 with h0 | ⟨b, off, haddr, hbF, hbl, hget⟩
                    · omega
                    subst haddr
                    obtain ⟨ys, hA, hr⟩ := hget i y hy
                    obtain ⟨za0, zn0, zc0, z1, za2, zn2, zc2, rfl⟩ := shape_ForeignKey hr
                    have q0 : W0.cell? ⟨b, off + i * 3, none⟩ = some (.slice za0 zn0 zc0) := (HB0.out.cell (p := ⟨b, off + i * 3 + 0, none⟩) hbl).trans (hA 0 _ rfl)
                    have q2 : W0.cell? ⟨b, off + i * 3 + 2, none⟩ = some (.slice za2 zn2 zc2) := (HB0.out.cell (p := ⟨b, off + i * 3 + 2, none⟩) hbl).trans (hA 2 _ rfl)
                    have hz0 : 0 ≤ (zn0 : Int) := by omega
                    have hz2 : 0 ≤ (zn2 : Int) := by omega
                    clear hget hA hy hr hbF
                    by_cases hc7 : 20 < zn0
                    · have ga7 : decide ((20 : Int) < (zn0 : Int)) = true := decide_eq_true (by omega)
                      have gb7 : decide (20 < zn0) = true := decide_eq_true hc7
                      go_wp2
                      go_ret
                      exact ⟨_, rfl, HB0.out⟩
                    · have ga7 : decide ((20 : Int) < (zn0 : Int)) = false := decide_eq_false (by omega)
                      have gb7 : decide (20 < zn0) = false := decide_eq_false hc7
                      by_cases hc8 : 20 < zn2
                      · have ga8 : decide ((20 : Int) < (zn2 : Int)) = true := decide_eq_true (by omega)
                        have gb8 : decide (20 < zn2) = true := decide_eq_true hc8
                        go_wp2
                        go_ret
                        exact ⟨_, rfl, HB0.out⟩
                      · have ga8 : decide ((20 : Int) < (zn2 : Int)) = false := decide_eq_false (by omega)
                        have gb8 : decide (20 < zn2) = false := decide_eq_false hc8
                        go_wp2
                        go_roundg (gk - 1)
                        case rel => exact ⟨i + 1, by omega, by have := HGK.out; omega, by go_num, rfl⟩
                        case measure => have := HGK.out; omega
                  · obtain rfl : n3 = i := by omega
                    have hd1 : decide ((n3 : Int) < (n3 : Int)) = false := by simp
                    clear hin hi HGK hi0
                    go_wp2
                    go_loopg [5] n4 (fun gk t5 wr => ∃ (i : Nat), i ≤ n4 ∧ gk + i = n4 ∧ t5 = .int .i64 (i : Int) ∧ W0 = wr)
                    case atStart => exact ⟨0, by omega, by omega, rfl, rfl⟩
                    case round =>
                      obtain ⟨i, hi, hgk, rfl, rfl⟩ := hrel
                      have HGK := Lib.hid hgk
                      have hi0 : 0 ≤ (i : Int) := by omega
                      clear hgk
                      by_cases hin : i < n4
                      · have hd1 : decide ((i : Int) < (n4 : Int)) = true := decide_eq_true (by omega)
                        have hi1 : (i : Int) < (n4 : Int) := by omega
                        obtain ⟨y, hy⟩ : ∃ y, d4[i]? = some y := ⟨_, List.getElem?_eq_getElem (by have := HE4.out.1; omega)⟩
                        rcases HE4.out.2 with h0 | ⟨b, off, haddr, hbF, hbl, hget⟩
                        · omega
                        subst haddr
                        obtain ⟨ys, hA, hr⟩ := hget i y hy
                        obtain ⟨z0, za1, zn1, zc1, rfl⟩ := shape_Constraint hr
                        have q1 : W0.cell? ⟨b, off + i * 2 + 1, none⟩ = some (.slice za1 zn1 zc1) := (HB0.out.cell (p := ⟨b, off + i * 2 + 1, none⟩) hbl).trans (hA 1 _ rfl)
                        have hz1 : 0 ≤ (zn1 : Int) := by omega
                        clear hget hA hy hr hbF
                        by_cases hc9 : 20 < zn1
                        · have ga9 : decide ((20 : Int) < (zn1 : Int)) = true := decide_eq_true (by omega)
                          have gb9 : decide (20 < zn1) = true := decide_eq_true hc9
                          go_wp2
                          go_ret
                          exact ⟨_, rfl, HB0.out⟩
                        · have ga9 : decide ((20 : Int) < (zn1 : Int)) = false := decide_eq_false (by omega)
                          have gb9 : decide (20 < zn1) = false := decide_eq_false hc9
                          go_wp2
                          go_roundg (gk - 1)
                          case rel => exact ⟨i + 1, by omega, by have := HGK.out; omega, by go_num, rfl⟩
                          case measure => have := HGK.out; omega
                      · obtain rfl : n4 = i := by omega
                        have hd1 : decide ((n4 : Int) < (n4 : Int)) = false := by simp
                        clear hin hi HGK hi0
                        go_wp2
                        go_ret
                        exact ⟨_, rfl, HB0.out⟩

theorem edit_schema {w : World} {F : Nat → Prop} {y : Ty.T tEdit} {v0 v1 v2 v3 v4 v5 v6 v7 v8 v9 v10 v11 v12 v13 v14 v15 : Value} (h : (Ty.rd tEdit).rd w F [v0, v1, v2, v3, v4, v5, v6, v7, v8, v9, v10, v11, v12, v13, v14, v15] y) : (Ty.rd tSchema).rd w F [v8, v9, v10, v11, v12] y.2.2.2.2.2.2.2.1 := by
  obtain ⟨u0, r0, e, h0, u1, r1, rfl, h1, u2, r2, rfl, h2, u3, r3, rfl, h3, u4, r4, rfl, h4, u5, r5, rfl, h5, u6, r6, rfl, h6, u7, u8, rfl, h7, h8⟩ := h
  have l0 := (Ty.rd .num).len h0; have l1 := (Ty.rd .str).len h1; have l2 := (Ty.rd (.list tValue)).len h2; have l3 := (Ty.rd tPeriod).len h3; have l4 := (Ty.rd (.list tExpr)).len h4
  have l5 := (Ty.rd .num).len h5; have l6 := (Ty.rd (.list tAssignment)).len h6; have l7 := (Ty.rd tSchema).len h7
  have e7 : u7 = [v8, v9, v10, v11, v12] := by
    have h : ([v8, v9, v10, v11, v12] : List Value) = ((u0 ++ (u1 ++ (u2 ++ (u3 ++ (u4 ++ (u5 ++ (u6 ++ (u7 ++ u8)))))))).drop 8).take 5 := congrArg (fun l : List Value => (l.drop 8).take 5) e
    replace l0 : u0.length = 1 := l0
    replace l1 : u1.length = 1 := l1
    replace l2 : u2.length = 1 := l2
    replace l3 : u3.length = 2 := l3
    replace l4 : u4.length = 1 := l4
    replace l5 : u5.length = 1 := l5
    replace l6 : u6.length = 1 := l6
    replace l7 : u7.length = 5 := l7
    have hs : u0 ++ (u1 ++ (u2 ++ (u3 ++ (u4 ++ (u5 ++ (u6 ++ (u7 ++ u8))))))) = (u0 ++ u1 ++ u2 ++ u3 ++ u4 ++ u5 ++ u6) ++ (u7 ++ u8) := by simp
    have hl : (u0 ++ u1 ++ u2 ++ u3 ++ u4 ++ u5 ++ u6).length = 8 := by simp; omega
    rw [hs, List.drop_left' hl, List.take_left' l7] at h
    exact h.symm
  rw [← e7]; exact h7


set_option maxRecDepth 100000 in
set_option maxHeartbeats 4000000 in
theorem few_Edits (w : World) (v : Value) (x : List (Ty.T tEdit)) (hx : (Ty.rd (.list tEdit)).rd w (· < w.heap.size) [v] x) : Calls Try.prog 5 #[v, .int .i64 6] w (FewA w) := by
  obtain ⟨a, n, c, e, hn, hcap, hcm, hel⟩ := hx
  obtain rfl : v = .slice a n c := by simpa using e
  have HEL := Lib.hid hel
  have HN := Lib.hid (show n = List.length x from hn)
  have hn0 : 0 ≤ (n : Int) := by omega
  have hn1 : (n : Int) ≤ 9223372036854775807 := by unfold maxLen at hcm; omega
  clear hel hn hcap hcm e
  go_enter Try.func5, Try.ntmps5
  go_wp2
  go_loopg [5] n (fun gk t5 wr => ∃ (i : Nat), i ≤ n ∧ gk + i = n ∧ t5 = .int .i64 (i : Int) ∧ Below w.heap.size w wr)
  case atStart => exact ⟨0, by omega, by omega, rfl, Below.refl _ _⟩
  case round =>
    obtain ⟨i, hi, hgk, rfl, hB⟩ := hrel
    have HGK := Lib.hid hgk
    have HB := Lib.hid hB
    have hi0 : 0 ≤ (i : Int) := by omega
    clear hgk hB
    by_cases hin : i < n
    · have hd1 : decide ((i : Int) < (n : Int)) = true := decide_eq_true (by omega)
      have hi1 : (i : Int) < (n : Int) := by omega
      by_cases h6 : i ≤ 6
      · have hd2 : decide ((i : Int) ≤ 6) = true := decide_eq_true (by omega)
        have hd2' : (i : Int) ≤ 6 := by omega
        obtain ⟨y, hy⟩ : ∃ y, x[i]? = some y := ⟨_, List.getElem?_eq_getElem (by have := HN.out; omega)⟩
        rcases HEL.out with h0 | ⟨b, off, rfl, hbF, hbl, hget⟩
        · omega
        obtain ⟨ys, hA, hr⟩ := hget i y hy
        obtain ⟨z0, z1, za2, zn2, zc2, z3, z4, za5, zn5, zc5, z6, za7, zn7, zc7, z8, za9, zn9, zc9, za10, zn10, zc10, za11, zn11, zc11, za12, zn12, zc12, z13, z14, z15, rfl⟩ := shape_Edit (id hr)
        have q0 : wr.cell? ⟨b, off + i * 16, none⟩ = some (.int .i64 z0) := (HB.out.cell (p := ⟨b, off + i * 16 + 0, none⟩) hbl).trans (hA 0 _ rfl)
        have q1 : wr.cell? ⟨b, off + i * 16 + 1, none⟩ = some (.string z1) := (HB.out.cell (p := ⟨b, off + i * 16 + 1, none⟩) hbl).trans (hA 1 _ rfl)
        have q2 : wr.cell? ⟨b, off + i * 16 + 2, none⟩ = some (.slice za2 zn2 zc2) := (HB.out.cell (p := ⟨b, off + i * 16 + 2, none⟩) hbl).trans (hA 2 _ rfl)
        have q3 : wr.cell? ⟨b, off + i * 16 + 3, none⟩ = some (.int .i64 z3) := (HB.out.cell (p := ⟨b, off + i * 16 + 3, none⟩) hbl).trans (hA 3 _ rfl)
        have q4 : wr.cell? ⟨b, off + i * 16 + 4, none⟩ = some (.int .i64 z4) := (HB.out.cell (p := ⟨b, off + i * 16 + 4, none⟩) hbl).trans (hA 4 _ rfl)
        have q5 : wr.cell? ⟨b, off + i * 16 + 5, none⟩ = some (.slice za5 zn5 zc5) := (HB.out.cell (p := ⟨b, off + i * 16 + 5, none⟩) hbl).trans (hA 5 _ rfl)
        have q6 : wr.cell? ⟨b, off + i * 16 + 6, none⟩ = some (.int .i64 z6) := (HB.out.cell (p := ⟨b, off + i * 16 + 6, none⟩) hbl).trans (hA 6 _ rfl)
        have q7 : wr.cell? ⟨b, off + i * 16 + 7, none⟩ = some (.slice za7 zn7 zc7) := (HB.out.cell (p := ⟨b, off + i * 16 + 7, none⟩) hbl).trans (hA 7 _ rfl)
        have q8 : wr.cell? ⟨b, off + i * 16 + 8, none⟩ = some (.string z8) := (HB.out.cell (p := ⟨b, off + i * 16 + 8, none⟩) hbl).trans (hA 8 _ rfl)
        have q9 : wr.cell? ⟨b, off + i * 16 + 9, none⟩ = some (.slice za9 zn9 zc9) := (HB.out.cell (p := ⟨b, off + i * 16 + 9, none⟩) hbl).trans (hA 9 _ rfl)
        have q10 : wr.cell? ⟨b, off + i * 16 + 10, none⟩ = some (.slice za10 zn10 zc10) := (HB.out.cell (p := ⟨b, off + i * 16 + 10, none⟩) hbl).trans (hA 10 _ rfl)
        have q11 : wr.cell? ⟨b, off + i * 16 + 11, none⟩ = some (.slice za11 zn11 zc11) := (HB.out.cell (p := ⟨b, off + i * 16 + 11, none⟩) hbl).trans (hA 11 _ rfl)
        have q12 : wr.cell? ⟨b, off + i * 16 + 12, none⟩ = some (.slice za12 zn12 zc12) := (HB.out.cell (p := ⟨b, off + i * 16 + 12, none⟩) hbl).trans (hA 12 _ rfl)
        have q13 : wr.cell? ⟨b, off + i * 16 + 13, none⟩ = some (.int .i64 z13) := (HB.out.cell (p := ⟨b, off + i * 16 + 13, none⟩) hbl).trans (hA 13 _ rfl)
        have q14 : wr.cell? ⟨b, off + i * 16 + 14, none⟩ = some (.string z14) := (HB.out.cell (p := ⟨b, off + i * 16 + 14, none⟩) hbl).trans (hA 14 _ rfl)
        have q15 : wr.cell? ⟨b, off + i * 16 + 15, none⟩ = some (.int .i64 z15) := (HB.out.cell (p := ⟨b, off + i * 16 + 15, none⟩) hbl).trans (hA 15 _ rfl)
        have hz2 : 0 ≤ (zn2 : Int) := by omega
        have hz5 : 0 ≤ (zn5 : Int) := by omega
        have hz7 : 0 ≤ (zn7 : Int) := by omega
        have HSC := Lib.hid (show (Ty.rd tSchema).rd w (· < w.heap.size) [.string z8, .slice za9 zn9 zc9, .slice za10 zn10 zc10, .slice za11 zn11 zc11, .slice za12 zn12 zc12] y.2.2.2.2.2.2.2.1 from by
          exact edit_schema hr)
        clear hget hA hy hr hbF
        obtain ⟨C, hC⟩ : ∃ C, C = wr.alloc (.cells #[.int .i64 z0, .string z1, .slice za2 zn2 zc2, .int .i64 z3, .int .i64 z4, .slice za5 zn5 zc5, .int .i64 z6, .slice za7 zn7 zc7, .string z8, .slice za9 zn9 zc9, .slice za10 zn10 zc10, .slice za11 zn11 zc11, .slice za12 zn12 zc12, .int .i64 z13, .string z14, .int .i64 z15] 63) := ⟨_, rfl⟩
        have HBC := Lib.hid (show Below wr.heap.size wr C from by rw [hC]; exact (Below.refl _ _).alloc (Nat.le_refl _) _)
        have HCC := Lib.hid (show ∀ (j : Nat) u, ([.int .i64 z0, .string z1, .slice za2 zn2 zc2, .int .i64 z3, .int .i64 z4, .slice za5 zn5 zc5, .int .i64 z6, .slice za7 zn7 zc7, .string z8, .slice za9 zn9 zc9, .slice za10 zn10 zc10, .slice za11 zn11 zc11, .slice za12 zn12 zc12, .int .i64 z13, .string z14, .int .i64 z15] : List Value)[j]? = some u → C.cell? ⟨wr.heap.size, j, none⟩ = some u from fun j u hu => by
          rw [hC]
          have := new_cells wr [.int .i64 z0, .string z1, .slice za2 zn2 zc2, .int .i64 z3, .int .i64 z4, .slice za5 zn5 zc5, .int .i64 z6, .slice za7 zn7 zc7, .string z8, .slice za9 zn9 zc9, .slice za10 zn10 zc10, .slice za11 zn11 zc11, .slice za12 zn12 zc12, .int .i64 z13, .string z14, .int .i64 z15] 63 j u hu
          rw [Addr.add_mid, Nat.zero_add] at this; exact this)
        have HCL := Lib.hid (show Below w.heap.size w (wr.alloc (.cells #[.int .i64 z0, .string z1, .slice za2 zn2 zc2, .int .i64 z3, .int .i64 z4, .slice za5 zn5 zc5, .int .i64 z6, .slice za7 zn7 zc7, .string z8, .slice za9 zn9 zc9, .slice za10 zn10 zc10, .slice za11 zn11 zc11, .slice za12 zn12 zc12, .int .i64 z13, .string z14, .int .i64 z15] 63)) from (HB.out).trans (((Below.refl _ _).alloc (Nat.le_refl _) _).mono HB.out.size))
        have HCW := Lib.hid hC
        have HBB := Lib.hid (show Below w.heap.size w C from HB.out.trans (HBC.out.mono HB.out.size))
        clear hC
        by_cases hc1 : 20 < zn2
        · have ga1 : decide ((20 : Int) < (zn2 : Int)) = true := decide_eq_true (by omega)
          have gb1 : decide (20 < zn2) = true := decide_eq_true hc1
          go_wp2
          go_ret
          exact ⟨_, rfl, HCL.out⟩
        · have ga1 : decide ((20 : Int) < (zn2 : Int)) = false := decide_eq_false (by omega)
          have gb1 : decide (20 < zn2) = false := decide_eq_false hc1
          by_cases hc2 : 40 < zn5
          · have ga2 : decide ((40 : Int) < (zn5 : Int)) = true := decide_eq_true (by omega)
            have gb2 : decide (40 < zn5) = true := decide_eq_true hc2
            go_wp2
            go_ret
            exact ⟨_, rfl, HCL.out⟩
          · have ga2 : decide ((40 : Int) < (zn5 : Int)) = false := decide_eq_false (by omega)
            have gb2 : decide (40 < zn5) = false := decide_eq_false hc2
            by_cases hc3 : 20 < zn7
            · have ga3 : decide ((20 : Int) < (zn7 : Int)) = true := decide_eq_true (by omega)
              have gb3 : decide (20 < zn7) = true := decide_eq_true hc3
              go_wp2
              go_ret
              exact ⟨_, rfl, HCL.out⟩
            · have ga3 : decide ((20 : Int) < (zn7 : Int)) = false := decide_eq_false (by omega)
              have gb3 : decide (20 < zn7) = false := decide_eq_false hc3
              go_wp2_with fail
              rw [← HCW.out]
              refine (few_Schema C [.string z8, .slice za9 zn9 zc9, .slice za10 zn10 zc10, .slice za11 zn11 zc11, .slice za12 zn12 zc12] _ (Rd.more _ (fun b hb => Nat.lt_of_lt_of_le hb HBB.out.size) (rd_low HBB.out (Nat.le_refl _) HSC.out))).mono ?_
              rintro e w4 ⟨r, rfl, hb4⟩
              have HB4 := Lib.hid (HBB.out.trans (hb4.mono HBB.out.size))
              clear hb4 q0 q1 q2 q3 q4 q5 q6 q7 q8 q9 q10 q11 q12 q13 q14 q15
              cases r with
              | false =>
                go_wp2
                go_ret
                exact ⟨_, rfl, HB4.out⟩
              | true =>
                go_wp2
                go_roundg (gk - 1)
                case rel => exact ⟨i + 1, by omega, by have := HGK.out; omega, by go_num, HB4.out⟩
                case measure => have := HGK.out; omega
      · have hd2 : decide ((i : Int) ≤ 6) = false := decide_eq_false (by omega)
        have hd2' : ¬ (i : Int) ≤ 6 := by omega
        clear h6
        go_wp2
        go_ret
        exact ⟨_, rfl, HB.out⟩
    · obtain rfl : n = i := by omega
      have hd1 : decide ((n : Int) < (n : Int)) = false := by simp
      clear hin hi
      go_wp2
      go_ret
      exact ⟨_, rfl, HB.out⟩
end Go.Proofs.Ytfppjpmflpaffaa
