/-
  Law 34: FewDatabase: some bool. Printed by gen_cf.py.
-/
import Derived.Test.YtfppjpmflpaffaaCfB
namespace Go.Proofs.Ytfppjpmflpaffaa
open Go.RowKit
set_option linter.unusedVariables false
set_option linter.unusedSimpArgs false

set_option maxRecDepth 100000 in
set_option maxHeartbeats 4000000 in
theorem few_Database (w : World) (cs : List Value) (x : Ty.T tDatabase) (hx : (Ty.rd tDatabase).rd w (· < w.heap.size) cs x) : Calls Try.prog 11 #[goV cs, .int .i64 20] w (FewA w) := by
  obtain ⟨d0, d1, d2, d3, d4, d5⟩ := x
  obtain ⟨u0, r0, rfl, ⟨rfl, _⟩, u1, r1, rfl, ⟨rfl, _⟩, u2, r2, rfl, h2, u3, r3, rfl, ⟨rfl, _⟩, u4, r4, rfl, h4, h5⟩ := hx
  dsimp only at h2 h4 h5 ⊢
  obtain ⟨a2, n2, c2, rfl, hn2, hcap2, hcm2, hel2⟩ := h2
  have hn0_2 : 0 ≤ (n2 : Int) := by omega
  have hn1_2 : (n2 : Int) ≤ 9223372036854775807 := by unfold maxLen at hcm2; omega
  obtain ⟨a4, n4, c4, rfl, hn4, hcap4, hcm4, hel4⟩ := h4
  have hn0_4 : 0 ≤ (n4 : Int) := by omega
  have hn1_4 : (n4 : Int) ≤ 9223372036854775807 := by unfold maxLen at hcm4; omega
  obtain ⟨a5, n5, c5, rfl, hn5, hcap5, hcm5, hel5⟩ := h5
  have hn0_5 : 0 ≤ (n5 : Int) := by omega
  have hn1_5 : (n5 : Int) ≤ 9223372036854775807 := by unfold maxLen at hcm5; omega
  show Calls _ _ #[.agg #[.int .i64 d0, .int .i64 d1, .slice a2 n2 c2, .int .i64 d3, .slice a4 n4 c4, .slice a5 n5 c5], .int .i64 20] _ _
  obtain ⟨W0, hW0⟩ : ∃ W0, W0 = w.alloc (.cells #[.int .i64 d0, .int .i64 d1, .slice a2 n2 c2, .int .i64 d3, .slice a4 n4 c4, .slice a5 n5 c5] 44) := ⟨_, rfl⟩
  have HB0 := Lib.hid (show Below w.heap.size w W0 from by rw [hW0]; exact (Below.refl _ _).alloc (Nat.le_refl _) _)
  have HZ0 := Lib.hid (show w.heap.size < W0.heap.size by rw [hW0]; simp)
  have HBX := Lib.hid (show ∀ w', Below W0.heap.size W0 w' → ∀ (j : Nat) u, ([.int .i64 d0, .int .i64 d1, .slice a2 n2 c2, .int .i64 d3, .slice a4 n4 c4, .slice a5 n5 c5] : List Value)[j]? = some u → w'.cell? ⟨w.heap.size, j, none⟩ = some u from fun w' hb j u hu => by
    refine (hb.cell (p := ⟨w.heap.size, j, none⟩) HZ0.out).trans ?_
    rw [hW0]
    have := new_cells w [.int .i64 d0, .int .i64 d1, .slice a2 n2 c2, .int .i64 d3, .slice a4 n4 c4, .slice a5 n5 c5] 44 j u hu
    rw [Addr.add_mid, Nat.zero_add] at this; exact this)
  have HW0 := Lib.hid hW0
  have HE2 := Lib.hid (And.intro hn2 hel2)
  have HE5 := Lib.hid (And.intro hn5 hel5)
  clear hW0 hn2 hcap2 hcm2 hel2 hn4 hcap4 hcm4 hel4 hn5 hcap5 hcm5 hel5
  go_enter Try.func11, Try.ntmps11
  go_upto_region 1 with fail
  rw [← HW0.out]
  have b2 := HBX.out _ (Below.refl _ _) 2 _ rfl
  have b4 := HBX.out _ (Below.refl _ _) 4 _ rfl
  have b5 := HBX.out _ (Below.refl _ _) 5 _ rfl
  by_cases hc1 : 4 < n2
  · have ga1 : decide ((4 : Int) < (n2 : Int)) = true := decide_eq_true (by omega)
    have gb1 : decide (4 < n2) = true := decide_eq_true hc1
    go_wp2
    go_ret
    exact ⟨_, rfl, HB0.out⟩
  · have ga1 : decide ((4 : Int) < (n2 : Int)) = false := decide_eq_false (by omega)
    have gb1 : decide (4 < n2) = false := decide_eq_false hc1
    by_cases hc2 : 60 < n4
    · have ga2 : decide ((60 : Int) < (n4 : Int)) = true := decide_eq_true (by omega)
      have gb2 : decide (60 < n4) = true := decide_eq_true hc2
      go_wp2
      go_ret
      exact ⟨_, rfl, HB0.out⟩
    · have ga2 : decide ((60 : Int) < (n4 : Int)) = false := decide_eq_false (by omega)
      have gb2 : decide (60 < n4) = false := decide_eq_false hc2
      by_cases hc3 : 10 < n5
      · have ga3 : decide ((10 : Int) < (n5 : Int)) = true := decide_eq_true (by omega)
        have gb3 : decide (10 < n5) = true := decide_eq_true hc3
        go_wp2
        go_ret
        exact ⟨_, rfl, HB0.out⟩
      · have ga3 : decide ((10 : Int) < (n5 : Int)) = false := decide_eq_false (by omega)
        have gb3 : decide (10 < n5) = false := decide_eq_false hc3
        go_wp2
        go_loopg [5] n2 (fun gk t5 wr => ∃ (i : Nat), i ≤ n2 ∧ gk + i = n2 ∧ t5 = .int .i64 (i : Int) ∧ Below W0.heap.size W0 wr)
        case atStart => exact ⟨0, by omega, by omega, rfl, Below.refl _ _⟩
        case round =>
          clear b2 b4 b5
          obtain ⟨i, hi, hgk, rfl, hB⟩ := hrel
          have HGK := Lib.hid hgk
          have hi0 : 0 ≤ (i : Int) := by omega
          have HB := Lib.hid hB
          clear hgk hB
          have b2 := HBX.out _ HB.out 2 _ rfl
          by_cases hin : i < n2
          · have hd1 : decide ((i : Int) < (n2 : Int)) = true := decide_eq_true (by omega)
            have hi1 : (i : Int) < (n2 : Int) := by omega
            obtain ⟨y, hy⟩ : ∃ y, d2[i]? = some y := ⟨_, List.getElem?_eq_getElem (by have := HE2.out.1; omega)⟩
            rcases HE2.out.2 with h0 | ⟨b, off, haddr, hbF, hbl, hget⟩
            · omega
            subst haddr
            obtain ⟨ys, hA, hr⟩ := hget i y hy
            have HC := Lib.hid (show ∀ w', Below W0.heap.size W0 w' → ∀ (j : Nat) u, ys[j]? = some u → w'.cell? ⟨b, off + i * 6 + j, none⟩ = some u from fun w' hb j u hu => ((HB0.out.trans (hb.mono HB0.out.size)).cell (p := ⟨b, off + i * 6 + j, none⟩) hbl).trans (hA j u hu))
            obtain ⟨us, vs, rfl, hs, hv⟩ := hr
            obtain ⟨z0, za1, zn1, zc1, za2, zn2, zc2, za3, zn3, zc3, za4, zn4, zc4, rfl⟩ := shape_Schema (id hs)
            obtain ⟨va, vn, vc, rfl⟩ : ∃ a n c, vs = [.slice a n c] := by obtain ⟨a, n, c, e, _⟩ := id hv; exact ⟨a, n, c, e⟩
            have q0 : wr.cell? ⟨b, off + i * 6, none⟩ = some (.string z0) := HC.out _ HB.out 0 _ rfl
            have q1 : wr.cell? ⟨b, off + i * 6 + 1, none⟩ = some (.slice za1 zn1 zc1) := HC.out _ HB.out 1 _ rfl
            have q2 : wr.cell? ⟨b, off + i * 6 + 2, none⟩ = some (.slice za2 zn2 zc2) := HC.out _ HB.out 2 _ rfl
            have q3 : wr.cell? ⟨b, off + i * 6 + 3, none⟩ = some (.slice za3 zn3 zc3) := HC.out _ HB.out 3 _ rfl
            have q4 : wr.cell? ⟨b, off + i * 6 + 4, none⟩ = some (.slice za4 zn4 zc4) := HC.out _ HB.out 4 _ rfl
            have HS := Lib.hid hs
            have HV := Lib.hid hv
            clear hget hA hy hs hv hbF
            go_wp2_with fail
            have HBW := Lib.hid (HB0.out.trans (HB.out.mono HB0.out.size))
            refine (few_Schema wr [.string z0, .slice za1 zn1 zc1, .slice za2 zn2 zc2, .slice za3 zn3 zc3, .slice za4 zn4 zc4] _ (Rd.more _ (fun b hb => Nat.lt_of_lt_of_le hb HBW.out.size) (rd_low HBW.out (Nat.le_refl _) HS.out))).mono ?_
            rintro e w4 ⟨r, rfl, hb4⟩
            have HB4 := Lib.hid (show Below W0.heap.size W0 w4 from HB.out.trans (hb4.mono HB.out.size))
            clear hb4 q0 q1 q2 q3 q4
            have p2 := HBX.out _ HB4.out 2 _ rfl
            have p5 : w4.cell? ⟨b, off + i * 6 + 5, none⟩ = some (.slice va vn vc) := HC.out _ HB4.out 5 _ rfl
            cases r with
            | false =>
              go_wp2
              go_ret
              exact ⟨_, rfl, HB0.out.trans (HB4.out.mono HB0.out.size)⟩
            | true =>
              have HBV := Lib.hid (HB0.out.trans (HB4.out.mono HB0.out.size))
              go_wp2_with fail
              refine (few_Versions w4 _ _ (Rd.more _ (fun b hb => Nat.lt_of_lt_of_le hb HBV.out.size) (rd_low HBV.out (Nat.le_refl _) HV.out))).mono ?_
              rintro e w6 ⟨r, rfl, hb6⟩
              have HB6 := Lib.hid (show Below W0.heap.size W0 w6 from HB4.out.trans (hb6.mono HB4.out.size))
              clear hb6 p2 p5
              cases r with
              | false =>
                go_wp2
                go_ret
                exact ⟨_, rfl, HB0.out.trans (HB6.out.mono HB0.out.size)⟩
              | true =>
                go_wp2
                go_roundg (gk - 1)
                case rel => exact ⟨i + 1, by omega, by have := HGK.out; omega, by go_num, HB6.out⟩
                case measure => have := HGK.out; omega
          · obtain rfl : n2 = i := by omega
            have hd1 : decide ((n2 : Int) < (n2 : Int)) = false := by simp
            clear hin hi HGK hi0
            have b5 := HBX.out _ HB.out 5 _ rfl
            go_wp2
            clear b5
            have b2 := True.intro
            go_loopg [6] n5 (fun gk t6 wr => ∃ (i : Nat), i ≤ n5 ∧ gk + i = n5 ∧ t6 = .int .i64 (i : Int) ∧ Below W0.heap.size W0 wr)
            case atStart => exact ⟨0, by omega, by omega, rfl, HB.out⟩
            case round =>
              clear b2 HB
              obtain ⟨i, hi, hgk, rfl, hB⟩ := hrel
              have HGK := Lib.hid hgk
              have hi0 : 0 ≤ (i : Int) := by omega
              have HB := Lib.hid hB
              clear hgk hB
              have b5 := HBX.out _ HB.out 5 _ rfl
              by_cases hin : i < n5
              · have hd1 : decide ((i : Int) < (n5 : Int)) = true := decide_eq_true (by omega)
                have hi1 : (i : Int) < (n5 : Int) := by omega
                obtain ⟨y, hy⟩ : ∃ y, d5[i]? = some y := ⟨_, List.getElem?_eq_getElem (by have := HE5.out.1; omega)⟩
                rcases HE5.out.2 with h0 | ⟨b, off, haddr, hbF, hbl, hget⟩
                · omega
                subst haddr
                obtain ⟨ys, hA, hr⟩ := hget i y hy
                have HC := Lib.hid (show ∀ w', Below W0.heap.size W0 w' → ∀ (j : Nat) u, ys[j]? = some u → w'.cell? ⟨b, off + i * 6 + j, none⟩ = some u from fun w' hb j u hu => ((HB0.out.trans (hb.mono HB0.out.size)).cell (p := ⟨b, off + i * 6 + j, none⟩) hbl).trans (hA j u hu))
                obtain ⟨u0, v0, rfl, ⟨rfl, _⟩, us, vs, rfl, hs, hv⟩ := hr
                obtain ⟨z0, z1, z2, z3, rfl⟩ := shape_Request hs
                obtain ⟨va, vn, vc, rfl⟩ : ∃ a n c, vs = [.slice a n c] := by obtain ⟨a, n, c, e, _⟩ := id hv; exact ⟨a, n, c, e⟩
                have q4 : wr.cell? ⟨b, off + i * 6 + 4, none⟩ = some (.string z3) := HC.out _ HB.out 4 _ rfl
                have q5 : wr.cell? ⟨b, off + i * 6 + 5, none⟩ = some (.slice va vn vc) := HC.out _ HB.out 5 _ rfl
                have HV := Lib.hid hv
                clear hget hA hy hs hv hbF
                obtain ⟨ns, hns⟩ : ∃ ns, ns = z3.size := ⟨_, rfl⟩
                have HNS := Lib.hid hns
                have hns0 : 0 ≤ (ns : Int) := by omega
                clear hns
                have hsz : z3.size = ns := HNS.out.symm
                by_cases hc4 : 500 < ns
                · have ga4 : decide ((500 : Int) < (ns : Int)) = true := decide_eq_true (by omega)
                  have gb4 : decide (500 < ns) = true := decide_eq_true hc4
                  go_wp2
                  go_ret
                  exact ⟨_, rfl, HB0.out.trans (HB.out.mono HB0.out.size)⟩
                · have ga4 : decide ((500 : Int) < (ns : Int)) = false := decide_eq_false (by omega)
                  have gb4 : decide (500 < ns) = false := decide_eq_false hc4
                  have HBV := Lib.hid (HB0.out.trans (HB.out.mono HB0.out.size))
                  go_wp2_with fail
                  refine (few_Rows wr _ _ (Rd.more _ (fun b hb => Nat.lt_of_lt_of_le hb HBV.out.size) (rd_low HBV.out (Nat.le_refl _) HV.out))).mono ?_
                  rintro e w6 ⟨r, rfl, hb6⟩
                  have HB6 := Lib.hid (show Below W0.heap.size W0 w6 from HB.out.trans (hb6.mono HB.out.size))
                  clear hb6 q4 q5
                  cases r with
                  | false =>
                    go_wp2
                    go_ret
                    exact ⟨_, rfl, HB0.out.trans (HB6.out.mono HB0.out.size)⟩
                  | true =>
                    go_wp2
                    go_roundg (gk - 1)
                    case rel => exact ⟨i + 1, by omega, by have := HGK.out; omega, by go_num, HB6.out⟩
                    case measure => have := HGK.out; omega
              · obtain rfl : n5 = i := by omega
                have hd1 : decide ((n5 : Int) < (n5 : Int)) = false := by simp
                clear hin hi HGK hi0
                go_wp2
                go_ret
                exact ⟨_, rfl, HB0.out.trans (HB.out.mono HB0.out.size)⟩
end Go.Proofs.Ytfppjpmflpaffaa
