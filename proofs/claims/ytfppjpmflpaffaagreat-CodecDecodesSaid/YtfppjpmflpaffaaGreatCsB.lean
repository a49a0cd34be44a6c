/-
  The reference's decoder: numbers. Printed by gen_csB.py.
-/
import Derived.Test.YtfppjpmflpaffaaGreatCsA
namespace Go.Proofs.YtfppjpmflpaffaaGreat
open Go.RowKit
set_option linter.unusedVariables false
set_option linter.unusedSimpArgs false

set_option maxRecDepth 100000 in
set_option maxHeartbeats 4000000 in
theorem rget_int64 : RGetC 122 .num := by
  intro w rb B s h _
  obtain ⟨i0, err0, hp, hs⟩ := h.at_
  cases s with
  | error a =>
    obtain ⟨rfl, ha⟩ := hs.2 a rfl
    have c2 := hp.c2
    have g0 : (err0 == 0) = false := by rcases ha with rfl | rfl <;> rfl
    have H := Lib.hid (show RefR w rb B (.error err0) from ⟨⟨i0, err0, hp, hs⟩⟩)
    clear h hs hp ha
    go_enter Tryz.func122, Tryz.ntmps122
    go_wp2
    go_loopg [3, 4] 9 (fun gk t3 t4 wr => t4 = .int .i64 0 ∧ w = wr)
    case atStart => exact ⟨rfl, rfl⟩
    case round =>
      obtain ⟨rfl, rfl⟩ := hrel
      go_wp2
      go_ret
      exact ⟨[.int .i64 0], rfl, ⟨rfl, (rfl : (Lit.int .i64 0).wf = true)⟩, H.out, Chg.refl _ _⟩
  | ok b =>
    obtain ⟨rfl, rfl⟩ := hs.1 b rfl
    have HMX := Lib.hid hp.max
    obtain ⟨n, hn⟩ : ∃ n, n = B.length := ⟨_, rfl⟩
    have HN := Lib.hid hn
    have hn0 : 0 ≤ (n : Int) ∧ (n : Int) ≤ 1073741824 := by have := hp.max; omega
    obtain ⟨v, c0, hd, hlow⟩ := hp.c0
    obtain ⟨a, cp, rfl⟩ := hd.len
    rw [← hn] at c0 hd hlow
    have HD := Lib.hid hd
    have HLOW := Lib.hid hlow
    have HP := Lib.hid hp
    have HS := Lib.hid hs
    have HC0 := Lib.hid (show ∀ w', Chg (fun b => b = rb) w w' → Dat w' (.slice a n cp) B from fun w' hc => dat_chg hd hlow hc (fun b hb => by omega))
    have HC00 := Lib.hid c0
    clear h hs hp c0 hd hlow hn
    go_enter Tryz.func122, Tryz.ntmps122
    go_wp2
    go_loopg [3, 4] 9 (fun gk t3 t4 wr => ∃ (k u j : Nat), gk + k = 9 ∧ j = i0 + k ∧ t3 = .int .u64 (u : Int) ∧ t4 = .int .i64 (k : Int) ∧ u < 2 ^ (7 * k) ∧ getN 0 0 (B.drop i0) = getN k u (B.drop j) ∧ RefP wr rb B j 0 ∧ wr.cell? ⟨rb, 0, none⟩ = some (.slice a n cp) ∧ Chg (fun b => b = rb) w wr)
    case atStart => exact ⟨0, 0, i0, by omega, by omega, rfl, rfl, by decide, rfl, HP.out, HC00.out, Chg.refl _ _⟩
    case round =>
      obtain ⟨k, u, j, hgk, hj, rfl, rfl, hu, hget, hp, c0, hc⟩ := hrel
      have HGK := Lib.hid (And.intro hgk hj)
      have HU := Lib.hid hu
      have HGET := Lib.hid hget
      have HP1 := Lib.hid hp
      have HC1 := Lib.hid hc
      have c1 := hp.c1
      have c2 := hp.c2
      have f1 := hp.free 1
      have hk0 : 0 ≤ (k : Int) ∧ (k : Int) ≤ 9 := by omega
      have hu0 : 0 ≤ (u : Int) := by omega
      have hj0 : 0 ≤ (j : Int) ∧ (j : Int) ≤ 1073741824 := by have := hp.le; have := hp.max; omega
      have hjn : j ≤ n := by have := hp.le; have := HN.out; omega
      have hd10 : decide ((k : Int) < 10) = true := decide_eq_true (by omega)
      have hd10' : (k : Int) < 10 := by omega
      clear hgk hj hu hget hp hc
      by_cases hin : j = n
      · have ge1 : decide ((n : Int) ≤ (j : Int)) = true := decide_eq_true (by omega)
        have ge2 : (n : Int) ≤ (j : Int) := by omega
        go_wp2
        go_quiet (fail)
        go_wp2_with fail
        refine (rcd_fail (HP1.out.drewN _) 2).mono ?_
        rintro e w1 ⟨rfl, hr, hc⟩
        rw [if_pos rfl] at hr
        have HR := Lib.hid (And.intro hr hc)
        clear hr hc
        go_wp2
        go_ret
        have e : dec .num (.ok (B.drop i0)) = (0, .error 2) := by
          show dnum (.ok _) = _
          unfold dnum
          simp only
          rw [HGET.out, List.drop_of_length_le (by have := HN.out; omega), getN]
        refine ⟨[.int .i64 0], rfl, ?_, ?_, (HC1.out.drewN _).trans HR.out.2⟩
        · rw [e]; exact ⟨rfl, (rfl : (Lit.int .i64 0).wf = true)⟩
        · rw [e]; exact ⟨⟨j, 2, HR.out.1, fun r e => (by cases e), fun e he => by cases he; exact ⟨rfl, .inl rfl⟩⟩⟩
      · have ge1 : decide ((n : Int) ≤ (j : Int)) = false := decide_eq_false (by omega)
        have ge2 : ¬ (n : Int) ≤ (j : Int) := by omega
        have hjl : (j : Int) < (n : Int) := by omega
        obtain ⟨x, hx⟩ : ∃ x, B[j]? = some x := ⟨_, List.getElem?_eq_getElem (by have := HN.out; omega)⟩
        have HX := Lib.hid (show B.drop j = x :: B.drop (j + 1) from by
          have hlt : j < B.length := (List.getElem?_eq_some_iff.1 hx).1
          have e := (List.getElem?_eq_some_iff.1 hx).2
          rw [List.drop_eq_getElem_cons hlt, e])
        rcases (HC0.out _ HC1.out).1.2 with ⟨h0, _⟩ | ⟨g, off, c', e, _, _, hcell⟩
        · exfalso; have := HN.out; omega
        simp only [Value.slice.injEq] at e
        obtain ⟨rfl, hnb, rfl⟩ := e
        clear hnb
        have cx : wr.cell? ⟨g, off + j, none⟩ = some (.int .u8 (x.toNat : Int)) := hcell _ _ (pc_get hx)
        have hx0 : 0 ≤ (x.toNat : Int) ∧ (x.toNat : Int) < 256 := by have := x.toNat_lt; omega
        have HJ := Lib.hid (show j + 1 ≤ B.length from by have := HN.out; omega)
        clear hx hcell hin hjn
        go_wp2
        go_quiet (fail)
        generalize nq = m1
        go_wp2
        go_quiet (fail)
        generalize nq = m2
        have HP3 := Lib.hid (show RefP ((wr.drewN (m1 + m2)).setCell ⟨rb, 1, none⟩ (.int .i64 ((j : Int) + 1))) rb B (j + 1) 0 ∧ Chg (fun b => b = rb) w ((wr.drewN (m1 + m2)).setCell ⟨rb, 1, none⟩ (.int .i64 ((j : Int) + 1))) from by
          have h1 := (HP1.out.drewN (m1 + m2)).set1 (j + 1) HJ.out
          have e : ((j + 1 : Nat) : Int) = (j : Int) + 1 := by omega
          rw [e] at h1
          exact ⟨h1.1, (HC1.out.drewN (m1 + m2)).trans h1.2⟩)
        have HC3 := Lib.hid (show ((wr.drewN (m1 + m2)).setCell ⟨rb, 1, none⟩ (.int .i64 ((j : Int) + 1))).cell? ⟨rb, 0, none⟩ = some (.slice (some ⟨g, off, none⟩) n cp) from by rw [World.cell?_setCell_other _ _ _ _ (by simp)]; exact c0)
        by_cases h9 : k = 9
        · subst h9
          clear hk0 hd10 hd10'
          by_cases hc1 : 1 < x.toNat
          · have kc : decide ((1 : Int) < (x.toNat : Int)) = true := decide_eq_true (by omega)
            have HB := Lib.hid (show (9 = 9 ∧ 1 < x.toNat) ∨ (0 < 9 ∧ x.toNat = 0) from by omega)
            go_wp2_with fail
            refine (rcd_fail HP3.out.1 5).mono ?_
            rintro e w1 ⟨rfl, hr, hc⟩
            rw [if_pos rfl] at hr
            have HR := Lib.hid (And.intro hr hc)
            clear hr hc
            go_wp2
            go_ret
            have e : dec .num (.ok (B.drop i0)) = (0, .error 5) := by
              show dnum (.ok _) = _
              unfold dnum
              simp only
              rw [HGET.out, HX.out, getN, if_pos (by have := HB.out; first | exact this | simpa using this)]
            refine ⟨[.int .i64 0], rfl, ?_, ?_, HP3.out.2.trans HR.out.2⟩
            · rw [e]; exact ⟨rfl, (rfl : (Lit.int .i64 0).wf = true)⟩
            · rw [e]; exact ⟨⟨j + 1, 5, HR.out.1, fun r e => (by cases e), fun e he => by cases he; exact ⟨rfl, .inr rfl⟩⟩⟩
          · have kc : decide ((1 : Int) < (x.toNat : Int)) = false := decide_eq_false (by omega)
            have h128 : x.toNat < 128 := by omega
            have kd : decide ((128 : Int) ≤ (x.toNat : Int)) = false := decide_eq_false (by omega)
            by_cases hc0 : x.toNat = 0
            · have kz : ((x.toNat : Int) == 0) = true := beq_iff_eq.2 (by omega)
              have HB := Lib.hid (show (9 = 9 ∧ 1 < x.toNat) ∨ (0 < 9 ∧ x.toNat = 0) from by omega)
              go_wp2_with fail
              refine (rcd_fail HP3.out.1 5).mono ?_
              rintro e w1 ⟨rfl, hr, hc⟩
              rw [if_pos rfl] at hr
              have HR := Lib.hid (And.intro hr hc)
              clear hr hc
              go_wp2
              go_ret
              have e : dec .num (.ok (B.drop i0)) = (0, .error 5) := by
                show dnum (.ok _) = _
                unfold dnum
                simp only
                rw [HGET.out, HX.out, getN, if_pos (by have := HB.out; first | exact this | simpa using this)]
              refine ⟨[.int .i64 0], rfl, ?_, ?_, HP3.out.2.trans HR.out.2⟩
              · rw [e]; exact ⟨rfl, (rfl : (Lit.int .i64 0).wf = true)⟩
              · rw [e]; exact ⟨⟨j + 1, 5, HR.out.1, fun r e => (by cases e), fun e he => by cases he; exact ⟨rfl, .inr rfl⟩⟩⟩
            · have kz : ((x.toNat : Int) == 0) = false := beq_eq_false_iff_ne.2 (by omega)
              have HB := Lib.hid (show ¬ ((9 = 9 ∧ 1 < x.toNat) ∨ (0 < 9 ∧ x.toNat = 0)) from by omega)
              obtain ⟨U, hU⟩ : ∃ U, U = u + x.toNat % 128 * 2 ^ (7 * 9) := ⟨_, rfl⟩
              have HUU := Lib.hid hU
              have eU := (or_part9 HU.out (by have := x.toNat_lt; omega) (by omega)).trans (congrArg (fun n : Nat => (n : Int)) hU.symm)
              have hU0 : 0 ≤ (U : Int) := by omega
              clear hU
              have HG2 := Lib.hid (show getN 9 u (B.drop j) = .ok (U, B.drop (j + 1)) from by rw [HX.out, getN, if_neg HB.out, if_pos h128, HUU.out])
              have HU64 := Lib.hid (show U < 2 ^ 64 from part_lt HUU.out (by omega) HU.out h128 (fun h => by have := HB.out; omega))
              have HE := Lib.hid (show dec .num (.ok (B.drop i0)) = (unz U, .ok (B.drop (j + 1))) from by
                show dnum (.ok _) = _
                unfold dnum
                simp only
                rw [HGET.out, HG2.out])
              by_cases hodd : U % 2 = 1
              · have ko : (bits .and .u64 (U : Int) 1 == 1) = true := by rw [and_one]; exact beq_iff_eq.2 (by omega)
                have ex : wrap64 (bits .xor .u64 IntKind.u64.max ((U : Int) / 2)) = unz U := xor_half HU64.out hodd
                go_wp2
                go_ret
                exact ⟨[.int .i64 (unz U)], by first | rfl | simp [goV, ex], by rw [HE.out]; exact ⟨rfl, unz_wf HU64.out⟩, by rw [HE.out]; exact ⟨⟨j + 1, 0, HP3.out.1, fun r e => by cases e; exact ⟨rfl, rfl⟩, fun e he => (by cases he)⟩⟩, HP3.out.2⟩
              · have ko : (bits .and .u64 (U : Int) 1 == 1) = false := by rw [and_one]; exact beq_eq_false_iff_ne.2 (by omega)
                have ex : wrap64 ((U : Int) / 2) = unz U := half_even HU64.out hodd
                go_wp2
                go_ret
                exact ⟨[.int .i64 (unz U)], by first | rfl | simp [goV, ex], by rw [HE.out]; exact ⟨rfl, unz_wf HU64.out⟩, by rw [HE.out]; exact ⟨⟨j + 1, 0, HP3.out.1, fun r e => by cases e; exact ⟨rfl, rfl⟩, fun e he => (by cases he)⟩⟩, HP3.out.2⟩
        · have k9 : ((k : Int) == 9) = false := beq_eq_false_iff_ne.2 (by omega)
          by_cases h128 : x.toNat < 128
          · have kd : decide ((128 : Int) ≤ (x.toNat : Int)) = false := decide_eq_false (by omega)
            by_cases hi1 : 0 < k
            · have ki : decide ((0 : Int) < (k : Int)) = true := decide_eq_true (by omega)
              by_cases hc0 : x.toNat = 0
              · have kz : ((x.toNat : Int) == 0) = true := beq_iff_eq.2 (by omega)
                have HB := Lib.hid (show (k = 9 ∧ 1 < x.toNat) ∨ (0 < k ∧ x.toNat = 0) from by omega)
                go_wp2_with fail
                refine (rcd_fail HP3.out.1 5).mono ?_
                rintro e w1 ⟨rfl, hr, hc⟩
                rw [if_pos rfl] at hr
                have HR := Lib.hid (And.intro hr hc)
                clear hr hc
                go_wp2
                go_ret
                have e : dec .num (.ok (B.drop i0)) = (0, .error 5) := by
                  show dnum (.ok _) = _
                  unfold dnum
                  simp only
                  rw [HGET.out, HX.out, getN, if_pos (by have := HB.out; first | exact this | simpa using this)]
                refine ⟨[.int .i64 0], rfl, ?_, ?_, HP3.out.2.trans HR.out.2⟩
                · rw [e]; exact ⟨rfl, (rfl : (Lit.int .i64 0).wf = true)⟩
                · rw [e]; exact ⟨⟨j + 1, 5, HR.out.1, fun r e => (by cases e), fun e he => by cases he; exact ⟨rfl, .inr rfl⟩⟩⟩
              · have kz : ((x.toNat : Int) == 0) = false := beq_eq_false_iff_ne.2 (by omega)
                have HB := Lib.hid (show ¬ ((k = 9 ∧ 1 < x.toNat) ∨ (0 < k ∧ x.toNat = 0)) from by omega)
                obtain ⟨U, hU⟩ : ∃ U, U = u + x.toNat % 128 * 2 ^ (7 * k) := ⟨_, rfl⟩
                have HUU := Lib.hid hU
                have eU := (or_part (i := k) (by omega) HU.out (by have := x.toNat_lt; omega) (fun h => by first | omega | (rw [h] at hk0; omega))).trans (congrArg (fun n : Nat => (n : Int)) hU.symm)
                have hU0 : 0 ≤ (U : Int) := by omega
                clear hU
                have HG2 := Lib.hid (show getN k u (B.drop j) = .ok (U, B.drop (j + 1)) from by rw [HX.out, getN, if_neg HB.out, if_pos h128, HUU.out])
                have HU64 := Lib.hid (show U < 2 ^ 64 from part_lt HUU.out (by omega) HU.out h128 (fun h => by have := HB.out; omega))
                have HE := Lib.hid (show dec .num (.ok (B.drop i0)) = (unz U, .ok (B.drop (j + 1))) from by
                  show dnum (.ok _) = _
                  unfold dnum
                  simp only
                  rw [HGET.out, HG2.out])
                by_cases hodd : U % 2 = 1
                · have ko : (bits .and .u64 (U : Int) 1 == 1) = true := by rw [and_one]; exact beq_iff_eq.2 (by omega)
                  have ex : wrap64 (bits .xor .u64 IntKind.u64.max ((U : Int) / 2)) = unz U := xor_half HU64.out hodd
                  go_wp2
                  go_ret
                  exact ⟨[.int .i64 (unz U)], by first | rfl | simp [goV, ex], by rw [HE.out]; exact ⟨rfl, unz_wf HU64.out⟩, by rw [HE.out]; exact ⟨⟨j + 1, 0, HP3.out.1, fun r e => by cases e; exact ⟨rfl, rfl⟩, fun e he => (by cases he)⟩⟩, HP3.out.2⟩
                · have ko : (bits .and .u64 (U : Int) 1 == 1) = false := by rw [and_one]; exact beq_eq_false_iff_ne.2 (by omega)
                  have ex : wrap64 ((U : Int) / 2) = unz U := half_even HU64.out hodd
                  go_wp2
                  go_ret
                  exact ⟨[.int .i64 (unz U)], by first | rfl | simp [goV, ex], by rw [HE.out]; exact ⟨rfl, unz_wf HU64.out⟩, by rw [HE.out]; exact ⟨⟨j + 1, 0, HP3.out.1, fun r e => by cases e; exact ⟨rfl, rfl⟩, fun e he => (by cases he)⟩⟩, HP3.out.2⟩
            · have ki : decide ((0 : Int) < (k : Int)) = false := decide_eq_false (by omega)
              by_cases hc0 : x.toNat = 0
              · have kz : ((x.toNat : Int) == 0) = true := beq_iff_eq.2 (by omega)
                have HB := Lib.hid (show ¬ ((k = 9 ∧ 1 < x.toNat) ∨ (0 < k ∧ x.toNat = 0)) from by omega)
                obtain ⟨U, hU⟩ : ∃ U, U = u + x.toNat % 128 * 2 ^ (7 * k) := ⟨_, rfl⟩
                have HUU := Lib.hid hU
                have eU := (or_part (i := k) (by omega) HU.out (by have := x.toNat_lt; omega) (fun h => by first | omega | (rw [h] at hk0; omega))).trans (congrArg (fun n : Nat => (n : Int)) hU.symm)
                have hU0 : 0 ≤ (U : Int) := by omega
                clear hU
                rw [hc0] at eU
                replace eU : bits .or .u64 (u : Int) (IntKind.u64.wrap (IntKind.u64.wrap (bits .and .u8 0 127) * 2 ^ (7 * k))) = (U : Int) := eU
                have HG2 := Lib.hid (show getN k u (B.drop j) = .ok (U, B.drop (j + 1)) from by rw [HX.out, getN, if_neg HB.out, if_pos h128, HUU.out])
                have HU64 := Lib.hid (show U < 2 ^ 64 from part_lt HUU.out (by omega) HU.out h128 (fun h => by have := HB.out; omega))
                have HE := Lib.hid (show dec .num (.ok (B.drop i0)) = (unz U, .ok (B.drop (j + 1))) from by
                  show dnum (.ok _) = _
                  unfold dnum
                  simp only
                  rw [HGET.out, HG2.out])
                by_cases hodd : U % 2 = 1
                · have ko : (bits .and .u64 (U : Int) 1 == 1) = true := by rw [and_one]; exact beq_iff_eq.2 (by omega)
                  have ex : wrap64 (bits .xor .u64 IntKind.u64.max ((U : Int) / 2)) = unz U := xor_half HU64.out hodd
                  go_wp2
                  go_ret
                  exact ⟨[.int .i64 (unz U)], by first | rfl | simp [goV, ex], by rw [HE.out]; exact ⟨rfl, unz_wf HU64.out⟩, by rw [HE.out]; exact ⟨⟨j + 1, 0, HP3.out.1, fun r e => by cases e; exact ⟨rfl, rfl⟩, fun e he => (by cases he)⟩⟩, HP3.out.2⟩
                · have ko : (bits .and .u64 (U : Int) 1 == 1) = false := by rw [and_one]; exact beq_eq_false_iff_ne.2 (by omega)
                  have ex : wrap64 ((U : Int) / 2) = unz U := half_even HU64.out hodd
                  go_wp2
                  go_ret
                  exact ⟨[.int .i64 (unz U)], by first | rfl | simp [goV, ex], by rw [HE.out]; exact ⟨rfl, unz_wf HU64.out⟩, by rw [HE.out]; exact ⟨⟨j + 1, 0, HP3.out.1, fun r e => by cases e; exact ⟨rfl, rfl⟩, fun e he => (by cases he)⟩⟩, HP3.out.2⟩
              · have kz : ((x.toNat : Int) == 0) = false := beq_eq_false_iff_ne.2 (by omega)
                have HB := Lib.hid (show ¬ ((k = 9 ∧ 1 < x.toNat) ∨ (0 < k ∧ x.toNat = 0)) from by omega)
                obtain ⟨U, hU⟩ : ∃ U, U = u + x.toNat % 128 * 2 ^ (7 * k) := ⟨_, rfl⟩
                have HUU := Lib.hid hU
                have eU := (or_part (i := k) (by omega) HU.out (by have := x.toNat_lt; omega) (fun h => by first | omega | (rw [h] at hk0; omega))).trans (congrArg (fun n : Nat => (n : Int)) hU.symm)
                have hU0 : 0 ≤ (U : Int) := by omega
                clear hU
                have HG2 := Lib.hid (show getN k u (B.drop j) = .ok (U, B.drop (j + 1)) from by rw [HX.out, getN, if_neg HB.out, if_pos h128, HUU.out])
                have HU64 := Lib.hid (show U < 2 ^ 64 from part_lt HUU.out (by omega) HU.out h128 (fun h => by have := HB.out; omega))
                have HE := Lib.hid (show dec .num (.ok (B.drop i0)) = (unz U, .ok (B.drop (j + 1))) from by
                  show dnum (.ok _) = _
                  unfold dnum
                  simp only
                  rw [HGET.out, HG2.out])
                by_cases hodd : U % 2 = 1
                · have ko : (bits .and .u64 (U : Int) 1 == 1) = true := by rw [and_one]; exact beq_iff_eq.2 (by omega)
                  have ex : wrap64 (bits .xor .u64 IntKind.u64.max ((U : Int) / 2)) = unz U := xor_half HU64.out hodd
                  go_wp2
                  go_ret
                  exact ⟨[.int .i64 (unz U)], by first | rfl | simp [goV, ex], by rw [HE.out]; exact ⟨rfl, unz_wf HU64.out⟩, by rw [HE.out]; exact ⟨⟨j + 1, 0, HP3.out.1, fun r e => by cases e; exact ⟨rfl, rfl⟩, fun e he => (by cases he)⟩⟩, HP3.out.2⟩
                · have ko : (bits .and .u64 (U : Int) 1 == 1) = false := by rw [and_one]; exact beq_eq_false_iff_ne.2 (by omega)
                  have ex : wrap64 ((U : Int) / 2) = unz U := half_even HU64.out hodd
                  go_wp2
                  go_ret
                  exact ⟨[.int .i64 (unz U)], by first | rfl | simp [goV, ex], by rw [HE.out]; exact ⟨rfl, unz_wf HU64.out⟩, by rw [HE.out]; exact ⟨⟨j + 1, 0, HP3.out.1, fun r e => by cases e; exact ⟨rfl, rfl⟩, fun e he => (by cases he)⟩⟩, HP3.out.2⟩
          · have kd : decide ((128 : Int) ≤ (x.toNat : Int)) = true := decide_eq_true (by omega)
            by_cases hc0 : x.toNat = 0
            · exact absurd hc0 (by omega)
            have HB := Lib.hid (show ¬ ((k = 9 ∧ 1 < x.toNat) ∨ (0 < k ∧ x.toNat = 0)) from by omega)
            obtain ⟨U, hU⟩ : ∃ U, U = u + x.toNat % 128 * 2 ^ (7 * k) := ⟨_, rfl⟩
            have HUU := Lib.hid hU
            have eU := (or_part (i := k) (by omega) HU.out (by have := x.toNat_lt; omega) (fun h => by first | omega | (rw [h] at hk0; omega))).trans (congrArg (fun n : Nat => (n : Int)) hU.symm)
            have hU0 : 0 ≤ (U : Int) := by omega
            clear hU
            have HG2 := Lib.hid (show getN k u (B.drop j) = getN (k + 1) U (B.drop (j + 1)) from by rw [HX.out, getN, if_neg HB.out, if_neg h128, HUU.out])
            have HUN := Lib.hid (show U < 2 ^ (7 * (k + 1)) from part_next HUU.out HU.out)
            go_wp2
            go_roundg (gk - 1)
            case rel => exact ⟨k + 1, U, j + 1, by have := HGK.out; omega, by have := HGK.out; omega, by go_num, by go_num, HUN.out, HGET.out.trans HG2.out, HP3.out.1, HC3.out, HP3.out.2⟩
            case measure => have := HGK.out; omega
end Go.Proofs.YtfppjpmflpaffaaGreat
