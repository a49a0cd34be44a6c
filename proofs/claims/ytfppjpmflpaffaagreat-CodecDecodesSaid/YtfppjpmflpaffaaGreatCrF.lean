/-
  The reference's encoder: edits. Printed by gen_cr.py.
-/
import Derived.Test.YtfppjpmflpaffaaGreatCrE
namespace Go.Proofs.YtfppjpmflpaffaaGreat
open Go.RowKit
set_option linter.unusedVariables false
set_option linter.unusedSimpArgs false

set_option maxRecDepth 100000 in
set_option maxHeartbeats 4000000 in
theorem rf_Edit : RefC 52 tEdit := by
  intro w base v0 l cs x hb hr hx hl
  obtain ⟨W0, hW0⟩ : ∃ W0, W0 = w.alloc (.cells cs.toArray 113) := ⟨_, rfl⟩
  have hb0 : Below w.heap.size w W0 := by rw [hW0]; exact (Below.refl _ _).alloc (Nat.le_refl _) _
  replace hx : (Ty.rd tEdit).rd W0 (· < base) cs x := rd_low (hb0.mono hb) hb hx
  have HR0 := Lib.hid (hr.keep hb0)
  have HB0 := Lib.hid (Nat.le_trans hb hb0.size)
  have HBX := Lib.hid (show ∀ w' v', Grw v0 v' W0 w' → ∀ (j : Nat) u, cs[j]? = some u → w'.cell? ⟨w.heap.size, j, none⟩ = some u from fun w' v' hg j u hu => by
    refine (hg.cell (a := ⟨w.heap.size, j, none⟩) (fun e => Nat.lt_irrefl _ (hr.ge _ e).2) (by show w.heap.size < W0.heap.size; rw [hW0]; simp)).trans ?_
    rw [hW0]
    have := new_cells w cs 113 j u hu
    rw [Addr.add_mid, Nat.zero_add] at this; exact this)
  have HB00 := Lib.hid hb0
  obtain ⟨d0, d1, d2, d3, d4, d5, d6, d7, d8⟩ := x
  obtain ⟨u0, r0, rfl, h0, u1, r1, rfl, h1, u2, r2, rfl, h2, u3, r3, rfl, h3, u4, r4, rfl, h4, u5, r5, rfl, h5, u6, r6, rfl, h6, u7, r7, rfl, h7, h8⟩ := hx
  dsimp only at h0 h1 h2 h3 h4 h5 h6 h7 h8
  obtain ⟨z0_0, rfl⟩ : ∃ z : Int, u0 = [.int .i64 z] := ⟨_, h0.1⟩
  obtain ⟨z1_0, rfl⟩ : ∃ z : ByteArray, u1 = [.string z] := ⟨_, h1.1⟩
  obtain ⟨z2_a0, z2_n0, z2_c0, rfl⟩ : ∃ a n c, u2 = [.slice a n c] := by obtain ⟨a, n, c, e, _⟩ := id h2; exact ⟨a, n, c, e⟩
  obtain ⟨z3_0, z3_1, rfl⟩ := shape_Period h3
  obtain ⟨z4_a0, z4_n0, z4_c0, rfl⟩ : ∃ a n c, u4 = [.slice a n c] := by obtain ⟨a, n, c, e, _⟩ := id h4; exact ⟨a, n, c, e⟩
  obtain ⟨z5_0, rfl⟩ : ∃ z : Int, u5 = [.int .i64 z] := ⟨_, h5.1⟩
  obtain ⟨z6_a0, z6_n0, z6_c0, rfl⟩ : ∃ a n c, u6 = [.slice a n c] := by obtain ⟨a, n, c, e, _⟩ := id h6; exact ⟨a, n, c, e⟩
  obtain ⟨z7_0, z7_a1, z7_n1, z7_c1, z7_a2, z7_n2, z7_c2, z7_a3, z7_n3, z7_c3, z7_a4, z7_n4, z7_c4, rfl⟩ := shape_Schema h7
  obtain ⟨z8_0, z8_1, z8_2, rfl⟩ := shape_Column h8
  have HW0 := Lib.hid (show W0 = w.alloc (.cells #[.int .i64 z0_0, .string z1_0, .slice z2_a0 z2_n0 z2_c0, .int .i64 z3_0, .int .i64 z3_1, .slice z4_a0 z4_n0 z4_c0, .int .i64 z5_0, .slice z6_a0 z6_n0 z6_c0, .string z7_0, .slice z7_a1 z7_n1 z7_c1, .slice z7_a2 z7_n2 z7_c2, .slice z7_a3 z7_n3 z7_c3, .slice z7_a4 z7_n4 z7_c4, .int .i64 z8_0, .string z8_1, .int .i64 z8_2] 113) from hW0)
  show Calls _ _ #[v0, .agg #[.int .i64 z0_0, .string z1_0, .slice z2_a0 z2_n0 z2_c0, .int .i64 z3_0, .int .i64 z3_1, .slice z4_a0 z4_n0 z4_c0, .int .i64 z5_0, .slice z6_a0 z6_n0 z6_c0, .string z7_0, .slice z7_a1 z7_n1 z7_c1, .slice z7_a2 z7_n2 z7_c2, .slice z7_a3 z7_n3 z7_c3, .slice z7_a4 z7_n4 z7_c4, .int .i64 z8_0, .string z8_1, .int .i64 z8_2]] _ _
  have HX0 := Lib.hid h0
  have HX1 := Lib.hid h1
  have HX2 := Lib.hid h2
  have HX3 := Lib.hid h3
  have HX4 := Lib.hid h4
  have P4N := Lib.hid (show z4_n0 = List.length d4 ∧ (z4_n0 = 0 ∨ ∃ b off, z4_a0 = some ⟨b, off, none⟩ ∧ b < base ∧ b < W0.heap.size ∧ ∀ (i : Nat) y, d4[i]? = some y → ∃ ys, At W0 b (off + i * (Ty.rd tExpr).size) ys ∧ (Ty.rd tExpr).rd W0 (· < base) ys y) ∧ (Lit.int .i64 (z4_n0 : Int)).wf = true from by
    obtain ⟨a', n', c', e, g1, g2, g3, g4⟩ := id h4
    simp only [List.cons.injEq, Value.slice.injEq, and_true] at e
    obtain ⟨rfl, rfl, rfl⟩ := e
    refine ⟨g1, g4, ?_⟩
    unfold maxLen at g3; simp [Lit.wf, IntKind.min, IntKind.max, IntKind.bits, IntKind.signed]; omega)
  have P4n0 : 0 ≤ (z4_n0 : Int) := by omega
  have P4n1 : (z4_n0 : Int) ≤ 9223372036854775807 := by have h := P4N.out.2.2; simp [Lit.wf, IntKind.min, IntKind.max, IntKind.bits, IntKind.signed] at h; omega
  have HX5 := Lib.hid h5
  have HX6 := Lib.hid h6
  have P6N := Lib.hid (show z6_n0 = List.length d6 ∧ (z6_n0 = 0 ∨ ∃ b off, z6_a0 = some ⟨b, off, none⟩ ∧ b < base ∧ b < W0.heap.size ∧ ∀ (i : Nat) y, d6[i]? = some y → ∃ ys, At W0 b (off + i * (Ty.rd tAssignment).size) ys ∧ (Ty.rd tAssignment).rd W0 (· < base) ys y) ∧ (Lit.int .i64 (z6_n0 : Int)).wf = true from by
    obtain ⟨a', n', c', e, g1, g2, g3, g4⟩ := id h6
    simp only [List.cons.injEq, Value.slice.injEq, and_true] at e
    obtain ⟨rfl, rfl, rfl⟩ := e
    refine ⟨g1, g4, ?_⟩
    unfold maxLen at g3; simp [Lit.wf, IntKind.min, IntKind.max, IntKind.bits, IntKind.signed]; omega)
  have P6n0 : 0 ≤ (z6_n0 : Int) := by omega
  have P6n1 : (z6_n0 : Int) ≤ 9223372036854775807 := by have h := P6N.out.2.2; simp [Lit.wf, IntKind.min, IntKind.max, IntKind.bits, IntKind.signed] at h; omega
  have HX7 := Lib.hid h7
  have HX8 := Lib.hid h8
  have henc : enc tEdit (d0, d1, d2, d3, d4, d5, d6, d7, d8) = (enc .num d0 ++ (enc .str d1 ++ (enc (.list tValue) d2 ++ (enc tPeriod d3 ++ (enc .num (z4_n0 : Int) ++ (List.flatMap (enc tExpr) d4 ++ (enc .num d5 ++ (enc .num (z6_n0 : Int) ++ (List.flatMap (enc tAssignment) d6 ++ (enc tSchema d7 ++ enc tColumn d8)))))))))) := by
    show (enc .num d0 ++ (enc .str d1 ++ (enc (.list tValue) d2 ++ (enc tPeriod d3 ++ ((enc .num ((List.length d4 : Nat) : Int) ++ List.flatMap (enc tExpr) d4) ++ (enc .num d5 ++ ((enc .num ((List.length d6 : Nat) : Int) ++ List.flatMap (enc tAssignment) d6) ++ (enc tSchema d7 ++ enc tColumn d8)))))))) = _
    first | rfl | (rw [← P4N.out.1, ← P6N.out.1]; done) | (rw [← P4N.out.1, ← P6N.out.1]; simp only [List.append_assoc]; done)
  rw [henc] at hl ⊢
  simp only [List.length_append] at hl
  have HL := Lib.hid hl
  clear hW0 hb0 hr hb hl henc h0 h1 h2 h3 h4 h5 h6 h7 h8
  go_enter Tryz.func52, Tryz.ntmps52
  have HT0 := Lib.hid (Grw.refl v0 W0)
  have HD1box := Lib.hid (HT0.out.trans (Grw.of_below (w' := W0.drew) (Below.refl _ _).drew))
  have HKP1 := Lib.hid (show ∀ w' v', Grw v0 v' W0.drew w' → (w'.cell? ⟨w.heap.size, 0, none⟩ = some (.int .i64 z0_0) ∧ w'.cell? ⟨w.heap.size, 1, none⟩ = some (.string z1_0) ∧ w'.cell? ⟨w.heap.size, 2, none⟩ = some (.slice z2_a0 z2_n0 z2_c0) ∧ w'.cell? ⟨w.heap.size, 3, none⟩ = some (.int .i64 z3_0) ∧ w'.cell? ⟨w.heap.size, 4, none⟩ = some (.int .i64 z3_1)) from fun w' v' hg =>
    ⟨HBX.out _ _ (HD1box.out.trans hg) 0 _ rfl, HBX.out _ _ (HD1box.out.trans hg) 1 _ rfl, HBX.out _ _ (HD1box.out.trans hg) 2 _ rfl, HBX.out _ _ (HD1box.out.trans hg) 3 _ rfl, HBX.out _ _ (HD1box.out.trans hg) 4 _ rfl⟩)
  have HIN1 := Lib.hid (HKP1.out _ _ (Grw.refl _ _))
  have HC1 := Lib.hid (rf_num W0.drew base v0 l [.int .i64 z0_0] d0 (Nat.le_trans HB0.out HD1box.out.chg.size) (HR0.out.keep (Below.refl _ _).drew) (rd_grw HD1box.out HR0.out HB0.out HX0.out) (by have := HL.out; (try simp only [List.length_append, List.length_nil]); omega))
  go_wp2_with fail
  rw [← HW0.out]
  go_region_held3 (fun w' => w'.cell? ⟨w.heap.size, 0, none⟩ = some (.int .i64 z0_0) ∧ w'.cell? ⟨w.heap.size, 1, none⟩ = some (.string z1_0) ∧ w'.cell? ⟨w.heap.size, 2, none⟩ = some (.slice z2_a0 z2_n0 z2_c0) ∧ w'.cell? ⟨w.heap.size, 3, none⟩ = some (.int .i64 z3_0) ∧ w'.cell? ⟨w.heap.size, 4, none⟩ = some (.int .i64 z3_1)) (first | assumption | exact HIN1.out | exact HKP1.out _ _ hG2 | exact HKP1.out _ _ hG3 | exact HKP1.out _ _ hG4 | exact HKP1.out _ _ hG5)
    (first | (go_at_call_of 34 v0; refine HC1.out.mono ?_; rintro e w2 ⟨v2, rfl, hr, hg⟩; have hr2 : Row w2 base v2 (l ++ enc .num d0) := (by simpa only [List.append_assoc, List.nil_append] using hr); clear hr; have hG2 := hg) | (go_at_call_of 70 v2; refine (rf_str w2 base v2 (l ++ enc .num d0) [.string z1_0] d1 (Nat.le_trans HB0.out (HD1box.out.trans hG2).chg.size) hr2 (rd_grw (HD1box.out.trans hG2) HR0.out HB0.out HX1.out) (by have := HL.out; (try simp only [List.length_append, List.length_nil]); omega)).mono ?_; rintro e w3 ⟨v3, rfl, hr, hg⟩; have hr3 : Row w3 base v3 (l ++ (enc .num d0 ++ enc .str d1)) := (by simpa only [List.append_assoc, List.nil_append] using hr); clear hr; have hG3 := hG2.trans hg) | (go_at_call_of 37 v3; refine (rf_Values w3 base v3 (l ++ (enc .num d0 ++ enc .str d1)) [.slice z2_a0 z2_n0 z2_c0] d2 (Nat.le_trans HB0.out (HD1box.out.trans hG3).chg.size) hr3 (rd_grw (HD1box.out.trans hG3) HR0.out HB0.out HX2.out) (by have := HL.out; (try simp only [List.length_append, List.length_nil]); omega)).mono ?_; rintro e w4 ⟨v4, rfl, hr, hg⟩; have hr4 : Row w4 base v4 (l ++ (enc .num d0 ++ (enc .str d1 ++ enc (.list tValue) d2))) := (by simpa only [List.append_assoc, List.nil_append] using hr); clear hr; have hG4 := hG3.trans hg) | (go_at_call_of 36 v4; refine (rf_Period w4 base v4 (l ++ (enc .num d0 ++ (enc .str d1 ++ enc (.list tValue) d2))) [.int .i64 z3_0, .int .i64 z3_1] d3 (Nat.le_trans HB0.out (HD1box.out.trans hG4).chg.size) hr4 (rd_grw (HD1box.out.trans hG4) HR0.out HB0.out HX3.out) (by have := HL.out; (try simp only [List.length_append, List.length_nil]); omega)).mono ?_; rintro e w5 ⟨v5, rfl, hr, hg⟩; have hr5 : Row w5 base v5 (l ++ (enc .num d0 ++ (enc .str d1 ++ (enc (.list tValue) d2 ++ enc tPeriod d3)))) := (by simpa only [List.append_assoc, List.nil_append] using hr); clear hr; have hG5 := hG4.trans hg) | fail)
  have HRow5 := Lib.hid hr5
  have HT5box := Lib.hid (HD1box.out.trans hG5)
  clear hr2 hG2 hr3 hG3 hr4 hG4 hr5 hG5
  have q0 : w5.cell? ⟨w.heap.size, 5, none⟩ = some (.slice z4_a0 z4_n0 z4_c0) := HBX.out _ _ HT5box.out 5 _ rfl
  go_wp2_with fail
  refine (rf_num w5 base v5 (l ++ (enc .num d0 ++ (enc .str d1 ++ (enc (.list tValue) d2 ++ enc tPeriod d3)))) [.int .i64 (z4_n0 : Int)] (z4_n0 : Int) (Nat.le_trans HB0.out HT5box.out.chg.size) HRow5.out ⟨rfl, P4N.out.2.2⟩ (by have := HL.out; (try simp only [List.length_append, List.length_nil]); omega)).mono ?_
  rintro e w6 ⟨v6, rfl, hr, hg⟩
  have HRow6 := Lib.hid (show Row w6 base v6 (l ++ (enc .num d0 ++ (enc .str d1 ++ (enc (.list tValue) d2 ++ (enc tPeriod d3 ++ enc .num (z4_n0 : Int)))))) from by simpa only [List.append_assoc, List.nil_append] using hr)
  have HT6box := Lib.hid (HT5box.out.trans hg)
  clear hr hg q0
  go_wp2
  go_loopg [0, 5] z4_n0 (fun gk t0 t5 wr => ∃ (i : Nat), i ≤ z4_n0 ∧ gk + i = z4_n0 ∧ t5 = .int .i64 (i : Int) ∧ Row wr base t0 (l ++ (enc .num d0 ++ (enc .str d1 ++ (enc (.list tValue) d2 ++ (enc tPeriod d3 ++ (enc .num (z4_n0 : Int) ++ List.flatMap (enc tExpr) (List.take i d4))))))) ∧ Grw v0 t0 W0 wr)
  case atStart => exact ⟨0, by omega, by omega, rfl, by simpa only [List.take_zero, List.flatMap_nil, List.append_nil, List.append_assoc] using HRow6.out, HT6box.out⟩
  case round =>
    generalize gk = GK7 at *
    generalize wr = X7 at *
    generalize u0 = V7 at *
    obtain ⟨i7, hi, hgk, rfl, hrow, gbox⟩ := hrel
    have HI7 := Lib.hid (And.intro hi hgk)
    have HLR7 := Lib.hid hrow
    have HLT7box := Lib.hid gbox
    have hi0_7 : 0 ≤ (i7 : Int) := by omega
    clear hi hgk hrow gbox
    have ql7 : X7.cell? ⟨w.heap.size, 5, none⟩ = some (.slice z4_a0 z4_n0 z4_c0) := HBX.out _ _ HLT7box.out 5 _ rfl
    by_cases hin7 : i7 < z4_n0
    · have hd1_7 : decide ((i7 : Int) < (z4_n0 : Int)) = true := decide_eq_true (by omega)
      have hi1_7 : (i7 : Int) < (z4_n0 : Int) := by omega
      obtain ⟨y7, hy7⟩ : ∃ y, d4[i7]? = some y := ⟨_, List.getElem?_eq_getElem (by have := P4N.out.1; omega)⟩
      rcases P4N.out.2.1 with h0 | ⟨B7, O7, haddr7, hbF7, hbl7, hget7⟩
      · exact absurd h0 (by omega)
      subst haddr7
      obtain ⟨ys7, hA7, hyr7⟩ := hget7 i7 y7 hy7
      have HTK7 := Lib.hid (show List.take (i7 + 1) d4 = List.take i7 d4 ++ [y7] by rw [List.take_add_one, hy7]; rfl)
      have HLE7 := Lib.hid (show (l ++ (enc .num d0 ++ (enc .str d1 ++ (enc (.list tValue) d2 ++ (enc tPeriod d3 ++ (enc .num (z4_n0 : Int) ++ List.flatMap (enc tExpr) (List.take i7 d4))))))).length + (enc tExpr y7).length ≤ 140737488355328 from by
        have h1 := HL.out
        have h2 : (List.flatMap (enc tExpr) d4).length = (List.flatMap (enc tExpr) (List.take i7 d4)).length + ((enc tExpr y7).length + (List.flatMap (enc tExpr) (List.drop (i7 + 1) d4)).length) := by
          have h4 : d4 = List.take i7 d4 ++ (y7 :: List.drop (i7 + 1) d4) := by
            have h3 := List.take_append_drop (i7 + 1) d4
            rw [HTK7.out] at h3
            simpa using h3.symm
          conv => lhs; rw [h4]
          rw [List.flatMap_append, List.flatMap_cons, List.length_append, List.length_append]
        (try simp only [List.length_append] at h1 ⊢); omega)
      have HEC7 := Lib.hid (show ∀ w' v', Grw v0 v' W0 w' → ∀ (j : Nat) u, ys7[j]? = some u → w'.cell? ⟨B7, O7 + i7 * 7 + j, none⟩ = some u from fun w' v' hg j u hu => ((hg.below HR0.out HB0.out).cell (p := ⟨B7, O7 + i7 * 7 + j, none⟩) hbF7).trans (hA7 j u hu))
      clear hget7 hA7 hbF7 hbl7 hy7
      obtain ⟨E7d0, E7d1, E7d2, E7d3, E7d4⟩ := y7
      obtain ⟨E7u0, E7r0, rfl, E7h0, E7u1, E7r1, rfl, E7h1, E7u2, E7r2, rfl, E7h2, E7u3, E7r3, rfl, E7h3, E7h4⟩ := hyr7
      dsimp only at E7h0 E7h1 E7h2 E7h3 E7h4
      obtain ⟨E7z0_0, rfl⟩ : ∃ z : Int, E7u0 = [.int .i64 z] := ⟨_, E7h0.1⟩
      obtain ⟨E7z1_0, rfl⟩ : ∃ z : Int, E7u1 = [.int .i64 z] := ⟨_, E7h1.1⟩
      obtain ⟨E7z2_0, rfl⟩ : ∃ z : Int, E7u2 = [.int .i64 z] := ⟨_, E7h2.1⟩
      obtain ⟨E7z3_0, rfl⟩ : ∃ z : Int, E7u3 = [.int .i64 z] := ⟨_, E7h3.1⟩
      obtain ⟨E7z4_0, E7z4_1, E7z4_2, rfl⟩ := shape_Value E7h4
      have E7X0 := Lib.hid E7h0
      have E7X1 := Lib.hid E7h1
      have E7X2 := Lib.hid E7h2
      have E7X3 := Lib.hid E7h3
      have E7X4 := Lib.hid E7h4
      clear E7h0 E7h1 E7h2 E7h3 E7h4
      have henc7 : enc tExpr (E7d0, E7d1, E7d2, E7d3, E7d4) = (enc .num E7d0 ++ (enc .num E7d1 ++ (enc .num E7d2 ++ (enc .num E7d3 ++ enc tValue E7d4)))) := by
        show (enc .num E7d0 ++ (enc .num E7d1 ++ (enc .num E7d2 ++ (enc .num E7d3 ++ enc tValue E7d4)))) = _
        first | rfl | (simp only [List.append_assoc]; done)
      have HEE7 := Lib.hid henc7
      have HLF7 := Lib.hid (show (l ++ (enc .num d0 ++ (enc .str d1 ++ (enc (.list tValue) d2 ++ (enc tPeriod d3 ++ (enc .num (z4_n0 : Int) ++ List.flatMap (enc tExpr) (List.take i7 d4))))))).length + ((enc .num E7d0 ++ (enc .num E7d1 ++ (enc .num E7d2 ++ (enc .num E7d3 ++ enc tValue E7d4))))).length ≤ 140737488355328 from by have h1 := HLE7.out; rw [HEE7.out] at h1; exact h1)
      have HLG7 := HLF7.out
      simp only [List.length_append] at HLG7
      replace HLG7 := Lib.hid HLG7
      clear henc7
      have qc8_0 : X7.cell? ⟨w.heap.size, 5, none⟩ = some (.slice (some ⟨B7, O7, none⟩) z4_n0 z4_c0) := HBX.out _ _ HLT7box.out 5 _ rfl
      have qc8_1 : X7.cell? ⟨B7, O7 + i7 * 7, none⟩ = some (.int .i64 E7z0_0) := HEC7.out _ _ HLT7box.out 0 _ rfl
      have qc8_2 : X7.cell? ⟨B7, O7 + i7 * 7 + 1, none⟩ = some (.int .i64 E7z1_0) := HEC7.out _ _ HLT7box.out 1 _ rfl
      have qc8_3 : X7.cell? ⟨B7, O7 + i7 * 7 + 2, none⟩ = some (.int .i64 E7z2_0) := HEC7.out _ _ HLT7box.out 2 _ rfl
      have qc8_4 : X7.cell? ⟨B7, O7 + i7 * 7 + 3, none⟩ = some (.int .i64 E7z3_0) := HEC7.out _ _ HLT7box.out 3 _ rfl
      have qc8_5 : X7.cell? ⟨B7, O7 + i7 * 7 + 4, none⟩ = some (.int .i64 E7z4_0) := HEC7.out _ _ HLT7box.out 4 _ rfl
      have qc8_6 : X7.cell? ⟨B7, O7 + i7 * 7 + 5, none⟩ = some (.int .i64 E7z4_1) := HEC7.out _ _ HLT7box.out 5 _ rfl
      have qc8_7 : X7.cell? ⟨B7, O7 + i7 * 7 + 6, none⟩ = some (.string E7z4_2) := HEC7.out _ _ HLT7box.out 6 _ rfl
      obtain ⟨C8, hC8⟩ : ∃ C, C = X7.alloc (.cells #[.int .i64 E7z0_0, .int .i64 E7z1_0, .int .i64 E7z2_0, .int .i64 E7z3_0, .int .i64 E7z4_0, .int .i64 E7z4_1, .string E7z4_2] 166) := ⟨_, rfl⟩
      have HBC8 := Lib.hid (show Below X7.heap.size X7 C8 from by rw [hC8]; exact (Below.refl _ _).alloc (Nat.le_refl _) _)
      have HCC8 := Lib.hid (show ∀ w' v', Grw V7 v' C8 w' → ∀ (j : Nat) u, ([.int .i64 E7z0_0, .int .i64 E7z1_0, .int .i64 E7z2_0, .int .i64 E7z3_0, .int .i64 E7z4_0, .int .i64 E7z4_1, .string E7z4_2] : List Value)[j]? = some u → w'.cell? ⟨X7.heap.size, j, none⟩ = some u from fun w' v' hg j u hu => by
        refine (hg.cell (a := ⟨X7.heap.size, j, none⟩) (fun e => Nat.lt_irrefl _ (HLR7.out.ge _ e).2) (by show X7.heap.size < C8.heap.size; rw [hC8]; simp)).trans ?_
        rw [hC8]
        have := new_cells X7 [.int .i64 E7z0_0, .int .i64 E7z1_0, .int .i64 E7z2_0, .int .i64 E7z3_0, .int .i64 E7z4_0, .int .i64 E7z4_1, .string E7z4_2] 166 j u hu
        rw [Addr.add_mid, Nat.zero_add] at this; exact this)
      have HCW8 := Lib.hid hC8
      have HCR8 := Lib.hid (HLR7.out.keep HBC8.out)
      have HT8box := Lib.hid (HLT7box.out.trans (Grw.of_below HBC8.out))
      have HT8cp := Lib.hid (Grw.refl V7 C8)
      clear hC8
      have HD9box := Lib.hid (HT8box.out.trans (Grw.of_below (w' := C8.drew) (Below.refl _ _).drew))
      have HD9cp8 := Lib.hid (HT8cp.out.trans (Grw.of_below (w' := C8.drew) (Below.refl _ _).drew))
      have HKP9 := Lib.hid (show ∀ w' v', Grw V7 v' C8.drew w' → (w'.cell? ⟨X7.heap.size, 0, none⟩ = some (.int .i64 E7z0_0) ∧ w'.cell? ⟨X7.heap.size, 1, none⟩ = some (.int .i64 E7z1_0) ∧ w'.cell? ⟨X7.heap.size, 2, none⟩ = some (.int .i64 E7z2_0) ∧ w'.cell? ⟨X7.heap.size, 3, none⟩ = some (.int .i64 E7z3_0)) from fun w' v' hg =>
        ⟨HCC8.out _ _ (HD9cp8.out.trans hg) 0 _ rfl, HCC8.out _ _ (HD9cp8.out.trans hg) 1 _ rfl, HCC8.out _ _ (HD9cp8.out.trans hg) 2 _ rfl, HCC8.out _ _ (HD9cp8.out.trans hg) 3 _ rfl⟩)
      have HIN9 := Lib.hid (HKP9.out _ _ (Grw.refl _ _))
      have HC9 := Lib.hid (rf_num C8.drew base V7 (l ++ (enc .num d0 ++ (enc .str d1 ++ (enc (.list tValue) d2 ++ (enc tPeriod d3 ++ (enc .num (z4_n0 : Int) ++ List.flatMap (enc tExpr) (List.take i7 d4))))))) [.int .i64 E7z0_0] E7d0 (Nat.le_trans HB0.out HD9box.out.chg.size) (HCR8.out.keep (Below.refl _ _).drew) (rd_grw HD9box.out HR0.out HB0.out E7X0.out) (by have := HLG7.out; (try simp only [List.length_append, List.length_nil]); omega))
      go_wp2_with fail
      rw [← HCW8.out]
      clear qc8_0 qc8_1 qc8_2 qc8_3 qc8_4 qc8_5 qc8_6 qc8_7
      go_region_held3 (fun w' => w'.cell? ⟨X7.heap.size, 0, none⟩ = some (.int .i64 E7z0_0) ∧ w'.cell? ⟨X7.heap.size, 1, none⟩ = some (.int .i64 E7z1_0) ∧ w'.cell? ⟨X7.heap.size, 2, none⟩ = some (.int .i64 E7z2_0) ∧ w'.cell? ⟨X7.heap.size, 3, none⟩ = some (.int .i64 E7z3_0)) (first | assumption | exact HIN9.out | exact HKP9.out _ _ hG10 | exact HKP9.out _ _ hG11 | exact HKP9.out _ _ hG12 | exact HKP9.out _ _ hG13)
        (first | (go_at_call_of 34 V7; refine HC9.out.mono ?_; rintro e w10 ⟨v10, rfl, hr, hg⟩; have hr10 : Row w10 base v10 (l ++ (enc .num d0 ++ (enc .str d1 ++ (enc (.list tValue) d2 ++ (enc tPeriod d3 ++ (enc .num (z4_n0 : Int) ++ (List.flatMap (enc tExpr) (List.take i7 d4) ++ enc .num E7d0))))))) := (by simpa only [List.append_assoc, List.nil_append] using hr); clear hr; have hG10 := hg) | (go_at_call_of 34 v10; refine (rf_num w10 base v10 (l ++ (enc .num d0 ++ (enc .str d1 ++ (enc (.list tValue) d2 ++ (enc tPeriod d3 ++ (enc .num (z4_n0 : Int) ++ (List.flatMap (enc tExpr) (List.take i7 d4) ++ enc .num E7d0))))))) [.int .i64 E7z1_0] E7d1 (Nat.le_trans HB0.out (HD9box.out.trans hG10).chg.size) hr10 (rd_grw (HD9box.out.trans hG10) HR0.out HB0.out E7X1.out) (by have := HLG7.out; (try simp only [List.length_append, List.length_nil]); omega)).mono ?_; rintro e w11 ⟨v11, rfl, hr, hg⟩; have hr11 : Row w11 base v11 (l ++ (enc .num d0 ++ (enc .str d1 ++ (enc (.list tValue) d2 ++ (enc tPeriod d3 ++ (enc .num (z4_n0 : Int) ++ (List.flatMap (enc tExpr) (List.take i7 d4) ++ (enc .num E7d0 ++ enc .num E7d1)))))))) := (by simpa only [List.append_assoc, List.nil_append] using hr); clear hr; have hG11 := hG10.trans hg) | (go_at_call_of 34 v11; refine (rf_num w11 base v11 (l ++ (enc .num d0 ++ (enc .str d1 ++ (enc (.list tValue) d2 ++ (enc tPeriod d3 ++ (enc .num (z4_n0 : Int) ++ (List.flatMap (enc tExpr) (List.take i7 d4) ++ (enc .num E7d0 ++ enc .num E7d1)))))))) [.int .i64 E7z2_0] E7d2 (Nat.le_trans HB0.out (HD9box.out.trans hG11).chg.size) hr11 (rd_grw (HD9box.out.trans hG11) HR0.out HB0.out E7X2.out) (by have := HLG7.out; (try simp only [List.length_append, List.length_nil]); omega)).mono ?_; rintro e w12 ⟨v12, rfl, hr, hg⟩; have hr12 : Row w12 base v12 (l ++ (enc .num d0 ++ (enc .str d1 ++ (enc (.list tValue) d2 ++ (enc tPeriod d3 ++ (enc .num (z4_n0 : Int) ++ (List.flatMap (enc tExpr) (List.take i7 d4) ++ (enc .num E7d0 ++ (enc .num E7d1 ++ enc .num E7d2))))))))) := (by simpa only [List.append_assoc, List.nil_append] using hr); clear hr; have hG12 := hG11.trans hg) | (go_at_call_of 34 v12; refine (rf_num w12 base v12 (l ++ (enc .num d0 ++ (enc .str d1 ++ (enc (.list tValue) d2 ++ (enc tPeriod d3 ++ (enc .num (z4_n0 : Int) ++ (List.flatMap (enc tExpr) (List.take i7 d4) ++ (enc .num E7d0 ++ (enc .num E7d1 ++ enc .num E7d2))))))))) [.int .i64 E7z3_0] E7d3 (Nat.le_trans HB0.out (HD9box.out.trans hG12).chg.size) hr12 (rd_grw (HD9box.out.trans hG12) HR0.out HB0.out E7X3.out) (by have := HLG7.out; (try simp only [List.length_append, List.length_nil]); omega)).mono ?_; rintro e w13 ⟨v13, rfl, hr, hg⟩; have hr13 : Row w13 base v13 (l ++ (enc .num d0 ++ (enc .str d1 ++ (enc (.list tValue) d2 ++ (enc tPeriod d3 ++ (enc .num (z4_n0 : Int) ++ (List.flatMap (enc tExpr) (List.take i7 d4) ++ (enc .num E7d0 ++ (enc .num E7d1 ++ (enc .num E7d2 ++ enc .num E7d3)))))))))) := (by simpa only [List.append_assoc, List.nil_append] using hr); clear hr; have hG13 := hG12.trans hg) | fail)
      have HRow13 := Lib.hid hr13
      have HT13box := Lib.hid (HD9box.out.trans hG13)
      have HT13cp8 := Lib.hid (HD9cp8.out.trans hG13)
      clear hr10 hG10 hr11 hG11 hr12 hG12 hr13 hG13
      have q0 : w13.cell? ⟨X7.heap.size, 4, none⟩ = some (.int .i64 E7z4_0) := HCC8.out _ _ HT13cp8.out 4 _ rfl
      have q1 : w13.cell? ⟨X7.heap.size, 5, none⟩ = some (.int .i64 E7z4_1) := HCC8.out _ _ HT13cp8.out 5 _ rfl
      have q2 : w13.cell? ⟨X7.heap.size, 6, none⟩ = some (.string E7z4_2) := HCC8.out _ _ HT13cp8.out 6 _ rfl
      go_wp2_with fail
      refine (rf_Value w13 base v13 (l ++ (enc .num d0 ++ (enc .str d1 ++ (enc (.list tValue) d2 ++ (enc tPeriod d3 ++ (enc .num (z4_n0 : Int) ++ (List.flatMap (enc tExpr) (List.take i7 d4) ++ (enc .num E7d0 ++ (enc .num E7d1 ++ (enc .num E7d2 ++ enc .num E7d3)))))))))) [.int .i64 E7z4_0, .int .i64 E7z4_1, .string E7z4_2] E7d4 (Nat.le_trans HB0.out HT13box.out.chg.size) HRow13.out (rd_grw HT13box.out HR0.out HB0.out E7X4.out) (by have := HLG7.out; (try simp only [List.length_append, List.length_nil]); omega)).mono ?_
      rintro e w14 ⟨v14, rfl, hr, hg⟩
      have HRow14 := Lib.hid (show Row w14 base v14 (l ++ (enc .num d0 ++ (enc .str d1 ++ (enc (.list tValue) d2 ++ (enc tPeriod d3 ++ (enc .num (z4_n0 : Int) ++ (List.flatMap (enc tExpr) (List.take i7 d4) ++ (enc .num E7d0 ++ (enc .num E7d1 ++ (enc .num E7d2 ++ (enc .num E7d3 ++ enc tValue E7d4))))))))))) from by simpa only [List.append_assoc, List.nil_append] using hr)
      have HT14box := Lib.hid (HT13box.out.trans hg)
      have HT14cp8 := Lib.hid (HT13cp8.out.trans hg)
      clear hr hg q0 q1 q2
      have HFR7 := Lib.hid (show Row w14 base v14 (l ++ (enc .num d0 ++ (enc .str d1 ++ (enc (.list tValue) d2 ++ (enc tPeriod d3 ++ (enc .num (z4_n0 : Int) ++ List.flatMap (enc tExpr) (List.take (i7 + 1) d4))))))) from by
        rw [HTK7.out, List.flatMap_append, List.flatMap_cons, List.flatMap_nil, List.append_nil, HEE7.out]
        simpa only [List.append_assoc, List.flatMap_cons, List.flatMap_nil, List.append_nil] using HRow14.out)
      go_wp2
      go_roundg (GK7 - 1)
      case rel => exact ⟨i7 + 1, by omega, by have := HI7.out; omega, by go_num, HFR7.out, HT14box.out⟩
      case measure => have := HI7.out; omega
    · obtain rfl : z4_n0 = i7 := by have := HI7.out; omega
      have hd1_7 : decide ((z4_n0 : Int) < (z4_n0 : Int)) = false := by simp
      have HXR7 := Lib.hid (show Row X7 base V7 (l ++ (enc .num d0 ++ (enc .str d1 ++ (enc (.list tValue) d2 ++ (enc tPeriod d3 ++ (enc .num (z4_n0 : Int) ++ List.flatMap (enc tExpr) d4)))))) from by
        have := HLR7.out
        rw [P4N.out.1, List.take_length, ← P4N.out.1] at this
        exact this)
      clear hin7
      have q0 : X7.cell? ⟨w.heap.size, 6, none⟩ = some (.int .i64 z5_0) := HBX.out _ _ HLT7box.out 6 _ rfl
      go_wp2_with fail
      refine (rf_num X7 base V7 (l ++ (enc .num d0 ++ (enc .str d1 ++ (enc (.list tValue) d2 ++ (enc tPeriod d3 ++ (enc .num (z4_n0 : Int) ++ List.flatMap (enc tExpr) d4)))))) [.int .i64 z5_0] d5 (Nat.le_trans HB0.out HLT7box.out.chg.size) HXR7.out (rd_grw HLT7box.out HR0.out HB0.out HX5.out) (by have := HL.out; (try simp only [List.length_append, List.length_nil]); omega)).mono ?_
      rintro e w15 ⟨v15, rfl, hr, hg⟩
      have HRow15 := Lib.hid (show Row w15 base v15 (l ++ (enc .num d0 ++ (enc .str d1 ++ (enc (.list tValue) d2 ++ (enc tPeriod d3 ++ (enc .num (z4_n0 : Int) ++ (List.flatMap (enc tExpr) d4 ++ enc .num d5))))))) from by simpa only [List.append_assoc, List.nil_append] using hr)
      have HT15box := Lib.hid (HLT7box.out.trans hg)
      clear hr hg q0
      have q0 : w15.cell? ⟨w.heap.size, 7, none⟩ = some (.slice z6_a0 z6_n0 z6_c0) := HBX.out _ _ HT15box.out 7 _ rfl
      go_wp2_with fail
      refine (rf_num w15 base v15 (l ++ (enc .num d0 ++ (enc .str d1 ++ (enc (.list tValue) d2 ++ (enc tPeriod d3 ++ (enc .num (z4_n0 : Int) ++ (List.flatMap (enc tExpr) d4 ++ enc .num d5))))))) [.int .i64 (z6_n0 : Int)] (z6_n0 : Int) (Nat.le_trans HB0.out HT15box.out.chg.size) HRow15.out ⟨rfl, P6N.out.2.2⟩ (by have := HL.out; (try simp only [List.length_append, List.length_nil]); omega)).mono ?_
      rintro e w16 ⟨v16, rfl, hr, hg⟩
      have HRow16 := Lib.hid (show Row w16 base v16 (l ++ (enc .num d0 ++ (enc .str d1 ++ (enc (.list tValue) d2 ++ (enc tPeriod d3 ++ (enc .num (z4_n0 : Int) ++ (List.flatMap (enc tExpr) d4 ++ (enc .num d5 ++ enc .num (z6_n0 : Int))))))))) from by simpa only [List.append_assoc, List.nil_append] using hr)
      have HT16box := Lib.hid (HT15box.out.trans hg)
      clear hr hg q0
      go_wp2
      go_loopg [0, 7] z6_n0 (fun gk t0 t7 wr => ∃ (i : Nat), i ≤ z6_n0 ∧ gk + i = z6_n0 ∧ t7 = .int .i64 (i : Int) ∧ Row wr base t0 (l ++ (enc .num d0 ++ (enc .str d1 ++ (enc (.list tValue) d2 ++ (enc tPeriod d3 ++ (enc .num (z4_n0 : Int) ++ (List.flatMap (enc tExpr) d4 ++ (enc .num d5 ++ (enc .num (z6_n0 : Int) ++ List.flatMap (enc tAssignment) (List.take i d6)))))))))) ∧ Grw v0 t0 W0 wr)
      case atStart => exact ⟨0, by omega, by omega, rfl, by simpa only [List.take_zero, List.flatMap_nil, List.append_nil, List.append_assoc] using HRow16.out, HT16box.out⟩
      case round =>
        generalize gk = GK17 at *
        generalize wr = X17 at *
        generalize u0 = V17 at *
        obtain ⟨i17, hi, hgk, rfl, hrow, gbox⟩ := hrel
        have HI17 := Lib.hid (And.intro hi hgk)
        have HLR17 := Lib.hid hrow
        have HLT17box := Lib.hid gbox
        have hi0_17 : 0 ≤ (i17 : Int) := by omega
        clear hi hgk hrow gbox
        have ql17 : X17.cell? ⟨w.heap.size, 7, none⟩ = some (.slice z6_a0 z6_n0 z6_c0) := HBX.out _ _ HLT17box.out 7 _ rfl
        by_cases hin17 : i17 < z6_n0
        · have hd1_17 : decide ((i17 : Int) < (z6_n0 : Int)) = true := decide_eq_true (by omega)
          have hi1_17 : (i17 : Int) < (z6_n0 : Int) := by omega
          obtain ⟨y17, hy17⟩ : ∃ y, d6[i17]? = some y := ⟨_, List.getElem?_eq_getElem (by have := P6N.out.1; omega)⟩
          rcases P6N.out.2.1 with h0 | ⟨B17, O17, haddr17, hbF17, hbl17, hget17⟩
          · exact absurd h0 (by omega)
          subst haddr17
          obtain ⟨ys17, hA17, hyr17⟩ := hget17 i17 y17 hy17
          have HTK17 := Lib.hid (show List.take (i17 + 1) d6 = List.take i17 d6 ++ [y17] by rw [List.take_add_one, hy17]; rfl)
          have HLE17 := Lib.hid (show (l ++ (enc .num d0 ++ (enc .str d1 ++ (enc (.list tValue) d2 ++ (enc tPeriod d3 ++ (enc .num (z4_n0 : Int) ++ (List.flatMap (enc tExpr) d4 ++ (enc .num d5 ++ (enc .num (z6_n0 : Int) ++ List.flatMap (enc tAssignment) (List.take i17 d6)))))))))).length + (enc tAssignment y17).length ≤ 140737488355328 from by
            have h1 := HL.out
            have h2 : (List.flatMap (enc tAssignment) d6).length = (List.flatMap (enc tAssignment) (List.take i17 d6)).length + ((enc tAssignment y17).length + (List.flatMap (enc tAssignment) (List.drop (i17 + 1) d6)).length) := by
              have h4 : d6 = List.take i17 d6 ++ (y17 :: List.drop (i17 + 1) d6) := by
                have h3 := List.take_append_drop (i17 + 1) d6
                rw [HTK17.out] at h3
                simpa using h3.symm
              conv => lhs; rw [h4]
              rw [List.flatMap_append, List.flatMap_cons, List.length_append, List.length_append]
            (try simp only [List.length_append] at h1 ⊢); omega)
          have HEC17 := Lib.hid (show ∀ w' v', Grw v0 v' W0 w' → ∀ (j : Nat) u, ys17[j]? = some u → w'.cell? ⟨B17, O17 + i17 * 2 + j, none⟩ = some u from fun w' v' hg j u hu => ((hg.below HR0.out HB0.out).cell (p := ⟨B17, O17 + i17 * 2 + j, none⟩) hbF17).trans (hA17 j u hu))
          clear hget17 hA17 hbF17 hbl17 hy17
          obtain ⟨E17d0, E17d1⟩ := y17
          obtain ⟨E17u0, E17r0, rfl, E17h0, E17h1⟩ := hyr17
          dsimp only at E17h0 E17h1
          obtain ⟨E17z0_0, rfl⟩ : ∃ z : Int, E17u0 = [.int .i64 z] := ⟨_, E17h0.1⟩
          obtain ⟨E17z1_0, rfl⟩ : ∃ z : Int, E17r0 = [.int .i64 z] := ⟨_, E17h1.1⟩
          have E17X0 := Lib.hid E17h0
          have E17X1 := Lib.hid E17h1
          clear E17h0 E17h1
          have henc17 : enc tAssignment (E17d0, E17d1) = (enc .num E17d0 ++ enc .num E17d1) := by
            show (enc .num E17d0 ++ enc .num E17d1) = _
            first | rfl | (simp only [List.append_assoc]; done)
          have HEE17 := Lib.hid henc17
          have HLF17 := Lib.hid (show (l ++ (enc .num d0 ++ (enc .str d1 ++ (enc (.list tValue) d2 ++ (enc tPeriod d3 ++ (enc .num (z4_n0 : Int) ++ (List.flatMap (enc tExpr) d4 ++ (enc .num d5 ++ (enc .num (z6_n0 : Int) ++ List.flatMap (enc tAssignment) (List.take i17 d6)))))))))).length + ((enc .num E17d0 ++ enc .num E17d1)).length ≤ 140737488355328 from by have h1 := HLE17.out; rw [HEE17.out] at h1; exact h1)
          have HLG17 := HLF17.out
          simp only [List.length_append] at HLG17
          replace HLG17 := Lib.hid HLG17
          clear henc17
          have HD18box := Lib.hid (HLT17box.out.trans (Grw.of_below (w' := X17.drew) (Below.refl _ _).drew))
          have HKP18 := Lib.hid (show ∀ w' v', Grw V17 v' X17.drew w' → (w'.cell? ⟨w.heap.size, 7, none⟩ = some (.slice (some ⟨B17, O17, none⟩) z6_n0 z6_c0) ∧ w'.cell? ⟨B17, O17 + i17 * 2, none⟩ = some (.int .i64 E17z0_0) ∧ w'.cell? ⟨B17, O17 + i17 * 2 + 1, none⟩ = some (.int .i64 E17z1_0)) from fun w' v' hg =>
            ⟨HBX.out _ _ (HD18box.out.trans hg) 7 _ rfl, HEC17.out _ _ (HD18box.out.trans hg) 0 _ rfl, HEC17.out _ _ (HD18box.out.trans hg) 1 _ rfl⟩)
          have HIN18 := Lib.hid (HKP18.out _ _ (Grw.refl _ _))
          have HC18 := Lib.hid (rf_num X17.drew base V17 (l ++ (enc .num d0 ++ (enc .str d1 ++ (enc (.list tValue) d2 ++ (enc tPeriod d3 ++ (enc .num (z4_n0 : Int) ++ (List.flatMap (enc tExpr) d4 ++ (enc .num d5 ++ (enc .num (z6_n0 : Int) ++ List.flatMap (enc tAssignment) (List.take i17 d6)))))))))) [.int .i64 E17z0_0] E17d0 (Nat.le_trans HB0.out HD18box.out.chg.size) (HLR17.out.keep (Below.refl _ _).drew) (rd_grw HD18box.out HR0.out HB0.out E17X0.out) (by have := HLG17.out; (try simp only [List.length_append, List.length_nil]); omega))
          go_wp2_with fail
          go_region_held3 (fun w' => w'.cell? ⟨w.heap.size, 7, none⟩ = some (.slice (some ⟨B17, O17, none⟩) z6_n0 z6_c0) ∧ w'.cell? ⟨B17, O17 + i17 * 2, none⟩ = some (.int .i64 E17z0_0) ∧ w'.cell? ⟨B17, O17 + i17 * 2 + 1, none⟩ = some (.int .i64 E17z1_0)) (first | assumption | exact HIN18.out | exact HKP18.out _ _ hG19 | exact HKP18.out _ _ hG20)
            (first | (go_at_call_of 34 V17; refine HC18.out.mono ?_; rintro e w19 ⟨v19, rfl, hr, hg⟩; have hr19 : Row w19 base v19 (l ++ (enc .num d0 ++ (enc .str d1 ++ (enc (.list tValue) d2 ++ (enc tPeriod d3 ++ (enc .num (z4_n0 : Int) ++ (List.flatMap (enc tExpr) d4 ++ (enc .num d5 ++ (enc .num (z6_n0 : Int) ++ (List.flatMap (enc tAssignment) (List.take i17 d6) ++ enc .num E17d0)))))))))) := (by simpa only [List.append_assoc, List.nil_append] using hr); clear hr; have hG19 := hg) | (go_at_call_of 34 v19; refine (rf_num w19 base v19 (l ++ (enc .num d0 ++ (enc .str d1 ++ (enc (.list tValue) d2 ++ (enc tPeriod d3 ++ (enc .num (z4_n0 : Int) ++ (List.flatMap (enc tExpr) d4 ++ (enc .num d5 ++ (enc .num (z6_n0 : Int) ++ (List.flatMap (enc tAssignment) (List.take i17 d6) ++ enc .num E17d0)))))))))) [.int .i64 E17z1_0] E17d1 (Nat.le_trans HB0.out (HD18box.out.trans hG19).chg.size) hr19 (rd_grw (HD18box.out.trans hG19) HR0.out HB0.out E17X1.out) (by have := HLG17.out; (try simp only [List.length_append, List.length_nil]); omega)).mono ?_; rintro e w20 ⟨v20, rfl, hr, hg⟩; have hr20 : Row w20 base v20 (l ++ (enc .num d0 ++ (enc .str d1 ++ (enc (.list tValue) d2 ++ (enc tPeriod d3 ++ (enc .num (z4_n0 : Int) ++ (List.flatMap (enc tExpr) d4 ++ (enc .num d5 ++ (enc .num (z6_n0 : Int) ++ (List.flatMap (enc tAssignment) (List.take i17 d6) ++ (enc .num E17d0 ++ enc .num E17d1))))))))))) := (by simpa only [List.append_assoc, List.nil_append] using hr); clear hr; have hG20 := hG19.trans hg) | fail)
          have HRow20 := Lib.hid hr20
          have HT20box := Lib.hid (HD18box.out.trans hG20)
          clear hr19 hG19 hr20 hG20
          have HFR17 := Lib.hid (show Row w20 base v20 (l ++ (enc .num d0 ++ (enc .str d1 ++ (enc (.list tValue) d2 ++ (enc tPeriod d3 ++ (enc .num (z4_n0 : Int) ++ (List.flatMap (enc tExpr) d4 ++ (enc .num d5 ++ (enc .num (z6_n0 : Int) ++ List.flatMap (enc tAssignment) (List.take (i17 + 1) d6)))))))))) from by
            rw [HTK17.out, List.flatMap_append, List.flatMap_cons, List.flatMap_nil, List.append_nil, HEE17.out]
            simpa only [List.append_assoc, List.flatMap_cons, List.flatMap_nil, List.append_nil] using HRow20.out)
          go_wp2
          go_roundg (GK17 - 1)
          case rel => exact ⟨i17 + 1, by omega, by have := HI17.out; omega, by go_num, HFR17.out, HT20box.out⟩
          case measure => have := HI17.out; omega
        · obtain rfl : z6_n0 = i17 := by have := HI17.out; omega
          have hd1_17 : decide ((z6_n0 : Int) < (z6_n0 : Int)) = false := by simp
          have HXR17 := Lib.hid (show Row X17 base V17 (l ++ (enc .num d0 ++ (enc .str d1 ++ (enc (.list tValue) d2 ++ (enc tPeriod d3 ++ (enc .num (z4_n0 : Int) ++ (List.flatMap (enc tExpr) d4 ++ (enc .num d5 ++ (enc .num (z6_n0 : Int) ++ List.flatMap (enc tAssignment) d6))))))))) from by
            have := HLR17.out
            rw [P6N.out.1, List.take_length, ← P6N.out.1] at this
            exact this)
          clear hin17
          have HD21box := Lib.hid (HLT17box.out.trans (Grw.of_below (w' := X17.drew) (Below.refl _ _).drew))
          have HKP21 := Lib.hid (show ∀ w' v', Grw V17 v' X17.drew w' → (w'.cell? ⟨w.heap.size, 8, none⟩ = some (.string z7_0) ∧ w'.cell? ⟨w.heap.size, 9, none⟩ = some (.slice z7_a1 z7_n1 z7_c1) ∧ w'.cell? ⟨w.heap.size, 10, none⟩ = some (.slice z7_a2 z7_n2 z7_c2) ∧ w'.cell? ⟨w.heap.size, 11, none⟩ = some (.slice z7_a3 z7_n3 z7_c3) ∧ w'.cell? ⟨w.heap.size, 12, none⟩ = some (.slice z7_a4 z7_n4 z7_c4) ∧ w'.cell? ⟨w.heap.size, 13, none⟩ = some (.int .i64 z8_0) ∧ w'.cell? ⟨w.heap.size, 14, none⟩ = some (.string z8_1) ∧ w'.cell? ⟨w.heap.size, 15, none⟩ = some (.int .i64 z8_2)) from fun w' v' hg =>
            ⟨HBX.out _ _ (HD21box.out.trans hg) 8 _ rfl, HBX.out _ _ (HD21box.out.trans hg) 9 _ rfl, HBX.out _ _ (HD21box.out.trans hg) 10 _ rfl, HBX.out _ _ (HD21box.out.trans hg) 11 _ rfl, HBX.out _ _ (HD21box.out.trans hg) 12 _ rfl, HBX.out _ _ (HD21box.out.trans hg) 13 _ rfl, HBX.out _ _ (HD21box.out.trans hg) 14 _ rfl, HBX.out _ _ (HD21box.out.trans hg) 15 _ rfl⟩)
          have HIN21 := Lib.hid (HKP21.out _ _ (Grw.refl _ _))
          have HC21 := Lib.hid (rf_Schema X17.drew base V17 (l ++ (enc .num d0 ++ (enc .str d1 ++ (enc (.list tValue) d2 ++ (enc tPeriod d3 ++ (enc .num (z4_n0 : Int) ++ (List.flatMap (enc tExpr) d4 ++ (enc .num d5 ++ (enc .num (z6_n0 : Int) ++ List.flatMap (enc tAssignment) d6))))))))) [.string z7_0, .slice z7_a1 z7_n1 z7_c1, .slice z7_a2 z7_n2 z7_c2, .slice z7_a3 z7_n3 z7_c3, .slice z7_a4 z7_n4 z7_c4] d7 (Nat.le_trans HB0.out HD21box.out.chg.size) (HXR17.out.keep (Below.refl _ _).drew) (rd_grw HD21box.out HR0.out HB0.out HX7.out) (by have := HL.out; (try simp only [List.length_append, List.length_nil]); omega))
          go_wp2_with fail
          go_region_held3 (fun w' => w'.cell? ⟨w.heap.size, 8, none⟩ = some (.string z7_0) ∧ w'.cell? ⟨w.heap.size, 9, none⟩ = some (.slice z7_a1 z7_n1 z7_c1) ∧ w'.cell? ⟨w.heap.size, 10, none⟩ = some (.slice z7_a2 z7_n2 z7_c2) ∧ w'.cell? ⟨w.heap.size, 11, none⟩ = some (.slice z7_a3 z7_n3 z7_c3) ∧ w'.cell? ⟨w.heap.size, 12, none⟩ = some (.slice z7_a4 z7_n4 z7_c4) ∧ w'.cell? ⟨w.heap.size, 13, none⟩ = some (.int .i64 z8_0) ∧ w'.cell? ⟨w.heap.size, 14, none⟩ = some (.string z8_1) ∧ w'.cell? ⟨w.heap.size, 15, none⟩ = some (.int .i64 z8_2)) (first | assumption | exact HIN21.out | exact HKP21.out _ _ hG22 | exact HKP21.out _ _ hG23)
            (first | (go_at_call_of 35 V17; refine HC21.out.mono ?_; rintro e w22 ⟨v22, rfl, hr, hg⟩; have hr22 : Row w22 base v22 (l ++ (enc .num d0 ++ (enc .str d1 ++ (enc (.list tValue) d2 ++ (enc tPeriod d3 ++ (enc .num (z4_n0 : Int) ++ (List.flatMap (enc tExpr) d4 ++ (enc .num d5 ++ (enc .num (z6_n0 : Int) ++ (List.flatMap (enc tAssignment) d6 ++ enc tSchema d7)))))))))) := (by simpa only [List.append_assoc, List.nil_append] using hr); clear hr; have hG22 := hg) | (go_at_call_of 71 v22; refine (rf_Column w22 base v22 (l ++ (enc .num d0 ++ (enc .str d1 ++ (enc (.list tValue) d2 ++ (enc tPeriod d3 ++ (enc .num (z4_n0 : Int) ++ (List.flatMap (enc tExpr) d4 ++ (enc .num d5 ++ (enc .num (z6_n0 : Int) ++ (List.flatMap (enc tAssignment) d6 ++ enc tSchema d7)))))))))) [.int .i64 z8_0, .string z8_1, .int .i64 z8_2] d8 (Nat.le_trans HB0.out (HD21box.out.trans hG22).chg.size) hr22 (rd_grw (HD21box.out.trans hG22) HR0.out HB0.out HX8.out) (by have := HL.out; (try simp only [List.length_append, List.length_nil]); omega)).mono ?_; rintro e w23 ⟨v23, rfl, hr, hg⟩; have hr23 : Row w23 base v23 (l ++ (enc .num d0 ++ (enc .str d1 ++ (enc (.list tValue) d2 ++ (enc tPeriod d3 ++ (enc .num (z4_n0 : Int) ++ (List.flatMap (enc tExpr) d4 ++ (enc .num d5 ++ (enc .num (z6_n0 : Int) ++ (List.flatMap (enc tAssignment) d6 ++ (enc tSchema d7 ++ enc tColumn d8))))))))))) := (by simpa only [List.append_assoc, List.nil_append] using hr); clear hr; have hG23 := hG22.trans hg) | fail)
          have HRow23 := Lib.hid hr23
          have HT23box := Lib.hid (HD21box.out.trans hG23)
          clear hr22 hG22 hr23 hG23
          go_wp2
          go_ret
          exact ⟨_, rfl, HRow23.out, (Grw.of_below HB00.out).trans HT23box.out⟩
end Go.Proofs.YtfppjpmflpaffaaGreat
