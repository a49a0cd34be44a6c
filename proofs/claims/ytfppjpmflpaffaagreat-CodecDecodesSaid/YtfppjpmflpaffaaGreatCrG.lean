/-
  The reference's encoder: commands. Printed by gen_cr.py.
-/
import Derived.Test.YtfppjpmflpaffaaGreatCrF
namespace Go.Proofs.YtfppjpmflpaffaaGreat
open Go.RowKit
set_option linter.unusedVariables false
set_option linter.unusedSimpArgs false

set_option maxRecDepth 100000 in
set_option maxHeartbeats 4000000 in
theorem rf_EncodeCommand (w : World) (cs : List Value) (x : Ty.T tCommand) (hx0 : (Ty.rd tCommand).rd w (· < w.heap.size) cs x) (hl : (enc tCommand x).length ≤ 140737488355328) :
    Calls Tryz.prog 17 #[goV cs] w fun e w' => ∃ v', e = .returned v' ∧ Row w' w.heap.size v' (enc tCommand x) ∧ Below w.heap.size w w' := by
  obtain ⟨base, hbase⟩ : ∃ base, base = w.heap.size := ⟨_, rfl⟩
  have hb : base ≤ w.heap.size := by omega
  have hr : Row w base (Value.slice none 0 0) [] := Row.nil _ _
  have hx : (Ty.rd tCommand).rd w (· < base) cs x := by rw [hbase]; exact hx0
  have HBASE := Lib.hid hbase
  clear hx0
  obtain ⟨W0, hW0⟩ : ∃ W0, W0 = w.alloc (.cells cs.toArray 47) := ⟨_, rfl⟩
  have hb0 : Below w.heap.size w W0 := by rw [hW0]; exact (Below.refl _ _).alloc (Nat.le_refl _) _
  replace hx : (Ty.rd tCommand).rd W0 (· < base) cs x := rd_low (hb0.mono hb) hb hx
  have HR0 := Lib.hid (hr.keep hb0)
  have HB0 := Lib.hid (Nat.le_trans hb hb0.size)
  have HBX := Lib.hid (show ∀ w' v', Grw (Value.slice none 0 0) v' W0 w' → ∀ (j : Nat) u, cs[j]? = some u → w'.cell? ⟨w.heap.size, j, none⟩ = some u from fun w' v' hg j u hu => by
    refine (hg.cell (a := ⟨w.heap.size, j, none⟩) (fun e => Nat.lt_irrefl _ (hr.ge _ e).2) (by show w.heap.size < W0.heap.size; rw [hW0]; simp)).trans ?_
    rw [hW0]
    have := new_cells w cs 47 j u hu
    rw [Addr.add_mid, Nat.zero_add] at this; exact this)
  have HB00 := Lib.hid hb0
  obtain ⟨d0, d1, d2, d3, d4⟩ := x
  obtain ⟨u0, r0, rfl, h0, u1, r1, rfl, h1, u2, r2, rfl, h2, u3, r3, rfl, h3, h4⟩ := hx
  dsimp only at h0 h1 h2 h3 h4
  obtain ⟨z0_0, rfl⟩ : ∃ z : Int, u0 = [.int .i64 z] := ⟨_, h0.1⟩
  obtain ⟨z1_0, rfl⟩ : ∃ z : Int, u1 = [.int .i64 z] := ⟨_, h1.1⟩
  obtain ⟨z2_a0, z2_n0, z2_c0, rfl⟩ : ∃ a n c, u2 = [.slice a n c] := by obtain ⟨a, n, c, e, _⟩ := id h2; exact ⟨a, n, c, e⟩
  obtain ⟨z3_0, z3_1, z3_2, z3_3, rfl⟩ := shape_Request h3
  obtain ⟨z4_0, z4_1, z4_2, rfl⟩ := shape_Hold h4
  have HW0 := Lib.hid (show W0 = w.alloc (.cells #[.int .i64 z0_0, .int .i64 z1_0, .slice z2_a0 z2_n0 z2_c0, .int .i64 z3_0, .int .i64 z3_1, .int .i64 z3_2, .string z3_3, .int .i64 z4_0, .int .i64 z4_1, .int .i64 z4_2] 47) from hW0)
  show Calls _ _ #[.agg #[.int .i64 z0_0, .int .i64 z1_0, .slice z2_a0 z2_n0 z2_c0, .int .i64 z3_0, .int .i64 z3_1, .int .i64 z3_2, .string z3_3, .int .i64 z4_0, .int .i64 z4_1, .int .i64 z4_2]] _ _
  have HX0 := Lib.hid h0
  have HX1 := Lib.hid h1
  have HX2 := Lib.hid h2
  have P2N := Lib.hid (show z2_n0 = List.length d2 ∧ (z2_n0 = 0 ∨ ∃ b off, z2_a0 = some ⟨b, off, none⟩ ∧ b < base ∧ b < W0.heap.size ∧ ∀ (i : Nat) y, d2[i]? = some y → ∃ ys, At W0 b (off + i * (Ty.rd tEdit).size) ys ∧ (Ty.rd tEdit).rd W0 (· < base) ys y) ∧ (Lit.int .i64 (z2_n0 : Int)).wf = true from by
    obtain ⟨a', n', c', e, g1, g2, g3, g4⟩ := id h2
    simp only [List.cons.injEq, Value.slice.injEq, and_true] at e
    obtain ⟨rfl, rfl, rfl⟩ := e
    refine ⟨g1, g4, ?_⟩
    unfold maxLen at g3; simp [Lit.wf, IntKind.min, IntKind.max, IntKind.bits, IntKind.signed]; omega)
  have P2n0 : 0 ≤ (z2_n0 : Int) := by omega
  have P2n1 : (z2_n0 : Int) ≤ 9223372036854775807 := by have h := P2N.out.2.2; simp [Lit.wf, IntKind.min, IntKind.max, IntKind.bits, IntKind.signed] at h; omega
  have HX3 := Lib.hid h3
  have HX4 := Lib.hid h4
  have henc : enc tCommand (d0, d1, d2, d3, d4) = (enc .num d0 ++ (enc .num d1 ++ (enc .num (z2_n0 : Int) ++ (List.flatMap (enc tEdit) d2 ++ (enc tRequest d3 ++ enc tHold d4))))) := by
    show (enc .num d0 ++ (enc .num d1 ++ ((enc .num ((List.length d2 : Nat) : Int) ++ List.flatMap (enc tEdit) d2) ++ (enc tRequest d3 ++ enc tHold d4)))) = _
    first | rfl | (rw [← P2N.out.1]; done) | (rw [← P2N.out.1]; simp only [List.append_assoc]; done)
  rw [henc] at hl ⊢
  simp only [List.length_append] at hl
  have HL := Lib.hid hl
  clear hW0 hb0 hr hb hl henc h0 h1 h2 h3 h4 hbase
  go_enter Tryz.func17, Tryz.ntmps17
  have HT0 := Lib.hid (Grw.refl (Value.slice none 0 0) W0)
  have HD1box := Lib.hid (HT0.out.trans (Grw.of_below (w' := W0.drew) (Below.refl _ _).drew))
  have HKP1 := Lib.hid (show ∀ w' v', Grw (Value.slice none 0 0) v' W0.drew w' → (w'.cell? ⟨w.heap.size, 0, none⟩ = some (.int .i64 z0_0) ∧ w'.cell? ⟨w.heap.size, 1, none⟩ = some (.int .i64 z1_0)) from fun w' v' hg =>
    ⟨HBX.out _ _ (HD1box.out.trans hg) 0 _ rfl, HBX.out _ _ (HD1box.out.trans hg) 1 _ rfl⟩)
  have HIN1 := Lib.hid (HKP1.out _ _ (Grw.refl _ _))
  have HC1 := Lib.hid (rf_num W0.drew base (Value.slice none 0 0) ([] : List UInt8) [.int .i64 z0_0] d0 (Nat.le_trans HB0.out HD1box.out.chg.size) (HR0.out.keep (Below.refl _ _).drew) (rd_grw HD1box.out HR0.out HB0.out HX0.out) (by have := HL.out; (try simp only [List.length_append, List.length_nil]); omega))
  go_wp2_with fail
  rw [← HW0.out]
  go_region_held3 (fun w' => w'.cell? ⟨w.heap.size, 0, none⟩ = some (.int .i64 z0_0) ∧ w'.cell? ⟨w.heap.size, 1, none⟩ = some (.int .i64 z1_0)) (first | assumption | exact HIN1.out | exact HKP1.out _ _ hG2 | exact HKP1.out _ _ hG3)
    (first | (go_at_call_of 34 (Value.slice none 0 0); refine HC1.out.mono ?_; rintro e w2 ⟨v2, rfl, hr, hg⟩; have hr2 : Row w2 base v2 (enc .num d0) := (by simpa only [List.append_assoc, List.nil_append] using hr); clear hr; have hG2 := hg) | (go_at_call_of 34 v2; refine (rf_num w2 base v2 (enc .num d0) [.int .i64 z1_0] d1 (Nat.le_trans HB0.out (HD1box.out.trans hG2).chg.size) hr2 (rd_grw (HD1box.out.trans hG2) HR0.out HB0.out HX1.out) (by have := HL.out; (try simp only [List.length_append, List.length_nil]); omega)).mono ?_; rintro e w3 ⟨v3, rfl, hr, hg⟩; have hr3 : Row w3 base v3 ((enc .num d0 ++ enc .num d1)) := (by simpa only [List.append_assoc, List.nil_append] using hr); clear hr; have hG3 := hG2.trans hg) | fail)
  have HRow3 := Lib.hid hr3
  have HT3box := Lib.hid (HD1box.out.trans hG3)
  clear hr2 hG2 hr3 hG3
  have q0 : w3.cell? ⟨w.heap.size, 2, none⟩ = some (.slice z2_a0 z2_n0 z2_c0) := HBX.out _ _ HT3box.out 2 _ rfl
  go_wp2_with fail
  refine (rf_num w3 base v3 ((enc .num d0 ++ enc .num d1)) [.int .i64 (z2_n0 : Int)] (z2_n0 : Int) (Nat.le_trans HB0.out HT3box.out.chg.size) HRow3.out ⟨rfl, P2N.out.2.2⟩ (by have := HL.out; (try simp only [List.length_append, List.length_nil]); omega)).mono ?_
  rintro e w4 ⟨v4, rfl, hr, hg⟩
  have HRow4 := Lib.hid (show Row w4 base v4 ((enc .num d0 ++ (enc .num d1 ++ enc .num (z2_n0 : Int)))) from by simpa only [List.append_assoc, List.nil_append] using hr)
  have HT4box := Lib.hid (HT3box.out.trans hg)
  clear hr hg q0
  go_wp2
  go_loopg [3, 4] z2_n0 (fun gk t3 t4 wr => ∃ (i : Nat), i ≤ z2_n0 ∧ gk + i = z2_n0 ∧ t4 = .int .i64 (i : Int) ∧ Row wr base t3 ((enc .num d0 ++ (enc .num d1 ++ (enc .num (z2_n0 : Int) ++ List.flatMap (enc tEdit) (List.take i d2))))) ∧ Grw (Value.slice none 0 0) t3 W0 wr)
  case atStart => exact ⟨0, by omega, by omega, rfl, by simpa only [List.take_zero, List.flatMap_nil, List.append_nil, List.append_assoc] using HRow4.out, HT4box.out⟩
  case round =>
    generalize gk = GK5 at *
    generalize wr = X5 at *
    generalize u3 = V5 at *
    obtain ⟨i5, hi, hgk, rfl, hrow, gbox⟩ := hrel
    have HI5 := Lib.hid (And.intro hi hgk)
    have HLR5 := Lib.hid hrow
    have HLT5box := Lib.hid gbox
    have hi0_5 : 0 ≤ (i5 : Int) := by omega
    clear hi hgk hrow gbox
    have ql5 : X5.cell? ⟨w.heap.size, 2, none⟩ = some (.slice z2_a0 z2_n0 z2_c0) := HBX.out _ _ HLT5box.out 2 _ rfl
    by_cases hin5 : i5 < z2_n0
    · have hd1_5 : decide ((i5 : Int) < (z2_n0 : Int)) = true := decide_eq_true (by omega)
      have hi1_5 : (i5 : Int) < (z2_n0 : Int) := by omega
      obtain ⟨y5, hy5⟩ : ∃ y, d2[i5]? = some y := ⟨_, List.getElem?_eq_getElem (by have := P2N.out.1; omega)⟩
      rcases P2N.out.2.1 with h0 | ⟨B5, O5, haddr5, hbF5, hbl5, hget5⟩
      · exact absurd h0 (by omega)
      subst haddr5
      obtain ⟨ys5, hA5, hyr5⟩ := hget5 i5 y5 hy5
      have HTK5 := Lib.hid (show List.take (i5 + 1) d2 = List.take i5 d2 ++ [y5] by rw [List.take_add_one, hy5]; rfl)
      have HLE5 := Lib.hid (show ((enc .num d0 ++ (enc .num d1 ++ (enc .num (z2_n0 : Int) ++ List.flatMap (enc tEdit) (List.take i5 d2))))).length + (enc tEdit y5).length ≤ 140737488355328 from by
        have h1 := HL.out
        have h2 : (List.flatMap (enc tEdit) d2).length = (List.flatMap (enc tEdit) (List.take i5 d2)).length + ((enc tEdit y5).length + (List.flatMap (enc tEdit) (List.drop (i5 + 1) d2)).length) := by
          have h4 : d2 = List.take i5 d2 ++ (y5 :: List.drop (i5 + 1) d2) := by
            have h3 := List.take_append_drop (i5 + 1) d2
            rw [HTK5.out] at h3
            simpa using h3.symm
          conv => lhs; rw [h4]
          rw [List.flatMap_append, List.flatMap_cons, List.length_append, List.length_append]
        (try simp only [List.length_append] at h1 ⊢); omega)
      have HEC5 := Lib.hid (show ∀ w' v', Grw (Value.slice none 0 0) v' W0 w' → ∀ (j : Nat) u, ys5[j]? = some u → w'.cell? ⟨B5, O5 + i5 * 16 + j, none⟩ = some u from fun w' v' hg j u hu => ((hg.below HR0.out HB0.out).cell (p := ⟨B5, O5 + i5 * 16 + j, none⟩) hbF5).trans (hA5 j u hu))
      clear hget5 hA5 hbF5 hbl5 hy5
      obtain ⟨E5d0, E5d1, E5d2, E5d3, E5d4, E5d5, E5d6, E5d7, E5d8⟩ := y5
      obtain ⟨E5u0, E5r0, rfl, E5h0, E5u1, E5r1, rfl, E5h1, E5u2, E5r2, rfl, E5h2, E5u3, E5r3, rfl, E5h3, E5u4, E5r4, rfl, E5h4, E5u5, E5r5, rfl, E5h5, E5u6, E5r6, rfl, E5h6, E5u7, E5r7, rfl, E5h7, E5h8⟩ := hyr5
      dsimp only at E5h0 E5h1 E5h2 E5h3 E5h4 E5h5 E5h6 E5h7 E5h8
      obtain ⟨E5z0_0, rfl⟩ : ∃ z : Int, E5u0 = [.int .i64 z] := ⟨_, E5h0.1⟩
      obtain ⟨E5z1_0, rfl⟩ : ∃ z : ByteArray, E5u1 = [.string z] := ⟨_, E5h1.1⟩
      obtain ⟨E5z2_a0, E5z2_n0, E5z2_c0, rfl⟩ : ∃ a n c, E5u2 = [.slice a n c] := by obtain ⟨a, n, c, e, _⟩ := id E5h2; exact ⟨a, n, c, e⟩
      obtain ⟨E5z3_0, E5z3_1, rfl⟩ := shape_Period E5h3
      obtain ⟨E5z4_a0, E5z4_n0, E5z4_c0, rfl⟩ : ∃ a n c, E5u4 = [.slice a n c] := by obtain ⟨a, n, c, e, _⟩ := id E5h4; exact ⟨a, n, c, e⟩
      obtain ⟨E5z5_0, rfl⟩ : ∃ z : Int, E5u5 = [.int .i64 z] := ⟨_, E5h5.1⟩
      obtain ⟨E5z6_a0, E5z6_n0, E5z6_c0, rfl⟩ : ∃ a n c, E5u6 = [.slice a n c] := by obtain ⟨a, n, c, e, _⟩ := id E5h6; exact ⟨a, n, c, e⟩
      obtain ⟨E5z7_0, E5z7_a1, E5z7_n1, E5z7_c1, E5z7_a2, E5z7_n2, E5z7_c2, E5z7_a3, E5z7_n3, E5z7_c3, E5z7_a4, E5z7_n4, E5z7_c4, rfl⟩ := shape_Schema E5h7
      obtain ⟨E5z8_0, E5z8_1, E5z8_2, rfl⟩ := shape_Column E5h8
      have E5X0 := Lib.hid E5h0
      have E5X1 := Lib.hid E5h1
      have E5X2 := Lib.hid E5h2
      have E5X3 := Lib.hid E5h3
      have E5X4 := Lib.hid E5h4
      have E5P4N := Lib.hid (show E5z4_n0 = List.length E5d4 ∧ (E5z4_n0 = 0 ∨ ∃ b off, E5z4_a0 = some ⟨b, off, none⟩ ∧ b < base ∧ b < W0.heap.size ∧ ∀ (i : Nat) y, E5d4[i]? = some y → ∃ ys, At W0 b (off + i * (Ty.rd tExpr).size) ys ∧ (Ty.rd tExpr).rd W0 (· < base) ys y) ∧ (Lit.int .i64 (E5z4_n0 : Int)).wf = true from by
        obtain ⟨a', n', c', e, g1, g2, g3, g4⟩ := id E5h4
        simp only [List.cons.injEq, Value.slice.injEq, and_true] at e
        obtain ⟨rfl, rfl, rfl⟩ := e
        refine ⟨g1, g4, ?_⟩
        unfold maxLen at g3; simp [Lit.wf, IntKind.min, IntKind.max, IntKind.bits, IntKind.signed]; omega)
      have E5P4n0 : 0 ≤ (E5z4_n0 : Int) := by omega
      have E5P4n1 : (E5z4_n0 : Int) ≤ 9223372036854775807 := by have h := E5P4N.out.2.2; simp [Lit.wf, IntKind.min, IntKind.max, IntKind.bits, IntKind.signed] at h; omega
      have E5X5 := Lib.hid E5h5
      have E5X6 := Lib.hid E5h6
      have E5P6N := Lib.hid (show E5z6_n0 = List.length E5d6 ∧ (E5z6_n0 = 0 ∨ ∃ b off, E5z6_a0 = some ⟨b, off, none⟩ ∧ b < base ∧ b < W0.heap.size ∧ ∀ (i : Nat) y, E5d6[i]? = some y → ∃ ys, At W0 b (off + i * (Ty.rd tAssignment).size) ys ∧ (Ty.rd tAssignment).rd W0 (· < base) ys y) ∧ (Lit.int .i64 (E5z6_n0 : Int)).wf = true from by
        obtain ⟨a', n', c', e, g1, g2, g3, g4⟩ := id E5h6
        simp only [List.cons.injEq, Value.slice.injEq, and_true] at e
        obtain ⟨rfl, rfl, rfl⟩ := e
        refine ⟨g1, g4, ?_⟩
        unfold maxLen at g3; simp [Lit.wf, IntKind.min, IntKind.max, IntKind.bits, IntKind.signed]; omega)
      have E5P6n0 : 0 ≤ (E5z6_n0 : Int) := by omega
      have E5P6n1 : (E5z6_n0 : Int) ≤ 9223372036854775807 := by have h := E5P6N.out.2.2; simp [Lit.wf, IntKind.min, IntKind.max, IntKind.bits, IntKind.signed] at h; omega
      have E5X7 := Lib.hid E5h7
      have E5X8 := Lib.hid E5h8
      clear E5h0 E5h1 E5h2 E5h3 E5h4 E5h5 E5h6 E5h7 E5h8
      have HLW5 := HLE5.out
      (try simp only [List.length_append, List.length_nil] at HLW5)
      replace HLW5 := Lib.hid HLW5
      have HW5 := Lib.hid (show (Ty.rd tEdit).rd W0 (· < base) [.int .i64 E5z0_0, .string E5z1_0, .slice E5z2_a0 E5z2_n0 E5z2_c0, .int .i64 E5z3_0, .int .i64 E5z3_1, .slice E5z4_a0 E5z4_n0 E5z4_c0, .int .i64 E5z5_0, .slice E5z6_a0 E5z6_n0 E5z6_c0, .string E5z7_0, .slice E5z7_a1 E5z7_n1 E5z7_c1, .slice E5z7_a2 E5z7_n2 E5z7_c2, .slice E5z7_a3 E5z7_n3 E5z7_c3, .slice E5z7_a4 E5z7_n4 E5z7_c4, .int .i64 E5z8_0, .string E5z8_1, .int .i64 E5z8_2] (E5d0, E5d1, E5d2, E5d3, E5d4, E5d5, E5d6, E5d7, E5d8) from ⟨_, _, rfl, E5X0.out, _, _, rfl, E5X1.out, _, _, rfl, E5X2.out, _, _, rfl, E5X3.out, _, _, rfl, E5X4.out, _, _, rfl, E5X5.out, _, _, rfl, E5X6.out, _, _, rfl, E5X7.out, E5X8.out⟩)
      have q0 : X5.cell? ⟨w.heap.size, 2, none⟩ = some (.slice (some ⟨B5, O5, none⟩) z2_n0 z2_c0) := HBX.out _ _ HLT5box.out 2 _ rfl
      have q1 : X5.cell? ⟨B5, O5 + i5 * 16, none⟩ = some (.int .i64 E5z0_0) := HEC5.out _ _ HLT5box.out 0 _ rfl
      have q2 : X5.cell? ⟨B5, O5 + i5 * 16 + 1, none⟩ = some (.string E5z1_0) := HEC5.out _ _ HLT5box.out 1 _ rfl
      have q3 : X5.cell? ⟨B5, O5 + i5 * 16 + 2, none⟩ = some (.slice E5z2_a0 E5z2_n0 E5z2_c0) := HEC5.out _ _ HLT5box.out 2 _ rfl
      have q4 : X5.cell? ⟨B5, O5 + i5 * 16 + 3, none⟩ = some (.int .i64 E5z3_0) := HEC5.out _ _ HLT5box.out 3 _ rfl
      have q5 : X5.cell? ⟨B5, O5 + i5 * 16 + 4, none⟩ = some (.int .i64 E5z3_1) := HEC5.out _ _ HLT5box.out 4 _ rfl
      have q6 : X5.cell? ⟨B5, O5 + i5 * 16 + 5, none⟩ = some (.slice E5z4_a0 E5z4_n0 E5z4_c0) := HEC5.out _ _ HLT5box.out 5 _ rfl
      have q7 : X5.cell? ⟨B5, O5 + i5 * 16 + 6, none⟩ = some (.int .i64 E5z5_0) := HEC5.out _ _ HLT5box.out 6 _ rfl
      have q8 : X5.cell? ⟨B5, O5 + i5 * 16 + 7, none⟩ = some (.slice E5z6_a0 E5z6_n0 E5z6_c0) := HEC5.out _ _ HLT5box.out 7 _ rfl
      have q9 : X5.cell? ⟨B5, O5 + i5 * 16 + 8, none⟩ = some (.string E5z7_0) := HEC5.out _ _ HLT5box.out 8 _ rfl
      have q10 : X5.cell? ⟨B5, O5 + i5 * 16 + 9, none⟩ = some (.slice E5z7_a1 E5z7_n1 E5z7_c1) := HEC5.out _ _ HLT5box.out 9 _ rfl
      have q11 : X5.cell? ⟨B5, O5 + i5 * 16 + 10, none⟩ = some (.slice E5z7_a2 E5z7_n2 E5z7_c2) := HEC5.out _ _ HLT5box.out 10 _ rfl
      have q12 : X5.cell? ⟨B5, O5 + i5 * 16 + 11, none⟩ = some (.slice E5z7_a3 E5z7_n3 E5z7_c3) := HEC5.out _ _ HLT5box.out 11 _ rfl
      have q13 : X5.cell? ⟨B5, O5 + i5 * 16 + 12, none⟩ = some (.slice E5z7_a4 E5z7_n4 E5z7_c4) := HEC5.out _ _ HLT5box.out 12 _ rfl
      have q14 : X5.cell? ⟨B5, O5 + i5 * 16 + 13, none⟩ = some (.int .i64 E5z8_0) := HEC5.out _ _ HLT5box.out 13 _ rfl
      have q15 : X5.cell? ⟨B5, O5 + i5 * 16 + 14, none⟩ = some (.string E5z8_1) := HEC5.out _ _ HLT5box.out 14 _ rfl
      have q16 : X5.cell? ⟨B5, O5 + i5 * 16 + 15, none⟩ = some (.int .i64 E5z8_2) := HEC5.out _ _ HLT5box.out 15 _ rfl
      go_wp2_with fail
      refine (rf_Edit X5 base V5 ((enc .num d0 ++ (enc .num d1 ++ (enc .num (z2_n0 : Int) ++ List.flatMap (enc tEdit) (List.take i5 d2))))) [.int .i64 E5z0_0, .string E5z1_0, .slice E5z2_a0 E5z2_n0 E5z2_c0, .int .i64 E5z3_0, .int .i64 E5z3_1, .slice E5z4_a0 E5z4_n0 E5z4_c0, .int .i64 E5z5_0, .slice E5z6_a0 E5z6_n0 E5z6_c0, .string E5z7_0, .slice E5z7_a1 E5z7_n1 E5z7_c1, .slice E5z7_a2 E5z7_n2 E5z7_c2, .slice E5z7_a3 E5z7_n3 E5z7_c3, .slice E5z7_a4 E5z7_n4 E5z7_c4, .int .i64 E5z8_0, .string E5z8_1, .int .i64 E5z8_2] (E5d0, E5d1, E5d2, E5d3, E5d4, E5d5, E5d6, E5d7, E5d8) (Nat.le_trans HB0.out HLT5box.out.chg.size) HLR5.out (rd_grw HLT5box.out HR0.out HB0.out HW5.out) (by have := HLW5.out; (try simp only [List.length_append, List.length_nil]); omega)).mono ?_
      rintro e w6 ⟨v6, rfl, hr, hg⟩
      have HRow6 := Lib.hid (show Row w6 base v6 ((enc .num d0 ++ (enc .num d1 ++ (enc .num (z2_n0 : Int) ++ (List.flatMap (enc tEdit) (List.take i5 d2) ++ enc tEdit (E5d0, E5d1, E5d2, E5d3, E5d4, E5d5, E5d6, E5d7, E5d8)))))) from by simpa only [List.append_assoc, List.nil_append] using hr)
      have HT6box := Lib.hid (HLT5box.out.trans hg)
      clear hr hg q0 q1 q2 q3 q4 q5 q6 q7 q8 q9 q10 q11 q12 q13 q14 q15 q16
      have HFR5 := Lib.hid (show Row w6 base v6 ((enc .num d0 ++ (enc .num d1 ++ (enc .num (z2_n0 : Int) ++ List.flatMap (enc tEdit) (List.take (i5 + 1) d2))))) from by
        rw [HTK5.out, List.flatMap_append]
        simpa only [List.append_assoc, List.flatMap_cons, List.flatMap_nil, List.append_nil] using HRow6.out)
      go_wp2
      go_roundg (GK5 - 1)
      case rel => exact ⟨i5 + 1, by omega, by have := HI5.out; omega, by go_num, HFR5.out, HT6box.out⟩
      case measure => have := HI5.out; omega
    · obtain rfl : z2_n0 = i5 := by have := HI5.out; omega
      have hd1_5 : decide ((z2_n0 : Int) < (z2_n0 : Int)) = false := by simp
      have HXR5 := Lib.hid (show Row X5 base V5 ((enc .num d0 ++ (enc .num d1 ++ (enc .num (z2_n0 : Int) ++ List.flatMap (enc tEdit) d2)))) from by
        have := HLR5.out
        rw [P2N.out.1, List.take_length, ← P2N.out.1] at this
        exact this)
      clear hin5
      have HD7box := Lib.hid (HLT5box.out.trans (Grw.of_below (w' := X5.drew) (Below.refl _ _).drew))
      have HKP7 := Lib.hid (show ∀ w' v', Grw V5 v' X5.drew w' → (w'.cell? ⟨w.heap.size, 3, none⟩ = some (.int .i64 z3_0) ∧ w'.cell? ⟨w.heap.size, 4, none⟩ = some (.int .i64 z3_1) ∧ w'.cell? ⟨w.heap.size, 5, none⟩ = some (.int .i64 z3_2) ∧ w'.cell? ⟨w.heap.size, 6, none⟩ = some (.string z3_3) ∧ w'.cell? ⟨w.heap.size, 7, none⟩ = some (.int .i64 z4_0) ∧ w'.cell? ⟨w.heap.size, 8, none⟩ = some (.int .i64 z4_1) ∧ w'.cell? ⟨w.heap.size, 9, none⟩ = some (.int .i64 z4_2)) from fun w' v' hg =>
        ⟨HBX.out _ _ (HD7box.out.trans hg) 3 _ rfl, HBX.out _ _ (HD7box.out.trans hg) 4 _ rfl, HBX.out _ _ (HD7box.out.trans hg) 5 _ rfl, HBX.out _ _ (HD7box.out.trans hg) 6 _ rfl, HBX.out _ _ (HD7box.out.trans hg) 7 _ rfl, HBX.out _ _ (HD7box.out.trans hg) 8 _ rfl, HBX.out _ _ (HD7box.out.trans hg) 9 _ rfl⟩)
      have HIN7 := Lib.hid (HKP7.out _ _ (Grw.refl _ _))
      have HC7 := Lib.hid (rf_Request X5.drew base V5 ((enc .num d0 ++ (enc .num d1 ++ (enc .num (z2_n0 : Int) ++ List.flatMap (enc tEdit) d2)))) [.int .i64 z3_0, .int .i64 z3_1, .int .i64 z3_2, .string z3_3] d3 (Nat.le_trans HB0.out HD7box.out.chg.size) (HXR5.out.keep (Below.refl _ _).drew) (rd_grw HD7box.out HR0.out HB0.out HX3.out) (by have := HL.out; (try simp only [List.length_append, List.length_nil]); omega))
      go_wp2_with fail
      go_region_held3 (fun w' => w'.cell? ⟨w.heap.size, 3, none⟩ = some (.int .i64 z3_0) ∧ w'.cell? ⟨w.heap.size, 4, none⟩ = some (.int .i64 z3_1) ∧ w'.cell? ⟨w.heap.size, 5, none⟩ = some (.int .i64 z3_2) ∧ w'.cell? ⟨w.heap.size, 6, none⟩ = some (.string z3_3) ∧ w'.cell? ⟨w.heap.size, 7, none⟩ = some (.int .i64 z4_0) ∧ w'.cell? ⟨w.heap.size, 8, none⟩ = some (.int .i64 z4_1) ∧ w'.cell? ⟨w.heap.size, 9, none⟩ = some (.int .i64 z4_2)) (first | assumption | exact HIN7.out | exact HKP7.out _ _ hG8 | exact HKP7.out _ _ hG9)
        (first | (go_at_call_of 39 V5; refine HC7.out.mono ?_; rintro e w8 ⟨v8, rfl, hr, hg⟩; have hr8 : Row w8 base v8 ((enc .num d0 ++ (enc .num d1 ++ (enc .num (z2_n0 : Int) ++ (List.flatMap (enc tEdit) d2 ++ enc tRequest d3))))) := (by simpa only [List.append_assoc, List.nil_append] using hr); clear hr; have hG8 := hg) | (go_at_call_of 38 v8; refine (rf_Hold w8 base v8 ((enc .num d0 ++ (enc .num d1 ++ (enc .num (z2_n0 : Int) ++ (List.flatMap (enc tEdit) d2 ++ enc tRequest d3))))) [.int .i64 z4_0, .int .i64 z4_1, .int .i64 z4_2] d4 (Nat.le_trans HB0.out (HD7box.out.trans hG8).chg.size) hr8 (rd_grw (HD7box.out.trans hG8) HR0.out HB0.out HX4.out) (by have := HL.out; (try simp only [List.length_append, List.length_nil]); omega)).mono ?_; rintro e w9 ⟨v9, rfl, hr, hg⟩; have hr9 : Row w9 base v9 ((enc .num d0 ++ (enc .num d1 ++ (enc .num (z2_n0 : Int) ++ (List.flatMap (enc tEdit) d2 ++ (enc tRequest d3 ++ enc tHold d4)))))) := (by simpa only [List.append_assoc, List.nil_append] using hr); clear hr; have hG9 := hG8.trans hg) | fail)
      have HRow9 := Lib.hid hr9
      have HT9box := Lib.hid (HD7box.out.trans hG9)
      clear hr8 hG8 hr9 hG9
      go_wp2
      go_ret
      exact ⟨_, rfl, by rw [← HBASE.out]; exact HRow9.out, HB00.out.trans (by rw [← HBASE.out]; exact HT9box.out.below HR0.out HB0.out)⟩
end Go.Proofs.YtfppjpmflpaffaaGreat
