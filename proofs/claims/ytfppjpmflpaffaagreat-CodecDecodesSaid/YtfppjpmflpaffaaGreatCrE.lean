/-
  The reference's encoder: schemas. Printed by gen_cr.py.
-/
import Derived.Test.YtfppjpmflpaffaaGreatCrD
namespace Go.Proofs.YtfppjpmflpaffaaGreat
open Go.RowKit
set_option linter.unusedVariables false
set_option linter.unusedSimpArgs false

set_option maxRecDepth 100000 in
set_option maxHeartbeats 4000000 in
theorem rf_Schema : RefC 35 tSchema := by
  intro w base v0 l cs x hb hr hx hl
  obtain ⟨W0, hW0⟩ : ∃ W0, W0 = w.alloc (.cells cs.toArray 69) := ⟨_, rfl⟩
  have hb0 : Below w.heap.size w W0 := by rw [hW0]; exact (Below.refl _ _).alloc (Nat.le_refl _) _
  replace hx : (Ty.rd tSchema).rd W0 (· < base) cs x := rd_low (hb0.mono hb) hb hx
  have HR0 := Lib.hid (hr.keep hb0)
  have HB0 := Lib.hid (Nat.le_trans hb hb0.size)
  have HBX := Lib.hid (show ∀ w' v', Grw v0 v' W0 w' → ∀ (j : Nat) u, cs[j]? = some u → w'.cell? ⟨w.heap.size, j, none⟩ = some u from fun w' v' hg j u hu => by
    refine (hg.cell (a := ⟨w.heap.size, j, none⟩) (fun e => Nat.lt_irrefl _ (hr.ge _ e).2) (by show w.heap.size < W0.heap.size; rw [hW0]; simp)).trans ?_
    rw [hW0]
    have := new_cells w cs 69 j u hu
    rw [Addr.add_mid, Nat.zero_add] at this; exact this)
  have HB00 := Lib.hid hb0
  obtain ⟨d0, d1, d2, d3, d4⟩ := x
  obtain ⟨u0, r0, rfl, h0, u1, r1, rfl, h1, u2, r2, rfl, h2, u3, r3, rfl, h3, h4⟩ := hx
  dsimp only at h0 h1 h2 h3 h4
  obtain ⟨z0_0, rfl⟩ : ∃ z : ByteArray, u0 = [.string z] := ⟨_, h0.1⟩
  obtain ⟨z1_a0, z1_n0, z1_c0, rfl⟩ : ∃ a n c, u1 = [.slice a n c] := by obtain ⟨a, n, c, e, _⟩ := id h1; exact ⟨a, n, c, e⟩
  obtain ⟨z2_a0, z2_n0, z2_c0, rfl⟩ : ∃ a n c, u2 = [.slice a n c] := by obtain ⟨a, n, c, e, _⟩ := id h2; exact ⟨a, n, c, e⟩
  obtain ⟨z3_a0, z3_n0, z3_c0, rfl⟩ : ∃ a n c, u3 = [.slice a n c] := by obtain ⟨a, n, c, e, _⟩ := id h3; exact ⟨a, n, c, e⟩
  obtain ⟨z4_a0, z4_n0, z4_c0, rfl⟩ : ∃ a n c, r3 = [.slice a n c] := by obtain ⟨a, n, c, e, _⟩ := id h4; exact ⟨a, n, c, e⟩
  have HW0 := Lib.hid (show W0 = w.alloc (.cells #[.string z0_0, .slice z1_a0 z1_n0 z1_c0, .slice z2_a0 z2_n0 z2_c0, .slice z3_a0 z3_n0 z3_c0, .slice z4_a0 z4_n0 z4_c0] 69) from hW0)
  show Calls _ _ #[v0, .agg #[.string z0_0, .slice z1_a0 z1_n0 z1_c0, .slice z2_a0 z2_n0 z2_c0, .slice z3_a0 z3_n0 z3_c0, .slice z4_a0 z4_n0 z4_c0]] _ _
  have HX0 := Lib.hid h0
  have HX1 := Lib.hid h1
  have P1N := Lib.hid (show z1_n0 = List.length d1 ∧ (z1_n0 = 0 ∨ ∃ b off, z1_a0 = some ⟨b, off, none⟩ ∧ b < base ∧ b < W0.heap.size ∧ ∀ (i : Nat) y, d1[i]? = some y → ∃ ys, At W0 b (off + i * (Ty.rd tSchemaVersion).size) ys ∧ (Ty.rd tSchemaVersion).rd W0 (· < base) ys y) ∧ (Lit.int .i64 (z1_n0 : Int)).wf = true from by
    obtain ⟨a', n', c', e, g1, g2, g3, g4⟩ := id h1
    simp only [List.cons.injEq, Value.slice.injEq, and_true] at e
    obtain ⟨rfl, rfl, rfl⟩ := e
    refine ⟨g1, g4, ?_⟩
    unfold maxLen at g3; simp [Lit.wf, IntKind.min, IntKind.max, IntKind.bits, IntKind.signed]; omega)
  have P1n0 : 0 ≤ (z1_n0 : Int) := by omega
  have P1n1 : (z1_n0 : Int) ≤ 9223372036854775807 := by have h := P1N.out.2.2; simp [Lit.wf, IntKind.min, IntKind.max, IntKind.bits, IntKind.signed] at h; omega
  have HX2 := Lib.hid h2
  have HX3 := Lib.hid h3
  have P3N := Lib.hid (show z3_n0 = List.length d3 ∧ (z3_n0 = 0 ∨ ∃ b off, z3_a0 = some ⟨b, off, none⟩ ∧ b < base ∧ b < W0.heap.size ∧ ∀ (i : Nat) y, d3[i]? = some y → ∃ ys, At W0 b (off + i * (Ty.rd tForeignKey).size) ys ∧ (Ty.rd tForeignKey).rd W0 (· < base) ys y) ∧ (Lit.int .i64 (z3_n0 : Int)).wf = true from by
    obtain ⟨a', n', c', e, g1, g2, g3, g4⟩ := id h3
    simp only [List.cons.injEq, Value.slice.injEq, and_true] at e
    obtain ⟨rfl, rfl, rfl⟩ := e
    refine ⟨g1, g4, ?_⟩
    unfold maxLen at g3; simp [Lit.wf, IntKind.min, IntKind.max, IntKind.bits, IntKind.signed]; omega)
  have P3n0 : 0 ≤ (z3_n0 : Int) := by omega
  have P3n1 : (z3_n0 : Int) ≤ 9223372036854775807 := by have h := P3N.out.2.2; simp [Lit.wf, IntKind.min, IntKind.max, IntKind.bits, IntKind.signed] at h; omega
  have HX4 := Lib.hid h4
  have P4N := Lib.hid (show z4_n0 = List.length d4 ∧ (z4_n0 = 0 ∨ ∃ b off, z4_a0 = some ⟨b, off, none⟩ ∧ b < base ∧ b < W0.heap.size ∧ ∀ (i : Nat) y, d4[i]? = some y → ∃ ys, At W0 b (off + i * (Ty.rd tConstraint).size) ys ∧ (Ty.rd tConstraint).rd W0 (· < base) ys y) ∧ (Lit.int .i64 (z4_n0 : Int)).wf = true from by
    obtain ⟨a', n', c', e, g1, g2, g3, g4⟩ := id h4
    simp only [List.cons.injEq, Value.slice.injEq, and_true] at e
    obtain ⟨rfl, rfl, rfl⟩ := e
    refine ⟨g1, g4, ?_⟩
    unfold maxLen at g3; simp [Lit.wf, IntKind.min, IntKind.max, IntKind.bits, IntKind.signed]; omega)
  have P4n0 : 0 ≤ (z4_n0 : Int) := by omega
  have P4n1 : (z4_n0 : Int) ≤ 9223372036854775807 := by have h := P4N.out.2.2; simp [Lit.wf, IntKind.min, IntKind.max, IntKind.bits, IntKind.signed] at h; omega
  have henc : enc tSchema (d0, d1, d2, d3, d4) = (enc .str d0 ++ (enc .num (z1_n0 : Int) ++ (List.flatMap (enc tSchemaVersion) d1 ++ (enc (.list .num) d2 ++ (enc .num (z3_n0 : Int) ++ (List.flatMap (enc tForeignKey) d3 ++ (enc .num (z4_n0 : Int) ++ List.flatMap (enc tConstraint) d4))))))) := by
    show (enc .str d0 ++ ((enc .num ((List.length d1 : Nat) : Int) ++ List.flatMap (enc tSchemaVersion) d1) ++ (enc (.list .num) d2 ++ ((enc .num ((List.length d3 : Nat) : Int) ++ List.flatMap (enc tForeignKey) d3) ++ (enc .num ((List.length d4 : Nat) : Int) ++ List.flatMap (enc tConstraint) d4))))) = _
    first | rfl | (rw [← P1N.out.1, ← P3N.out.1, ← P4N.out.1]; done) | (rw [← P1N.out.1, ← P3N.out.1, ← P4N.out.1]; simp only [List.append_assoc]; done)
  rw [henc] at hl ⊢
  simp only [List.length_append] at hl
  have HL := Lib.hid hl
  clear hW0 hb0 hr hb hl henc h0 h1 h2 h3 h4
  go_enter Tryz.func35, Tryz.ntmps35
  have HT0 := Lib.hid (Grw.refl v0 W0)
  have HD1box := Lib.hid (HT0.out.trans (Grw.of_below (w' := W0.drew) (Below.refl _ _).drew))
  have HKP1 := Lib.hid (show ∀ w' v', Grw v0 v' W0.drew w' → (w'.cell? ⟨w.heap.size, 0, none⟩ = some (.string z0_0) ∧ w'.cell? ⟨w.heap.size, 1, none⟩ = some (.slice z1_a0 z1_n0 z1_c0)) from fun w' v' hg =>
    ⟨HBX.out _ _ (HD1box.out.trans hg) 0 _ rfl, HBX.out _ _ (HD1box.out.trans hg) 1 _ rfl⟩)
  have HIN1 := Lib.hid (HKP1.out _ _ (Grw.refl _ _))
  have HC1 := Lib.hid (rf_str W0.drew base v0 l [.string z0_0] d0 (Nat.le_trans HB0.out HD1box.out.chg.size) (HR0.out.keep (Below.refl _ _).drew) (rd_grw HD1box.out HR0.out HB0.out HX0.out) (by have := HL.out; (try simp only [List.length_append, List.length_nil]); omega))
  go_wp2_with fail
  rw [← HW0.out]
  go_region_held3 (fun w' => w'.cell? ⟨w.heap.size, 0, none⟩ = some (.string z0_0) ∧ w'.cell? ⟨w.heap.size, 1, none⟩ = some (.slice z1_a0 z1_n0 z1_c0)) (first | assumption | exact HIN1.out | exact HKP1.out _ _ hG2 | exact HKP1.out _ _ hG3)
    (first | (go_at_call_of 70 v0; refine HC1.out.mono ?_; rintro e w2 ⟨v2, rfl, hr, hg⟩; have hr2 : Row w2 base v2 (l ++ enc .str d0) := (by simpa only [List.append_assoc, List.nil_append] using hr); clear hr; have hG2 := hg) | (go_at_call_of 34 v2; refine (rf_num w2 base v2 (l ++ enc .str d0) [.int .i64 (z1_n0 : Int)] (z1_n0 : Int) (Nat.le_trans HB0.out (HD1box.out.trans hG2).chg.size) hr2 ⟨rfl, P1N.out.2.2⟩ (by have := HL.out; (try simp only [List.length_append, List.length_nil]); omega)).mono ?_; rintro e w3 ⟨v3, rfl, hr, hg⟩; have hr3 : Row w3 base v3 (l ++ (enc .str d0 ++ enc .num (z1_n0 : Int))) := (by simpa only [List.append_assoc, List.nil_append] using hr); clear hr; have hG3 := hG2.trans hg) | fail)
  have HRow3 := Lib.hid hr3
  have HT3box := Lib.hid (HD1box.out.trans hG3)
  clear hr2 hG2 hr3 hG3
  go_wp2
  go_loopg [0, 5] z1_n0 (fun gk t0 t5 wr => ∃ (i : Nat), i ≤ z1_n0 ∧ gk + i = z1_n0 ∧ t5 = .int .i64 (i : Int) ∧ Row wr base t0 (l ++ (enc .str d0 ++ (enc .num (z1_n0 : Int) ++ List.flatMap (enc tSchemaVersion) (List.take i d1)))) ∧ Grw v0 t0 W0 wr)
  case atStart => exact ⟨0, by omega, by omega, rfl, by simpa only [List.take_zero, List.flatMap_nil, List.append_nil, List.append_assoc] using HRow3.out, HT3box.out⟩
  case round =>
    generalize gk = GK4 at *
    generalize wr = X4 at *
    generalize u0 = V4 at *
    obtain ⟨i4, hi, hgk, rfl, hrow, gbox⟩ := hrel
    have HI4 := Lib.hid (And.intro hi hgk)
    have HLR4 := Lib.hid hrow
    have HLT4box := Lib.hid gbox
    have hi0_4 : 0 ≤ (i4 : Int) := by omega
    clear hi hgk hrow gbox
    have ql4 : X4.cell? ⟨w.heap.size, 1, none⟩ = some (.slice z1_a0 z1_n0 z1_c0) := HBX.out _ _ HLT4box.out 1 _ rfl
    by_cases hin4 : i4 < z1_n0
    · have hd1_4 : decide ((i4 : Int) < (z1_n0 : Int)) = true := decide_eq_true (by omega)
      have hi1_4 : (i4 : Int) < (z1_n0 : Int) := by omega
      obtain ⟨y4, hy4⟩ : ∃ y, d1[i4]? = some y := ⟨_, List.getElem?_eq_getElem (by have := P1N.out.1; omega)⟩
      rcases P1N.out.2.1 with h0 | ⟨B4, O4, haddr4, hbF4, hbl4, hget4⟩
      · exact absurd h0 (by omega)
      subst haddr4
      obtain ⟨ys4, hA4, hyr4⟩ := hget4 i4 y4 hy4
      have HTK4 := Lib.hid (show List.take (i4 + 1) d1 = List.take i4 d1 ++ [y4] by rw [List.take_add_one, hy4]; rfl)
      have HLE4 := Lib.hid (show (l ++ (enc .str d0 ++ (enc .num (z1_n0 : Int) ++ List.flatMap (enc tSchemaVersion) (List.take i4 d1)))).length + (enc tSchemaVersion y4).length ≤ 140737488355328 from by
        have h1 := HL.out
        have h2 : (List.flatMap (enc tSchemaVersion) d1).length = (List.flatMap (enc tSchemaVersion) (List.take i4 d1)).length + ((enc tSchemaVersion y4).length + (List.flatMap (enc tSchemaVersion) (List.drop (i4 + 1) d1)).length) := by
          have h4 : d1 = List.take i4 d1 ++ (y4 :: List.drop (i4 + 1) d1) := by
            have h3 := List.take_append_drop (i4 + 1) d1
            rw [HTK4.out] at h3
            simpa using h3.symm
          conv => lhs; rw [h4]
          rw [List.flatMap_append, List.flatMap_cons, List.length_append, List.length_append]
        (try simp only [List.length_append] at h1 ⊢); omega)
      have HEC4 := Lib.hid (show ∀ w' v', Grw v0 v' W0 w' → ∀ (j : Nat) u, ys4[j]? = some u → w'.cell? ⟨B4, O4 + i4 * 3 + j, none⟩ = some u from fun w' v' hg j u hu => ((hg.below HR0.out HB0.out).cell (p := ⟨B4, O4 + i4 * 3 + j, none⟩) hbF4).trans (hA4 j u hu))
      clear hget4 hA4 hbF4 hbl4 hy4
      obtain ⟨E4d0, E4d1⟩ := y4
      obtain ⟨E4u0, E4r0, rfl, E4h0, E4h1⟩ := hyr4
      dsimp only at E4h0 E4h1
      obtain ⟨E4z0_0, E4z0_1, rfl⟩ := shape_Period E4h0
      obtain ⟨E4z1_a0, E4z1_n0, E4z1_c0, rfl⟩ : ∃ a n c, E4r0 = [.slice a n c] := by obtain ⟨a, n, c, e, _⟩ := id E4h1; exact ⟨a, n, c, e⟩
      have E4X0 := Lib.hid E4h0
      have E4X1 := Lib.hid E4h1
      have E4P1N := Lib.hid (show E4z1_n0 = List.length E4d1 ∧ (E4z1_n0 = 0 ∨ ∃ b off, E4z1_a0 = some ⟨b, off, none⟩ ∧ b < base ∧ b < W0.heap.size ∧ ∀ (i : Nat) y, E4d1[i]? = some y → ∃ ys, At W0 b (off + i * (Ty.rd tColumn).size) ys ∧ (Ty.rd tColumn).rd W0 (· < base) ys y) ∧ (Lit.int .i64 (E4z1_n0 : Int)).wf = true from by
        obtain ⟨a', n', c', e, g1, g2, g3, g4⟩ := id E4h1
        simp only [List.cons.injEq, Value.slice.injEq, and_true] at e
        obtain ⟨rfl, rfl, rfl⟩ := e
        refine ⟨g1, g4, ?_⟩
        unfold maxLen at g3; simp [Lit.wf, IntKind.min, IntKind.max, IntKind.bits, IntKind.signed]; omega)
      have E4P1n0 : 0 ≤ (E4z1_n0 : Int) := by omega
      have E4P1n1 : (E4z1_n0 : Int) ≤ 9223372036854775807 := by have h := E4P1N.out.2.2; simp [Lit.wf, IntKind.min, IntKind.max, IntKind.bits, IntKind.signed] at h; omega
      clear E4h0 E4h1
      have henc4 : enc tSchemaVersion (E4d0, E4d1) = (enc tPeriod E4d0 ++ (enc .num (E4z1_n0 : Int) ++ List.flatMap (enc tColumn) E4d1)) := by
        show (enc tPeriod E4d0 ++ (enc .num ((List.length E4d1 : Nat) : Int) ++ List.flatMap (enc tColumn) E4d1)) = _
        first | rfl | (rw [← E4P1N.out.1]; done) | (rw [← E4P1N.out.1]; simp only [List.append_assoc]; done)
      have HEE4 := Lib.hid henc4
      have HLF4 := Lib.hid (show (l ++ (enc .str d0 ++ (enc .num (z1_n0 : Int) ++ List.flatMap (enc tSchemaVersion) (List.take i4 d1)))).length + ((enc tPeriod E4d0 ++ (enc .num (E4z1_n0 : Int) ++ List.flatMap (enc tColumn) E4d1))).length ≤ 140737488355328 from by have h1 := HLE4.out; rw [HEE4.out] at h1; exact h1)
      have HLG4 := HLF4.out
      simp only [List.length_append] at HLG4
      replace HLG4 := Lib.hid HLG4
      clear henc4
      have q0 : X4.cell? ⟨w.heap.size, 1, none⟩ = some (.slice (some ⟨B4, O4, none⟩) z1_n0 z1_c0) := HBX.out _ _ HLT4box.out 1 _ rfl
      have q1 : X4.cell? ⟨B4, O4 + i4 * 3, none⟩ = some (.int .i64 E4z0_0) := HEC4.out _ _ HLT4box.out 0 _ rfl
      have q2 : X4.cell? ⟨B4, O4 + i4 * 3 + 1, none⟩ = some (.int .i64 E4z0_1) := HEC4.out _ _ HLT4box.out 1 _ rfl
      go_wp2_with fail
      refine (rf_Period X4 base V4 (l ++ (enc .str d0 ++ (enc .num (z1_n0 : Int) ++ List.flatMap (enc tSchemaVersion) (List.take i4 d1)))) [.int .i64 E4z0_0, .int .i64 E4z0_1] E4d0 (Nat.le_trans HB0.out HLT4box.out.chg.size) HLR4.out (rd_grw HLT4box.out HR0.out HB0.out E4X0.out) (by have := HLG4.out; (try simp only [List.length_append, List.length_nil]); omega)).mono ?_
      rintro e w5 ⟨v5, rfl, hr, hg⟩
      have HRow5 := Lib.hid (show Row w5 base v5 (l ++ (enc .str d0 ++ (enc .num (z1_n0 : Int) ++ (List.flatMap (enc tSchemaVersion) (List.take i4 d1) ++ enc tPeriod E4d0)))) from by simpa only [List.append_assoc, List.nil_append] using hr)
      have HT5box := Lib.hid (HLT4box.out.trans hg)
      clear hr hg q0 q1 q2
      have q0 : w5.cell? ⟨w.heap.size, 1, none⟩ = some (.slice (some ⟨B4, O4, none⟩) z1_n0 z1_c0) := HBX.out _ _ HT5box.out 1 _ rfl
      have q1 : w5.cell? ⟨B4, O4 + i4 * 3 + 2, none⟩ = some (.slice E4z1_a0 E4z1_n0 E4z1_c0) := HEC4.out _ _ HT5box.out 2 _ rfl
      go_wp2_with fail
      refine (rf_num w5 base v5 (l ++ (enc .str d0 ++ (enc .num (z1_n0 : Int) ++ (List.flatMap (enc tSchemaVersion) (List.take i4 d1) ++ enc tPeriod E4d0)))) [.int .i64 (E4z1_n0 : Int)] (E4z1_n0 : Int) (Nat.le_trans HB0.out HT5box.out.chg.size) HRow5.out ⟨rfl, E4P1N.out.2.2⟩ (by have := HLG4.out; (try simp only [List.length_append, List.length_nil]); omega)).mono ?_
      rintro e w6 ⟨v6, rfl, hr, hg⟩
      have HRow6 := Lib.hid (show Row w6 base v6 (l ++ (enc .str d0 ++ (enc .num (z1_n0 : Int) ++ (List.flatMap (enc tSchemaVersion) (List.take i4 d1) ++ (enc tPeriod E4d0 ++ enc .num (E4z1_n0 : Int)))))) from by simpa only [List.append_assoc, List.nil_append] using hr)
      have HT6box := Lib.hid (HT5box.out.trans hg)
      clear hr hg q0 q1
      go_wp2
      go_loopg [0, 6] E4z1_n0 (fun gk t0 t6 wr => ∃ (i : Nat), i ≤ E4z1_n0 ∧ gk + i = E4z1_n0 ∧ t6 = .int .i64 (i : Int) ∧ Row wr base t0 (l ++ (enc .str d0 ++ (enc .num (z1_n0 : Int) ++ (List.flatMap (enc tSchemaVersion) (List.take i4 d1) ++ (enc tPeriod E4d0 ++ (enc .num (E4z1_n0 : Int) ++ List.flatMap (enc tColumn) (List.take i E4d1))))))) ∧ Grw v0 t0 W0 wr)
      case atStart => exact ⟨0, by omega, by omega, rfl, by simpa only [List.take_zero, List.flatMap_nil, List.append_nil, List.append_assoc] using HRow6.out, HT6box.out⟩
      case round =>
        generalize gk = GK7 at *
        generalize wr = X7 at *
        generalize u0 = V7 at *
        obtain ⟨i7, hi, hgk, rfl, hrow, gbox⟩ := hrel
        have HI7 := Lib.hid (And.intro hi hgk)
        have HLR7 := Lib.hid hrow
        have HLT7box := Lib.hid gbox
        have hi0_7 : 0 ≤ (i7 : Int) := by omega
        clear hi hgk hrow gbox
        have ql7 : X7.cell? ⟨B4, O4 + i4 * 3 + 2, none⟩ = some (.slice E4z1_a0 E4z1_n0 E4z1_c0) := HEC4.out _ _ HLT7box.out 2 _ rfl
        have qo7_0 : X7.cell? ⟨w.heap.size, 1, none⟩ = some (.slice (some ⟨B4, O4, none⟩) z1_n0 z1_c0) := HBX.out _ _ HLT7box.out 1 _ rfl
        by_cases hin7 : i7 < E4z1_n0
        · have hd1_7 : decide ((i7 : Int) < (E4z1_n0 : Int)) = true := decide_eq_true (by omega)
          have hi1_7 : (i7 : Int) < (E4z1_n0 : Int) := by omega
          obtain ⟨y7, hy7⟩ : ∃ y, E4d1[i7]? = some y := ⟨_, List.getElem?_eq_getElem (by have := E4P1N.out.1; omega)⟩
          rcases E4P1N.out.2.1 with h0 | ⟨B7, O7, haddr7, hbF7, hbl7, hget7⟩
          · exact absurd h0 (by omega)
          subst haddr7
          obtain ⟨ys7, hA7, hyr7⟩ := hget7 i7 y7 hy7
          have HTK7 := Lib.hid (show List.take (i7 + 1) E4d1 = List.take i7 E4d1 ++ [y7] by rw [List.take_add_one, hy7]; rfl)
          have HLE7 := Lib.hid (show (l ++ (enc .str d0 ++ (enc .num (z1_n0 : Int) ++ (List.flatMap (enc tSchemaVersion) (List.take i4 d1) ++ (enc tPeriod E4d0 ++ (enc .num (E4z1_n0 : Int) ++ List.flatMap (enc tColumn) (List.take i7 E4d1))))))).length + (enc tColumn y7).length ≤ 140737488355328 from by
            have h1 := HLG4.out
            have h2 : (List.flatMap (enc tColumn) E4d1).length = (List.flatMap (enc tColumn) (List.take i7 E4d1)).length + ((enc tColumn y7).length + (List.flatMap (enc tColumn) (List.drop (i7 + 1) E4d1)).length) := by
              have h4 : E4d1 = List.take i7 E4d1 ++ (y7 :: List.drop (i7 + 1) E4d1) := by
                have h3 := List.take_append_drop (i7 + 1) E4d1
                rw [HTK7.out] at h3
                simpa using h3.symm
              conv => lhs; rw [h4]
              rw [List.flatMap_append, List.flatMap_cons, List.length_append, List.length_append]
            (try simp only [List.length_append] at h1 ⊢); omega)
          have HEC7 := Lib.hid (show ∀ w' v', Grw v0 v' W0 w' → ∀ (j : Nat) u, ys7[j]? = some u → w'.cell? ⟨B7, O7 + i7 * 3 + j, none⟩ = some u from fun w' v' hg j u hu => ((hg.below HR0.out HB0.out).cell (p := ⟨B7, O7 + i7 * 3 + j, none⟩) hbF7).trans (hA7 j u hu))
          clear hget7 hA7 hbF7 hbl7 hy7
          obtain ⟨E7d0, E7d1, E7d2⟩ := y7
          obtain ⟨E7u0, E7r0, rfl, E7h0, E7u1, E7r1, rfl, E7h1, E7h2⟩ := hyr7
          dsimp only at E7h0 E7h1 E7h2
          obtain ⟨E7z0_0, rfl⟩ : ∃ z : Int, E7u0 = [.int .i64 z] := ⟨_, E7h0.1⟩
          obtain ⟨E7z1_0, rfl⟩ : ∃ z : ByteArray, E7u1 = [.string z] := ⟨_, E7h1.1⟩
          obtain ⟨E7z2_0, rfl⟩ : ∃ z : Int, E7r1 = [.int .i64 z] := ⟨_, E7h2.1⟩
          have E7X0 := Lib.hid E7h0
          have E7X1 := Lib.hid E7h1
          have E7X2 := Lib.hid E7h2
          clear E7h0 E7h1 E7h2
          have HLW7 := HLE7.out
          (try simp only [List.length_append, List.length_nil] at HLW7)
          replace HLW7 := Lib.hid HLW7
          have HW7 := Lib.hid (show (Ty.rd tColumn).rd W0 (· < base) [.int .i64 E7z0_0, .string E7z1_0, .int .i64 E7z2_0] (E7d0, E7d1, E7d2) from ⟨_, _, rfl, E7X0.out, _, _, rfl, E7X1.out, E7X2.out⟩)
          have q0 : X7.cell? ⟨B4, O4 + i4 * 3 + 2, none⟩ = some (.slice (some ⟨B7, O7, none⟩) E4z1_n0 E4z1_c0) := HEC4.out _ _ HLT7box.out 2 _ rfl
          have q1 : X7.cell? ⟨B7, O7 + i7 * 3, none⟩ = some (.int .i64 E7z0_0) := HEC7.out _ _ HLT7box.out 0 _ rfl
          have q2 : X7.cell? ⟨B7, O7 + i7 * 3 + 1, none⟩ = some (.string E7z1_0) := HEC7.out _ _ HLT7box.out 1 _ rfl
          have q3 : X7.cell? ⟨B7, O7 + i7 * 3 + 2, none⟩ = some (.int .i64 E7z2_0) := HEC7.out _ _ HLT7box.out 2 _ rfl
          have q4 : X7.cell? ⟨w.heap.size, 1, none⟩ = some (.slice (some ⟨B4, O4, none⟩) z1_n0 z1_c0) := HBX.out _ _ HLT7box.out 1 _ rfl
          go_wp2_with fail
          refine (rf_Column X7 base V7 (l ++ (enc .str d0 ++ (enc .num (z1_n0 : Int) ++ (List.flatMap (enc tSchemaVersion) (List.take i4 d1) ++ (enc tPeriod E4d0 ++ (enc .num (E4z1_n0 : Int) ++ List.flatMap (enc tColumn) (List.take i7 E4d1))))))) [.int .i64 E7z0_0, .string E7z1_0, .int .i64 E7z2_0] (E7d0, E7d1, E7d2) (Nat.le_trans HB0.out HLT7box.out.chg.size) HLR7.out (rd_grw HLT7box.out HR0.out HB0.out HW7.out) (by have := HLW7.out; (try simp only [List.length_append, List.length_nil]); omega)).mono ?_
          rintro e w8 ⟨v8, rfl, hr, hg⟩
          have HRow8 := Lib.hid (show Row w8 base v8 (l ++ (enc .str d0 ++ (enc .num (z1_n0 : Int) ++ (List.flatMap (enc tSchemaVersion) (List.take i4 d1) ++ (enc tPeriod E4d0 ++ (enc .num (E4z1_n0 : Int) ++ (List.flatMap (enc tColumn) (List.take i7 E4d1) ++ enc tColumn (E7d0, E7d1, E7d2)))))))) from by simpa only [List.append_assoc, List.nil_append] using hr)
          have HT8box := Lib.hid (HLT7box.out.trans hg)
          clear hr hg q0 q1 q2 q3 q4
          have HFR7 := Lib.hid (show Row w8 base v8 (l ++ (enc .str d0 ++ (enc .num (z1_n0 : Int) ++ (List.flatMap (enc tSchemaVersion) (List.take i4 d1) ++ (enc tPeriod E4d0 ++ (enc .num (E4z1_n0 : Int) ++ List.flatMap (enc tColumn) (List.take (i7 + 1) E4d1))))))) from by
            rw [HTK7.out, List.flatMap_append]
            simpa only [List.append_assoc, List.flatMap_cons, List.flatMap_nil, List.append_nil] using HRow8.out)
          go_wp2
          go_roundg (GK7 - 1)
          case rel => exact ⟨i7 + 1, by omega, by have := HI7.out; omega, by go_num, HFR7.out, HT8box.out⟩
          case measure => have := HI7.out; omega
        · obtain rfl : E4z1_n0 = i7 := by have := HI7.out; omega
          have hd1_7 : decide ((E4z1_n0 : Int) < (E4z1_n0 : Int)) = false := by simp
          have HXR7 := Lib.hid (show Row X7 base V7 (l ++ (enc .str d0 ++ (enc .num (z1_n0 : Int) ++ (List.flatMap (enc tSchemaVersion) (List.take i4 d1) ++ (enc tPeriod E4d0 ++ (enc .num (E4z1_n0 : Int) ++ List.flatMap (enc tColumn) E4d1)))))) from by
            have := HLR7.out
            rw [E4P1N.out.1, List.take_length, ← E4P1N.out.1] at this
            exact this)
          clear hin7
          have HFR4 := Lib.hid (show Row X7 base V7 (l ++ (enc .str d0 ++ (enc .num (z1_n0 : Int) ++ List.flatMap (enc tSchemaVersion) (List.take (i4 + 1) d1)))) from by
            rw [HTK4.out, List.flatMap_append, List.flatMap_cons, List.flatMap_nil, List.append_nil, HEE4.out]
            simpa only [List.append_assoc, List.flatMap_cons, List.flatMap_nil, List.append_nil] using HXR7.out)
          go_wp2
          go_roundg (GK4 - 1)
          case rel => exact ⟨i4 + 1, by omega, by have := HI4.out; omega, by go_num, HFR4.out, HLT7box.out⟩
          case measure => have := HI4.out; omega
    · obtain rfl : z1_n0 = i4 := by have := HI4.out; omega
      have hd1_4 : decide ((z1_n0 : Int) < (z1_n0 : Int)) = false := by simp
      have HXR4 := Lib.hid (show Row X4 base V4 (l ++ (enc .str d0 ++ (enc .num (z1_n0 : Int) ++ List.flatMap (enc tSchemaVersion) d1))) from by
        have := HLR4.out
        rw [P1N.out.1, List.take_length, ← P1N.out.1] at this
        exact this)
      clear hin4
      have q0 : X4.cell? ⟨w.heap.size, 2, none⟩ = some (.slice z2_a0 z2_n0 z2_c0) := HBX.out _ _ HLT4box.out 2 _ rfl
      go_wp2_with fail
      refine (rf_ints X4 base V4 (l ++ (enc .str d0 ++ (enc .num (z1_n0 : Int) ++ List.flatMap (enc tSchemaVersion) d1))) [.slice z2_a0 z2_n0 z2_c0] d2 (Nat.le_trans HB0.out HLT4box.out.chg.size) HXR4.out (rd_grw HLT4box.out HR0.out HB0.out HX2.out) (by have := HL.out; (try simp only [List.length_append, List.length_nil]); omega)).mono ?_
      rintro e w9 ⟨v9, rfl, hr, hg⟩
      have HRow9 := Lib.hid (show Row w9 base v9 (l ++ (enc .str d0 ++ (enc .num (z1_n0 : Int) ++ (List.flatMap (enc tSchemaVersion) d1 ++ enc (.list .num) d2)))) from by simpa only [List.append_assoc, List.nil_append] using hr)
      have HT9box := Lib.hid (HLT4box.out.trans hg)
      clear hr hg q0
      have q0 : w9.cell? ⟨w.heap.size, 3, none⟩ = some (.slice z3_a0 z3_n0 z3_c0) := HBX.out _ _ HT9box.out 3 _ rfl
      go_wp2_with fail
      refine (rf_num w9 base v9 (l ++ (enc .str d0 ++ (enc .num (z1_n0 : Int) ++ (List.flatMap (enc tSchemaVersion) d1 ++ enc (.list .num) d2)))) [.int .i64 (z3_n0 : Int)] (z3_n0 : Int) (Nat.le_trans HB0.out HT9box.out.chg.size) HRow9.out ⟨rfl, P3N.out.2.2⟩ (by have := HL.out; (try simp only [List.length_append, List.length_nil]); omega)).mono ?_
      rintro e w10 ⟨v10, rfl, hr, hg⟩
      have HRow10 := Lib.hid (show Row w10 base v10 (l ++ (enc .str d0 ++ (enc .num (z1_n0 : Int) ++ (List.flatMap (enc tSchemaVersion) d1 ++ (enc (.list .num) d2 ++ enc .num (z3_n0 : Int)))))) from by simpa only [List.append_assoc, List.nil_append] using hr)
      have HT10box := Lib.hid (HT9box.out.trans hg)
      clear hr hg q0
      go_wp2
      go_loopg [0, 7] z3_n0 (fun gk t0 t7 wr => ∃ (i : Nat), i ≤ z3_n0 ∧ gk + i = z3_n0 ∧ t7 = .int .i64 (i : Int) ∧ Row wr base t0 (l ++ (enc .str d0 ++ (enc .num (z1_n0 : Int) ++ (List.flatMap (enc tSchemaVersion) d1 ++ (enc (.list .num) d2 ++ (enc .num (z3_n0 : Int) ++ List.flatMap (enc tForeignKey) (List.take i d3))))))) ∧ Grw v0 t0 W0 wr)
      case atStart => exact ⟨0, by omega, by omega, rfl, by simpa only [List.take_zero, List.flatMap_nil, List.append_nil, List.append_assoc] using HRow10.out, HT10box.out⟩
      case round =>
        generalize gk = GK11 at *
        generalize wr = X11 at *
        generalize u0 = V11 at *
        obtain ⟨i11, hi, hgk, rfl, hrow, gbox⟩ := hrel
        have HI11 := Lib.hid (And.intro hi hgk)
        have HLR11 := Lib.hid hrow
        have HLT11box := Lib.hid gbox
        have hi0_11 : 0 ≤ (i11 : Int) := by omega
        clear hi hgk hrow gbox
        have ql11 : X11.cell? ⟨w.heap.size, 3, none⟩ = some (.slice z3_a0 z3_n0 z3_c0) := HBX.out _ _ HLT11box.out 3 _ rfl
        by_cases hin11 : i11 < z3_n0
        · have hd1_11 : decide ((i11 : Int) < (z3_n0 : Int)) = true := decide_eq_true (by omega)
          have hi1_11 : (i11 : Int) < (z3_n0 : Int) := by omega
          obtain ⟨y11, hy11⟩ : ∃ y, d3[i11]? = some y := ⟨_, List.getElem?_eq_getElem (by have := P3N.out.1; omega)⟩
          rcases P3N.out.2.1 with h0 | ⟨B11, O11, haddr11, hbF11, hbl11, hget11⟩
          · exact absurd h0 (by omega)
          subst haddr11
          obtain ⟨ys11, hA11, hyr11⟩ := hget11 i11 y11 hy11
          have HTK11 := Lib.hid (show List.take (i11 + 1) d3 = List.take i11 d3 ++ [y11] by rw [List.take_add_one, hy11]; rfl)
          have HLE11 := Lib.hid (show (l ++ (enc .str d0 ++ (enc .num (z1_n0 : Int) ++ (List.flatMap (enc tSchemaVersion) d1 ++ (enc (.list .num) d2 ++ (enc .num (z3_n0 : Int) ++ List.flatMap (enc tForeignKey) (List.take i11 d3))))))).length + (enc tForeignKey y11).length ≤ 140737488355328 from by
            have h1 := HL.out
            have h2 : (List.flatMap (enc tForeignKey) d3).length = (List.flatMap (enc tForeignKey) (List.take i11 d3)).length + ((enc tForeignKey y11).length + (List.flatMap (enc tForeignKey) (List.drop (i11 + 1) d3)).length) := by
              have h4 : d3 = List.take i11 d3 ++ (y11 :: List.drop (i11 + 1) d3) := by
                have h3 := List.take_append_drop (i11 + 1) d3
                rw [HTK11.out] at h3
                simpa using h3.symm
              conv => lhs; rw [h4]
              rw [List.flatMap_append, List.flatMap_cons, List.length_append, List.length_append]
            (try simp only [List.length_append] at h1 ⊢); omega)
          have HEC11 := Lib.hid (show ∀ w' v', Grw v0 v' W0 w' → ∀ (j : Nat) u, ys11[j]? = some u → w'.cell? ⟨B11, O11 + i11 * 3 + j, none⟩ = some u from fun w' v' hg j u hu => ((hg.below HR0.out HB0.out).cell (p := ⟨B11, O11 + i11 * 3 + j, none⟩) hbF11).trans (hA11 j u hu))
          clear hget11 hA11 hbF11 hbl11 hy11
          obtain ⟨E11d0, E11d1, E11d2⟩ := y11
          obtain ⟨E11u0, E11r0, rfl, E11h0, E11u1, E11r1, rfl, E11h1, E11h2⟩ := hyr11
          dsimp only at E11h0 E11h1 E11h2
          obtain ⟨E11z0_a0, E11z0_n0, E11z0_c0, rfl⟩ : ∃ a n c, E11u0 = [.slice a n c] := by obtain ⟨a, n, c, e, _⟩ := id E11h0; exact ⟨a, n, c, e⟩
          obtain ⟨E11z1_0, rfl⟩ : ∃ z : ByteArray, E11u1 = [.string z] := ⟨_, E11h1.1⟩
          obtain ⟨E11z2_a0, E11z2_n0, E11z2_c0, rfl⟩ : ∃ a n c, E11r1 = [.slice a n c] := by obtain ⟨a, n, c, e, _⟩ := id E11h2; exact ⟨a, n, c, e⟩
          have E11X0 := Lib.hid E11h0
          have E11X1 := Lib.hid E11h1
          have E11X2 := Lib.hid E11h2
          clear E11h0 E11h1 E11h2
          have henc11 : enc tForeignKey (E11d0, E11d1, E11d2) = (enc (.list .num) E11d0 ++ (enc .str E11d1 ++ enc (.list .num) E11d2)) := by
            show (enc (.list .num) E11d0 ++ (enc .str E11d1 ++ enc (.list .num) E11d2)) = _
            first | rfl | (simp only [List.append_assoc]; done)
          have HEE11 := Lib.hid henc11
          have HLF11 := Lib.hid (show (l ++ (enc .str d0 ++ (enc .num (z1_n0 : Int) ++ (List.flatMap (enc tSchemaVersion) d1 ++ (enc (.list .num) d2 ++ (enc .num (z3_n0 : Int) ++ List.flatMap (enc tForeignKey) (List.take i11 d3))))))).length + ((enc (.list .num) E11d0 ++ (enc .str E11d1 ++ enc (.list .num) E11d2))).length ≤ 140737488355328 from by have h1 := HLE11.out; rw [HEE11.out] at h1; exact h1)
          have HLG11 := HLF11.out
          simp only [List.length_append] at HLG11
          replace HLG11 := Lib.hid HLG11
          clear henc11
          have qc12_0 : X11.cell? ⟨w.heap.size, 3, none⟩ = some (.slice (some ⟨B11, O11, none⟩) z3_n0 z3_c0) := HBX.out _ _ HLT11box.out 3 _ rfl
          have qc12_1 : X11.cell? ⟨B11, O11 + i11 * 3, none⟩ = some (.slice E11z0_a0 E11z0_n0 E11z0_c0) := HEC11.out _ _ HLT11box.out 0 _ rfl
          have qc12_2 : X11.cell? ⟨B11, O11 + i11 * 3 + 1, none⟩ = some (.string E11z1_0) := HEC11.out _ _ HLT11box.out 1 _ rfl
          have qc12_3 : X11.cell? ⟨B11, O11 + i11 * 3 + 2, none⟩ = some (.slice E11z2_a0 E11z2_n0 E11z2_c0) := HEC11.out _ _ HLT11box.out 2 _ rfl
          obtain ⟨C12, hC12⟩ : ∃ C, C = X11.alloc (.cells #[.slice E11z0_a0 E11z0_n0 E11z0_c0, .string E11z1_0, .slice E11z2_a0 E11z2_n0 E11z2_c0] 154) := ⟨_, rfl⟩
          have HBC12 := Lib.hid (show Below X11.heap.size X11 C12 from by rw [hC12]; exact (Below.refl _ _).alloc (Nat.le_refl _) _)
          have HCC12 := Lib.hid (show ∀ w' v', Grw V11 v' C12 w' → ∀ (j : Nat) u, ([.slice E11z0_a0 E11z0_n0 E11z0_c0, .string E11z1_0, .slice E11z2_a0 E11z2_n0 E11z2_c0] : List Value)[j]? = some u → w'.cell? ⟨X11.heap.size, j, none⟩ = some u from fun w' v' hg j u hu => by
            refine (hg.cell (a := ⟨X11.heap.size, j, none⟩) (fun e => Nat.lt_irrefl _ (HLR11.out.ge _ e).2) (by show X11.heap.size < C12.heap.size; rw [hC12]; simp)).trans ?_
            rw [hC12]
            have := new_cells X11 [.slice E11z0_a0 E11z0_n0 E11z0_c0, .string E11z1_0, .slice E11z2_a0 E11z2_n0 E11z2_c0] 154 j u hu
            rw [Addr.add_mid, Nat.zero_add] at this; exact this)
          have HCW12 := Lib.hid hC12
          have HCR12 := Lib.hid (HLR11.out.keep HBC12.out)
          have HT12box := Lib.hid (HLT11box.out.trans (Grw.of_below HBC12.out))
          have HT12cp := Lib.hid (Grw.refl V11 C12)
          clear hC12
          have HD13box := Lib.hid (HT12box.out.trans (Grw.of_below (w' := C12.drew) (Below.refl _ _).drew))
          have HD13cp12 := Lib.hid (HT12cp.out.trans (Grw.of_below (w' := C12.drew) (Below.refl _ _).drew))
          have HKP13 := Lib.hid (show ∀ w' v', Grw V11 v' C12.drew w' → (w'.cell? ⟨X11.heap.size, 0, none⟩ = some (.slice E11z0_a0 E11z0_n0 E11z0_c0) ∧ w'.cell? ⟨X11.heap.size, 1, none⟩ = some (.string E11z1_0) ∧ w'.cell? ⟨X11.heap.size, 2, none⟩ = some (.slice E11z2_a0 E11z2_n0 E11z2_c0)) from fun w' v' hg =>
            ⟨HCC12.out _ _ (HD13cp12.out.trans hg) 0 _ rfl, HCC12.out _ _ (HD13cp12.out.trans hg) 1 _ rfl, HCC12.out _ _ (HD13cp12.out.trans hg) 2 _ rfl⟩)
          have HIN13 := Lib.hid (HKP13.out _ _ (Grw.refl _ _))
          have HC13 := Lib.hid (rf_ints C12.drew base V11 (l ++ (enc .str d0 ++ (enc .num (z1_n0 : Int) ++ (List.flatMap (enc tSchemaVersion) d1 ++ (enc (.list .num) d2 ++ (enc .num (z3_n0 : Int) ++ List.flatMap (enc tForeignKey) (List.take i11 d3))))))) [.slice E11z0_a0 E11z0_n0 E11z0_c0] E11d0 (Nat.le_trans HB0.out HD13box.out.chg.size) (HCR12.out.keep (Below.refl _ _).drew) (rd_grw HD13box.out HR0.out HB0.out E11X0.out) (by have := HLG11.out; (try simp only [List.length_append, List.length_nil]); omega))
          go_wp2_with fail
          rw [← HCW12.out]
          clear qc12_0 qc12_1 qc12_2 qc12_3
          go_region_held3 (fun w' => w'.cell? ⟨X11.heap.size, 0, none⟩ = some (.slice E11z0_a0 E11z0_n0 E11z0_c0) ∧ w'.cell? ⟨X11.heap.size, 1, none⟩ = some (.string E11z1_0) ∧ w'.cell? ⟨X11.heap.size, 2, none⟩ = some (.slice E11z2_a0 E11z2_n0 E11z2_c0)) (first | assumption | exact HIN13.out | exact HKP13.out _ _ hG14 | exact HKP13.out _ _ hG15 | exact HKP13.out _ _ hG16)
            (first | (go_at_call_of 40 V11; refine HC13.out.mono ?_; rintro e w14 ⟨v14, rfl, hr, hg⟩; have hr14 : Row w14 base v14 (l ++ (enc .str d0 ++ (enc .num (z1_n0 : Int) ++ (List.flatMap (enc tSchemaVersion) d1 ++ (enc (.list .num) d2 ++ (enc .num (z3_n0 : Int) ++ (List.flatMap (enc tForeignKey) (List.take i11 d3) ++ enc (.list .num) E11d0))))))) := (by simpa only [List.append_assoc, List.nil_append] using hr); clear hr; have hG14 := hg) | (go_at_call_of 70 v14; refine (rf_str w14 base v14 (l ++ (enc .str d0 ++ (enc .num (z1_n0 : Int) ++ (List.flatMap (enc tSchemaVersion) d1 ++ (enc (.list .num) d2 ++ (enc .num (z3_n0 : Int) ++ (List.flatMap (enc tForeignKey) (List.take i11 d3) ++ enc (.list .num) E11d0))))))) [.string E11z1_0] E11d1 (Nat.le_trans HB0.out (HD13box.out.trans hG14).chg.size) hr14 (rd_grw (HD13box.out.trans hG14) HR0.out HB0.out E11X1.out) (by have := HLG11.out; (try simp only [List.length_append, List.length_nil]); omega)).mono ?_; rintro e w15 ⟨v15, rfl, hr, hg⟩; have hr15 : Row w15 base v15 (l ++ (enc .str d0 ++ (enc .num (z1_n0 : Int) ++ (List.flatMap (enc tSchemaVersion) d1 ++ (enc (.list .num) d2 ++ (enc .num (z3_n0 : Int) ++ (List.flatMap (enc tForeignKey) (List.take i11 d3) ++ (enc (.list .num) E11d0 ++ enc .str E11d1)))))))) := (by simpa only [List.append_assoc, List.nil_append] using hr); clear hr; have hG15 := hG14.trans hg) | (go_at_call_of 40 v15; refine (rf_ints w15 base v15 (l ++ (enc .str d0 ++ (enc .num (z1_n0 : Int) ++ (List.flatMap (enc tSchemaVersion) d1 ++ (enc (.list .num) d2 ++ (enc .num (z3_n0 : Int) ++ (List.flatMap (enc tForeignKey) (List.take i11 d3) ++ (enc (.list .num) E11d0 ++ enc .str E11d1)))))))) [.slice E11z2_a0 E11z2_n0 E11z2_c0] E11d2 (Nat.le_trans HB0.out (HD13box.out.trans hG15).chg.size) hr15 (rd_grw (HD13box.out.trans hG15) HR0.out HB0.out E11X2.out) (by have := HLG11.out; (try simp only [List.length_append, List.length_nil]); omega)).mono ?_; rintro e w16 ⟨v16, rfl, hr, hg⟩; have hr16 : Row w16 base v16 (l ++ (enc .str d0 ++ (enc .num (z1_n0 : Int) ++ (List.flatMap (enc tSchemaVersion) d1 ++ (enc (.list .num) d2 ++ (enc .num (z3_n0 : Int) ++ (List.flatMap (enc tForeignKey) (List.take i11 d3) ++ (enc (.list .num) E11d0 ++ (enc .str E11d1 ++ enc (.list .num) E11d2))))))))) := (by simpa only [List.append_assoc, List.nil_append] using hr); clear hr; have hG16 := hG15.trans hg) | fail)
          have HRow16 := Lib.hid hr16
          have HT16box := Lib.hid (HD13box.out.trans hG16)
          have HT16cp12 := Lib.hid (HD13cp12.out.trans hG16)
          clear hr14 hG14 hr15 hG15 hr16 hG16
          have HFR11 := Lib.hid (show Row w16 base v16 (l ++ (enc .str d0 ++ (enc .num (z1_n0 : Int) ++ (List.flatMap (enc tSchemaVersion) d1 ++ (enc (.list .num) d2 ++ (enc .num (z3_n0 : Int) ++ List.flatMap (enc tForeignKey) (List.take (i11 + 1) d3))))))) from by
            rw [HTK11.out, List.flatMap_append, List.flatMap_cons, List.flatMap_nil, List.append_nil, HEE11.out]
            simpa only [List.append_assoc, List.flatMap_cons, List.flatMap_nil, List.append_nil] using HRow16.out)
          go_wp2
          go_roundg (GK11 - 1)
          case rel => exact ⟨i11 + 1, by omega, by have := HI11.out; omega, by go_num, HFR11.out, HT16box.out⟩
          case measure => have := HI11.out; omega
        · obtain rfl : z3_n0 = i11 := by have := HI11.out; omega
          have hd1_11 : decide ((z3_n0 : Int) < (z3_n0 : Int)) = false := by simp
          have HXR11 := Lib.hid (show Row X11 base V11 (l ++ (enc .str d0 ++ (enc .num (z1_n0 : Int) ++ (List.flatMap (enc tSchemaVersion) d1 ++ (enc (.list .num) d2 ++ (enc .num (z3_n0 : Int) ++ List.flatMap (enc tForeignKey) d3)))))) from by
            have := HLR11.out
            rw [P3N.out.1, List.take_length, ← P3N.out.1] at this
            exact this)
          clear hin11
          have q0 : X11.cell? ⟨w.heap.size, 4, none⟩ = some (.slice z4_a0 z4_n0 z4_c0) := HBX.out _ _ HLT11box.out 4 _ rfl
          go_wp2_with fail
          refine (rf_num X11 base V11 (l ++ (enc .str d0 ++ (enc .num (z1_n0 : Int) ++ (List.flatMap (enc tSchemaVersion) d1 ++ (enc (.list .num) d2 ++ (enc .num (z3_n0 : Int) ++ List.flatMap (enc tForeignKey) d3)))))) [.int .i64 (z4_n0 : Int)] (z4_n0 : Int) (Nat.le_trans HB0.out HLT11box.out.chg.size) HXR11.out ⟨rfl, P4N.out.2.2⟩ (by have := HL.out; (try simp only [List.length_append, List.length_nil]); omega)).mono ?_
          rintro e w17 ⟨v17, rfl, hr, hg⟩
          have HRow17 := Lib.hid (show Row w17 base v17 (l ++ (enc .str d0 ++ (enc .num (z1_n0 : Int) ++ (List.flatMap (enc tSchemaVersion) d1 ++ (enc (.list .num) d2 ++ (enc .num (z3_n0 : Int) ++ (List.flatMap (enc tForeignKey) d3 ++ enc .num (z4_n0 : Int)))))))) from by simpa only [List.append_assoc, List.nil_append] using hr)
          have HT17box := Lib.hid (HLT11box.out.trans hg)
          clear hr hg q0
          go_wp2
          go_loopg [0, 9] z4_n0 (fun gk t0 t9 wr => ∃ (i : Nat), i ≤ z4_n0 ∧ gk + i = z4_n0 ∧ t9 = .int .i64 (i : Int) ∧ Row wr base t0 (l ++ (enc .str d0 ++ (enc .num (z1_n0 : Int) ++ (List.flatMap (enc tSchemaVersion) d1 ++ (enc (.list .num) d2 ++ (enc .num (z3_n0 : Int) ++ (List.flatMap (enc tForeignKey) d3 ++ (enc .num (z4_n0 : Int) ++ List.flatMap (enc tConstraint) (List.take i d4))))))))) ∧ Grw v0 t0 W0 wr)
          case atStart => exact ⟨0, by omega, by omega, rfl, by simpa only [List.take_zero, List.flatMap_nil, List.append_nil, List.append_assoc] using HRow17.out, HT17box.out⟩
          case round =>
            generalize gk = GK18 at *
            generalize wr = X18 at *
            generalize u0 = V18 at *
            obtain ⟨i18, hi, hgk, rfl, hrow, gbox⟩ := hrel
            have HI18 := Lib.hid (And.intro hi hgk)
            have HLR18 := Lib.hid hrow
            have HLT18box := Lib.hid gbox
            have hi0_18 : 0 ≤ (i18 : Int) := by omega
            clear hi hgk hrow gbox
            have ql18 : X18.cell? ⟨w.heap.size, 4, none⟩ = some (.slice z4_a0 z4_n0 z4_c0) := HBX.out _ _ HLT18box.out 4 _ rfl
            by_cases hin18 : i18 < z4_n0
            · have hd1_18 : decide ((i18 : Int) < (z4_n0 : Int)) = true := decide_eq_true (by omega)
              have hi1_18 : (i18 : Int) < (z4_n0 : Int) := by omega
              obtain ⟨y18, hy18⟩ : ∃ y, d4[i18]? = some y := ⟨_, List.getElem?_eq_getElem (by have := P4N.out.1; omega)⟩
              rcases P4N.out.2.1 with h0 | ⟨B18, O18, haddr18, hbF18, hbl18, hget18⟩
              · exact absurd h0 (by omega)
              subst haddr18
              obtain ⟨ys18, hA18, hyr18⟩ := hget18 i18 y18 hy18
              have HTK18 := Lib.hid (show List.take (i18 + 1) d4 = List.take i18 d4 ++ [y18] by rw [List.take_add_one, hy18]; rfl)
              have HLE18 := Lib.hid (show (l ++ (enc .str d0 ++ (enc .num (z1_n0 : Int) ++ (List.flatMap (enc tSchemaVersion) d1 ++ (enc (.list .num) d2 ++ (enc .num (z3_n0 : Int) ++ (List.flatMap (enc tForeignKey) d3 ++ (enc .num (z4_n0 : Int) ++ List.flatMap (enc tConstraint) (List.take i18 d4))))))))).length + (enc tConstraint y18).length ≤ 140737488355328 from by
                have h1 := HL.out
                have h2 : (List.flatMap (enc tConstraint) d4).length = (List.flatMap (enc tConstraint) (List.take i18 d4)).length + ((enc tConstraint y18).length + (List.flatMap (enc tConstraint) (List.drop (i18 + 1) d4)).length) := by
                  have h4 : d4 = List.take i18 d4 ++ (y18 :: List.drop (i18 + 1) d4) := by
                    have h3 := List.take_append_drop (i18 + 1) d4
                    rw [HTK18.out] at h3
                    simpa using h3.symm
                  conv => lhs; rw [h4]
                  rw [List.flatMap_append, List.flatMap_cons, List.length_append, List.length_append]
                (try simp only [List.length_append] at h1 ⊢); omega)
              have HEC18 := Lib.hid (show ∀ w' v', Grw v0 v' W0 w' → ∀ (j : Nat) u, ys18[j]? = some u → w'.cell? ⟨B18, O18 + i18 * 2 + j, none⟩ = some u from fun w' v' hg j u hu => ((hg.below HR0.out HB0.out).cell (p := ⟨B18, O18 + i18 * 2 + j, none⟩) hbF18).trans (hA18 j u hu))
              clear hget18 hA18 hbF18 hbl18 hy18
              obtain ⟨E18d0, E18d1⟩ := y18
              obtain ⟨E18u0, E18r0, rfl, E18h0, E18h1⟩ := hyr18
              dsimp only at E18h0 E18h1
              obtain ⟨E18z0_0, rfl⟩ : ∃ z : Int, E18u0 = [.int .i64 z] := ⟨_, E18h0.1⟩
              obtain ⟨E18z1_a0, E18z1_n0, E18z1_c0, rfl⟩ : ∃ a n c, E18r0 = [.slice a n c] := by obtain ⟨a, n, c, e, _⟩ := id E18h1; exact ⟨a, n, c, e⟩
              have E18X0 := Lib.hid E18h0
              have E18X1 := Lib.hid E18h1
              clear E18h0 E18h1
              have henc18 : enc tConstraint (E18d0, E18d1) = (enc .num E18d0 ++ enc (.list .num) E18d1) := by
                show (enc .num E18d0 ++ enc (.list .num) E18d1) = _
                first | rfl | (simp only [List.append_assoc]; done)
              have HEE18 := Lib.hid henc18
              have HLF18 := Lib.hid (show (l ++ (enc .str d0 ++ (enc .num (z1_n0 : Int) ++ (List.flatMap (enc tSchemaVersion) d1 ++ (enc (.list .num) d2 ++ (enc .num (z3_n0 : Int) ++ (List.flatMap (enc tForeignKey) d3 ++ (enc .num (z4_n0 : Int) ++ List.flatMap (enc tConstraint) (List.take i18 d4))))))))).length + ((enc .num E18d0 ++ enc (.list .num) E18d1)).length ≤ 140737488355328 from by have h1 := HLE18.out; rw [HEE18.out] at h1; exact h1)
              have HLG18 := HLF18.out
              simp only [List.length_append] at HLG18
              replace HLG18 := Lib.hid HLG18
              clear henc18
              have HD19box := Lib.hid (HLT18box.out.trans (Grw.of_below (w' := X18.drew) (Below.refl _ _).drew))
              have HKP19 := Lib.hid (show ∀ w' v', Grw V18 v' X18.drew w' → (w'.cell? ⟨w.heap.size, 4, none⟩ = some (.slice (some ⟨B18, O18, none⟩) z4_n0 z4_c0) ∧ w'.cell? ⟨B18, O18 + i18 * 2, none⟩ = some (.int .i64 E18z0_0) ∧ w'.cell? ⟨B18, O18 + i18 * 2 + 1, none⟩ = some (.slice E18z1_a0 E18z1_n0 E18z1_c0)) from fun w' v' hg =>
                ⟨HBX.out _ _ (HD19box.out.trans hg) 4 _ rfl, HEC18.out _ _ (HD19box.out.trans hg) 0 _ rfl, HEC18.out _ _ (HD19box.out.trans hg) 1 _ rfl⟩)
              have HIN19 := Lib.hid (HKP19.out _ _ (Grw.refl _ _))
              have HC19 := Lib.hid (rf_num X18.drew base V18 (l ++ (enc .str d0 ++ (enc .num (z1_n0 : Int) ++ (List.flatMap (enc tSchemaVersion) d1 ++ (enc (.list .num) d2 ++ (enc .num (z3_n0 : Int) ++ (List.flatMap (enc tForeignKey) d3 ++ (enc .num (z4_n0 : Int) ++ List.flatMap (enc tConstraint) (List.take i18 d4))))))))) [.int .i64 E18z0_0] E18d0 (Nat.le_trans HB0.out HD19box.out.chg.size) (HLR18.out.keep (Below.refl _ _).drew) (rd_grw HD19box.out HR0.out HB0.out E18X0.out) (by have := HLG18.out; (try simp only [List.length_append, List.length_nil]); omega))
              go_wp2_with fail
              go_region_held3 (fun w' => w'.cell? ⟨w.heap.size, 4, none⟩ = some (.slice (some ⟨B18, O18, none⟩) z4_n0 z4_c0) ∧ w'.cell? ⟨B18, O18 + i18 * 2, none⟩ = some (.int .i64 E18z0_0) ∧ w'.cell? ⟨B18, O18 + i18 * 2 + 1, none⟩ = some (.slice E18z1_a0 E18z1_n0 E18z1_c0)) (first | assumption | exact HIN19.out | exact HKP19.out _ _ hG20 | exact HKP19.out _ _ hG21)
                (first | (go_at_call_of 34 V18; refine HC19.out.mono ?_; rintro e w20 ⟨v20, rfl, hr, hg⟩; have hr20 : Row w20 base v20 (l ++ (enc .str d0 ++ (enc .num (z1_n0 : Int) ++ (List.flatMap (enc tSchemaVersion) d1 ++ (enc (.list .num) d2 ++ (enc .num (z3_n0 : Int) ++ (List.flatMap (enc tForeignKey) d3 ++ (enc .num (z4_n0 : Int) ++ (List.flatMap (enc tConstraint) (List.take i18 d4) ++ enc .num E18d0))))))))) := (by simpa only [List.append_assoc, List.nil_append] using hr); clear hr; have hG20 := hg) | (go_at_call_of 40 v20; refine (rf_ints w20 base v20 (l ++ (enc .str d0 ++ (enc .num (z1_n0 : Int) ++ (List.flatMap (enc tSchemaVersion) d1 ++ (enc (.list .num) d2 ++ (enc .num (z3_n0 : Int) ++ (List.flatMap (enc tForeignKey) d3 ++ (enc .num (z4_n0 : Int) ++ (List.flatMap (enc tConstraint) (List.take i18 d4) ++ enc .num E18d0))))))))) [.slice E18z1_a0 E18z1_n0 E18z1_c0] E18d1 (Nat.le_trans HB0.out (HD19box.out.trans hG20).chg.size) hr20 (rd_grw (HD19box.out.trans hG20) HR0.out HB0.out E18X1.out) (by have := HLG18.out; (try simp only [List.length_append, List.length_nil]); omega)).mono ?_; rintro e w21 ⟨v21, rfl, hr, hg⟩; have hr21 : Row w21 base v21 (l ++ (enc .str d0 ++ (enc .num (z1_n0 : Int) ++ (List.flatMap (enc tSchemaVersion) d1 ++ (enc (.list .num) d2 ++ (enc .num (z3_n0 : Int) ++ (List.flatMap (enc tForeignKey) d3 ++ (enc .num (z4_n0 : Int) ++ (List.flatMap (enc tConstraint) (List.take i18 d4) ++ (enc .num E18d0 ++ enc (.list .num) E18d1)))))))))) := (by simpa only [List.append_assoc, List.nil_append] using hr); clear hr; have hG21 := hG20.trans hg) | fail)
              have HRow21 := Lib.hid hr21
              have HT21box := Lib.hid (HD19box.out.trans hG21)
              clear hr20 hG20 hr21 hG21
              have HFR18 := Lib.hid (show Row w21 base v21 (l ++ (enc .str d0 ++ (enc .num (z1_n0 : Int) ++ (List.flatMap (enc tSchemaVersion) d1 ++ (enc (.list .num) d2 ++ (enc .num (z3_n0 : Int) ++ (List.flatMap (enc tForeignKey) d3 ++ (enc .num (z4_n0 : Int) ++ List.flatMap (enc tConstraint) (List.take (i18 + 1) d4))))))))) from by
                rw [HTK18.out, List.flatMap_append, List.flatMap_cons, List.flatMap_nil, List.append_nil, HEE18.out]
                simpa only [List.append_assoc, List.flatMap_cons, List.flatMap_nil, List.append_nil] using HRow21.out)
              go_wp2
              go_roundg (GK18 - 1)
              case rel => exact ⟨i18 + 1, by omega, by have := HI18.out; omega, by go_num, HFR18.out, HT21box.out⟩
              case measure => have := HI18.out; omega
            · obtain rfl : z4_n0 = i18 := by have := HI18.out; omega
              have hd1_18 : decide ((z4_n0 : Int) < (z4_n0 : Int)) = false := by simp
              have HXR18 := Lib.hid (show Row X18 base V18 (l ++ (enc .str d0 ++ (enc .num (z1_n0 : Int) ++ (List.flatMap (enc tSchemaVersion) d1 ++ (enc (.list .num) d2 ++ (enc .num (z3_n0 : Int) ++ (List.flatMap (enc tForeignKey) d3 ++ (enc .num (z4_n0 : Int) ++ List.flatMap (enc tConstraint) d4)))))))) from by
                have := HLR18.out
                rw [P4N.out.1, List.take_length, ← P4N.out.1] at this
                exact this)
              clear hin18
              go_wp2
              go_ret
              exact ⟨_, rfl, HXR18.out, (Grw.of_below HB00.out).trans HLT18box.out⟩
end Go.Proofs.YtfppjpmflpaffaaGreat
