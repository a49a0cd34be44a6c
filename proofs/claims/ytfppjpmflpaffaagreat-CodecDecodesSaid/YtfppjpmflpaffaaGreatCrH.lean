/-
  The reference's encoder: databases. Printed by gen_cr.py.
-/
import Derived.Test.YtfppjpmflpaffaaGreatCrG
namespace Go.Proofs.YtfppjpmflpaffaaGreat
open Go.RowKit
set_option linter.unusedVariables false
set_option linter.unusedSimpArgs false

set_option maxRecDepth 100000 in
set_option maxHeartbeats 4000000 in
theorem rf_EncodeDatabase (w : World) (cs : List Value) (x : Ty.T tDatabase) (hx0 : (Ty.rd tDatabase).rd w (· < w.heap.size) cs x) (hl : (enc tDatabase x).length ≤ 140737488355328) :
    Calls Tryz.prog 11 #[goV cs] w fun e w' => ∃ v', e = .returned v' ∧ Row w' w.heap.size v' (enc tDatabase x) ∧ Below w.heap.size w w' := by
  obtain ⟨base, hbase⟩ : ∃ base, base = w.heap.size := ⟨_, rfl⟩
  have hb : base ≤ w.heap.size := by omega
  have hr : Row w base (Value.slice none 0 0) [] := Row.nil _ _
  have hx : (Ty.rd tDatabase).rd w (· < base) cs x := by rw [hbase]; exact hx0
  have HBASE := Lib.hid hbase
  clear hx0
  obtain ⟨W0, hW0⟩ : ∃ W0, W0 = w.alloc (.cells cs.toArray 29) := ⟨_, rfl⟩
  have hb0 : Below w.heap.size w W0 := by rw [hW0]; exact (Below.refl _ _).alloc (Nat.le_refl _) _
  replace hx : (Ty.rd tDatabase).rd W0 (· < base) cs x := rd_low (hb0.mono hb) hb hx
  have HR0 := Lib.hid (hr.keep hb0)
  have HB0 := Lib.hid (Nat.le_trans hb hb0.size)
  have HBX := Lib.hid (show ∀ w' v', Grw (Value.slice none 0 0) v' W0 w' → ∀ (j : Nat) u, cs[j]? = some u → w'.cell? ⟨w.heap.size, j, none⟩ = some u from fun w' v' hg j u hu => by
    refine (hg.cell (a := ⟨w.heap.size, j, none⟩) (fun e => Nat.lt_irrefl _ (hr.ge _ e).2) (by show w.heap.size < W0.heap.size; rw [hW0]; simp)).trans ?_
    rw [hW0]
    have := new_cells w cs 29 j u hu
    rw [Addr.add_mid, Nat.zero_add] at this; exact this)
  have HB00 := Lib.hid hb0
  obtain ⟨d0, d1, d2, d3, d4, d5⟩ := x
  obtain ⟨u0, r0, rfl, h0, u1, r1, rfl, h1, u2, r2, rfl, h2, u3, r3, rfl, h3, u4, r4, rfl, h4, h5⟩ := hx
  dsimp only at h0 h1 h2 h3 h4 h5
  obtain ⟨z0_0, rfl⟩ : ∃ z : Int, u0 = [.int .i64 z] := ⟨_, h0.1⟩
  obtain ⟨z1_0, rfl⟩ : ∃ z : Int, u1 = [.int .i64 z] := ⟨_, h1.1⟩
  obtain ⟨z2_a0, z2_n0, z2_c0, rfl⟩ : ∃ a n c, u2 = [.slice a n c] := by obtain ⟨a, n, c, e, _⟩ := id h2; exact ⟨a, n, c, e⟩
  obtain ⟨z3_0, rfl⟩ : ∃ z : Int, u3 = [.int .i64 z] := ⟨_, h3.1⟩
  obtain ⟨z4_a0, z4_n0, z4_c0, rfl⟩ : ∃ a n c, u4 = [.slice a n c] := by obtain ⟨a, n, c, e, _⟩ := id h4; exact ⟨a, n, c, e⟩
  obtain ⟨z5_a0, z5_n0, z5_c0, rfl⟩ : ∃ a n c, r4 = [.slice a n c] := by obtain ⟨a, n, c, e, _⟩ := id h5; exact ⟨a, n, c, e⟩
  have HW0 := Lib.hid (show W0 = w.alloc (.cells #[.int .i64 z0_0, .int .i64 z1_0, .slice z2_a0 z2_n0 z2_c0, .int .i64 z3_0, .slice z4_a0 z4_n0 z4_c0, .slice z5_a0 z5_n0 z5_c0] 29) from hW0)
  show Calls _ _ #[.agg #[.int .i64 z0_0, .int .i64 z1_0, .slice z2_a0 z2_n0 z2_c0, .int .i64 z3_0, .slice z4_a0 z4_n0 z4_c0, .slice z5_a0 z5_n0 z5_c0]] _ _
  have HX0 := Lib.hid h0
  have HX1 := Lib.hid h1
  have HX2 := Lib.hid h2
  have P2N := Lib.hid (show z2_n0 = List.length d2 ∧ (z2_n0 = 0 ∨ ∃ b off, z2_a0 = some ⟨b, off, none⟩ ∧ b < base ∧ b < W0.heap.size ∧ ∀ (i : Nat) y, d2[i]? = some y → ∃ ys, At W0 b (off + i * (Ty.rd tTable).size) ys ∧ (Ty.rd tTable).rd W0 (· < base) ys y) ∧ (Lit.int .i64 (z2_n0 : Int)).wf = true from by
    obtain ⟨a', n', c', e, g1, g2, g3, g4⟩ := id h2
    simp only [List.cons.injEq, Value.slice.injEq, and_true] at e
    obtain ⟨rfl, rfl, rfl⟩ := e
    refine ⟨g1, g4, ?_⟩
    unfold maxLen at g3; simp [Lit.wf, IntKind.min, IntKind.max, IntKind.bits, IntKind.signed]; omega)
  have P2n0 : 0 ≤ (z2_n0 : Int) := by omega
  have P2n1 : (z2_n0 : Int) ≤ 9223372036854775807 := by have h := P2N.out.2.2; simp [Lit.wf, IntKind.min, IntKind.max, IntKind.bits, IntKind.signed] at h; omega
  have HX3 := Lib.hid h3
  have HX4 := Lib.hid h4
  have P4N := Lib.hid (show z4_n0 = List.length d4 ∧ (z4_n0 = 0 ∨ ∃ b off, z4_a0 = some ⟨b, off, none⟩ ∧ b < base ∧ b < W0.heap.size ∧ ∀ (i : Nat) y, d4[i]? = some y → ∃ ys, At W0 b (off + i * (Ty.rd tHold).size) ys ∧ (Ty.rd tHold).rd W0 (· < base) ys y) ∧ (Lit.int .i64 (z4_n0 : Int)).wf = true from by
    obtain ⟨a', n', c', e, g1, g2, g3, g4⟩ := id h4
    simp only [List.cons.injEq, Value.slice.injEq, and_true] at e
    obtain ⟨rfl, rfl, rfl⟩ := e
    refine ⟨g1, g4, ?_⟩
    unfold maxLen at g3; simp [Lit.wf, IntKind.min, IntKind.max, IntKind.bits, IntKind.signed]; omega)
  have P4n0 : 0 ≤ (z4_n0 : Int) := by omega
  have P4n1 : (z4_n0 : Int) ≤ 9223372036854775807 := by have h := P4N.out.2.2; simp [Lit.wf, IntKind.min, IntKind.max, IntKind.bits, IntKind.signed] at h; omega
  have HX5 := Lib.hid h5
  have P5N := Lib.hid (show z5_n0 = List.length d5 ∧ (z5_n0 = 0 ∨ ∃ b off, z5_a0 = some ⟨b, off, none⟩ ∧ b < base ∧ b < W0.heap.size ∧ ∀ (i : Nat) y, d5[i]? = some y → ∃ ys, At W0 b (off + i * (Ty.rd tCitation).size) ys ∧ (Ty.rd tCitation).rd W0 (· < base) ys y) ∧ (Lit.int .i64 (z5_n0 : Int)).wf = true from by
    obtain ⟨a', n', c', e, g1, g2, g3, g4⟩ := id h5
    simp only [List.cons.injEq, Value.slice.injEq, and_true] at e
    obtain ⟨rfl, rfl, rfl⟩ := e
    refine ⟨g1, g4, ?_⟩
    unfold maxLen at g3; simp [Lit.wf, IntKind.min, IntKind.max, IntKind.bits, IntKind.signed]; omega)
  have P5n0 : 0 ≤ (z5_n0 : Int) := by omega
  have P5n1 : (z5_n0 : Int) ≤ 9223372036854775807 := by have h := P5N.out.2.2; simp [Lit.wf, IntKind.min, IntKind.max, IntKind.bits, IntKind.signed] at h; omega
  have henc : enc tDatabase (d0, d1, d2, d3, d4, d5) = (enc .num d0 ++ (enc .num d1 ++ (enc .num (z2_n0 : Int) ++ (List.flatMap (enc tTable) d2 ++ (enc .num d3 ++ (enc .num (z4_n0 : Int) ++ (List.flatMap (enc tHold) d4 ++ (enc .num (z5_n0 : Int) ++ List.flatMap (enc tCitation) d5)))))))) := by
    show (enc .num d0 ++ (enc .num d1 ++ ((enc .num ((List.length d2 : Nat) : Int) ++ List.flatMap (enc tTable) d2) ++ (enc .num d3 ++ ((enc .num ((List.length d4 : Nat) : Int) ++ List.flatMap (enc tHold) d4) ++ (enc .num ((List.length d5 : Nat) : Int) ++ List.flatMap (enc tCitation) d5)))))) = _
    first | rfl | (rw [← P2N.out.1, ← P4N.out.1, ← P5N.out.1]; done) | (rw [← P2N.out.1, ← P4N.out.1, ← P5N.out.1]; simp only [List.append_assoc]; done)
  rw [henc] at hl ⊢
  simp only [List.length_append] at hl
  have HL := Lib.hid hl
  clear hW0 hb0 hr hb hl henc h0 h1 h2 h3 h4 h5 hbase
  go_enter Tryz.func11, Tryz.ntmps11
  have HT0 := Lib.hid (Grw.refl (Value.slice none 0 0) W0)
  have HD1box := Lib.hid (HT0.out.trans (Grw.of_below (w' := W0.drew) (Below.refl _ _).drew))
  have HKP1 := Lib.hid (show ∀ w' v', Grw (Value.slice none 0 0) v' W0.drew w' → (w'.cell? ⟨w.heap.size, 0, none⟩ = some (.int .i64 z0_0) ∧ w'.cell? ⟨w.heap.size, 1, none⟩ = some (.int .i64 z1_0)) from fun w' v' hg =>
    ⟨HBX.out _ _ (HD1box.out.trans hg) 0 _ rfl, HBX.out _ _ (HD1box.out.trans hg) 1 _ rfl⟩)
  have HIN1 := Lib.hid (HKP1.out _ _ (Grw.refl _ _))
  have HC1 := Lib.hid (rf_num W0.drew base (Value.slice none 0 0) ([] : List UInt8) [.int .i64 z0_0] d0 (Nat.le_trans HB0.out HD1box.out.chg.size) (HR0.out.keep (Below.refl _ _).drew) (rd_grw HD1box.out HR0.out HB0.out HX0.out) (by have := HL.out; (try simp only [List.length_append, List.length_nil]); omega))
  go_wp2_with fail
  rw [← HW0.out]
  go_region_held3 (fun w' => w'.cell? ⟨w.heap.size, 0, none⟩ = some (.int .i64 z0_0) ∧ w'.cell? ⟨w.heap.size, 1, none⟩ = some (.int .i64 z1_0)) (first | assumption | exact HIN1.out | exact HKP1.out _ _ hG2 | exact HKP1.out _ _ hG3)
    (first | (go_at_call_of 34 (Value.slice none 0 0); refine HC1.out.mono ?_; rintro e w2 ⟨v2, rfl, hr, hg⟩; have hr2 : Row w2 base v2 (enc .num d0) := (by simpa only [List.append_assoc, List.nil_append] using hr); clear hr; have hG2 := hg) | (go_at_call_of 34 v2; refine (rf_num w2 base v2 (enc .num d0) [.int .i64 z1_0] d1 (Nat.le_trans HB0.out (HD1box.out.trans hG2).chg.size) hr2 (rd_grw (HD1box.out.trans hG2) HR0.out HB0.out HX1.out) (by have := HL.out; (try simp only [List.length_append, List.length_nil]); omega)).mono ?_; rintro e w3 ⟨v3, rfl, hr, hg⟩; have hr3 : Row w3 base v3 ((enc .num d0 ++ enc .num d1)) := (by simpa only [List.append_assoc, List.nil_append] using hr); clear hr; have hG3 := hG2.trans hg) | fail)
  have HRow3 := Lib.hid hr3
  have HT3box := Lib.hid (HD1box.out.trans hG3)
  clear hr2 hG2 hr3 hG3
  have q0 : w3.cell? ⟨w.heap.size, 2, none⟩ = some (.slice z2_a0 z2_n0 z2_c0) := HBX.out _ _ HT3box.out 2 _ rfl
  go_wp2_with fail
  refine (rf_num w3 base v3 ((enc .num d0 ++ enc .num d1)) [.int .i64 (z2_n0 : Int)] (z2_n0 : Int) (Nat.le_trans HB0.out HT3box.out.chg.size) HRow3.out ⟨rfl, P2N.out.2.2⟩ (by have := HL.out; (try simp only [List.length_append, List.length_nil]); omega)).mono ?_
  rintro e w4 ⟨v4, rfl, hr, hg⟩
  have HRow4 := Lib.hid (show Row w4 base v4 ((enc .num d0 ++ (enc .num d1 ++ enc .num (z2_n0 : Int)))) from by simpa only [List.append_assoc, List.nil_append] using hr)
  have HT4box := Lib.hid (HT3box.out.trans hg)
  clear hr hg q0
  go_wp2
  go_loopg [3, 4] z2_n0 (fun gk t3 t4 wr => ∃ (i : Nat), i ≤ z2_n0 ∧ gk + i = z2_n0 ∧ t4 = .int .i64 (i : Int) ∧ Row wr base t3 ((enc .num d0 ++ (enc .num d1 ++ (enc .num (z2_n0 : Int) ++ List.flatMap (enc tTable) (List.take i d2))))) ∧ Grw (Value.slice none 0 0) t3 W0 wr)
  case atStart => exact ⟨0, by omega, by omega, rfl, by simpa only [List.take_zero, List.flatMap_nil, List.append_nil, List.append_assoc] using HRow4.out, HT4box.out⟩
  case round =>
    generalize gk = GK5 at *
    generalize wr = X5 at *
    generalize u3 = V5 at *
    obtain ⟨i5, hi, hgk, rfl, hrow, gbox⟩ := hrel
    have HI5 := Lib.hid (And.intro hi hgk)
    have HLR5 := Lib.hid hrow
    have HLT5box := Lib.hid gbox
    have hi0_5 : 0 ≤ (i5 : Int) := by omega
    clear hi hgk hrow gbox
    have ql5 : X5.cell? ⟨w.heap.size, 2, none⟩ = some (.slice z2_a0 z2_n0 z2_c0) := HBX.out _ _ HLT5box.out 2 _ rfl
    by_cases hin5 : i5 < z2_n0
    · have hd1_5 : decide ((i5 : Int) < (z2_n0 : Int)) = true := decide_eq_true (by omega)
      have hi1_5 : (i5 : Int) < (z2_n0 : Int) := by omega
      obtain ⟨y5, hy5⟩ : ∃ y, d2[i5]? = some y := ⟨_, List.getElem?_eq_getElem (by have := P2N.out.1; omega)⟩
      rcases P2N.out.2.1 with h0 | ⟨B5, O5, haddr5, hbF5, hbl5, hget5⟩
      · exact absurd h0 (by omega)
      subst haddr5
      obtain ⟨ys5, hA5, hyr5⟩ := hget5 i5 y5 hy5
      have HTK5 := Lib.hid (show List.take (i5 + 1) d2 = List.take i5 d2 ++ [y5] by rw [List.take_add_one, hy5]; rfl)
      have HLE5 := Lib.hid (show ((enc .num d0 ++ (enc .num d1 ++ (enc .num (z2_n0 : Int) ++ List.flatMap (enc tTable) (List.take i5 d2))))).length + (enc tTable y5).length ≤ 140737488355328 from by
        have h1 := HL.out
        have h2 : (List.flatMap (enc tTable) d2).length = (List.flatMap (enc tTable) (List.take i5 d2)).length + ((enc tTable y5).length + (List.flatMap (enc tTable) (List.drop (i5 + 1) d2)).length) := by
          have h4 : d2 = List.take i5 d2 ++ (y5 :: List.drop (i5 + 1) d2) := by
            have h3 := List.take_append_drop (i5 + 1) d2
            rw [HTK5.out] at h3
            simpa using h3.symm
          conv => lhs; rw [h4]
          rw [List.flatMap_append, List.flatMap_cons, List.length_append, List.length_append]
        (try simp only [List.length_append] at h1 ⊢); omega)
      have HEC5 := Lib.hid (show ∀ w' v', Grw (Value.slice none 0 0) v' W0 w' → ∀ (j : Nat) u, ys5[j]? = some u → w'.cell? ⟨B5, O5 + i5 * 6 + j, none⟩ = some u from fun w' v' hg j u hu => ((hg.below HR0.out HB0.out).cell (p := ⟨B5, O5 + i5 * 6 + j, none⟩) hbF5).trans (hA5 j u hu))
      clear hget5 hA5 hbF5 hbl5 hy5
      obtain ⟨E5d0, E5d1⟩ := y5
      obtain ⟨E5u0, E5r0, rfl, E5h0, E5h1⟩ := hyr5
      dsimp only at E5h0 E5h1
      obtain ⟨E5z0_0, E5z0_a1, E5z0_n1, E5z0_c1, E5z0_a2, E5z0_n2, E5z0_c2, E5z0_a3, E5z0_n3, E5z0_c3, E5z0_a4, E5z0_n4, E5z0_c4, rfl⟩ := shape_Schema E5h0
      obtain ⟨E5z1_a0, E5z1_n0, E5z1_c0, rfl⟩ : ∃ a n c, E5r0 = [.slice a n c] := by obtain ⟨a, n, c, e, _⟩ := id E5h1; exact ⟨a, n, c, e⟩
      have E5X0 := Lib.hid E5h0
      have E5X1 := Lib.hid E5h1
      have E5P1N := Lib.hid (show E5z1_n0 = List.length E5d1 ∧ (E5z1_n0 = 0 ∨ ∃ b off, E5z1_a0 = some ⟨b, off, none⟩ ∧ b < base ∧ b < W0.heap.size ∧ ∀ (i : Nat) y, E5d1[i]? = some y → ∃ ys, At W0 b (off + i * (Ty.rd tVersion).size) ys ∧ (Ty.rd tVersion).rd W0 (· < base) ys y) ∧ (Lit.int .i64 (E5z1_n0 : Int)).wf = true from by
        obtain ⟨a', n', c', e, g1, g2, g3, g4⟩ := id E5h1
        simp only [List.cons.injEq, Value.slice.injEq, and_true] at e
        obtain ⟨rfl, rfl, rfl⟩ := e
        refine ⟨g1, g4, ?_⟩
        unfold maxLen at g3; simp [Lit.wf, IntKind.min, IntKind.max, IntKind.bits, IntKind.signed]; omega)
      have E5P1n0 : 0 ≤ (E5z1_n0 : Int) := by omega
      have E5P1n1 : (E5z1_n0 : Int) ≤ 9223372036854775807 := by have h := E5P1N.out.2.2; simp [Lit.wf, IntKind.min, IntKind.max, IntKind.bits, IntKind.signed] at h; omega
      clear E5h0 E5h1
      have henc5 : enc tTable (E5d0, E5d1) = (enc tSchema E5d0 ++ (enc .num (E5z1_n0 : Int) ++ List.flatMap (enc tVersion) E5d1)) := by
        show (enc tSchema E5d0 ++ (enc .num ((List.length E5d1 : Nat) : Int) ++ List.flatMap (enc tVersion) E5d1)) = _
        first | rfl | (rw [← E5P1N.out.1]; done) | (rw [← E5P1N.out.1]; simp only [List.append_assoc]; done)
      have HEE5 := Lib.hid henc5
      have HLF5 := Lib.hid (show ((enc .num d0 ++ (enc .num d1 ++ (enc .num (z2_n0 : Int) ++ List.flatMap (enc tTable) (List.take i5 d2))))).length + ((enc tSchema E5d0 ++ (enc .num (E5z1_n0 : Int) ++ List.flatMap (enc tVersion) E5d1))).length ≤ 140737488355328 from by have h1 := HLE5.out; rw [HEE5.out] at h1; exact h1)
      have HLG5 := HLF5.out
      simp only [List.length_append] at HLG5
      replace HLG5 := Lib.hid HLG5
      clear henc5
      have q0 : X5.cell? ⟨w.heap.size, 2, none⟩ = some (.slice (some ⟨B5, O5, none⟩) z2_n0 z2_c0) := HBX.out _ _ HLT5box.out 2 _ rfl
      have q1 : X5.cell? ⟨B5, O5 + i5 * 6, none⟩ = some (.string E5z0_0) := HEC5.out _ _ HLT5box.out 0 _ rfl
      have q2 : X5.cell? ⟨B5, O5 + i5 * 6 + 1, none⟩ = some (.slice E5z0_a1 E5z0_n1 E5z0_c1) := HEC5.out _ _ HLT5box.out 1 _ rfl
      have q3 : X5.cell? ⟨B5, O5 + i5 * 6 + 2, none⟩ = some (.slice E5z0_a2 E5z0_n2 E5z0_c2) := HEC5.out _ _ HLT5box.out 2 _ rfl
      have q4 : X5.cell? ⟨B5, O5 + i5 * 6 + 3, none⟩ = some (.slice E5z0_a3 E5z0_n3 E5z0_c3) := HEC5.out _ _ HLT5box.out 3 _ rfl
      have q5 : X5.cell? ⟨B5, O5 + i5 * 6 + 4, none⟩ = some (.slice E5z0_a4 E5z0_n4 E5z0_c4) := HEC5.out _ _ HLT5box.out 4 _ rfl
      go_wp2_with fail
      refine (rf_Schema X5 base V5 ((enc .num d0 ++ (enc .num d1 ++ (enc .num (z2_n0 : Int) ++ List.flatMap (enc tTable) (List.take i5 d2))))) [.string E5z0_0, .slice E5z0_a1 E5z0_n1 E5z0_c1, .slice E5z0_a2 E5z0_n2 E5z0_c2, .slice E5z0_a3 E5z0_n3 E5z0_c3, .slice E5z0_a4 E5z0_n4 E5z0_c4] E5d0 (Nat.le_trans HB0.out HLT5box.out.chg.size) HLR5.out (rd_grw HLT5box.out HR0.out HB0.out E5X0.out) (by have := HLG5.out; (try simp only [List.length_append, List.length_nil]); omega)).mono ?_
      rintro e w6 ⟨v6, rfl, hr, hg⟩
      have HRow6 := Lib.hid (show Row w6 base v6 ((enc .num d0 ++ (enc .num d1 ++ (enc .num (z2_n0 : Int) ++ (List.flatMap (enc tTable) (List.take i5 d2) ++ enc tSchema E5d0))))) from by simpa only [List.append_assoc, List.nil_append] using hr)
      have HT6box := Lib.hid (HLT5box.out.trans hg)
      clear hr hg q0 q1 q2 q3 q4 q5
      have q0 : w6.cell? ⟨w.heap.size, 2, none⟩ = some (.slice (some ⟨B5, O5, none⟩) z2_n0 z2_c0) := HBX.out _ _ HT6box.out 2 _ rfl
      have q1 : w6.cell? ⟨B5, O5 + i5 * 6 + 5, none⟩ = some (.slice E5z1_a0 E5z1_n0 E5z1_c0) := HEC5.out _ _ HT6box.out 5 _ rfl
      go_wp2_with fail
      refine (rf_num w6 base v6 ((enc .num d0 ++ (enc .num d1 ++ (enc .num (z2_n0 : Int) ++ (List.flatMap (enc tTable) (List.take i5 d2) ++ enc tSchema E5d0))))) [.int .i64 (E5z1_n0 : Int)] (E5z1_n0 : Int) (Nat.le_trans HB0.out HT6box.out.chg.size) HRow6.out ⟨rfl, E5P1N.out.2.2⟩ (by have := HLG5.out; (try simp only [List.length_append, List.length_nil]); omega)).mono ?_
      rintro e w7 ⟨v7, rfl, hr, hg⟩
      have HRow7 := Lib.hid (show Row w7 base v7 ((enc .num d0 ++ (enc .num d1 ++ (enc .num (z2_n0 : Int) ++ (List.flatMap (enc tTable) (List.take i5 d2) ++ (enc tSchema E5d0 ++ enc .num (E5z1_n0 : Int))))))) from by simpa only [List.append_assoc, List.nil_append] using hr)
      have HT7box := Lib.hid (HT6box.out.trans hg)
      clear hr hg q0 q1
      go_wp2
      go_loopg [3, 5] E5z1_n0 (fun gk t3 t5 wr => ∃ (i : Nat), i ≤ E5z1_n0 ∧ gk + i = E5z1_n0 ∧ t5 = .int .i64 (i : Int) ∧ Row wr base t3 ((enc .num d0 ++ (enc .num d1 ++ (enc .num (z2_n0 : Int) ++ (List.flatMap (enc tTable) (List.take i5 d2) ++ (enc tSchema E5d0 ++ (enc .num (E5z1_n0 : Int) ++ List.flatMap (enc tVersion) (List.take i E5d1)))))))) ∧ Grw (Value.slice none 0 0) t3 W0 wr)
      case atStart => exact ⟨0, by omega, by omega, rfl, by simpa only [List.take_zero, List.flatMap_nil, List.append_nil, List.append_assoc] using HRow7.out, HT7box.out⟩
      case round =>
        generalize gk = GK8 at *
        generalize wr = X8 at *
        generalize u3 = V8 at *
        obtain ⟨i8, hi, hgk, rfl, hrow, gbox⟩ := hrel
        have HI8 := Lib.hid (And.intro hi hgk)
        have HLR8 := Lib.hid hrow
        have HLT8box := Lib.hid gbox
        have hi0_8 : 0 ≤ (i8 : Int) := by omega
        clear hi hgk hrow gbox
        have ql8 : X8.cell? ⟨B5, O5 + i5 * 6 + 5, none⟩ = some (.slice E5z1_a0 E5z1_n0 E5z1_c0) := HEC5.out _ _ HLT8box.out 5 _ rfl
        have qo8_0 : X8.cell? ⟨w.heap.size, 2, none⟩ = some (.slice (some ⟨B5, O5, none⟩) z2_n0 z2_c0) := HBX.out _ _ HLT8box.out 2 _ rfl
        by_cases hin8 : i8 < E5z1_n0
        · have hd1_8 : decide ((i8 : Int) < (E5z1_n0 : Int)) = true := decide_eq_true (by omega)
          have hi1_8 : (i8 : Int) < (E5z1_n0 : Int) := by omega
          obtain ⟨y8, hy8⟩ : ∃ y, E5d1[i8]? = some y := ⟨_, List.getElem?_eq_getElem (by have := E5P1N.out.1; omega)⟩
          rcases E5P1N.out.2.1 with h0 | ⟨B8, O8, haddr8, hbF8, hbl8, hget8⟩
          · exact absurd h0 (by omega)
          subst haddr8
          obtain ⟨ys8, hA8, hyr8⟩ := hget8 i8 y8 hy8
          have HTK8 := Lib.hid (show List.take (i8 + 1) E5d1 = List.take i8 E5d1 ++ [y8] by rw [List.take_add_one, hy8]; rfl)
          have HLE8 := Lib.hid (show ((enc .num d0 ++ (enc .num d1 ++ (enc .num (z2_n0 : Int) ++ (List.flatMap (enc tTable) (List.take i5 d2) ++ (enc tSchema E5d0 ++ (enc .num (E5z1_n0 : Int) ++ List.flatMap (enc tVersion) (List.take i8 E5d1)))))))).length + (enc tVersion y8).length ≤ 140737488355328 from by
            have h1 := HLG5.out
            have h2 : (List.flatMap (enc tVersion) E5d1).length = (List.flatMap (enc tVersion) (List.take i8 E5d1)).length + ((enc tVersion y8).length + (List.flatMap (enc tVersion) (List.drop (i8 + 1) E5d1)).length) := by
              have h4 : E5d1 = List.take i8 E5d1 ++ (y8 :: List.drop (i8 + 1) E5d1) := by
                have h3 := List.take_append_drop (i8 + 1) E5d1
                rw [HTK8.out] at h3
                simpa using h3.symm
              conv => lhs; rw [h4]
              rw [List.flatMap_append, List.flatMap_cons, List.length_append, List.length_append]
            (try simp only [List.length_append] at h1 ⊢); omega)
          have HEC8 := Lib.hid (show ∀ w' v', Grw (Value.slice none 0 0) v' W0 w' → ∀ (j : Nat) u, ys8[j]? = some u → w'.cell? ⟨B8, O8 + i8 * 6 + j, none⟩ = some u from fun w' v' hg j u hu => ((hg.below HR0.out HB0.out).cell (p := ⟨B8, O8 + i8 * 6 + j, none⟩) hbF8).trans (hA8 j u hu))
          clear hget8 hA8 hbF8 hbl8 hy8
          obtain ⟨E8d0, E8d1, E8d2, E8d3⟩ := y8
          obtain ⟨E8u0, E8r0, rfl, E8h0, E8u1, E8r1, rfl, E8h1, E8u2, E8r2, rfl, E8h2, E8h3⟩ := hyr8
          dsimp only at E8h0 E8h1 E8h2 E8h3
          obtain ⟨E8z0_0, rfl⟩ : ∃ z : Int, E8u0 = [.int .i64 z] := ⟨_, E8h0.1⟩
          obtain ⟨E8z1_a0, E8z1_n0, E8z1_c0, rfl⟩ : ∃ a n c, E8u1 = [.slice a n c] := by obtain ⟨a, n, c, e, _⟩ := id E8h1; exact ⟨a, n, c, e⟩
          obtain ⟨E8z2_0, E8z2_1, rfl⟩ := shape_Period E8h2
          obtain ⟨E8z3_0, E8z3_1, rfl⟩ := shape_Period E8h3
          have E8X0 := Lib.hid E8h0
          have E8X1 := Lib.hid E8h1
          have E8X2 := Lib.hid E8h2
          have E8X3 := Lib.hid E8h3
          clear E8h0 E8h1 E8h2 E8h3
          have henc8 : enc tVersion (E8d0, E8d1, E8d2, E8d3) = (enc .num E8d0 ++ (enc (.list tValue) E8d1 ++ (enc tPeriod E8d2 ++ enc tPeriod E8d3))) := by
            show (enc .num E8d0 ++ (enc (.list tValue) E8d1 ++ (enc tPeriod E8d2 ++ enc tPeriod E8d3))) = _
            first | rfl | (simp only [List.append_assoc]; done)
          have HEE8 := Lib.hid henc8
          have HLF8 := Lib.hid (show ((enc .num d0 ++ (enc .num d1 ++ (enc .num (z2_n0 : Int) ++ (List.flatMap (enc tTable) (List.take i5 d2) ++ (enc tSchema E5d0 ++ (enc .num (E5z1_n0 : Int) ++ List.flatMap (enc tVersion) (List.take i8 E5d1)))))))).length + ((enc .num E8d0 ++ (enc (.list tValue) E8d1 ++ (enc tPeriod E8d2 ++ enc tPeriod E8d3)))).length ≤ 140737488355328 from by have h1 := HLE8.out; rw [HEE8.out] at h1; exact h1)
          have HLG8 := HLF8.out
          simp only [List.length_append] at HLG8
          replace HLG8 := Lib.hid HLG8
          clear henc8
          have qc9_0 : X8.cell? ⟨w.heap.size, 2, none⟩ = some (.slice (some ⟨B5, O5, none⟩) z2_n0 z2_c0) := HBX.out _ _ HLT8box.out 2 _ rfl
          have qc9_1 : X8.cell? ⟨B5, O5 + i5 * 6 + 5, none⟩ = some (.slice (some ⟨B8, O8, none⟩) E5z1_n0 E5z1_c0) := HEC5.out _ _ HLT8box.out 5 _ rfl
          have qc9_2 : X8.cell? ⟨B8, O8 + i8 * 6, none⟩ = some (.int .i64 E8z0_0) := HEC8.out _ _ HLT8box.out 0 _ rfl
          have qc9_3 : X8.cell? ⟨B8, O8 + i8 * 6 + 1, none⟩ = some (.slice E8z1_a0 E8z1_n0 E8z1_c0) := HEC8.out _ _ HLT8box.out 1 _ rfl
          have qc9_4 : X8.cell? ⟨B8, O8 + i8 * 6 + 2, none⟩ = some (.int .i64 E8z2_0) := HEC8.out _ _ HLT8box.out 2 _ rfl
          have qc9_5 : X8.cell? ⟨B8, O8 + i8 * 6 + 3, none⟩ = some (.int .i64 E8z2_1) := HEC8.out _ _ HLT8box.out 3 _ rfl
          have qc9_6 : X8.cell? ⟨B8, O8 + i8 * 6 + 4, none⟩ = some (.int .i64 E8z3_0) := HEC8.out _ _ HLT8box.out 4 _ rfl
          have qc9_7 : X8.cell? ⟨B8, O8 + i8 * 6 + 5, none⟩ = some (.int .i64 E8z3_1) := HEC8.out _ _ HLT8box.out 5 _ rfl
          obtain ⟨C9, hC9⟩ : ∃ C, C = X8.alloc (.cells #[.int .i64 E8z0_0, .slice E8z1_a0 E8z1_n0 E8z1_c0, .int .i64 E8z2_0, .int .i64 E8z2_1, .int .i64 E8z3_0, .int .i64 E8z3_1] 99) := ⟨_, rfl⟩
          have HBC9 := Lib.hid (show Below X8.heap.size X8 C9 from by rw [hC9]; exact (Below.refl _ _).alloc (Nat.le_refl _) _)
          have HCC9 := Lib.hid (show ∀ w' v', Grw V8 v' C9 w' → ∀ (j : Nat) u, ([.int .i64 E8z0_0, .slice E8z1_a0 E8z1_n0 E8z1_c0, .int .i64 E8z2_0, .int .i64 E8z2_1, .int .i64 E8z3_0, .int .i64 E8z3_1] : List Value)[j]? = some u → w'.cell? ⟨X8.heap.size, j, none⟩ = some u from fun w' v' hg j u hu => by
            refine (hg.cell (a := ⟨X8.heap.size, j, none⟩) (fun e => Nat.lt_irrefl _ (HLR8.out.ge _ e).2) (by show X8.heap.size < C9.heap.size; rw [hC9]; simp)).trans ?_
            rw [hC9]
            have := new_cells X8 [.int .i64 E8z0_0, .slice E8z1_a0 E8z1_n0 E8z1_c0, .int .i64 E8z2_0, .int .i64 E8z2_1, .int .i64 E8z3_0, .int .i64 E8z3_1] 99 j u hu
            rw [Addr.add_mid, Nat.zero_add] at this; exact this)
          have HCW9 := Lib.hid hC9
          have HCR9 := Lib.hid (HLR8.out.keep HBC9.out)
          have HT9box := Lib.hid (HLT8box.out.trans (Grw.of_below HBC9.out))
          have HT9cp := Lib.hid (Grw.refl V8 C9)
          clear hC9
          have HD10box := Lib.hid (HT9box.out.trans (Grw.of_below (w' := C9.drew) (Below.refl _ _).drew))
          have HD10cp9 := Lib.hid (HT9cp.out.trans (Grw.of_below (w' := C9.drew) (Below.refl _ _).drew))
          have HKP10 := Lib.hid (show ∀ w' v', Grw V8 v' C9.drew w' → (w'.cell? ⟨X8.heap.size, 0, none⟩ = some (.int .i64 E8z0_0) ∧ w'.cell? ⟨X8.heap.size, 1, none⟩ = some (.slice E8z1_a0 E8z1_n0 E8z1_c0) ∧ w'.cell? ⟨X8.heap.size, 2, none⟩ = some (.int .i64 E8z2_0) ∧ w'.cell? ⟨X8.heap.size, 3, none⟩ = some (.int .i64 E8z2_1) ∧ w'.cell? ⟨X8.heap.size, 4, none⟩ = some (.int .i64 E8z3_0) ∧ w'.cell? ⟨X8.heap.size, 5, none⟩ = some (.int .i64 E8z3_1)) from fun w' v' hg =>
            ⟨HCC9.out _ _ (HD10cp9.out.trans hg) 0 _ rfl, HCC9.out _ _ (HD10cp9.out.trans hg) 1 _ rfl, HCC9.out _ _ (HD10cp9.out.trans hg) 2 _ rfl, HCC9.out _ _ (HD10cp9.out.trans hg) 3 _ rfl, HCC9.out _ _ (HD10cp9.out.trans hg) 4 _ rfl, HCC9.out _ _ (HD10cp9.out.trans hg) 5 _ rfl⟩)
          have HIN10 := Lib.hid (HKP10.out _ _ (Grw.refl _ _))
          have HC10 := Lib.hid (rf_num C9.drew base V8 ((enc .num d0 ++ (enc .num d1 ++ (enc .num (z2_n0 : Int) ++ (List.flatMap (enc tTable) (List.take i5 d2) ++ (enc tSchema E5d0 ++ (enc .num (E5z1_n0 : Int) ++ List.flatMap (enc tVersion) (List.take i8 E5d1)))))))) [.int .i64 E8z0_0] E8d0 (Nat.le_trans HB0.out HD10box.out.chg.size) (HCR9.out.keep (Below.refl _ _).drew) (rd_grw HD10box.out HR0.out HB0.out E8X0.out) (by have := HLG8.out; (try simp only [List.length_append, List.length_nil]); omega))
          go_wp2_with fail
          rw [← HCW9.out]
          clear qc9_0 qc9_1 qc9_2 qc9_3 qc9_4 qc9_5 qc9_6 qc9_7
          go_region_held3 (fun w' => w'.cell? ⟨X8.heap.size, 0, none⟩ = some (.int .i64 E8z0_0) ∧ w'.cell? ⟨X8.heap.size, 1, none⟩ = some (.slice E8z1_a0 E8z1_n0 E8z1_c0) ∧ w'.cell? ⟨X8.heap.size, 2, none⟩ = some (.int .i64 E8z2_0) ∧ w'.cell? ⟨X8.heap.size, 3, none⟩ = some (.int .i64 E8z2_1) ∧ w'.cell? ⟨X8.heap.size, 4, none⟩ = some (.int .i64 E8z3_0) ∧ w'.cell? ⟨X8.heap.size, 5, none⟩ = some (.int .i64 E8z3_1)) (first | assumption | exact HIN10.out | exact HKP10.out _ _ hG11 | exact HKP10.out _ _ hG12 | exact HKP10.out _ _ hG13 | exact HKP10.out _ _ hG14)
            (first | (go_at_call_of 34 V8; refine HC10.out.mono ?_; rintro e w11 ⟨v11, rfl, hr, hg⟩; have hr11 : Row w11 base v11 ((enc .num d0 ++ (enc .num d1 ++ (enc .num (z2_n0 : Int) ++ (List.flatMap (enc tTable) (List.take i5 d2) ++ (enc tSchema E5d0 ++ (enc .num (E5z1_n0 : Int) ++ (List.flatMap (enc tVersion) (List.take i8 E5d1) ++ enc .num E8d0)))))))) := (by simpa only [List.append_assoc, List.nil_append] using hr); clear hr; have hG11 := hg) | (go_at_call_of 37 v11; refine (rf_Values w11 base v11 ((enc .num d0 ++ (enc .num d1 ++ (enc .num (z2_n0 : Int) ++ (List.flatMap (enc tTable) (List.take i5 d2) ++ (enc tSchema E5d0 ++ (enc .num (E5z1_n0 : Int) ++ (List.flatMap (enc tVersion) (List.take i8 E5d1) ++ enc .num E8d0)))))))) [.slice E8z1_a0 E8z1_n0 E8z1_c0] E8d1 (Nat.le_trans HB0.out (HD10box.out.trans hG11).chg.size) hr11 (rd_grw (HD10box.out.trans hG11) HR0.out HB0.out E8X1.out) (by have := HLG8.out; (try simp only [List.length_append, List.length_nil]); omega)).mono ?_; rintro e w12 ⟨v12, rfl, hr, hg⟩; have hr12 : Row w12 base v12 ((enc .num d0 ++ (enc .num d1 ++ (enc .num (z2_n0 : Int) ++ (List.flatMap (enc tTable) (List.take i5 d2) ++ (enc tSchema E5d0 ++ (enc .num (E5z1_n0 : Int) ++ (List.flatMap (enc tVersion) (List.take i8 E5d1) ++ (enc .num E8d0 ++ enc (.list tValue) E8d1))))))))) := (by simpa only [List.append_assoc, List.nil_append] using hr); clear hr; have hG12 := hG11.trans hg) | (go_at_call_of 36 v12; refine (rf_Period w12 base v12 ((enc .num d0 ++ (enc .num d1 ++ (enc .num (z2_n0 : Int) ++ (List.flatMap (enc tTable) (List.take i5 d2) ++ (enc tSchema E5d0 ++ (enc .num (E5z1_n0 : Int) ++ (List.flatMap (enc tVersion) (List.take i8 E5d1) ++ (enc .num E8d0 ++ enc (.list tValue) E8d1))))))))) [.int .i64 E8z2_0, .int .i64 E8z2_1] E8d2 (Nat.le_trans HB0.out (HD10box.out.trans hG12).chg.size) hr12 (rd_grw (HD10box.out.trans hG12) HR0.out HB0.out E8X2.out) (by have := HLG8.out; (try simp only [List.length_append, List.length_nil]); omega)).mono ?_; rintro e w13 ⟨v13, rfl, hr, hg⟩; have hr13 : Row w13 base v13 ((enc .num d0 ++ (enc .num d1 ++ (enc .num (z2_n0 : Int) ++ (List.flatMap (enc tTable) (List.take i5 d2) ++ (enc tSchema E5d0 ++ (enc .num (E5z1_n0 : Int) ++ (List.flatMap (enc tVersion) (List.take i8 E5d1) ++ (enc .num E8d0 ++ (enc (.list tValue) E8d1 ++ enc tPeriod E8d2)))))))))) := (by simpa only [List.append_assoc, List.nil_append] using hr); clear hr; have hG13 := hG12.trans hg) | (go_at_call_of 36 v13; refine (rf_Period w13 base v13 ((enc .num d0 ++ (enc .num d1 ++ (enc .num (z2_n0 : Int) ++ (List.flatMap (enc tTable) (List.take i5 d2) ++ (enc tSchema E5d0 ++ (enc .num (E5z1_n0 : Int) ++ (List.flatMap (enc tVersion) (List.take i8 E5d1) ++ (enc .num E8d0 ++ (enc (.list tValue) E8d1 ++ enc tPeriod E8d2)))))))))) [.int .i64 E8z3_0, .int .i64 E8z3_1] E8d3 (Nat.le_trans HB0.out (HD10box.out.trans hG13).chg.size) hr13 (rd_grw (HD10box.out.trans hG13) HR0.out HB0.out E8X3.out) (by have := HLG8.out; (try simp only [List.length_append, List.length_nil]); omega)).mono ?_; rintro e w14 ⟨v14, rfl, hr, hg⟩; have hr14 : Row w14 base v14 ((enc .num d0 ++ (enc .num d1 ++ (enc .num (z2_n0 : Int) ++ (List.flatMap (enc tTable) (List.take i5 d2) ++ (enc tSchema E5d0 ++ (enc .num (E5z1_n0 : Int) ++ (List.flatMap (enc tVersion) (List.take i8 E5d1) ++ (enc .num E8d0 ++ (enc (.list tValue) E8d1 ++ (enc tPeriod E8d2 ++ enc tPeriod E8d3))))))))))) := (by simpa only [List.append_assoc, List.nil_append] using hr); clear hr; have hG14 := hG13.trans hg) | fail)
          have HRow14 := Lib.hid hr14
          have HT14box := Lib.hid (HD10box.out.trans hG14)
          have HT14cp9 := Lib.hid (HD10cp9.out.trans hG14)
          clear hr11 hG11 hr12 hG12 hr13 hG13 hr14 hG14
          have HFR8 := Lib.hid (show Row w14 base v14 ((enc .num d0 ++ (enc .num d1 ++ (enc .num (z2_n0 : Int) ++ (List.flatMap (enc tTable) (List.take i5 d2) ++ (enc tSchema E5d0 ++ (enc .num (E5z1_n0 : Int) ++ List.flatMap (enc tVersion) (List.take (i8 + 1) E5d1)))))))) from by
            rw [HTK8.out, List.flatMap_append, List.flatMap_cons, List.flatMap_nil, List.append_nil, HEE8.out]
            simpa only [List.append_assoc, List.flatMap_cons, List.flatMap_nil, List.append_nil] using HRow14.out)
          go_wp2
          go_roundg (GK8 - 1)
          case rel => exact ⟨i8 + 1, by omega, by have := HI8.out; omega, by go_num, HFR8.out, HT14box.out⟩
          case measure => have := HI8.out; omega
        · obtain rfl : E5z1_n0 = i8 := by have := HI8.out; omega
          have hd1_8 : decide ((E5z1_n0 : Int) < (E5z1_n0 : Int)) = false := by simp
          have HXR8 := Lib.hid (show Row X8 base V8 ((enc .num d0 ++ (enc .num d1 ++ (enc .num (z2_n0 : Int) ++ (List.flatMap (enc tTable) (List.take i5 d2) ++ (enc tSchema E5d0 ++ (enc .num (E5z1_n0 : Int) ++ List.flatMap (enc tVersion) E5d1))))))) from by
            have := HLR8.out
            rw [E5P1N.out.1, List.take_length, ← E5P1N.out.1] at this
            exact this)
          clear hin8
          have HFR5 := Lib.hid (show Row X8 base V8 ((enc .num d0 ++ (enc .num d1 ++ (enc .num (z2_n0 : Int) ++ List.flatMap (enc tTable) (List.take (i5 + 1) d2))))) from by
            rw [HTK5.out, List.flatMap_append, List.flatMap_cons, List.flatMap_nil, List.append_nil, HEE5.out]
            simpa only [List.append_assoc, List.flatMap_cons, List.flatMap_nil, List.append_nil] using HXR8.out)
          go_wp2
          go_roundg (GK5 - 1)
          case rel => exact ⟨i5 + 1, by omega, by have := HI5.out; omega, by go_num, HFR5.out, HLT8box.out⟩
          case measure => have := HI5.out; omega
    · obtain rfl : z2_n0 = i5 := by have := HI5.out; omega
      have hd1_5 : decide ((z2_n0 : Int) < (z2_n0 : Int)) = false := by simp
      have HXR5 := Lib.hid (show Row X5 base V5 ((enc .num d0 ++ (enc .num d1 ++ (enc .num (z2_n0 : Int) ++ List.flatMap (enc tTable) d2)))) from by
        have := HLR5.out
        rw [P2N.out.1, List.take_length, ← P2N.out.1] at this
        exact this)
      clear hin5
      have q0 : X5.cell? ⟨w.heap.size, 3, none⟩ = some (.int .i64 z3_0) := HBX.out _ _ HLT5box.out 3 _ rfl
      go_wp2_with fail
      refine (rf_num X5 base V5 ((enc .num d0 ++ (enc .num d1 ++ (enc .num (z2_n0 : Int) ++ List.flatMap (enc tTable) d2)))) [.int .i64 z3_0] d3 (Nat.le_trans HB0.out HLT5box.out.chg.size) HXR5.out (rd_grw HLT5box.out HR0.out HB0.out HX3.out) (by have := HL.out; (try simp only [List.length_append, List.length_nil]); omega)).mono ?_
      rintro e w15 ⟨v15, rfl, hr, hg⟩
      have HRow15 := Lib.hid (show Row w15 base v15 ((enc .num d0 ++ (enc .num d1 ++ (enc .num (z2_n0 : Int) ++ (List.flatMap (enc tTable) d2 ++ enc .num d3))))) from by simpa only [List.append_assoc, List.nil_append] using hr)
      have HT15box := Lib.hid (HLT5box.out.trans hg)
      clear hr hg q0
      have q0 : w15.cell? ⟨w.heap.size, 4, none⟩ = some (.slice z4_a0 z4_n0 z4_c0) := HBX.out _ _ HT15box.out 4 _ rfl
      go_wp2_with fail
      refine (rf_num w15 base v15 ((enc .num d0 ++ (enc .num d1 ++ (enc .num (z2_n0 : Int) ++ (List.flatMap (enc tTable) d2 ++ enc .num d3))))) [.int .i64 (z4_n0 : Int)] (z4_n0 : Int) (Nat.le_trans HB0.out HT15box.out.chg.size) HRow15.out ⟨rfl, P4N.out.2.2⟩ (by have := HL.out; (try simp only [List.length_append, List.length_nil]); omega)).mono ?_
      rintro e w16 ⟨v16, rfl, hr, hg⟩
      have HRow16 := Lib.hid (show Row w16 base v16 ((enc .num d0 ++ (enc .num d1 ++ (enc .num (z2_n0 : Int) ++ (List.flatMap (enc tTable) d2 ++ (enc .num d3 ++ enc .num (z4_n0 : Int))))))) from by simpa only [List.append_assoc, List.nil_append] using hr)
      have HT16box := Lib.hid (HT15box.out.trans hg)
      clear hr hg q0
      go_wp2
      go_loopg [3, 7] z4_n0 (fun gk t3 t7 wr => ∃ (i : Nat), i ≤ z4_n0 ∧ gk + i = z4_n0 ∧ t7 = .int .i64 (i : Int) ∧ Row wr base t3 ((enc .num d0 ++ (enc .num d1 ++ (enc .num (z2_n0 : Int) ++ (List.flatMap (enc tTable) d2 ++ (enc .num d3 ++ (enc .num (z4_n0 : Int) ++ List.flatMap (enc tHold) (List.take i d4)))))))) ∧ Grw (Value.slice none 0 0) t3 W0 wr)
      case atStart => exact ⟨0, by omega, by omega, rfl, by simpa only [List.take_zero, List.flatMap_nil, List.append_nil, List.append_assoc] using HRow16.out, HT16box.out⟩
      case round =>
        generalize gk = GK17 at *
        generalize wr = X17 at *
        generalize u3 = V17 at *
        obtain ⟨i17, hi, hgk, rfl, hrow, gbox⟩ := hrel
        have HI17 := Lib.hid (And.intro hi hgk)
        have HLR17 := Lib.hid hrow
        have HLT17box := Lib.hid gbox
        have hi0_17 : 0 ≤ (i17 : Int) := by omega
        clear hi hgk hrow gbox
        have ql17 : X17.cell? ⟨w.heap.size, 4, none⟩ = some (.slice z4_a0 z4_n0 z4_c0) := HBX.out _ _ HLT17box.out 4 _ rfl
        by_cases hin17 : i17 < z4_n0
        · have hd1_17 : decide ((i17 : Int) < (z4_n0 : Int)) = true := decide_eq_true (by omega)
          have hi1_17 : (i17 : Int) < (z4_n0 : Int) := by omega
          obtain ⟨y17, hy17⟩ : ∃ y, d4[i17]? = some y := ⟨_, List.getElem?_eq_getElem (by have := P4N.out.1; omega)⟩
          rcases P4N.out.2.1 with h0 | ⟨B17, O17, haddr17, hbF17, hbl17, hget17⟩
          · exact absurd h0 (by omega)
          subst haddr17
          obtain ⟨ys17, hA17, hyr17⟩ := hget17 i17 y17 hy17
          have HTK17 := Lib.hid (show List.take (i17 + 1) d4 = List.take i17 d4 ++ [y17] by rw [List.take_add_one, hy17]; rfl)
          have HLE17 := Lib.hid (show ((enc .num d0 ++ (enc .num d1 ++ (enc .num (z2_n0 : Int) ++ (List.flatMap (enc tTable) d2 ++ (enc .num d3 ++ (enc .num (z4_n0 : Int) ++ List.flatMap (enc tHold) (List.take i17 d4)))))))).length + (enc tHold y17).length ≤ 140737488355328 from by
            have h1 := HL.out
            have h2 : (List.flatMap (enc tHold) d4).length = (List.flatMap (enc tHold) (List.take i17 d4)).length + ((enc tHold y17).length + (List.flatMap (enc tHold) (List.drop (i17 + 1) d4)).length) := by
              have h4 : d4 = List.take i17 d4 ++ (y17 :: List.drop (i17 + 1) d4) := by
                have h3 := List.take_append_drop (i17 + 1) d4
                rw [HTK17.out] at h3
                simpa using h3.symm
              conv => lhs; rw [h4]
              rw [List.flatMap_append, List.flatMap_cons, List.length_append, List.length_append]
            (try simp only [List.length_append] at h1 ⊢); omega)
          have HEC17 := Lib.hid (show ∀ w' v', Grw (Value.slice none 0 0) v' W0 w' → ∀ (j : Nat) u, ys17[j]? = some u → w'.cell? ⟨B17, O17 + i17 * 3 + j, none⟩ = some u from fun w' v' hg j u hu => ((hg.below HR0.out HB0.out).cell (p := ⟨B17, O17 + i17 * 3 + j, none⟩) hbF17).trans (hA17 j u hu))
          clear hget17 hA17 hbF17 hbl17 hy17
          obtain ⟨E17d0, E17d1⟩ := y17
          obtain ⟨E17u0, E17r0, rfl, E17h0, E17h1⟩ := hyr17
          dsimp only at E17h0 E17h1
          obtain ⟨E17z0_0, rfl⟩ : ∃ z : Int, E17u0 = [.int .i64 z] := ⟨_, E17h0.1⟩
          obtain ⟨E17z1_0, E17z1_1, rfl⟩ := shape_Period E17h1
          have E17X0 := Lib.hid E17h0
          have E17X1 := Lib.hid E17h1
          clear E17h0 E17h1
          have HLW17 := HLE17.out
          (try simp only [List.length_append, List.length_nil] at HLW17)
          replace HLW17 := Lib.hid HLW17
          have HW17 := Lib.hid (show (Ty.rd tHold).rd W0 (· < base) [.int .i64 E17z0_0, .int .i64 E17z1_0, .int .i64 E17z1_1] (E17d0, E17d1) from ⟨_, _, rfl, E17X0.out, E17X1.out⟩)
          have q0 : X17.cell? ⟨w.heap.size, 4, none⟩ = some (.slice (some ⟨B17, O17, none⟩) z4_n0 z4_c0) := HBX.out _ _ HLT17box.out 4 _ rfl
          have q1 : X17.cell? ⟨B17, O17 + i17 * 3, none⟩ = some (.int .i64 E17z0_0) := HEC17.out _ _ HLT17box.out 0 _ rfl
          have q2 : X17.cell? ⟨B17, O17 + i17 * 3 + 1, none⟩ = some (.int .i64 E17z1_0) := HEC17.out _ _ HLT17box.out 1 _ rfl
          have q3 : X17.cell? ⟨B17, O17 + i17 * 3 + 2, none⟩ = some (.int .i64 E17z1_1) := HEC17.out _ _ HLT17box.out 2 _ rfl
          go_wp2_with fail
          refine (rf_Hold X17 base V17 ((enc .num d0 ++ (enc .num d1 ++ (enc .num (z2_n0 : Int) ++ (List.flatMap (enc tTable) d2 ++ (enc .num d3 ++ (enc .num (z4_n0 : Int) ++ List.flatMap (enc tHold) (List.take i17 d4)))))))) [.int .i64 E17z0_0, .int .i64 E17z1_0, .int .i64 E17z1_1] (E17d0, E17d1) (Nat.le_trans HB0.out HLT17box.out.chg.size) HLR17.out (rd_grw HLT17box.out HR0.out HB0.out HW17.out) (by have := HLW17.out; (try simp only [List.length_append, List.length_nil]); omega)).mono ?_
          rintro e w18 ⟨v18, rfl, hr, hg⟩
          have HRow18 := Lib.hid (show Row w18 base v18 ((enc .num d0 ++ (enc .num d1 ++ (enc .num (z2_n0 : Int) ++ (List.flatMap (enc tTable) d2 ++ (enc .num d3 ++ (enc .num (z4_n0 : Int) ++ (List.flatMap (enc tHold) (List.take i17 d4) ++ enc tHold (E17d0, E17d1))))))))) from by simpa only [List.append_assoc, List.nil_append] using hr)
          have HT18box := Lib.hid (HLT17box.out.trans hg)
          clear hr hg q0 q1 q2 q3
          have HFR17 := Lib.hid (show Row w18 base v18 ((enc .num d0 ++ (enc .num d1 ++ (enc .num (z2_n0 : Int) ++ (List.flatMap (enc tTable) d2 ++ (enc .num d3 ++ (enc .num (z4_n0 : Int) ++ List.flatMap (enc tHold) (List.take (i17 + 1) d4)))))))) from by
            rw [HTK17.out, List.flatMap_append]
            simpa only [List.append_assoc, List.flatMap_cons, List.flatMap_nil, List.append_nil] using HRow18.out)
          go_wp2
          go_roundg (GK17 - 1)
          case rel => exact ⟨i17 + 1, by omega, by have := HI17.out; omega, by go_num, HFR17.out, HT18box.out⟩
          case measure => have := HI17.out; omega
        · obtain rfl : z4_n0 = i17 := by have := HI17.out; omega
          have hd1_17 : decide ((z4_n0 : Int) < (z4_n0 : Int)) = false := by simp
          have HXR17 := Lib.hid (show Row X17 base V17 ((enc .num d0 ++ (enc .num d1 ++ (enc .num (z2_n0 : Int) ++ (List.flatMap (enc tTable) d2 ++ (enc .num d3 ++ (enc .num (z4_n0 : Int) ++ List.flatMap (enc tHold) d4))))))) from by
            have := HLR17.out
            rw [P4N.out.1, List.take_length, ← P4N.out.1] at this
            exact this)
          clear hin17
          have q0 : X17.cell? ⟨w.heap.size, 5, none⟩ = some (.slice z5_a0 z5_n0 z5_c0) := HBX.out _ _ HLT17box.out 5 _ rfl
          go_wp2_with fail
          refine (rf_num X17 base V17 ((enc .num d0 ++ (enc .num d1 ++ (enc .num (z2_n0 : Int) ++ (List.flatMap (enc tTable) d2 ++ (enc .num d3 ++ (enc .num (z4_n0 : Int) ++ List.flatMap (enc tHold) d4))))))) [.int .i64 (z5_n0 : Int)] (z5_n0 : Int) (Nat.le_trans HB0.out HLT17box.out.chg.size) HXR17.out ⟨rfl, P5N.out.2.2⟩ (by have := HL.out; (try simp only [List.length_append, List.length_nil]); omega)).mono ?_
          rintro e w19 ⟨v19, rfl, hr, hg⟩
          have HRow19 := Lib.hid (show Row w19 base v19 ((enc .num d0 ++ (enc .num d1 ++ (enc .num (z2_n0 : Int) ++ (List.flatMap (enc tTable) d2 ++ (enc .num d3 ++ (enc .num (z4_n0 : Int) ++ (List.flatMap (enc tHold) d4 ++ enc .num (z5_n0 : Int))))))))) from by simpa only [List.append_assoc, List.nil_append] using hr)
          have HT19box := Lib.hid (HLT17box.out.trans hg)
          clear hr hg q0
          go_wp2
          go_loopg [3, 8] z5_n0 (fun gk t3 t8 wr => ∃ (i : Nat), i ≤ z5_n0 ∧ gk + i = z5_n0 ∧ t8 = .int .i64 (i : Int) ∧ Row wr base t3 ((enc .num d0 ++ (enc .num d1 ++ (enc .num (z2_n0 : Int) ++ (List.flatMap (enc tTable) d2 ++ (enc .num d3 ++ (enc .num (z4_n0 : Int) ++ (List.flatMap (enc tHold) d4 ++ (enc .num (z5_n0 : Int) ++ List.flatMap (enc tCitation) (List.take i d5)))))))))) ∧ Grw (Value.slice none 0 0) t3 W0 wr)
          case atStart => exact ⟨0, by omega, by omega, rfl, by simpa only [List.take_zero, List.flatMap_nil, List.append_nil, List.append_assoc] using HRow19.out, HT19box.out⟩
          case round =>
            generalize gk = GK20 at *
            generalize wr = X20 at *
            generalize u3 = V20 at *
            obtain ⟨i20, hi, hgk, rfl, hrow, gbox⟩ := hrel
            have HI20 := Lib.hid (And.intro hi hgk)
            have HLR20 := Lib.hid hrow
            have HLT20box := Lib.hid gbox
            have hi0_20 : 0 ≤ (i20 : Int) := by omega
            clear hi hgk hrow gbox
            have ql20 : X20.cell? ⟨w.heap.size, 5, none⟩ = some (.slice z5_a0 z5_n0 z5_c0) := HBX.out _ _ HLT20box.out 5 _ rfl
            by_cases hin20 : i20 < z5_n0
            · have hd1_20 : decide ((i20 : Int) < (z5_n0 : Int)) = true := decide_eq_true (by omega)
              have hi1_20 : (i20 : Int) < (z5_n0 : Int) := by omega
              obtain ⟨y20, hy20⟩ : ∃ y, d5[i20]? = some y := ⟨_, List.getElem?_eq_getElem (by have := P5N.out.1; omega)⟩
              rcases P5N.out.2.1 with h0 | ⟨B20, O20, haddr20, hbF20, hbl20, hget20⟩
              · exact absurd h0 (by omega)
              subst haddr20
              obtain ⟨ys20, hA20, hyr20⟩ := hget20 i20 y20 hy20
              have HTK20 := Lib.hid (show List.take (i20 + 1) d5 = List.take i20 d5 ++ [y20] by rw [List.take_add_one, hy20]; rfl)
              have HLE20 := Lib.hid (show ((enc .num d0 ++ (enc .num d1 ++ (enc .num (z2_n0 : Int) ++ (List.flatMap (enc tTable) d2 ++ (enc .num d3 ++ (enc .num (z4_n0 : Int) ++ (List.flatMap (enc tHold) d4 ++ (enc .num (z5_n0 : Int) ++ List.flatMap (enc tCitation) (List.take i20 d5)))))))))).length + (enc tCitation y20).length ≤ 140737488355328 from by
                have h1 := HL.out
                have h2 : (List.flatMap (enc tCitation) d5).length = (List.flatMap (enc tCitation) (List.take i20 d5)).length + ((enc tCitation y20).length + (List.flatMap (enc tCitation) (List.drop (i20 + 1) d5)).length) := by
                  have h4 : d5 = List.take i20 d5 ++ (y20 :: List.drop (i20 + 1) d5) := by
                    have h3 := List.take_append_drop (i20 + 1) d5
                    rw [HTK20.out] at h3
                    simpa using h3.symm
                  conv => lhs; rw [h4]
                  rw [List.flatMap_append, List.flatMap_cons, List.length_append, List.length_append]
                (try simp only [List.length_append] at h1 ⊢); omega)
              have HEC20 := Lib.hid (show ∀ w' v', Grw (Value.slice none 0 0) v' W0 w' → ∀ (j : Nat) u, ys20[j]? = some u → w'.cell? ⟨B20, O20 + i20 * 6 + j, none⟩ = some u from fun w' v' hg j u hu => ((hg.below HR0.out HB0.out).cell (p := ⟨B20, O20 + i20 * 6 + j, none⟩) hbF20).trans (hA20 j u hu))
              clear hget20 hA20 hbF20 hbl20 hy20
              obtain ⟨E20d0, E20d1, E20d2⟩ := y20
              obtain ⟨E20u0, E20r0, rfl, E20h0, E20u1, E20r1, rfl, E20h1, E20h2⟩ := hyr20
              dsimp only at E20h0 E20h1 E20h2
              obtain ⟨E20z0_0, rfl⟩ : ∃ z : Int, E20u0 = [.int .i64 z] := ⟨_, E20h0.1⟩
              obtain ⟨E20z1_0, E20z1_1, E20z1_2, E20z1_3, rfl⟩ := shape_Request E20h1
              obtain ⟨E20z2_a0, E20z2_n0, E20z2_c0, rfl⟩ : ∃ a n c, E20r1 = [.slice a n c] := by obtain ⟨a, n, c, e, _⟩ := id E20h2; exact ⟨a, n, c, e⟩
              have E20X0 := Lib.hid E20h0
              have E20X1 := Lib.hid E20h1
              have E20X2 := Lib.hid E20h2
              have E20P2N := Lib.hid (show E20z2_n0 = List.length E20d2 ∧ (E20z2_n0 = 0 ∨ ∃ b off, E20z2_a0 = some ⟨b, off, none⟩ ∧ b < base ∧ b < W0.heap.size ∧ ∀ (i : Nat) y, E20d2[i]? = some y → ∃ ys, At W0 b (off + i * (Ty.rd tRow).size) ys ∧ (Ty.rd tRow).rd W0 (· < base) ys y) ∧ (Lit.int .i64 (E20z2_n0 : Int)).wf = true from by
                obtain ⟨a', n', c', e, g1, g2, g3, g4⟩ := id E20h2
                simp only [List.cons.injEq, Value.slice.injEq, and_true] at e
                obtain ⟨rfl, rfl, rfl⟩ := e
                refine ⟨g1, g4, ?_⟩
                unfold maxLen at g3; simp [Lit.wf, IntKind.min, IntKind.max, IntKind.bits, IntKind.signed]; omega)
              have E20P2n0 : 0 ≤ (E20z2_n0 : Int) := by omega
              have E20P2n1 : (E20z2_n0 : Int) ≤ 9223372036854775807 := by have h := E20P2N.out.2.2; simp [Lit.wf, IntKind.min, IntKind.max, IntKind.bits, IntKind.signed] at h; omega
              clear E20h0 E20h1 E20h2
              have henc20 : enc tCitation (E20d0, E20d1, E20d2) = (enc .num E20d0 ++ (enc tRequest E20d1 ++ (enc .num (E20z2_n0 : Int) ++ List.flatMap (enc tRow) E20d2))) := by
                show (enc .num E20d0 ++ (enc tRequest E20d1 ++ (enc .num ((List.length E20d2 : Nat) : Int) ++ List.flatMap (enc tRow) E20d2))) = _
                first | rfl | (rw [← E20P2N.out.1]; done) | (rw [← E20P2N.out.1]; simp only [List.append_assoc]; done)
              have HEE20 := Lib.hid henc20
              have HLF20 := Lib.hid (show ((enc .num d0 ++ (enc .num d1 ++ (enc .num (z2_n0 : Int) ++ (List.flatMap (enc tTable) d2 ++ (enc .num d3 ++ (enc .num (z4_n0 : Int) ++ (List.flatMap (enc tHold) d4 ++ (enc .num (z5_n0 : Int) ++ List.flatMap (enc tCitation) (List.take i20 d5)))))))))).length + ((enc .num E20d0 ++ (enc tRequest E20d1 ++ (enc .num (E20z2_n0 : Int) ++ List.flatMap (enc tRow) E20d2)))).length ≤ 140737488355328 from by have h1 := HLE20.out; rw [HEE20.out] at h1; exact h1)
              have HLG20 := HLF20.out
              simp only [List.length_append] at HLG20
              replace HLG20 := Lib.hid HLG20
              clear henc20
              have qc21_0 : X20.cell? ⟨w.heap.size, 5, none⟩ = some (.slice (some ⟨B20, O20, none⟩) z5_n0 z5_c0) := HBX.out _ _ HLT20box.out 5 _ rfl
              have qc21_1 : X20.cell? ⟨B20, O20 + i20 * 6, none⟩ = some (.int .i64 E20z0_0) := HEC20.out _ _ HLT20box.out 0 _ rfl
              have qc21_2 : X20.cell? ⟨B20, O20 + i20 * 6 + 1, none⟩ = some (.int .i64 E20z1_0) := HEC20.out _ _ HLT20box.out 1 _ rfl
              have qc21_3 : X20.cell? ⟨B20, O20 + i20 * 6 + 2, none⟩ = some (.int .i64 E20z1_1) := HEC20.out _ _ HLT20box.out 2 _ rfl
              have qc21_4 : X20.cell? ⟨B20, O20 + i20 * 6 + 3, none⟩ = some (.int .i64 E20z1_2) := HEC20.out _ _ HLT20box.out 3 _ rfl
              have qc21_5 : X20.cell? ⟨B20, O20 + i20 * 6 + 4, none⟩ = some (.string E20z1_3) := HEC20.out _ _ HLT20box.out 4 _ rfl
              have qc21_6 : X20.cell? ⟨B20, O20 + i20 * 6 + 5, none⟩ = some (.slice E20z2_a0 E20z2_n0 E20z2_c0) := HEC20.out _ _ HLT20box.out 5 _ rfl
              obtain ⟨C21, hC21⟩ : ∃ C, C = X20.alloc (.cells #[.int .i64 E20z0_0, .int .i64 E20z1_0, .int .i64 E20z1_1, .int .i64 E20z1_2, .string E20z1_3, .slice E20z2_a0 E20z2_n0 E20z2_c0] 79) := ⟨_, rfl⟩
              have HBC21 := Lib.hid (show Below X20.heap.size X20 C21 from by rw [hC21]; exact (Below.refl _ _).alloc (Nat.le_refl _) _)
              have HCC21 := Lib.hid (show ∀ w' v', Grw V20 v' C21 w' → ∀ (j : Nat) u, ([.int .i64 E20z0_0, .int .i64 E20z1_0, .int .i64 E20z1_1, .int .i64 E20z1_2, .string E20z1_3, .slice E20z2_a0 E20z2_n0 E20z2_c0] : List Value)[j]? = some u → w'.cell? ⟨X20.heap.size, j, none⟩ = some u from fun w' v' hg j u hu => by
                refine (hg.cell (a := ⟨X20.heap.size, j, none⟩) (fun e => Nat.lt_irrefl _ (HLR20.out.ge _ e).2) (by show X20.heap.size < C21.heap.size; rw [hC21]; simp)).trans ?_
                rw [hC21]
                have := new_cells X20 [.int .i64 E20z0_0, .int .i64 E20z1_0, .int .i64 E20z1_1, .int .i64 E20z1_2, .string E20z1_3, .slice E20z2_a0 E20z2_n0 E20z2_c0] 79 j u hu
                rw [Addr.add_mid, Nat.zero_add] at this; exact this)
              have HCW21 := Lib.hid hC21
              have HCR21 := Lib.hid (HLR20.out.keep HBC21.out)
              have HT21box := Lib.hid (HLT20box.out.trans (Grw.of_below HBC21.out))
              have HT21cp := Lib.hid (Grw.refl V20 C21)
              clear hC21
              have HD22box := Lib.hid (HT21box.out.trans (Grw.of_below (w' := C21.drew) (Below.refl _ _).drew))
              have HD22cp21 := Lib.hid (HT21cp.out.trans (Grw.of_below (w' := C21.drew) (Below.refl _ _).drew))
              have HKP22 := Lib.hid (show ∀ w' v', Grw V20 v' C21.drew w' → (w'.cell? ⟨X20.heap.size, 0, none⟩ = some (.int .i64 E20z0_0) ∧ w'.cell? ⟨X20.heap.size, 1, none⟩ = some (.int .i64 E20z1_0) ∧ w'.cell? ⟨X20.heap.size, 2, none⟩ = some (.int .i64 E20z1_1) ∧ w'.cell? ⟨X20.heap.size, 3, none⟩ = some (.int .i64 E20z1_2) ∧ w'.cell? ⟨X20.heap.size, 4, none⟩ = some (.string E20z1_3) ∧ w'.cell? ⟨X20.heap.size, 5, none⟩ = some (.slice E20z2_a0 E20z2_n0 E20z2_c0)) from fun w' v' hg =>
                ⟨HCC21.out _ _ (HD22cp21.out.trans hg) 0 _ rfl, HCC21.out _ _ (HD22cp21.out.trans hg) 1 _ rfl, HCC21.out _ _ (HD22cp21.out.trans hg) 2 _ rfl, HCC21.out _ _ (HD22cp21.out.trans hg) 3 _ rfl, HCC21.out _ _ (HD22cp21.out.trans hg) 4 _ rfl, HCC21.out _ _ (HD22cp21.out.trans hg) 5 _ rfl⟩)
              have HIN22 := Lib.hid (HKP22.out _ _ (Grw.refl _ _))
              have HC22 := Lib.hid (rf_num C21.drew base V20 ((enc .num d0 ++ (enc .num d1 ++ (enc .num (z2_n0 : Int) ++ (List.flatMap (enc tTable) d2 ++ (enc .num d3 ++ (enc .num (z4_n0 : Int) ++ (List.flatMap (enc tHold) d4 ++ (enc .num (z5_n0 : Int) ++ List.flatMap (enc tCitation) (List.take i20 d5)))))))))) [.int .i64 E20z0_0] E20d0 (Nat.le_trans HB0.out HD22box.out.chg.size) (HCR21.out.keep (Below.refl _ _).drew) (rd_grw HD22box.out HR0.out HB0.out E20X0.out) (by have := HLG20.out; (try simp only [List.length_append, List.length_nil]); omega))
              go_wp2_with fail
              rw [← HCW21.out]
              clear qc21_0 qc21_1 qc21_2 qc21_3 qc21_4 qc21_5 qc21_6
              go_region_held3 (fun w' => w'.cell? ⟨X20.heap.size, 0, none⟩ = some (.int .i64 E20z0_0) ∧ w'.cell? ⟨X20.heap.size, 1, none⟩ = some (.int .i64 E20z1_0) ∧ w'.cell? ⟨X20.heap.size, 2, none⟩ = some (.int .i64 E20z1_1) ∧ w'.cell? ⟨X20.heap.size, 3, none⟩ = some (.int .i64 E20z1_2) ∧ w'.cell? ⟨X20.heap.size, 4, none⟩ = some (.string E20z1_3) ∧ w'.cell? ⟨X20.heap.size, 5, none⟩ = some (.slice E20z2_a0 E20z2_n0 E20z2_c0)) (first | assumption | exact HIN22.out | exact HKP22.out _ _ hG23 | exact HKP22.out _ _ hG24 | exact HKP22.out _ _ hG25)
                (first | (go_at_call_of 34 V20; refine HC22.out.mono ?_; rintro e w23 ⟨v23, rfl, hr, hg⟩; have hr23 : Row w23 base v23 ((enc .num d0 ++ (enc .num d1 ++ (enc .num (z2_n0 : Int) ++ (List.flatMap (enc tTable) d2 ++ (enc .num d3 ++ (enc .num (z4_n0 : Int) ++ (List.flatMap (enc tHold) d4 ++ (enc .num (z5_n0 : Int) ++ (List.flatMap (enc tCitation) (List.take i20 d5) ++ enc .num E20d0)))))))))) := (by simpa only [List.append_assoc, List.nil_append] using hr); clear hr; have hG23 := hg) | (go_at_call_of 39 v23; refine (rf_Request w23 base v23 ((enc .num d0 ++ (enc .num d1 ++ (enc .num (z2_n0 : Int) ++ (List.flatMap (enc tTable) d2 ++ (enc .num d3 ++ (enc .num (z4_n0 : Int) ++ (List.flatMap (enc tHold) d4 ++ (enc .num (z5_n0 : Int) ++ (List.flatMap (enc tCitation) (List.take i20 d5) ++ enc .num E20d0)))))))))) [.int .i64 E20z1_0, .int .i64 E20z1_1, .int .i64 E20z1_2, .string E20z1_3] E20d1 (Nat.le_trans HB0.out (HD22box.out.trans hG23).chg.size) hr23 (rd_grw (HD22box.out.trans hG23) HR0.out HB0.out E20X1.out) (by have := HLG20.out; (try simp only [List.length_append, List.length_nil]); omega)).mono ?_; rintro e w24 ⟨v24, rfl, hr, hg⟩; have hr24 : Row w24 base v24 ((enc .num d0 ++ (enc .num d1 ++ (enc .num (z2_n0 : Int) ++ (List.flatMap (enc tTable) d2 ++ (enc .num d3 ++ (enc .num (z4_n0 : Int) ++ (List.flatMap (enc tHold) d4 ++ (enc .num (z5_n0 : Int) ++ (List.flatMap (enc tCitation) (List.take i20 d5) ++ (enc .num E20d0 ++ enc tRequest E20d1))))))))))) := (by simpa only [List.append_assoc, List.nil_append] using hr); clear hr; have hG24 := hG23.trans hg) | (go_at_call_of 34 v24; refine (rf_num w24 base v24 ((enc .num d0 ++ (enc .num d1 ++ (enc .num (z2_n0 : Int) ++ (List.flatMap (enc tTable) d2 ++ (enc .num d3 ++ (enc .num (z4_n0 : Int) ++ (List.flatMap (enc tHold) d4 ++ (enc .num (z5_n0 : Int) ++ (List.flatMap (enc tCitation) (List.take i20 d5) ++ (enc .num E20d0 ++ enc tRequest E20d1))))))))))) [.int .i64 (E20z2_n0 : Int)] (E20z2_n0 : Int) (Nat.le_trans HB0.out (HD22box.out.trans hG24).chg.size) hr24 ⟨rfl, E20P2N.out.2.2⟩ (by have := HLG20.out; (try simp only [List.length_append, List.length_nil]); omega)).mono ?_; rintro e w25 ⟨v25, rfl, hr, hg⟩; have hr25 : Row w25 base v25 ((enc .num d0 ++ (enc .num d1 ++ (enc .num (z2_n0 : Int) ++ (List.flatMap (enc tTable) d2 ++ (enc .num d3 ++ (enc .num (z4_n0 : Int) ++ (List.flatMap (enc tHold) d4 ++ (enc .num (z5_n0 : Int) ++ (List.flatMap (enc tCitation) (List.take i20 d5) ++ (enc .num E20d0 ++ (enc tRequest E20d1 ++ enc .num (E20z2_n0 : Int))))))))))))) := (by simpa only [List.append_assoc, List.nil_append] using hr); clear hr; have hG25 := hG24.trans hg) | fail)
              have HRow25 := Lib.hid hr25
              have HT25box := Lib.hid (HD22box.out.trans hG25)
              have HT25cp21 := Lib.hid (HD22cp21.out.trans hG25)
              clear hr23 hG23 hr24 hG24 hr25 hG25
              go_wp2
              go_loopg [3, 10] E20z2_n0 (fun gk t3 t10 wr => ∃ (i : Nat), i ≤ E20z2_n0 ∧ gk + i = E20z2_n0 ∧ t10 = .int .i64 (i : Int) ∧ Row wr base t3 ((enc .num d0 ++ (enc .num d1 ++ (enc .num (z2_n0 : Int) ++ (List.flatMap (enc tTable) d2 ++ (enc .num d3 ++ (enc .num (z4_n0 : Int) ++ (List.flatMap (enc tHold) d4 ++ (enc .num (z5_n0 : Int) ++ (List.flatMap (enc tCitation) (List.take i20 d5) ++ (enc .num E20d0 ++ (enc tRequest E20d1 ++ (enc .num (E20z2_n0 : Int) ++ List.flatMap (enc tRow) (List.take i E20d2)))))))))))))) ∧ Grw (Value.slice none 0 0) t3 W0 wr ∧ Grw V20 t3 C21 wr)
              case atStart => exact ⟨0, by omega, by omega, rfl, by simpa only [List.take_zero, List.flatMap_nil, List.append_nil, List.append_assoc] using HRow25.out, HT25box.out, HT25cp21.out⟩
              case round =>
                generalize gk = GK26 at *
                generalize wr = X26 at *
                generalize u3 = V26 at *
                obtain ⟨i26, hi, hgk, rfl, hrow, gbox, gcp21⟩ := hrel
                have HI26 := Lib.hid (And.intro hi hgk)
                have HLR26 := Lib.hid hrow
                have HLT26box := Lib.hid gbox
                have HLT26cp21 := Lib.hid gcp21
                have hi0_26 : 0 ≤ (i26 : Int) := by omega
                clear hi hgk hrow gbox gcp21
                have ql26 : X26.cell? ⟨X20.heap.size, 5, none⟩ = some (.slice E20z2_a0 E20z2_n0 E20z2_c0) := HCC21.out _ _ HLT26cp21.out 5 _ rfl
                by_cases hin26 : i26 < E20z2_n0
                · have hd1_26 : decide ((i26 : Int) < (E20z2_n0 : Int)) = true := decide_eq_true (by omega)
                  have hi1_26 : (i26 : Int) < (E20z2_n0 : Int) := by omega
                  obtain ⟨y26, hy26⟩ : ∃ y, E20d2[i26]? = some y := ⟨_, List.getElem?_eq_getElem (by have := E20P2N.out.1; omega)⟩
                  rcases E20P2N.out.2.1 with h0 | ⟨B26, O26, haddr26, hbF26, hbl26, hget26⟩
                  · exact absurd h0 (by omega)
                  subst haddr26
                  obtain ⟨ys26, hA26, hyr26⟩ := hget26 i26 y26 hy26
                  have HTK26 := Lib.hid (show List.take (i26 + 1) E20d2 = List.take i26 E20d2 ++ [y26] by rw [List.take_add_one, hy26]; rfl)
                  have HLE26 := Lib.hid (show ((enc .num d0 ++ (enc .num d1 ++ (enc .num (z2_n0 : Int) ++ (List.flatMap (enc tTable) d2 ++ (enc .num d3 ++ (enc .num (z4_n0 : Int) ++ (List.flatMap (enc tHold) d4 ++ (enc .num (z5_n0 : Int) ++ (List.flatMap (enc tCitation) (List.take i20 d5) ++ (enc .num E20d0 ++ (enc tRequest E20d1 ++ (enc .num (E20z2_n0 : Int) ++ List.flatMap (enc tRow) (List.take i26 E20d2)))))))))))))).length + (enc tRow y26).length ≤ 140737488355328 from by
                    have h1 := HLG20.out
                    have h2 : (List.flatMap (enc tRow) E20d2).length = (List.flatMap (enc tRow) (List.take i26 E20d2)).length + ((enc tRow y26).length + (List.flatMap (enc tRow) (List.drop (i26 + 1) E20d2)).length) := by
                      have h4 : E20d2 = List.take i26 E20d2 ++ (y26 :: List.drop (i26 + 1) E20d2) := by
                        have h3 := List.take_append_drop (i26 + 1) E20d2
                        rw [HTK26.out] at h3
                        simpa using h3.symm
                      conv => lhs; rw [h4]
                      rw [List.flatMap_append, List.flatMap_cons, List.length_append, List.length_append]
                    (try simp only [List.length_append] at h1 ⊢); omega)
                  have HEC26 := Lib.hid (show ∀ w' v', Grw (Value.slice none 0 0) v' W0 w' → ∀ (j : Nat) u, ys26[j]? = some u → w'.cell? ⟨B26, O26 + i26 * 2 + j, none⟩ = some u from fun w' v' hg j u hu => ((hg.below HR0.out HB0.out).cell (p := ⟨B26, O26 + i26 * 2 + j, none⟩) hbF26).trans (hA26 j u hu))
                  clear hget26 hA26 hbF26 hbl26 hy26
                  obtain ⟨E26d0, E26d1⟩ := y26
                  obtain ⟨E26u0, E26r0, rfl, E26h0, E26h1⟩ := hyr26
                  dsimp only at E26h0 E26h1
                  obtain ⟨E26z0_a0, E26z0_n0, E26z0_c0, rfl⟩ : ∃ a n c, E26u0 = [.slice a n c] := by obtain ⟨a, n, c, e, _⟩ := id E26h0; exact ⟨a, n, c, e⟩
                  obtain ⟨E26z1_a0, E26z1_n0, E26z1_c0, rfl⟩ : ∃ a n c, E26r0 = [.slice a n c] := by obtain ⟨a, n, c, e, _⟩ := id E26h1; exact ⟨a, n, c, e⟩
                  have E26X0 := Lib.hid E26h0
                  have E26X1 := Lib.hid E26h1
                  clear E26h0 E26h1
                  have henc26 : enc tRow (E26d0, E26d1) = (enc (.list tValue) E26d0 ++ enc (.list .num) E26d1) := by
                    show (enc (.list tValue) E26d0 ++ enc (.list .num) E26d1) = _
                    first | rfl | (simp only [List.append_assoc]; done)
                  have HEE26 := Lib.hid henc26
                  have HLF26 := Lib.hid (show ((enc .num d0 ++ (enc .num d1 ++ (enc .num (z2_n0 : Int) ++ (List.flatMap (enc tTable) d2 ++ (enc .num d3 ++ (enc .num (z4_n0 : Int) ++ (List.flatMap (enc tHold) d4 ++ (enc .num (z5_n0 : Int) ++ (List.flatMap (enc tCitation) (List.take i20 d5) ++ (enc .num E20d0 ++ (enc tRequest E20d1 ++ (enc .num (E20z2_n0 : Int) ++ List.flatMap (enc tRow) (List.take i26 E20d2)))))))))))))).length + ((enc (.list tValue) E26d0 ++ enc (.list .num) E26d1)).length ≤ 140737488355328 from by have h1 := HLE26.out; rw [HEE26.out] at h1; exact h1)
                  have HLG26 := HLF26.out
                  simp only [List.length_append] at HLG26
                  replace HLG26 := Lib.hid HLG26
                  clear henc26
                  have HD27box := Lib.hid (HLT26box.out.trans (Grw.of_below (w' := X26.drew) (Below.refl _ _).drew))
                  have HD27cp21 := Lib.hid (HLT26cp21.out.trans (Grw.of_below (w' := X26.drew) (Below.refl _ _).drew))
                  have HKP27 := Lib.hid (show ∀ w' v', Grw V26 v' X26.drew w' → (w'.cell? ⟨X20.heap.size, 5, none⟩ = some (.slice (some ⟨B26, O26, none⟩) E20z2_n0 E20z2_c0) ∧ w'.cell? ⟨B26, O26 + i26 * 2, none⟩ = some (.slice E26z0_a0 E26z0_n0 E26z0_c0) ∧ w'.cell? ⟨B26, O26 + i26 * 2 + 1, none⟩ = some (.slice E26z1_a0 E26z1_n0 E26z1_c0)) from fun w' v' hg =>
                    ⟨HCC21.out _ _ (HD27cp21.out.trans hg) 5 _ rfl, HEC26.out _ _ (HD27box.out.trans hg) 0 _ rfl, HEC26.out _ _ (HD27box.out.trans hg) 1 _ rfl⟩)
                  have HIN27 := Lib.hid (HKP27.out _ _ (Grw.refl _ _))
                  have HC27 := Lib.hid (rf_Values X26.drew base V26 ((enc .num d0 ++ (enc .num d1 ++ (enc .num (z2_n0 : Int) ++ (List.flatMap (enc tTable) d2 ++ (enc .num d3 ++ (enc .num (z4_n0 : Int) ++ (List.flatMap (enc tHold) d4 ++ (enc .num (z5_n0 : Int) ++ (List.flatMap (enc tCitation) (List.take i20 d5) ++ (enc .num E20d0 ++ (enc tRequest E20d1 ++ (enc .num (E20z2_n0 : Int) ++ List.flatMap (enc tRow) (List.take i26 E20d2)))))))))))))) [.slice E26z0_a0 E26z0_n0 E26z0_c0] E26d0 (Nat.le_trans HB0.out HD27box.out.chg.size) (HLR26.out.keep (Below.refl _ _).drew) (rd_grw HD27box.out HR0.out HB0.out E26X0.out) (by have := HLG26.out; (try simp only [List.length_append, List.length_nil]); omega))
                  go_wp2_with fail
                  go_region_held3 (fun w' => w'.cell? ⟨X20.heap.size, 5, none⟩ = some (.slice (some ⟨B26, O26, none⟩) E20z2_n0 E20z2_c0) ∧ w'.cell? ⟨B26, O26 + i26 * 2, none⟩ = some (.slice E26z0_a0 E26z0_n0 E26z0_c0) ∧ w'.cell? ⟨B26, O26 + i26 * 2 + 1, none⟩ = some (.slice E26z1_a0 E26z1_n0 E26z1_c0)) (first | assumption | exact HIN27.out | exact HKP27.out _ _ hG28 | exact HKP27.out _ _ hG29)
                    (first | (go_at_call_of 37 V26; refine HC27.out.mono ?_; rintro e w28 ⟨v28, rfl, hr, hg⟩; have hr28 : Row w28 base v28 ((enc .num d0 ++ (enc .num d1 ++ (enc .num (z2_n0 : Int) ++ (List.flatMap (enc tTable) d2 ++ (enc .num d3 ++ (enc .num (z4_n0 : Int) ++ (List.flatMap (enc tHold) d4 ++ (enc .num (z5_n0 : Int) ++ (List.flatMap (enc tCitation) (List.take i20 d5) ++ (enc .num E20d0 ++ (enc tRequest E20d1 ++ (enc .num (E20z2_n0 : Int) ++ (List.flatMap (enc tRow) (List.take i26 E20d2) ++ enc (.list tValue) E26d0)))))))))))))) := (by simpa only [List.append_assoc, List.nil_append] using hr); clear hr; have hG28 := hg) | (go_at_call_of 40 v28; refine (rf_ints w28 base v28 ((enc .num d0 ++ (enc .num d1 ++ (enc .num (z2_n0 : Int) ++ (List.flatMap (enc tTable) d2 ++ (enc .num d3 ++ (enc .num (z4_n0 : Int) ++ (List.flatMap (enc tHold) d4 ++ (enc .num (z5_n0 : Int) ++ (List.flatMap (enc tCitation) (List.take i20 d5) ++ (enc .num E20d0 ++ (enc tRequest E20d1 ++ (enc .num (E20z2_n0 : Int) ++ (List.flatMap (enc tRow) (List.take i26 E20d2) ++ enc (.list tValue) E26d0)))))))))))))) [.slice E26z1_a0 E26z1_n0 E26z1_c0] E26d1 (Nat.le_trans HB0.out (HD27box.out.trans hG28).chg.size) hr28 (rd_grw (HD27box.out.trans hG28) HR0.out HB0.out E26X1.out) (by have := HLG26.out; (try simp only [List.length_append, List.length_nil]); omega)).mono ?_; rintro e w29 ⟨v29, rfl, hr, hg⟩; have hr29 : Row w29 base v29 ((enc .num d0 ++ (enc .num d1 ++ (enc .num (z2_n0 : Int) ++ (List.flatMap (enc tTable) d2 ++ (enc .num d3 ++ (enc .num (z4_n0 : Int) ++ (List.flatMap (enc tHold) d4 ++ (enc .num (z5_n0 : Int) ++ (List.flatMap (enc tCitation) (List.take i20 d5) ++ (enc .num E20d0 ++ (enc tRequest E20d1 ++ (enc .num (E20z2_n0 : Int) ++ (List.flatMap (enc tRow) (List.take i26 E20d2) ++ (enc (.list tValue) E26d0 ++ enc (.list .num) E26d1))))))))))))))) := (by simpa only [List.append_assoc, List.nil_append] using hr); clear hr; have hG29 := hG28.trans hg) | fail)
                  have HRow29 := Lib.hid hr29
                  have HT29box := Lib.hid (HD27box.out.trans hG29)
                  have HT29cp21 := Lib.hid (HD27cp21.out.trans hG29)
                  clear hr28 hG28 hr29 hG29
                  have HFR26 := Lib.hid (show Row w29 base v29 ((enc .num d0 ++ (enc .num d1 ++ (enc .num (z2_n0 : Int) ++ (List.flatMap (enc tTable) d2 ++ (enc .num d3 ++ (enc .num (z4_n0 : Int) ++ (List.flatMap (enc tHold) d4 ++ (enc .num (z5_n0 : Int) ++ (List.flatMap (enc tCitation) (List.take i20 d5) ++ (enc .num E20d0 ++ (enc tRequest E20d1 ++ (enc .num (E20z2_n0 : Int) ++ List.flatMap (enc tRow) (List.take (i26 + 1) E20d2)))))))))))))) from by
                    rw [HTK26.out, List.flatMap_append, List.flatMap_cons, List.flatMap_nil, List.append_nil, HEE26.out]
                    simpa only [List.append_assoc, List.flatMap_cons, List.flatMap_nil, List.append_nil] using HRow29.out)
                  go_wp2
                  go_roundg (GK26 - 1)
                  case rel => exact ⟨i26 + 1, by omega, by have := HI26.out; omega, by go_num, HFR26.out, HT29box.out, HT29cp21.out⟩
                  case measure => have := HI26.out; omega
                · obtain rfl : E20z2_n0 = i26 := by have := HI26.out; omega
                  have hd1_26 : decide ((E20z2_n0 : Int) < (E20z2_n0 : Int)) = false := by simp
                  have HXR26 := Lib.hid (show Row X26 base V26 ((enc .num d0 ++ (enc .num d1 ++ (enc .num (z2_n0 : Int) ++ (List.flatMap (enc tTable) d2 ++ (enc .num d3 ++ (enc .num (z4_n0 : Int) ++ (List.flatMap (enc tHold) d4 ++ (enc .num (z5_n0 : Int) ++ (List.flatMap (enc tCitation) (List.take i20 d5) ++ (enc .num E20d0 ++ (enc tRequest E20d1 ++ (enc .num (E20z2_n0 : Int) ++ List.flatMap (enc tRow) E20d2))))))))))))) from by
                    have := HLR26.out
                    rw [E20P2N.out.1, List.take_length, ← E20P2N.out.1] at this
                    exact this)
                  clear hin26
                  have HFR20 := Lib.hid (show Row X26 base V26 ((enc .num d0 ++ (enc .num d1 ++ (enc .num (z2_n0 : Int) ++ (List.flatMap (enc tTable) d2 ++ (enc .num d3 ++ (enc .num (z4_n0 : Int) ++ (List.flatMap (enc tHold) d4 ++ (enc .num (z5_n0 : Int) ++ List.flatMap (enc tCitation) (List.take (i20 + 1) d5)))))))))) from by
                    rw [HTK20.out, List.flatMap_append, List.flatMap_cons, List.flatMap_nil, List.append_nil, HEE20.out]
                    simpa only [List.append_assoc, List.flatMap_cons, List.flatMap_nil, List.append_nil] using HXR26.out)
                  go_wp2
                  go_roundg (GK20 - 1)
                  case rel => exact ⟨i20 + 1, by omega, by have := HI20.out; omega, by go_num, HFR20.out, HLT26box.out⟩
                  case measure => have := HI20.out; omega
            · obtain rfl : z5_n0 = i20 := by have := HI20.out; omega
              have hd1_20 : decide ((z5_n0 : Int) < (z5_n0 : Int)) = false := by simp
              have HXR20 := Lib.hid (show Row X20 base V20 ((enc .num d0 ++ (enc .num d1 ++ (enc .num (z2_n0 : Int) ++ (List.flatMap (enc tTable) d2 ++ (enc .num d3 ++ (enc .num (z4_n0 : Int) ++ (List.flatMap (enc tHold) d4 ++ (enc .num (z5_n0 : Int) ++ List.flatMap (enc tCitation) d5))))))))) from by
                have := HLR20.out
                rw [P5N.out.1, List.take_length, ← P5N.out.1] at this
                exact this)
              clear hin20
              go_wp2
              go_ret
              exact ⟨_, rfl, by rw [← HBASE.out]; exact HXR20.out, HB00.out.trans (by rw [← HBASE.out]; exact HLT20box.out.below HR0.out HB0.out)⟩
end Go.Proofs.YtfppjpmflpaffaaGreat
