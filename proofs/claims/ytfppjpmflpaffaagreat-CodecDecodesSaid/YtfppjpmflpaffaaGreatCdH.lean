/-
  The program's decoder: edits, requests, holds. Printed by gen_cd.py.
-/
import Derived.Test.YtfppjpmflpaffaaGreatCdG
namespace Go.Proofs.YtfppjpmflpaffaaGreat
open Go.RowKit
set_option linter.unusedVariables false
set_option linter.unusedSimpArgs false

set_option maxRecDepth 100000 in
set_option maxHeartbeats 4000000 in
theorem get_Edit : GetC 42 tEdit := by
  intro w rb s h hmod
  obtain ⟨W0, hW0⟩ : ∃ W0, W0 = w.alloc (.cells #[.int .i64 0, .string ⟨#[]⟩, .slice none 0 0, .int .i64 0, .int .i64 0, .slice none 0 0, .int .i64 0, .slice none 0 0, .string ⟨#[]⟩, .slice none 0 0, .slice none 0 0, .slice none 0 0, .slice none 0 0, .int .i64 0, .string ⟨#[]⟩, .int .i64 0] 113) := ⟨_, rfl⟩
  have hb0 : Below w.heap.size w W0 := by rw [hW0]; exact (Below.refl _ _).alloc (Nat.le_refl _) _
  have HLT := Lib.hid (show rb < w.heap.size ∧ W0.heap.size = w.heap.size + 1 from And.intro h.lt (by rw [hW0]; simp))
  have HK0 := Lib.hid (show Blk W0 w.heap.size [.int .i64 0, .string ⟨#[]⟩, .slice none 0 0, .int .i64 0, .int .i64 0, .slice none 0 0, .int .i64 0, .slice none 0 0, .string ⟨#[]⟩, .slice none 0 0, .slice none 0 0, .slice none 0 0, .slice none 0 0, .int .i64 0, .string ⟨#[]⟩, .int .i64 0] from by rw [hW0]; exact Blk.new w _ _)
  have HR0 := Lib.hid (h.below hb0)
  have HC0 := Lib.hid (show Chg (fun b => b = rb ∨ w.heap.size ≤ b) w W0 from Chg.of_below hb0)
  have HW0 := Lib.hid hW0
  obtain ⟨s0, hs0⟩ : ∃ s0, s0 = s := ⟨_, rfl⟩
  rw [← hs0] at HR0
  obtain ⟨x0, s1, hd0⟩ : ∃ x s', dec .num s0 = (x, s') := ⟨_, _, rfl⟩
  obtain ⟨x1, s2, hd1⟩ : ∃ x s', dec .str s1 = (x, s') := ⟨_, _, rfl⟩
  obtain ⟨x2, s3, hd2⟩ : ∃ x s', dec (.list tValue) s2 = (x, s') := ⟨_, _, rfl⟩
  obtain ⟨x3, s4, hd3⟩ : ∃ x s', dec tPeriod s3 = (x, s') := ⟨_, _, rfl⟩
  obtain ⟨x4, s5, hd4⟩ : ∃ x s', dec (.list tExpr) s4 = (x, s') := ⟨_, _, rfl⟩
  obtain ⟨x5, s6, hd5⟩ : ∃ x s', dec .num s5 = (x, s') := ⟨_, _, rfl⟩
  obtain ⟨x6, s7, hd6⟩ : ∃ x s', dec (.list tAssignment) s6 = (x, s') := ⟨_, _, rfl⟩
  obtain ⟨x7, s8, hd7⟩ : ∃ x s', dec tSchema s7 = (x, s') := ⟨_, _, rfl⟩
  obtain ⟨x8, s9, hd8⟩ : ∃ x s', dec tColumn s8 = (x, s') := ⟨_, _, rfl⟩
  have HDEC := Lib.hid (show dec tEdit s = ((x0, (x1, (x2, (x3, (x4, (x5, (x6, (x7, x8)))))))), s9) from by
    rw [← hs0]
    show dec (.pair .num (.pair .str (.pair (.list tValue) (.pair tPeriod (.pair (.list tExpr) (.pair .num (.pair (.list tAssignment) (.pair tSchema tColumn)))))))) s0 = _
    simp only [dec_pair, hd0, hd1, hd2, hd3, hd4, hd5, hd6, hd7, hd8])
  rw [← hs0] at hmod
  obtain ⟨hm0, hm1, hm2, hm3, hm4, hm5, hm6, hm7, hm8⟩ := hmod
  simp only [hd0] at hm1
  simp only [hd0, hd1] at hm2
  simp only [hd0, hd1, hd2] at hm3
  simp only [hd0, hd1, hd2, hd3] at hm4
  simp only [hd0, hd1, hd2, hd3, hd4] at hm5
  simp only [hd0, hd1, hd2, hd3, hd4, hd5] at hm6
  simp only [hd0, hd1, hd2, hd3, hd4, hd5, hd6] at hm7
  simp only [hd0, hd1, hd2, hd3, hd4, hd5, hd6, hd7] at hm8
  have HM0 := Lib.hid hm0
  have HM1 := Lib.hid hm1
  have HM2 := Lib.hid hm2
  have HM3 := Lib.hid hm3
  have HM4 := Lib.hid hm4
  have HM5 := Lib.hid hm5
  have HM6 := Lib.hid hm6
  have HM7 := Lib.hid hm7
  have HM8 := Lib.hid hm8
  have HD0 := Lib.hid hd0
  have HD1 := Lib.hid hd1
  have HD2 := Lib.hid hd2
  have HD3 := Lib.hid hd3
  have HD4 := Lib.hid hd4
  have HD5 := Lib.hid hd5
  have HD6 := Lib.hid hd6
  have HD7 := Lib.hid hd7
  have HD8 := Lib.hid hd8
  clear hm0 hm1 hm2 hm3 hm4 hm5 hm6 hm7 hm8 h hb0 hW0 hs0 hd0 hd1 hd2 hd3 hd4 hd5 hd6 hd7 hd8
  go_enter Tryz.func42, Tryz.ntmps42
  go_wp2_with fail
  rw [← HW0.out]
  refine (get_num W0 rb s0 HR0.out HM0.out).mono ?_
  rintro e w1 ⟨cs, rfl, hr, hs, hc⟩
  rw [HD0.out] at hr hs
  dsimp only at hr hs
  obtain ⟨q0_0, rfl⟩ : ∃ z : Int, cs = [.int .i64 z] := ⟨_, hr.1⟩
  have hg : goV [.int .i64 q0_0] = .int .i64 q0_0 := rfl
  rw [hg]
  clear hg
  obtain ⟨k1, hk1⟩ : ∃ k1, k1 = w1.heap.size := ⟨_, rfl⟩
  obtain ⟨X1, hX1⟩ : ∃ X1, X1 = w1.alloc (.cells #[.int .i64 q0_0, .string ⟨#[]⟩, .slice none 0 0, .int .i64 0, .int .i64 0, .slice none 0 0, .int .i64 0, .slice none 0 0, .string ⟨#[]⟩, .slice none 0 0, .slice none 0 0, .slice none 0 0, .slice none 0 0, .int .i64 0, .string ⟨#[]⟩, .int .i64 0] 113) := ⟨_, rfl⟩
  have hbx : Below w1.heap.size w1 X1 := by rw [hX1]; exact (Below.refl _ _).alloc (Nat.le_refl _) _
  have HLK := Lib.hid (show rb < w.heap.size ∧ w.heap.size < k1 ∧ k1 < X1.heap.size from by
    have h1 := HLT.out; have h2 := hc.size; have h3 : X1.heap.size = w1.heap.size + 1 := by rw [hX1]; simp
    omega)
  have HB1 := Lib.hid (show Blk X1 k1 [.int .i64 q0_0, .string ⟨#[]⟩, .slice none 0 0, .int .i64 0, .int .i64 0, .slice none 0 0, .int .i64 0, .slice none 0 0, .string ⟨#[]⟩, .slice none 0 0, .slice none 0 0, .slice none 0 0, .slice none 0 0, .int .i64 0, .string ⟨#[]⟩, .int .i64 0] from by rw [hX1, hk1]; exact Blk.new w1 _ _)
  have HR1 := Lib.hid (hs.below hbx)
  have HC1 := Lib.hid (show Chg (fun b => b = rb ∨ w.heap.size ≤ b) w X1 from (HC0.out.trans (hc.more (fun b _ e => .inl e))).trans (Chg.of_below hbx))
  have HZ1 := Lib.hid (show Blk X1 w.heap.size [.int .i64 0, .string ⟨#[]⟩, .slice none 0 0, .int .i64 0, .int .i64 0, .slice none 0 0, .int .i64 0, .slice none 0 0, .string ⟨#[]⟩, .slice none 0 0, .slice none 0 0, .slice none 0 0, .slice none 0 0, .int .i64 0, .string ⟨#[]⟩, .int .i64 0] from (HK0.out.chg hc (by have := HLT.out.1; omega)).chg (F := fun _ => False) (Chg.of_below hbx) id)
  have HV0_1 := Lib.hid (show (Ty.rd .num).rd X1 (fun b => w.heap.size ≤ b ∧ b ≠ w.heap.size ∧ b ≠ k1 ∧ b ≠ rb) _ _ from rd_chg .num (K := fun _ => False) (Chg.of_below hbx) (fun b hb hl => ⟨id, by have h1 := HLT.out; omega, by have h1 := HLT.out; omega, by omega, by have h1 := HLT.out; omega⟩) hr)
  have HX1 := Lib.hid hX1
  have HKK := Lib.hid hk1
  clear hr hs hc hX1 hbx hk1
  go_wp2_with fail
  rw [← HKK.out, ← HX1.out]
  refine (get_str X1 rb s1 HR1.out HM1.out).mono ?_
  rintro e w2 ⟨cs, rfl, hr, hs, hc⟩
  rw [HD1.out] at hr hs
  dsimp only at hr hs
  obtain ⟨q1_0, rfl⟩ : ∃ z : ByteArray, cs = [.string z] := ⟨_, hr.1⟩
  have hg : goV [.string q1_0] = .string q1_0 := rfl
  rw [hg]
  clear hg
  have hb' := HB1.out.chg hc (by have := HLK.out; omega)
  have t0 := hb'.cell 1 _ rfl
  have z0 := hb'.free 1
  obtain ⟨X2, hX⟩ : ∃ X, X = (w2.setCell ⟨k1, 1, none⟩ (.string q1_0)) := ⟨_, rfl⟩
  have hcx : Chg (fun b => b = k1) w2 X2 := by
    have g : ∀ (u : World) (j : Nat) (v : Value), Chg (fun b => b = k1) u (u.setCell ⟨k1, j, none⟩ v) := fun u j v => Chg.setCell _ _ rfl
    rw [hX]
    exact (g _ _ _)
  have HB2 := Lib.hid (show Blk X2 k1 [.int .i64 q0_0, .string q1_0, .slice none 0 0, .int .i64 0, .int .i64 0, .slice none 0 0, .int .i64 0, .slice none 0 0, .string ⟨#[]⟩, .slice none 0 0, .slice none 0 0, .slice none 0 0, .slice none 0 0, .int .i64 0, .string ⟨#[]⟩, .int .i64 0] from by rw [hX]; exact (hb'.set 1 (.string q1_0) (by simp)))
  have HR2 := Lib.hid (hs.keep (hcx.more (fun b _ e => by have := HLK.out; omega)))
  have hstep : Chg (fun b => b = rb ∨ b = k1) X1 X2 := (hc.more (fun b _ e => .inl e)).trans (hcx.more (fun b _ e => .inr e))
  have HC2 := Lib.hid (show Chg (fun b => b = rb ∨ w.heap.size ≤ b) w X2 from HC1.out.trans (hstep.more (fun b _ e => e.elim .inl (fun e => .inr (by have := HLK.out; omega)))))
  have HZ2 := Lib.hid (show Blk X2 w.heap.size [.int .i64 0, .string ⟨#[]⟩, .slice none 0 0, .int .i64 0, .int .i64 0, .slice none 0 0, .int .i64 0, .slice none 0 0, .string ⟨#[]⟩, .slice none 0 0, .slice none 0 0, .slice none 0 0, .slice none 0 0, .int .i64 0, .string ⟨#[]⟩, .int .i64 0] from HZ1.out.chg hstep (by have := HLK.out; omega))
  have HV0_2 := Lib.hid (show (Ty.rd .num).rd X2 (fun b => w.heap.size ≤ b ∧ b ≠ w.heap.size ∧ b ≠ k1 ∧ b ≠ rb) _ _ from rd_chg .num hstep (fun b hb hl => ⟨fun e => by have := HLK.out; omega, hb⟩) HV0_1.out)
  have HV1_2 := Lib.hid (show (Ty.rd .str).rd X2 (fun b => w.heap.size ≤ b ∧ b ≠ w.heap.size ∧ b ≠ k1 ∧ b ≠ rb) _ _ from rd_chg .str hcx (fun b hb hl => by have h1 := HLK.out; have h2 := HC1.out.size; have h3 := HB1.out.lt; have hb : X1.heap.size ≤ b := hb; exact ⟨by omega, by omega, by omega, by omega, by omega⟩) hr)
  have HX2 := Lib.hid hX
  clear hr hs hc hb' hcx hstep hX 
  go_wp2_with fail
  rw [← HX2.out]
  refine (read_Value X2 rb s2 HR2.out HM2.out).mono ?_
  rintro e w3 ⟨cs, rfl, hr, hs, hc⟩
  rw [HD2.out] at hr hs
  dsimp only at hr hs
  obtain ⟨q2_a0, q2_n0, q2_c0, rfl⟩ : ∃ a n c, cs = [.slice a n c] := by obtain ⟨a, n, c, e, _⟩ := id hr; exact ⟨a, n, c, e⟩
  have hg : goV [.slice q2_a0 q2_n0 q2_c0] = .slice q2_a0 q2_n0 q2_c0 := rfl
  rw [hg]
  clear hg
  have hb' := HB2.out.chg hc (by have := HLK.out; omega)
  have t0 := hb'.cell 2 _ rfl
  have z0 := hb'.free 2
  obtain ⟨X3, hX⟩ : ∃ X, X = (w3.setCell ⟨k1, 2, none⟩ (.slice q2_a0 q2_n0 q2_c0)) := ⟨_, rfl⟩
  have hcx : Chg (fun b => b = k1) w3 X3 := by
    have g : ∀ (u : World) (j : Nat) (v : Value), Chg (fun b => b = k1) u (u.setCell ⟨k1, j, none⟩ v) := fun u j v => Chg.setCell _ _ rfl
    rw [hX]
    exact (g _ _ _)
  have HB3 := Lib.hid (show Blk X3 k1 [.int .i64 q0_0, .string q1_0, .slice q2_a0 q2_n0 q2_c0, .int .i64 0, .int .i64 0, .slice none 0 0, .int .i64 0, .slice none 0 0, .string ⟨#[]⟩, .slice none 0 0, .slice none 0 0, .slice none 0 0, .slice none 0 0, .int .i64 0, .string ⟨#[]⟩, .int .i64 0] from by rw [hX]; exact (hb'.set 2 (.slice q2_a0 q2_n0 q2_c0) (by simp)))
  have HR3 := Lib.hid (hs.keep (hcx.more (fun b _ e => by have := HLK.out; omega)))
  have hstep : Chg (fun b => b = rb ∨ b = k1) X2 X3 := (hc.more (fun b _ e => .inl e)).trans (hcx.more (fun b _ e => .inr e))
  have HC3 := Lib.hid (show Chg (fun b => b = rb ∨ w.heap.size ≤ b) w X3 from HC2.out.trans (hstep.more (fun b _ e => e.elim .inl (fun e => .inr (by have := HLK.out; omega)))))
  have HZ3 := Lib.hid (show Blk X3 w.heap.size [.int .i64 0, .string ⟨#[]⟩, .slice none 0 0, .int .i64 0, .int .i64 0, .slice none 0 0, .int .i64 0, .slice none 0 0, .string ⟨#[]⟩, .slice none 0 0, .slice none 0 0, .slice none 0 0, .slice none 0 0, .int .i64 0, .string ⟨#[]⟩, .int .i64 0] from HZ2.out.chg hstep (by have := HLK.out; omega))
  have HV0_3 := Lib.hid (show (Ty.rd .num).rd X3 (fun b => w.heap.size ≤ b ∧ b ≠ w.heap.size ∧ b ≠ k1 ∧ b ≠ rb) _ _ from rd_chg .num hstep (fun b hb hl => ⟨fun e => by have := HLK.out; omega, hb⟩) HV0_2.out)
  have HV1_3 := Lib.hid (show (Ty.rd .str).rd X3 (fun b => w.heap.size ≤ b ∧ b ≠ w.heap.size ∧ b ≠ k1 ∧ b ≠ rb) _ _ from rd_chg .str hstep (fun b hb hl => ⟨fun e => by have := HLK.out; omega, hb⟩) HV1_2.out)
  have HV2_3 := Lib.hid (show (Ty.rd (.list tValue)).rd X3 (fun b => w.heap.size ≤ b ∧ b ≠ w.heap.size ∧ b ≠ k1 ∧ b ≠ rb) _ _ from rd_chg (.list tValue) hcx (fun b hb hl => by have h1 := HLK.out; have h2 := HC2.out.size; have h3 := HB2.out.lt; have hb : X2.heap.size ≤ b := hb; exact ⟨by omega, by omega, by omega, by omega, by omega⟩) hr)
  have HX3 := Lib.hid hX
  clear hr hs hc hb' hcx hstep hX 
  go_wp2_with fail
  rw [← HX3.out]
  refine (get_Period X3 rb s3 HR3.out HM3.out).mono ?_
  rintro e w4 ⟨cs, rfl, hr, hs, hc⟩
  rw [HD3.out] at hr hs
  dsimp only at hr hs
  obtain ⟨q3_0, q3_1, rfl⟩ := shape_Period hr
  have hg : goV [.int .i64 q3_0, .int .i64 q3_1] = .agg #[.int .i64 q3_0, .int .i64 q3_1] := rfl
  rw [hg]
  clear hg
  have hb' := HB3.out.chg hc (by have := HLK.out; omega)
  have t0 := hb'.cell 3 _ rfl
  have z0 := hb'.free 3
  have t1 := hb'.cell 4 _ rfl
  have z1 := hb'.free 4
  obtain ⟨X4, hX⟩ : ∃ X, X = ((w4.setCell ⟨k1, 3, none⟩ (.int .i64 q3_0)).setCell ⟨k1, 4, none⟩ (.int .i64 q3_1)) := ⟨_, rfl⟩
  have hcx : Chg (fun b => b = k1) w4 X4 := by
    have g : ∀ (u : World) (j : Nat) (v : Value), Chg (fun b => b = k1) u (u.setCell ⟨k1, j, none⟩ v) := fun u j v => Chg.setCell _ _ rfl
    rw [hX]
    exact (Chg.trans (g _ _ _) (g _ _ _))
  have HB4 := Lib.hid (show Blk X4 k1 [.int .i64 q0_0, .string q1_0, .slice q2_a0 q2_n0 q2_c0, .int .i64 q3_0, .int .i64 q3_1, .slice none 0 0, .int .i64 0, .slice none 0 0, .string ⟨#[]⟩, .slice none 0 0, .slice none 0 0, .slice none 0 0, .slice none 0 0, .int .i64 0, .string ⟨#[]⟩, .int .i64 0] from by rw [hX]; exact ((hb'.set 3 (.int .i64 q3_0) (by simp)).set 4 (.int .i64 q3_1) (by simp)))
  have HR4 := Lib.hid (hs.keep (hcx.more (fun b _ e => by have := HLK.out; omega)))
  have hstep : Chg (fun b => b = rb ∨ b = k1) X3 X4 := (hc.more (fun b _ e => .inl e)).trans (hcx.more (fun b _ e => .inr e))
  have HC4 := Lib.hid (show Chg (fun b => b = rb ∨ w.heap.size ≤ b) w X4 from HC3.out.trans (hstep.more (fun b _ e => e.elim .inl (fun e => .inr (by have := HLK.out; omega)))))
  have HZ4 := Lib.hid (show Blk X4 w.heap.size [.int .i64 0, .string ⟨#[]⟩, .slice none 0 0, .int .i64 0, .int .i64 0, .slice none 0 0, .int .i64 0, .slice none 0 0, .string ⟨#[]⟩, .slice none 0 0, .slice none 0 0, .slice none 0 0, .slice none 0 0, .int .i64 0, .string ⟨#[]⟩, .int .i64 0] from HZ3.out.chg hstep (by have := HLK.out; omega))
  have HV0_4 := Lib.hid (show (Ty.rd .num).rd X4 (fun b => w.heap.size ≤ b ∧ b ≠ w.heap.size ∧ b ≠ k1 ∧ b ≠ rb) _ _ from rd_chg .num hstep (fun b hb hl => ⟨fun e => by have := HLK.out; omega, hb⟩) HV0_3.out)
  have HV1_4 := Lib.hid (show (Ty.rd .str).rd X4 (fun b => w.heap.size ≤ b ∧ b ≠ w.heap.size ∧ b ≠ k1 ∧ b ≠ rb) _ _ from rd_chg .str hstep (fun b hb hl => ⟨fun e => by have := HLK.out; omega, hb⟩) HV1_3.out)
  have HV2_4 := Lib.hid (show (Ty.rd (.list tValue)).rd X4 (fun b => w.heap.size ≤ b ∧ b ≠ w.heap.size ∧ b ≠ k1 ∧ b ≠ rb) _ _ from rd_chg (.list tValue) hstep (fun b hb hl => ⟨fun e => by have := HLK.out; omega, hb⟩) HV2_3.out)
  have HV3_4 := Lib.hid (show (Ty.rd tPeriod).rd X4 (fun b => w.heap.size ≤ b ∧ b ≠ w.heap.size ∧ b ≠ k1 ∧ b ≠ rb) _ _ from rd_chg tPeriod hcx (fun b hb hl => by have h1 := HLK.out; have h2 := HC3.out.size; have h3 := HB3.out.lt; have hb : X3.heap.size ≤ b := hb; exact ⟨by omega, by omega, by omega, by omega, by omega⟩) hr)
  have HX4 := Lib.hid hX
  clear hr hs hc hb' hcx hstep hX 
  go_wp2_with fail
  rw [← HX4.out]
  refine (read_Expr X4 rb s4 HR4.out HM4.out).mono ?_
  rintro e w5 ⟨cs, rfl, hr, hs, hc⟩
  rw [HD4.out] at hr hs
  dsimp only at hr hs
  obtain ⟨q4_a0, q4_n0, q4_c0, rfl⟩ : ∃ a n c, cs = [.slice a n c] := by obtain ⟨a, n, c, e, _⟩ := id hr; exact ⟨a, n, c, e⟩
  have hg : goV [.slice q4_a0 q4_n0 q4_c0] = .slice q4_a0 q4_n0 q4_c0 := rfl
  rw [hg]
  clear hg
  have hb' := HB4.out.chg hc (by have := HLK.out; omega)
  have t0 := hb'.cell 5 _ rfl
  have z0 := hb'.free 5
  obtain ⟨X5, hX⟩ : ∃ X, X = (w5.setCell ⟨k1, 5, none⟩ (.slice q4_a0 q4_n0 q4_c0)) := ⟨_, rfl⟩
  have hcx : Chg (fun b => b = k1) w5 X5 := by
    have g : ∀ (u : World) (j : Nat) (v : Value), Chg (fun b => b = k1) u (u.setCell ⟨k1, j, none⟩ v) := fun u j v => Chg.setCell _ _ rfl
    rw [hX]
    exact (g _ _ _)
  have HB5 := Lib.hid (show Blk X5 k1 [.int .i64 q0_0, .string q1_0, .slice q2_a0 q2_n0 q2_c0, .int .i64 q3_0, .int .i64 q3_1, .slice q4_a0 q4_n0 q4_c0, .int .i64 0, .slice none 0 0, .string ⟨#[]⟩, .slice none 0 0, .slice none 0 0, .slice none 0 0, .slice none 0 0, .int .i64 0, .string ⟨#[]⟩, .int .i64 0] from by rw [hX]; exact (hb'.set 5 (.slice q4_a0 q4_n0 q4_c0) (by simp)))
  have HR5 := Lib.hid (hs.keep (hcx.more (fun b _ e => by have := HLK.out; omega)))
  have hstep : Chg (fun b => b = rb ∨ b = k1) X4 X5 := (hc.more (fun b _ e => .inl e)).trans (hcx.more (fun b _ e => .inr e))
  have HC5 := Lib.hid (show Chg (fun b => b = rb ∨ w.heap.size ≤ b) w X5 from HC4.out.trans (hstep.more (fun b _ e => e.elim .inl (fun e => .inr (by have := HLK.out; omega)))))
  have HZ5 := Lib.hid (show Blk X5 w.heap.size [.int .i64 0, .string ⟨#[]⟩, .slice none 0 0, .int .i64 0, .int .i64 0, .slice none 0 0, .int .i64 0, .slice none 0 0, .string ⟨#[]⟩, .slice none 0 0, .slice none 0 0, .slice none 0 0, .slice none 0 0, .int .i64 0, .string ⟨#[]⟩, .int .i64 0] from HZ4.out.chg hstep (by have := HLK.out; omega))
  have HV0_5 := Lib.hid (show (Ty.rd .num).rd X5 (fun b => w.heap.size ≤ b ∧ b ≠ w.heap.size ∧ b ≠ k1 ∧ b ≠ rb) _ _ from rd_chg .num hstep (fun b hb hl => ⟨fun e => by have := HLK.out; omega, hb⟩) HV0_4.out)
  have HV1_5 := Lib.hid (show (Ty.rd .str).rd X5 (fun b => w.heap.size ≤ b ∧ b ≠ w.heap.size ∧ b ≠ k1 ∧ b ≠ rb) _ _ from rd_chg .str hstep (fun b hb hl => ⟨fun e => by have := HLK.out; omega, hb⟩) HV1_4.out)
  have HV2_5 := Lib.hid (show (Ty.rd (.list tValue)).rd X5 (fun b => w.heap.size ≤ b ∧ b ≠ w.heap.size ∧ b ≠ k1 ∧ b ≠ rb) _ _ from rd_chg (.list tValue) hstep (fun b hb hl => ⟨fun e => by have := HLK.out; omega, hb⟩) HV2_4.out)
  have HV3_5 := Lib.hid (show (Ty.rd tPeriod).rd X5 (fun b => w.heap.size ≤ b ∧ b ≠ w.heap.size ∧ b ≠ k1 ∧ b ≠ rb) _ _ from rd_chg tPeriod hstep (fun b hb hl => ⟨fun e => by have := HLK.out; omega, hb⟩) HV3_4.out)
  have HV4_5 := Lib.hid (show (Ty.rd (.list tExpr)).rd X5 (fun b => w.heap.size ≤ b ∧ b ≠ w.heap.size ∧ b ≠ k1 ∧ b ≠ rb) _ _ from rd_chg (.list tExpr) hcx (fun b hb hl => by have h1 := HLK.out; have h2 := HC4.out.size; have h3 := HB4.out.lt; have hb : X4.heap.size ≤ b := hb; exact ⟨by omega, by omega, by omega, by omega, by omega⟩) hr)
  have HX5 := Lib.hid hX
  clear hr hs hc hb' hcx hstep hX 
  go_wp2_with fail
  rw [← HX5.out]
  refine (get_num X5 rb s5 HR5.out HM5.out).mono ?_
  rintro e w6 ⟨cs, rfl, hr, hs, hc⟩
  rw [HD5.out] at hr hs
  dsimp only at hr hs
  obtain ⟨q5_0, rfl⟩ : ∃ z : Int, cs = [.int .i64 z] := ⟨_, hr.1⟩
  have hg : goV [.int .i64 q5_0] = .int .i64 q5_0 := rfl
  rw [hg]
  clear hg
  have hb' := HB5.out.chg hc (by have := HLK.out; omega)
  have t0 := hb'.cell 6 _ rfl
  have z0 := hb'.free 6
  obtain ⟨X6, hX⟩ : ∃ X, X = (w6.setCell ⟨k1, 6, none⟩ (.int .i64 q5_0)) := ⟨_, rfl⟩
  have hcx : Chg (fun b => b = k1) w6 X6 := by
    have g : ∀ (u : World) (j : Nat) (v : Value), Chg (fun b => b = k1) u (u.setCell ⟨k1, j, none⟩ v) := fun u j v => Chg.setCell _ _ rfl
    rw [hX]
    exact (g _ _ _)
  have HB6 := Lib.hid (show Blk X6 k1 [.int .i64 q0_0, .string q1_0, .slice q2_a0 q2_n0 q2_c0, .int .i64 q3_0, .int .i64 q3_1, .slice q4_a0 q4_n0 q4_c0, .int .i64 q5_0, .slice none 0 0, .string ⟨#[]⟩, .slice none 0 0, .slice none 0 0, .slice none 0 0, .slice none 0 0, .int .i64 0, .string ⟨#[]⟩, .int .i64 0] from by rw [hX]; exact (hb'.set 6 (.int .i64 q5_0) (by simp)))
  have HR6 := Lib.hid (hs.keep (hcx.more (fun b _ e => by have := HLK.out; omega)))
  have hstep : Chg (fun b => b = rb ∨ b = k1) X5 X6 := (hc.more (fun b _ e => .inl e)).trans (hcx.more (fun b _ e => .inr e))
  have HC6 := Lib.hid (show Chg (fun b => b = rb ∨ w.heap.size ≤ b) w X6 from HC5.out.trans (hstep.more (fun b _ e => e.elim .inl (fun e => .inr (by have := HLK.out; omega)))))
  have HZ6 := Lib.hid (show Blk X6 w.heap.size [.int .i64 0, .string ⟨#[]⟩, .slice none 0 0, .int .i64 0, .int .i64 0, .slice none 0 0, .int .i64 0, .slice none 0 0, .string ⟨#[]⟩, .slice none 0 0, .slice none 0 0, .slice none 0 0, .slice none 0 0, .int .i64 0, .string ⟨#[]⟩, .int .i64 0] from HZ5.out.chg hstep (by have := HLK.out; omega))
  have HV0_6 := Lib.hid (show (Ty.rd .num).rd X6 (fun b => w.heap.size ≤ b ∧ b ≠ w.heap.size ∧ b ≠ k1 ∧ b ≠ rb) _ _ from rd_chg .num hstep (fun b hb hl => ⟨fun e => by have := HLK.out; omega, hb⟩) HV0_5.out)
  have HV1_6 := Lib.hid (show (Ty.rd .str).rd X6 (fun b => w.heap.size ≤ b ∧ b ≠ w.heap.size ∧ b ≠ k1 ∧ b ≠ rb) _ _ from rd_chg .str hstep (fun b hb hl => ⟨fun e => by have := HLK.out; omega, hb⟩) HV1_5.out)
  have HV2_6 := Lib.hid (show (Ty.rd (.list tValue)).rd X6 (fun b => w.heap.size ≤ b ∧ b ≠ w.heap.size ∧ b ≠ k1 ∧ b ≠ rb) _ _ from rd_chg (.list tValue) hstep (fun b hb hl => ⟨fun e => by have := HLK.out; omega, hb⟩) HV2_5.out)
  have HV3_6 := Lib.hid (show (Ty.rd tPeriod).rd X6 (fun b => w.heap.size ≤ b ∧ b ≠ w.heap.size ∧ b ≠ k1 ∧ b ≠ rb) _ _ from rd_chg tPeriod hstep (fun b hb hl => ⟨fun e => by have := HLK.out; omega, hb⟩) HV3_5.out)
  have HV4_6 := Lib.hid (show (Ty.rd (.list tExpr)).rd X6 (fun b => w.heap.size ≤ b ∧ b ≠ w.heap.size ∧ b ≠ k1 ∧ b ≠ rb) _ _ from rd_chg (.list tExpr) hstep (fun b hb hl => ⟨fun e => by have := HLK.out; omega, hb⟩) HV4_5.out)
  have HV5_6 := Lib.hid (show (Ty.rd .num).rd X6 (fun b => w.heap.size ≤ b ∧ b ≠ w.heap.size ∧ b ≠ k1 ∧ b ≠ rb) _ _ from rd_chg .num hcx (fun b hb hl => by have h1 := HLK.out; have h2 := HC5.out.size; have h3 := HB5.out.lt; have hb : X5.heap.size ≤ b := hb; exact ⟨by omega, by omega, by omega, by omega, by omega⟩) hr)
  have HX6 := Lib.hid hX
  clear hr hs hc hb' hcx hstep hX 
  go_wp2_with fail
  rw [← HX6.out]
  refine (read_Assignment X6 rb s6 HR6.out HM6.out).mono ?_
  rintro e w7 ⟨cs, rfl, hr, hs, hc⟩
  rw [HD6.out] at hr hs
  dsimp only at hr hs
  obtain ⟨q6_a0, q6_n0, q6_c0, rfl⟩ : ∃ a n c, cs = [.slice a n c] := by obtain ⟨a, n, c, e, _⟩ := id hr; exact ⟨a, n, c, e⟩
  have hg : goV [.slice q6_a0 q6_n0 q6_c0] = .slice q6_a0 q6_n0 q6_c0 := rfl
  rw [hg]
  clear hg
  have hb' := HB6.out.chg hc (by have := HLK.out; omega)
  have t0 := hb'.cell 7 _ rfl
  have z0 := hb'.free 7
  obtain ⟨X7, hX⟩ : ∃ X, X = (w7.setCell ⟨k1, 7, none⟩ (.slice q6_a0 q6_n0 q6_c0)) := ⟨_, rfl⟩
  have hcx : Chg (fun b => b = k1) w7 X7 := by
    have g : ∀ (u : World) (j : Nat) (v : Value), Chg (fun b => b = k1) u (u.setCell ⟨k1, j, none⟩ v) := fun u j v => Chg.setCell _ _ rfl
    rw [hX]
    exact (g _ _ _)
  have HB7 := Lib.hid (show Blk X7 k1 [.int .i64 q0_0, .string q1_0, .slice q2_a0 q2_n0 q2_c0, .int .i64 q3_0, .int .i64 q3_1, .slice q4_a0 q4_n0 q4_c0, .int .i64 q5_0, .slice q6_a0 q6_n0 q6_c0, .string ⟨#[]⟩, .slice none 0 0, .slice none 0 0, .slice none 0 0, .slice none 0 0, .int .i64 0, .string ⟨#[]⟩, .int .i64 0] from by rw [hX]; exact (hb'.set 7 (.slice q6_a0 q6_n0 q6_c0) (by simp)))
  have HR7 := Lib.hid (hs.keep (hcx.more (fun b _ e => by have := HLK.out; omega)))
  have hstep : Chg (fun b => b = rb ∨ b = k1) X6 X7 := (hc.more (fun b _ e => .inl e)).trans (hcx.more (fun b _ e => .inr e))
  have HC7 := Lib.hid (show Chg (fun b => b = rb ∨ w.heap.size ≤ b) w X7 from HC6.out.trans (hstep.more (fun b _ e => e.elim .inl (fun e => .inr (by have := HLK.out; omega)))))
  have HZ7 := Lib.hid (show Blk X7 w.heap.size [.int .i64 0, .string ⟨#[]⟩, .slice none 0 0, .int .i64 0, .int .i64 0, .slice none 0 0, .int .i64 0, .slice none 0 0, .string ⟨#[]⟩, .slice none 0 0, .slice none 0 0, .slice none 0 0, .slice none 0 0, .int .i64 0, .string ⟨#[]⟩, .int .i64 0] from HZ6.out.chg hstep (by have := HLK.out; omega))
  have HV0_7 := Lib.hid (show (Ty.rd .num).rd X7 (fun b => w.heap.size ≤ b ∧ b ≠ w.heap.size ∧ b ≠ k1 ∧ b ≠ rb) _ _ from rd_chg .num hstep (fun b hb hl => ⟨fun e => by have := HLK.out; omega, hb⟩) HV0_6.out)
  have HV1_7 := Lib.hid (show (Ty.rd .str).rd X7 (fun b => w.heap.size ≤ b ∧ b ≠ w.heap.size ∧ b ≠ k1 ∧ b ≠ rb) _ _ from rd_chg .str hstep (fun b hb hl => ⟨fun e => by have := HLK.out; omega, hb⟩) HV1_6.out)
  have HV2_7 := Lib.hid (show (Ty.rd (.list tValue)).rd X7 (fun b => w.heap.size ≤ b ∧ b ≠ w.heap.size ∧ b ≠ k1 ∧ b ≠ rb) _ _ from rd_chg (.list tValue) hstep (fun b hb hl => ⟨fun e => by have := HLK.out; omega, hb⟩) HV2_6.out)
  have HV3_7 := Lib.hid (show (Ty.rd tPeriod).rd X7 (fun b => w.heap.size ≤ b ∧ b ≠ w.heap.size ∧ b ≠ k1 ∧ b ≠ rb) _ _ from rd_chg tPeriod hstep (fun b hb hl => ⟨fun e => by have := HLK.out; omega, hb⟩) HV3_6.out)
  have HV4_7 := Lib.hid (show (Ty.rd (.list tExpr)).rd X7 (fun b => w.heap.size ≤ b ∧ b ≠ w.heap.size ∧ b ≠ k1 ∧ b ≠ rb) _ _ from rd_chg (.list tExpr) hstep (fun b hb hl => ⟨fun e => by have := HLK.out; omega, hb⟩) HV4_6.out)
  have HV5_7 := Lib.hid (show (Ty.rd .num).rd X7 (fun b => w.heap.size ≤ b ∧ b ≠ w.heap.size ∧ b ≠ k1 ∧ b ≠ rb) _ _ from rd_chg .num hstep (fun b hb hl => ⟨fun e => by have := HLK.out; omega, hb⟩) HV5_6.out)
  have HV6_7 := Lib.hid (show (Ty.rd (.list tAssignment)).rd X7 (fun b => w.heap.size ≤ b ∧ b ≠ w.heap.size ∧ b ≠ k1 ∧ b ≠ rb) _ _ from rd_chg (.list tAssignment) hcx (fun b hb hl => by have h1 := HLK.out; have h2 := HC6.out.size; have h3 := HB6.out.lt; have hb : X6.heap.size ≤ b := hb; exact ⟨by omega, by omega, by omega, by omega, by omega⟩) hr)
  have HX7 := Lib.hid hX
  clear hr hs hc hb' hcx hstep hX 
  go_wp2_with fail
  rw [← HX7.out]
  refine (get_Schema X7 rb s7 HR7.out HM7.out).mono ?_
  rintro e w8 ⟨cs, rfl, hr, hs, hc⟩
  rw [HD7.out] at hr hs
  dsimp only at hr hs
  obtain ⟨q7_0, q7_a1, q7_n1, q7_c1, q7_a2, q7_n2, q7_c2, q7_a3, q7_n3, q7_c3, q7_a4, q7_n4, q7_c4, rfl⟩ := shape_Schema hr
  have hg : goV [.string q7_0, .slice q7_a1 q7_n1 q7_c1, .slice q7_a2 q7_n2 q7_c2, .slice q7_a3 q7_n3 q7_c3, .slice q7_a4 q7_n4 q7_c4] = .agg #[.string q7_0, .slice q7_a1 q7_n1 q7_c1, .slice q7_a2 q7_n2 q7_c2, .slice q7_a3 q7_n3 q7_c3, .slice q7_a4 q7_n4 q7_c4] := rfl
  rw [hg]
  clear hg
  have hb' := HB7.out.chg hc (by have := HLK.out; omega)
  have t0 := hb'.cell 8 _ rfl
  have z0 := hb'.free 8
  have t1 := hb'.cell 9 _ rfl
  have z1 := hb'.free 9
  have t2 := hb'.cell 10 _ rfl
  have z2 := hb'.free 10
  have t3 := hb'.cell 11 _ rfl
  have z3 := hb'.free 11
  have t4 := hb'.cell 12 _ rfl
  have z4 := hb'.free 12
  obtain ⟨X8, hX⟩ : ∃ X, X = (((((w8.setCell ⟨k1, 8, none⟩ (.string q7_0)).setCell ⟨k1, 9, none⟩ (.slice q7_a1 q7_n1 q7_c1)).setCell ⟨k1, 10, none⟩ (.slice q7_a2 q7_n2 q7_c2)).setCell ⟨k1, 11, none⟩ (.slice q7_a3 q7_n3 q7_c3)).setCell ⟨k1, 12, none⟩ (.slice q7_a4 q7_n4 q7_c4)) := ⟨_, rfl⟩
  have hcx : Chg (fun b => b = k1) w8 X8 := by
    have g : ∀ (u : World) (j : Nat) (v : Value), Chg (fun b => b = k1) u (u.setCell ⟨k1, j, none⟩ v) := fun u j v => Chg.setCell _ _ rfl
    rw [hX]
    exact (Chg.trans (Chg.trans (Chg.trans (Chg.trans (g _ _ _) (g _ _ _)) (g _ _ _)) (g _ _ _)) (g _ _ _))
  have HB8 := Lib.hid (show Blk X8 k1 [.int .i64 q0_0, .string q1_0, .slice q2_a0 q2_n0 q2_c0, .int .i64 q3_0, .int .i64 q3_1, .slice q4_a0 q4_n0 q4_c0, .int .i64 q5_0, .slice q6_a0 q6_n0 q6_c0, .string q7_0, .slice q7_a1 q7_n1 q7_c1, .slice q7_a2 q7_n2 q7_c2, .slice q7_a3 q7_n3 q7_c3, .slice q7_a4 q7_n4 q7_c4, .int .i64 0, .string ⟨#[]⟩, .int .i64 0] from by rw [hX]; exact (((((hb'.set 8 (.string q7_0) (by simp)).set 9 (.slice q7_a1 q7_n1 q7_c1) (by simp)).set 10 (.slice q7_a2 q7_n2 q7_c2) (by simp)).set 11 (.slice q7_a3 q7_n3 q7_c3) (by simp)).set 12 (.slice q7_a4 q7_n4 q7_c4) (by simp)))
  have HR8 := Lib.hid (hs.keep (hcx.more (fun b _ e => by have := HLK.out; omega)))
  have hstep : Chg (fun b => b = rb ∨ b = k1) X7 X8 := (hc.more (fun b _ e => .inl e)).trans (hcx.more (fun b _ e => .inr e))
  have HC8 := Lib.hid (show Chg (fun b => b = rb ∨ w.heap.size ≤ b) w X8 from HC7.out.trans (hstep.more (fun b _ e => e.elim .inl (fun e => .inr (by have := HLK.out; omega)))))
  have HZ8 := Lib.hid (show Blk X8 w.heap.size [.int .i64 0, .string ⟨#[]⟩, .slice none 0 0, .int .i64 0, .int .i64 0, .slice none 0 0, .int .i64 0, .slice none 0 0, .string ⟨#[]⟩, .slice none 0 0, .slice none 0 0, .slice none 0 0, .slice none 0 0, .int .i64 0, .string ⟨#[]⟩, .int .i64 0] from HZ7.out.chg hstep (by have := HLK.out; omega))
  have HV0_8 := Lib.hid (show (Ty.rd .num).rd X8 (fun b => w.heap.size ≤ b ∧ b ≠ w.heap.size ∧ b ≠ k1 ∧ b ≠ rb) _ _ from rd_chg .num hstep (fun b hb hl => ⟨fun e => by have := HLK.out; omega, hb⟩) HV0_7.out)
  have HV1_8 := Lib.hid (show (Ty.rd .str).rd X8 (fun b => w.heap.size ≤ b ∧ b ≠ w.heap.size ∧ b ≠ k1 ∧ b ≠ rb) _ _ from rd_chg .str hstep (fun b hb hl => ⟨fun e => by have := HLK.out; omega, hb⟩) HV1_7.out)
  have HV2_8 := Lib.hid (show (Ty.rd (.list tValue)).rd X8 (fun b => w.heap.size ≤ b ∧ b ≠ w.heap.size ∧ b ≠ k1 ∧ b ≠ rb) _ _ from rd_chg (.list tValue) hstep (fun b hb hl => ⟨fun e => by have := HLK.out; omega, hb⟩) HV2_7.out)
  have HV3_8 := Lib.hid (show (Ty.rd tPeriod).rd X8 (fun b => w.heap.size ≤ b ∧ b ≠ w.heap.size ∧ b ≠ k1 ∧ b ≠ rb) _ _ from rd_chg tPeriod hstep (fun b hb hl => ⟨fun e => by have := HLK.out; omega, hb⟩) HV3_7.out)
  have HV4_8 := Lib.hid (show (Ty.rd (.list tExpr)).rd X8 (fun b => w.heap.size ≤ b ∧ b ≠ w.heap.size ∧ b ≠ k1 ∧ b ≠ rb) _ _ from rd_chg (.list tExpr) hstep (fun b hb hl => ⟨fun e => by have := HLK.out; omega, hb⟩) HV4_7.out)
  have HV5_8 := Lib.hid (show (Ty.rd .num).rd X8 (fun b => w.heap.size ≤ b ∧ b ≠ w.heap.size ∧ b ≠ k1 ∧ b ≠ rb) _ _ from rd_chg .num hstep (fun b hb hl => ⟨fun e => by have := HLK.out; omega, hb⟩) HV5_7.out)
  have HV6_8 := Lib.hid (show (Ty.rd (.list tAssignment)).rd X8 (fun b => w.heap.size ≤ b ∧ b ≠ w.heap.size ∧ b ≠ k1 ∧ b ≠ rb) _ _ from rd_chg (.list tAssignment) hstep (fun b hb hl => ⟨fun e => by have := HLK.out; omega, hb⟩) HV6_7.out)
  have HV7_8 := Lib.hid (show (Ty.rd tSchema).rd X8 (fun b => w.heap.size ≤ b ∧ b ≠ w.heap.size ∧ b ≠ k1 ∧ b ≠ rb) _ _ from rd_chg tSchema hcx (fun b hb hl => by have h1 := HLK.out; have h2 := HC7.out.size; have h3 := HB7.out.lt; have hb : X7.heap.size ≤ b := hb; exact ⟨by omega, by omega, by omega, by omega, by omega⟩) hr)
  have HX8 := Lib.hid hX
  clear hr hs hc hb' hcx hstep hX 
  go_wp2_with fail
  rw [← HX8.out]
  refine (get_Column X8 rb s8 HR8.out HM8.out).mono ?_
  rintro e w9 ⟨cs, rfl, hr, hs, hc⟩
  rw [HD8.out] at hr hs
  dsimp only at hr hs
  obtain ⟨q8_0, q8_1, q8_2, rfl⟩ := shape_Column hr
  have hg : goV [.int .i64 q8_0, .string q8_1, .int .i64 q8_2] = .agg #[.int .i64 q8_0, .string q8_1, .int .i64 q8_2] := rfl
  rw [hg]
  clear hg
  have hb' := HB8.out.chg hc (by have := HLK.out; omega)
  have t0 := hb'.cell 13 _ rfl
  have z0 := hb'.free 13
  have t1 := hb'.cell 14 _ rfl
  have z1 := hb'.free 14
  have t2 := hb'.cell 15 _ rfl
  have z2 := hb'.free 15
  obtain ⟨X9, hX⟩ : ∃ X, X = (((w9.setCell ⟨k1, 13, none⟩ (.int .i64 q8_0)).setCell ⟨k1, 14, none⟩ (.string q8_1)).setCell ⟨k1, 15, none⟩ (.int .i64 q8_2)) := ⟨_, rfl⟩
  have hcx : Chg (fun b => b = k1) w9 X9 := by
    have g : ∀ (u : World) (j : Nat) (v : Value), Chg (fun b => b = k1) u (u.setCell ⟨k1, j, none⟩ v) := fun u j v => Chg.setCell _ _ rfl
    rw [hX]
    exact (Chg.trans (Chg.trans (g _ _ _) (g _ _ _)) (g _ _ _))
  have HB9 := Lib.hid (show Blk X9 k1 [.int .i64 q0_0, .string q1_0, .slice q2_a0 q2_n0 q2_c0, .int .i64 q3_0, .int .i64 q3_1, .slice q4_a0 q4_n0 q4_c0, .int .i64 q5_0, .slice q6_a0 q6_n0 q6_c0, .string q7_0, .slice q7_a1 q7_n1 q7_c1, .slice q7_a2 q7_n2 q7_c2, .slice q7_a3 q7_n3 q7_c3, .slice q7_a4 q7_n4 q7_c4, .int .i64 q8_0, .string q8_1, .int .i64 q8_2] from by rw [hX]; exact (((hb'.set 13 (.int .i64 q8_0) (by simp)).set 14 (.string q8_1) (by simp)).set 15 (.int .i64 q8_2) (by simp)))
  have HR9 := Lib.hid (hs.keep (hcx.more (fun b _ e => by have := HLK.out; omega)))
  have hstep : Chg (fun b => b = rb ∨ b = k1) X8 X9 := (hc.more (fun b _ e => .inl e)).trans (hcx.more (fun b _ e => .inr e))
  have HC9 := Lib.hid (show Chg (fun b => b = rb ∨ w.heap.size ≤ b) w X9 from HC8.out.trans (hstep.more (fun b _ e => e.elim .inl (fun e => .inr (by have := HLK.out; omega)))))
  have HZ9 := Lib.hid (show Blk X9 w.heap.size [.int .i64 0, .string ⟨#[]⟩, .slice none 0 0, .int .i64 0, .int .i64 0, .slice none 0 0, .int .i64 0, .slice none 0 0, .string ⟨#[]⟩, .slice none 0 0, .slice none 0 0, .slice none 0 0, .slice none 0 0, .int .i64 0, .string ⟨#[]⟩, .int .i64 0] from HZ8.out.chg hstep (by have := HLK.out; omega))
  have HV0_9 := Lib.hid (show (Ty.rd .num).rd X9 (fun b => w.heap.size ≤ b ∧ b ≠ w.heap.size ∧ b ≠ k1 ∧ b ≠ rb) _ _ from rd_chg .num hstep (fun b hb hl => ⟨fun e => by have := HLK.out; omega, hb⟩) HV0_8.out)
  have HV1_9 := Lib.hid (show (Ty.rd .str).rd X9 (fun b => w.heap.size ≤ b ∧ b ≠ w.heap.size ∧ b ≠ k1 ∧ b ≠ rb) _ _ from rd_chg .str hstep (fun b hb hl => ⟨fun e => by have := HLK.out; omega, hb⟩) HV1_8.out)
  have HV2_9 := Lib.hid (show (Ty.rd (.list tValue)).rd X9 (fun b => w.heap.size ≤ b ∧ b ≠ w.heap.size ∧ b ≠ k1 ∧ b ≠ rb) _ _ from rd_chg (.list tValue) hstep (fun b hb hl => ⟨fun e => by have := HLK.out; omega, hb⟩) HV2_8.out)
  have HV3_9 := Lib.hid (show (Ty.rd tPeriod).rd X9 (fun b => w.heap.size ≤ b ∧ b ≠ w.heap.size ∧ b ≠ k1 ∧ b ≠ rb) _ _ from rd_chg tPeriod hstep (fun b hb hl => ⟨fun e => by have := HLK.out; omega, hb⟩) HV3_8.out)
  have HV4_9 := Lib.hid (show (Ty.rd (.list tExpr)).rd X9 (fun b => w.heap.size ≤ b ∧ b ≠ w.heap.size ∧ b ≠ k1 ∧ b ≠ rb) _ _ from rd_chg (.list tExpr) hstep (fun b hb hl => ⟨fun e => by have := HLK.out; omega, hb⟩) HV4_8.out)
  have HV5_9 := Lib.hid (show (Ty.rd .num).rd X9 (fun b => w.heap.size ≤ b ∧ b ≠ w.heap.size ∧ b ≠ k1 ∧ b ≠ rb) _ _ from rd_chg .num hstep (fun b hb hl => ⟨fun e => by have := HLK.out; omega, hb⟩) HV5_8.out)
  have HV6_9 := Lib.hid (show (Ty.rd (.list tAssignment)).rd X9 (fun b => w.heap.size ≤ b ∧ b ≠ w.heap.size ∧ b ≠ k1 ∧ b ≠ rb) _ _ from rd_chg (.list tAssignment) hstep (fun b hb hl => ⟨fun e => by have := HLK.out; omega, hb⟩) HV6_8.out)
  have HV7_9 := Lib.hid (show (Ty.rd tSchema).rd X9 (fun b => w.heap.size ≤ b ∧ b ≠ w.heap.size ∧ b ≠ k1 ∧ b ≠ rb) _ _ from rd_chg tSchema hstep (fun b hb hl => ⟨fun e => by have := HLK.out; omega, hb⟩) HV7_8.out)
  have HV8_9 := Lib.hid (show (Ty.rd tColumn).rd X9 (fun b => w.heap.size ≤ b ∧ b ≠ w.heap.size ∧ b ≠ k1 ∧ b ≠ rb) _ _ from rd_chg tColumn hcx (fun b hb hl => by have h1 := HLK.out; have h2 := HC8.out.size; have h3 := HB8.out.lt; have hb : X8.heap.size ≤ b := hb; exact ⟨by omega, by omega, by omega, by omega, by omega⟩) hr)
  have HX9 := Lib.hid hX
  clear hr hs hc hb' hcx hstep hX 
  go_upto_region 10 with fail
  rw [← HX9.out]
  have q0 := HB9.out.cell 0 _ rfl
  have zc0 := HZ9.out.cell 0 _ rfl
  have zf0 := HZ9.out.free 0
  have q1 := HB9.out.cell 1 _ rfl
  have zc1 := HZ9.out.cell 1 _ rfl
  have zf1 := HZ9.out.free 1
  have q2 := HB9.out.cell 2 _ rfl
  have zc2 := HZ9.out.cell 2 _ rfl
  have zf2 := HZ9.out.free 2
  have q3 := HB9.out.cell 3 _ rfl
  have zc3 := HZ9.out.cell 3 _ rfl
  have zf3 := HZ9.out.free 3
  have q4 := HB9.out.cell 4 _ rfl
  have zc4 := HZ9.out.cell 4 _ rfl
  have zf4 := HZ9.out.free 4
  have q5 := HB9.out.cell 5 _ rfl
  have zc5 := HZ9.out.cell 5 _ rfl
  have zf5 := HZ9.out.free 5
  have q6 := HB9.out.cell 6 _ rfl
  have zc6 := HZ9.out.cell 6 _ rfl
  have zf6 := HZ9.out.free 6
  have q7 := HB9.out.cell 7 _ rfl
  have zc7 := HZ9.out.cell 7 _ rfl
  have zf7 := HZ9.out.free 7
  have q8 := HB9.out.cell 8 _ rfl
  have zc8 := HZ9.out.cell 8 _ rfl
  have zf8 := HZ9.out.free 8
  have q9 := HB9.out.cell 9 _ rfl
  have zc9 := HZ9.out.cell 9 _ rfl
  have zf9 := HZ9.out.free 9
  have q10 := HB9.out.cell 10 _ rfl
  have zc10 := HZ9.out.cell 10 _ rfl
  have zf10 := HZ9.out.free 10
  have q11 := HB9.out.cell 11 _ rfl
  have zc11 := HZ9.out.cell 11 _ rfl
  have zf11 := HZ9.out.free 11
  have q12 := HB9.out.cell 12 _ rfl
  have zc12 := HZ9.out.cell 12 _ rfl
  have zf12 := HZ9.out.free 12
  have q13 := HB9.out.cell 13 _ rfl
  have zc13 := HZ9.out.cell 13 _ rfl
  have zf13 := HZ9.out.free 13
  have q14 := HB9.out.cell 14 _ rfl
  have zc14 := HZ9.out.cell 14 _ rfl
  have zf14 := HZ9.out.free 14
  have q15 := HB9.out.cell 15 _ rfl
  have zc15 := HZ9.out.cell 15 _ rfl
  have zf15 := HZ9.out.free 15
  go_wp2
  obtain ⟨Wf, hWf⟩ : ∃ Wf, Wf = ((((((((((((((((X9.setCell ⟨w.heap.size, 0, none⟩ (.int .i64 q0_0)).setCell ⟨w.heap.size, 1, none⟩ (.string q1_0)).setCell ⟨w.heap.size, 2, none⟩ (.slice q2_a0 q2_n0 q2_c0)).setCell ⟨w.heap.size, 3, none⟩ (.int .i64 q3_0)).setCell ⟨w.heap.size, 4, none⟩ (.int .i64 q3_1)).setCell ⟨w.heap.size, 5, none⟩ (.slice q4_a0 q4_n0 q4_c0)).setCell ⟨w.heap.size, 6, none⟩ (.int .i64 q5_0)).setCell ⟨w.heap.size, 7, none⟩ (.slice q6_a0 q6_n0 q6_c0)).setCell ⟨w.heap.size, 8, none⟩ (.string q7_0)).setCell ⟨w.heap.size, 9, none⟩ (.slice q7_a1 q7_n1 q7_c1)).setCell ⟨w.heap.size, 10, none⟩ (.slice q7_a2 q7_n2 q7_c2)).setCell ⟨w.heap.size, 11, none⟩ (.slice q7_a3 q7_n3 q7_c3)).setCell ⟨w.heap.size, 12, none⟩ (.slice q7_a4 q7_n4 q7_c4)).setCell ⟨w.heap.size, 13, none⟩ (.int .i64 q8_0)).setCell ⟨w.heap.size, 14, none⟩ (.string q8_1)).setCell ⟨w.heap.size, 15, none⟩ (.int .i64 q8_2)) := ⟨_, rfl⟩
  rw [← hWf]
  have hcf : Chg (fun b => b = w.heap.size) X9 Wf := by
    have g : ∀ (u : World) (j : Nat) (v : Value), Chg (fun b => b = w.heap.size) u (u.setCell ⟨w.heap.size, j, none⟩ v) := fun u j v => Chg.setCell _ _ rfl
    rw [hWf]
    exact (Chg.trans (Chg.trans (Chg.trans (Chg.trans (Chg.trans (Chg.trans (Chg.trans (Chg.trans (Chg.trans (Chg.trans (Chg.trans (Chg.trans (Chg.trans (Chg.trans (Chg.trans (g _ _ _) (g _ _ _)) (g _ _ _)) (g _ _ _)) (g _ _ _)) (g _ _ _)) (g _ _ _)) (g _ _ _)) (g _ _ _)) (g _ _ _)) (g _ _ _)) (g _ _ _)) (g _ _ _)) (g _ _ _)) (g _ _ _)) (g _ _ _))
  have HBF := Lib.hid (show Blk Wf w.heap.size [.int .i64 q0_0, .string q1_0, .slice q2_a0 q2_n0 q2_c0, .int .i64 q3_0, .int .i64 q3_1, .slice q4_a0 q4_n0 q4_c0, .int .i64 q5_0, .slice q6_a0 q6_n0 q6_c0, .string q7_0, .slice q7_a1 q7_n1 q7_c1, .slice q7_a2 q7_n2 q7_c2, .slice q7_a3 q7_n3 q7_c3, .slice q7_a4 q7_n4 q7_c4, .int .i64 q8_0, .string q8_1, .int .i64 q8_2] from by rw [hWf]; exact ((((((((((((((((HZ9.out.set 0 (.int .i64 q0_0) (by simp)).set 1 (.string q1_0) (by simp)).set 2 (.slice q2_a0 q2_n0 q2_c0) (by simp)).set 3 (.int .i64 q3_0) (by simp)).set 4 (.int .i64 q3_1) (by simp)).set 5 (.slice q4_a0 q4_n0 q4_c0) (by simp)).set 6 (.int .i64 q5_0) (by simp)).set 7 (.slice q6_a0 q6_n0 q6_c0) (by simp)).set 8 (.string q7_0) (by simp)).set 9 (.slice q7_a1 q7_n1 q7_c1) (by simp)).set 10 (.slice q7_a2 q7_n2 q7_c2) (by simp)).set 11 (.slice q7_a3 q7_n3 q7_c3) (by simp)).set 12 (.slice q7_a4 q7_n4 q7_c4) (by simp)).set 13 (.int .i64 q8_0) (by simp)).set 14 (.string q8_1) (by simp)).set 15 (.int .i64 q8_2) (by simp)))
  clear hWf q0 zc0 zf0 q1 zc1 zf1 q2 zc2 zf2 q3 zc3 zf3 q4 zc4 zf4 q5 zc5 zf5 q6 zc6 zf6 q7 zc7 zf7 q8 zc8 zf8 q9 zc9 zf9 q10 zc10 zf10 q11 zc11 zf11 q12 zc12 zf12 q13 zc13 zf13 q14 zc14 zf14 q15 zc15 zf15
  have sc0 := HBF.out.cell 0 _ rfl
  have sc1 := HBF.out.cell 1 _ rfl
  have sc2 := HBF.out.cell 2 _ rfl
  have sc3 := HBF.out.cell 3 _ rfl
  have sc4 := HBF.out.cell 4 _ rfl
  have sc5 := HBF.out.cell 5 _ rfl
  have sc6 := HBF.out.cell 6 _ rfl
  have sc7 := HBF.out.cell 7 _ rfl
  have sc8 := HBF.out.cell 8 _ rfl
  have sc9 := HBF.out.cell 9 _ rfl
  have sc10 := HBF.out.cell 10 _ rfl
  have sc11 := HBF.out.cell 11 _ rfl
  have sc12 := HBF.out.cell 12 _ rfl
  have sc13 := HBF.out.cell 13 _ rfl
  have sc14 := HBF.out.cell 14 _ rfl
  have sc15 := HBF.out.cell 15 _ rfl
  refine bodyPost_ret (v := .agg #[.int .i64 q0_0, .string q1_0, .slice q2_a0 q2_n0 q2_c0, .int .i64 q3_0, .int .i64 q3_1, .slice q4_a0 q4_n0 q4_c0, .int .i64 q5_0, .slice q6_a0 q6_n0 q6_c0, .string q7_0, .slice q7_a1 q7_n1 q7_c1, .slice q7_a2 q7_n2 q7_c2, .slice q7_a3 q7_n3 q7_c3, .slice q7_a4 q7_n4 q7_c4, .int .i64 q8_0, .string q8_1, .int .i64 q8_2]) (by simp [sc0, sc1, sc2, sc3, sc4, sc5, sc6, sc7, sc8, sc9, sc10, sc11, sc12, sc13, sc14, sc15, results, Tryz.results42, go_sem]) rfl ?_
  refine ⟨[.int .i64 q0_0, .string q1_0, .slice q2_a0 q2_n0 q2_c0, .int .i64 q3_0, .int .i64 q3_1, .slice q4_a0 q4_n0 q4_c0, .int .i64 q5_0, .slice q6_a0 q6_n0 q6_c0, .string q7_0, .slice q7_a1 q7_n1 q7_c1, .slice q7_a2 q7_n2 q7_c2, .slice q7_a3 q7_n3 q7_c3, .slice q7_a4 q7_n4 q7_c4, .int .i64 q8_0, .string q8_1, .int .i64 q8_2], rfl, ?_, ?_, ?_⟩
  · rw [HDEC.out]
    have h0 : (Ty.rd .num).rd Wf (w.heap.size ≤ ·) _ _ := rd_chg .num hcf (fun b hb hl => ⟨hb.2.1, hb.1⟩) HV0_9.out
    have h1 : (Ty.rd .str).rd Wf (w.heap.size ≤ ·) _ _ := rd_chg .str hcf (fun b hb hl => ⟨hb.2.1, hb.1⟩) HV1_9.out
    have h2 : (Ty.rd (.list tValue)).rd Wf (w.heap.size ≤ ·) _ _ := rd_chg (.list tValue) hcf (fun b hb hl => ⟨hb.2.1, hb.1⟩) HV2_9.out
    have h3 : (Ty.rd tPeriod).rd Wf (w.heap.size ≤ ·) _ _ := rd_chg tPeriod hcf (fun b hb hl => ⟨hb.2.1, hb.1⟩) HV3_9.out
    have h4 : (Ty.rd (.list tExpr)).rd Wf (w.heap.size ≤ ·) _ _ := rd_chg (.list tExpr) hcf (fun b hb hl => ⟨hb.2.1, hb.1⟩) HV4_9.out
    have h5 : (Ty.rd .num).rd Wf (w.heap.size ≤ ·) _ _ := rd_chg .num hcf (fun b hb hl => ⟨hb.2.1, hb.1⟩) HV5_9.out
    have h6 : (Ty.rd (.list tAssignment)).rd Wf (w.heap.size ≤ ·) _ _ := rd_chg (.list tAssignment) hcf (fun b hb hl => ⟨hb.2.1, hb.1⟩) HV6_9.out
    have h7 : (Ty.rd tSchema).rd Wf (w.heap.size ≤ ·) _ _ := rd_chg tSchema hcf (fun b hb hl => ⟨hb.2.1, hb.1⟩) HV7_9.out
    have h8 : (Ty.rd tColumn).rd Wf (w.heap.size ≤ ·) _ _ := rd_chg tColumn hcf (fun b hb hl => ⟨hb.2.1, hb.1⟩) HV8_9.out
    exact ⟨_, _, rfl, h0, _, _, rfl, h1, _, _, rfl, h2, _, _, rfl, h3, _, _, rfl, h4, _, _, rfl, h5, _, _, rfl, h6, _, _, rfl, h7, h8⟩
  · rw [HDEC.out]; exact HR9.out.keep (hcf.more (fun b _ e => by have := HLK.out; omega))
  · exact (HC9.out.trans (hcf.more (fun b _ e => .inr (by omega)))).more (fun b hb e => e.elim id (fun e => by omega))

theorem info_read_Edit : (Tryz.prog.info? 113).map (fun i => (i.zero, i.size, i.bytes)) = some (some ((.agg #[.int .i64 0, .string ⟨#[]⟩, .slice none 0 0, .int .i64 0, .int .i64 0, .slice none 0 0, .int .i64 0, .slice none 0 0, .string ⟨#[]⟩, .slice none 0 0, .slice none 0 0, .slice none 0 0, .slice none 0 0, .int .i64 0, .string ⟨#[]⟩, .int .i64 0])), 16, 264) := by kernel_rfl

set_option maxRecDepth 100000 in
set_option maxHeartbeats 4000000 in
theorem read_Edit : ReadC 41 42 tEdit := by
  intro w rb s h hmod
  obtain ⟨i0, hi0, hz0, hz1, hz2⟩ := info_parts info_read_Edit
  obtain ⟨n, s1, hn⟩ : ∃ n s', dsize s = (n, s') := ⟨_, _, rfl⟩
  have hs := cd_size h
  rw [hn] at hs
  obtain ⟨hm1, hm2⟩ := hmod
  rw [hn] at hm1 hm2
  replace hm1 : n ≤ 1073741824 := hm1
  obtain ⟨L, S', hLS⟩ : ∃ L S', dmany (dec tEdit) n s1 = (L, S') := ⟨_, _, rfl⟩
  have HDEC := Lib.hid (show dec (.list tEdit) s = (L, S') from by show dmany (dec tEdit) (dsize s).1 (dsize s).2 = _; rw [hn]; exact hLS)
  have HSZ := Lib.hid hs
  have HM := Lib.hid hm2
  have HM1 := Lib.hid hm1
  have HLS := Lib.hid hLS
  have HLT := Lib.hid h.lt
  have hn0 : 0 ≤ (n : Int) ∧ (n : Int) ≤ 1073741824 := by omega
  clear h hs hm1 hm2 hn hLS
  go_enter Tryz.func41, Tryz.ntmps41
  go_wp2_with fail
  refine HSZ.out.mono ?_
  rintro e w1 ⟨rfl, hr, hc⟩
  have HR1 := Lib.hid (show Rdr w1 rb s1 from hr)
  have HC1 := Lib.hid hc
  clear hr hc
  go_wp2
  go_loopg [5, 6] n (fun gk t5 t6 wr => ∃ (k : Nat) (sc : St) (l : List (Ty.T tEdit)) (xs : List Value), gk = k ∧ t6 = .int .i64 (k : Int) ∧ Rdr wr rb sc ∧ Rows tEdit 113 16 w.heap.size wr t5 l xs ∧ ModMany (Mod tEdit) (dec tEdit) k sc ∧ l.length + k ≤ n ∧ l ++ (dmany (dec tEdit) k sc).1 = L ∧ (dmany (dec tEdit) k sc).2 = S' ∧ Chg (fun b => b = rb ∨ w.heap.size ≤ b) w wr)
  case atStart =>
    exact ⟨n, s1, [], [], rfl, rfl, HR1.out, ⟨World.ownsRow_nil _ _ _ _, rarr_nil _ _ _⟩, HM.out, by simp, by rw [HLS.out]; rfl, by rw [HLS.out], HC1.out.more (fun b _ e => .inl e)⟩
  case round =>
    obtain ⟨k, sc, l, xs, rfl, rfl, hr, hrow, hm, hle, hL, hS, hc⟩ := hrel
    have HR := Lib.hid hr
    have HROW := Lib.hid hrow
    have HMM := Lib.hid hm
    have HLE := Lib.hid hle
    have HL := Lib.hid hL
    have HS := Lib.hid hS
    have HC := Lib.hid hc
    have hk0 : 0 ≤ (gk : Int) ∧ (gk : Int) ≤ 1073741824 := by have := HM1.out; omega
    clear hr hrow hm hle hL hS hc
    by_cases hk : gk = 0
    · subst hk
      have HLL := Lib.hid (show l = L from by have := HL.out; simpa [dmany] using this)
      have HSS := Lib.hid (show Rdr wr rb S' from by have := HS.out; rw [← this]; exact HR.out)
      have HFIN := Lib.hid (show (Ty.rd (.list tEdit)).rd wr (w.heap.size ≤ ·) [_] L from by
        have := rd_own HROW.out.row (Rd.more _ (fun b hb => hb.1) HROW.out.arr) (F := (w.heap.size ≤ ·)) (fun b hb _ => hb)
        rw [HLL.out] at this
        exact this)
      go_wp2
      go_ret
      refine ⟨[_], rfl, ?_, ?_, HC.out.more (fun b hb e => e.elim id (fun e => by omega))⟩
      · rw [HDEC.out]; exact HFIN.out
      · rw [HDEC.out]; exact HSS.out
    · have hd1 : decide ((0 : Int) < (gk : Int)) = true := decide_eq_true (by omega)
      cases sc with
      | error e =>
        obtain ⟨c0, c1, he⟩ := HR.out.bad e rfl
        have g0 : (e == 0) = false := by rcases he with rfl | rfl <;> rfl
        have HLL := Lib.hid (show l = L from by have := HL.out; rw [dmany_error] at this; simpa using this)
        have HSS := Lib.hid (show Rdr wr rb S' from by have := HS.out; rw [dmany_error] at this; rw [← this]; exact HR.out)
        clear he
        have HFIN := Lib.hid (show (Ty.rd (.list tEdit)).rd wr (w.heap.size ≤ ·) [_] L from by
          have := rd_own HROW.out.row (Rd.more _ (fun b hb => hb.1) HROW.out.arr) (F := (w.heap.size ≤ ·)) (fun b hb _ => hb)
          rw [HLL.out] at this
          exact this)
        go_wp2
        go_ret
        refine ⟨[_], rfl, ?_, ?_, HC.out.more (fun b hb e => e.elim id (fun e => by omega))⟩
        · rw [HDEC.out]; exact HFIN.out
        · rw [HDEC.out]; exact HSS.out
      | ok r =>
        obtain ⟨v, c0, c1, -, -⟩ := HR.out.ok r rfl
        obtain ⟨k', rfl⟩ : ∃ k', gk = k' + 1 := ⟨gk - 1, by omega⟩
        obtain ⟨x, s2, hd⟩ : ∃ x s', dec tEdit (.ok r) = (x, s') := ⟨_, _, rfl⟩
        have HD := Lib.hid hd
        have HL2 := Lib.hid (show (l ++ [x]) ++ (dmany (dec tEdit) k' s2).1 = L ∧ (dmany (dec tEdit) k' s2).2 = S' from by
          have h1 := HL.out; have h2 := HS.out
          rw [dmany] at h1 h2
          simp only [hd] at h1 h2
          exact ⟨by simpa using h1, h2⟩)
        have HM2 := Lib.hid (show Mod tEdit (.ok r) ∧ ModMany (Mod tEdit) (dec tEdit) k' s2 from by
          have h1 := HMM.out
          rw [ModMany] at h1
          simp only [hd] at h1
          exact h1)
        clear hd
        go_wp2_with fail
        refine (get_Edit wr rb (.ok r) HR.out HM2.out.1).mono ?_
        rintro e w2 ⟨cs, rfl, hr, hs, hc⟩
        rw [HD.out] at hr hs
        dsimp only at hr hs
        obtain ⟨q_0, q_1, q_a2, q_n2, q_c2, q_3, q_4, q_a5, q_n5, q_c5, q_6, q_a7, q_n7, q_c7, q_8, q_a9, q_n9, q_c9, q_a10, q_n10, q_c10, q_a11, q_n11, q_c11, q_a12, q_n12, q_c12, q_13, q_14, q_15, rfl⟩ := shape_Edit hr
        have hg : goV [.int .i64 q_0, .string q_1, .slice q_a2 q_n2 q_c2, .int .i64 q_3, .int .i64 q_4, .slice q_a5 q_n5 q_c5, .int .i64 q_6, .slice q_a7 q_n7 q_c7, .string q_8, .slice q_a9 q_n9 q_c9, .slice q_a10 q_n10 q_c10, .slice q_a11 q_n11 q_c11, .slice q_a12 q_n12 q_c12, .int .i64 q_13, .string q_14, .int .i64 q_15] = .agg #[.int .i64 q_0, .string q_1, .slice q_a2 q_n2 q_c2, .int .i64 q_3, .int .i64 q_4, .slice q_a5 q_n5 q_c5, .int .i64 q_6, .slice q_a7 q_n7 q_c7, .string q_8, .slice q_a9 q_n9 q_c9, .slice q_a10 q_n10 q_c10, .slice q_a11 q_n11 q_c11, .slice q_a12 q_n12 q_c12, .int .i64 q_13, .string q_14, .int .i64 q_15] := rfl
        rw [hg]
        have HX := Lib.hid hr
        have HR2 := Lib.hid hs
        have HC2 := Lib.hid hc
        have HB3 := Lib.hid (show Below w2.heap.size w2 (w2.alloc (.cells #[.int .i64 q_0, .string q_1, .slice q_a2 q_n2 q_c2, .int .i64 q_3, .int .i64 q_4, .slice q_a5 q_n5 q_c5, .int .i64 q_6, .slice q_a7 q_n7 q_c7, .string q_8, .slice q_a9 q_n9 q_c9, .slice q_a10 q_n10 q_c10, .slice q_a11 q_n11 q_c11, .slice q_a12 q_n12 q_c12, .int .i64 q_13, .string q_14, .int .i64 q_15] 113)) from (Below.refl _ _).alloc (Nat.le_refl _) _)
        have HROW2 := Lib.hid (show (w2.alloc (.cells #[.int .i64 q_0, .string q_1, .slice q_a2 q_n2 q_c2, .int .i64 q_3, .int .i64 q_4, .slice q_a5 q_n5 q_c5, .int .i64 q_6, .slice q_a7 q_n7 q_c7, .string q_8, .slice q_a9 q_n9 q_c9, .slice q_a10 q_n10 q_c10, .slice q_a11 q_n11 q_c11, .slice q_a12 q_n12 q_c12, .int .i64 q_13, .string q_14, .int .i64 q_15] 113)).ownsRow w.heap.size 113 16 _ l.length xs from ownk_chg (ownk_chg HROW.out.row hc (fun b e hb => by have := (ownk_ge HROW.out.row b e).1; have := HLT.out; omega)) (F := fun _ => False) (Chg.of_below HB3.out) (fun _ _ e => e))
        have HBS := Lib.hid (show w.heap.size ≤ (w2.alloc (.cells #[.int .i64 q_0, .string q_1, .slice q_a2 q_n2 q_c2, .int .i64 q_3, .int .i64 q_4, .slice q_a5 q_n5 q_c5, .int .i64 q_6, .slice q_a7 q_n7 q_c7, .string q_8, .slice q_a9 q_n9 q_c9, .slice q_a10 q_n10 q_c10, .slice q_a11 q_n11 q_c11, .slice q_a12 q_n12 q_c12, .int .i64 q_13, .string q_14, .int .i64 q_15] 113)).heap.size from by have := HC.out.size; have := HC2.out.size; simp; omega)
        clear hg hr hs hc
        go_wp2_with (at_builtin; refine wpList_append_o rfl _ _ 39 rfl w.heap.size 113 i0 _ 16 264 Tryz.underlying39 hi0 hz0 hz1 hz2 rfl (by decide) _ l.length xs rfl HROW2.out _ 1 [.int .i64 q_0, .string q_1, .slice q_a2 q_n2 q_c2, .int .i64 q_3, .int .i64 q_4, .slice q_a5 q_n5 q_c5, .int .i64 q_6, .slice q_a7 q_n7 q_c7, .string q_8, .slice q_a9 q_n9 q_c9, .slice q_a10 q_n10 q_c10, .slice q_a11 q_n11 q_c11, .slice q_a12 q_n12 q_c12, .int .i64 q_13, .string q_14, .int .i64 q_15] rfl (sl_cells1 w2 _ _ rfl) (fun _ _ h => by cases h) (by simp [Value.oneCell']) (by have := HLE.out; have := HM1.out; unfold maxLen; omega) (by have := HLE.out; have := HM1.out; omega) HBS.out ?_)
        intro v' w4 h1 h2 h3
        have HROWS := Lib.hid (HROW.out.snoc HLT.out HC.out.size HC2.out HX.out HB3.out h1 h2 (by rw [World.size_alloc]; exact h3))
        have h24 := Chg.grown (F := fun b => w.heap.size ≤ b) h2 (fun b e => (ownk_ge HROW.out.row b e).1)
        have HR4 := Lib.hid ((HR2.out.below HB3.out).keep (h24.more (fun b _ e => by have := HLT.out; omega)))
        have HC4 := Lib.hid (show Chg (fun b => b = rb ∨ w.heap.size ≤ b) w w4 from ((HC.out.trans (HC2.out.more (fun b _ e => .inl e))).trans (Chg.of_below HB3.out)).trans (h24.more (fun b _ e => .inr e)))
        clear h1 h2 h3 h24
        go_wp2
        go_roundg k'
        case rel => exact ⟨k', s2, l ++ [x], _, rfl, by go_num, HR4.out, HROWS.out, HM2.out.2, by have := HLE.out; simp; omega, HL2.out.1, HL2.out.2, HC4.out⟩
        case measure => omega

set_option maxRecDepth 100000 in
set_option maxHeartbeats 4000000 in
theorem get_Request : GetC 43 tRequest := by
  intro w rb s h hmod
  obtain ⟨W0, hW0⟩ : ∃ W0, W0 = w.alloc (.cells #[.int .i64 0, .int .i64 0, .int .i64 0, .string ⟨#[]⟩] 41) := ⟨_, rfl⟩
  have hb0 : Below w.heap.size w W0 := by rw [hW0]; exact (Below.refl _ _).alloc (Nat.le_refl _) _
  have HLT := Lib.hid (show rb < w.heap.size ∧ W0.heap.size = w.heap.size + 1 from And.intro h.lt (by rw [hW0]; simp))
  have HK0 := Lib.hid (show Blk W0 w.heap.size [.int .i64 0, .int .i64 0, .int .i64 0, .string ⟨#[]⟩] from by rw [hW0]; exact Blk.new w _ _)
  have HR0 := Lib.hid (h.below hb0)
  have HC0 := Lib.hid (show Chg (fun b => b = rb ∨ w.heap.size ≤ b) w W0 from Chg.of_below hb0)
  have HW0 := Lib.hid hW0
  obtain ⟨s0, hs0⟩ : ∃ s0, s0 = s := ⟨_, rfl⟩
  rw [← hs0] at HR0
  obtain ⟨x0, s1, hd0⟩ : ∃ x s', dec .num s0 = (x, s') := ⟨_, _, rfl⟩
  obtain ⟨x1, s2, hd1⟩ : ∃ x s', dec .num s1 = (x, s') := ⟨_, _, rfl⟩
  obtain ⟨x2, s3, hd2⟩ : ∃ x s', dec .num s2 = (x, s') := ⟨_, _, rfl⟩
  obtain ⟨x3, s4, hd3⟩ : ∃ x s', dec .str s3 = (x, s') := ⟨_, _, rfl⟩
  have HDEC := Lib.hid (show dec tRequest s = ((x0, (x1, (x2, x3))), s4) from by
    rw [← hs0]
    show dec (.pair .num (.pair .num (.pair .num .str))) s0 = _
    simp only [dec_pair, hd0, hd1, hd2, hd3])
  rw [← hs0] at hmod
  obtain ⟨hm0, hm1, hm2, hm3⟩ := hmod
  simp only [hd0] at hm1
  simp only [hd0, hd1] at hm2
  simp only [hd0, hd1, hd2] at hm3
  have HM0 := Lib.hid hm0
  have HM1 := Lib.hid hm1
  have HM2 := Lib.hid hm2
  have HM3 := Lib.hid hm3
  have HD0 := Lib.hid hd0
  have HD1 := Lib.hid hd1
  have HD2 := Lib.hid hd2
  have HD3 := Lib.hid hd3
  clear hm0 hm1 hm2 hm3 h hb0 hW0 hs0 hd0 hd1 hd2 hd3
  go_enter Tryz.func43, Tryz.ntmps43
  go_wp2_with fail
  rw [← HW0.out]
  refine (get_num W0 rb s0 HR0.out HM0.out).mono ?_
  rintro e w1 ⟨cs, rfl, hr, hs, hc⟩
  rw [HD0.out] at hr hs
  dsimp only at hr hs
  obtain ⟨q0_0, rfl⟩ : ∃ z : Int, cs = [.int .i64 z] := ⟨_, hr.1⟩
  have hg : goV [.int .i64 q0_0] = .int .i64 q0_0 := rfl
  rw [hg]
  clear hg
  obtain ⟨k1, hk1⟩ : ∃ k1, k1 = w1.heap.size := ⟨_, rfl⟩
  obtain ⟨X1, hX1⟩ : ∃ X1, X1 = w1.alloc (.cells #[.int .i64 q0_0, .int .i64 0, .int .i64 0, .string ⟨#[]⟩] 41) := ⟨_, rfl⟩
  have hbx : Below w1.heap.size w1 X1 := by rw [hX1]; exact (Below.refl _ _).alloc (Nat.le_refl _) _
  have HLK := Lib.hid (show rb < w.heap.size ∧ w.heap.size < k1 ∧ k1 < X1.heap.size from by
    have h1 := HLT.out; have h2 := hc.size; have h3 : X1.heap.size = w1.heap.size + 1 := by rw [hX1]; simp
    omega)
  have HB1 := Lib.hid (show Blk X1 k1 [.int .i64 q0_0, .int .i64 0, .int .i64 0, .string ⟨#[]⟩] from by rw [hX1, hk1]; exact Blk.new w1 _ _)
  have HR1 := Lib.hid (hs.below hbx)
  have HC1 := Lib.hid (show Chg (fun b => b = rb ∨ w.heap.size ≤ b) w X1 from (HC0.out.trans (hc.more (fun b _ e => .inl e))).trans (Chg.of_below hbx))
  have HZ1 := Lib.hid (show Blk X1 w.heap.size [.int .i64 0, .int .i64 0, .int .i64 0, .string ⟨#[]⟩] from (HK0.out.chg hc (by have := HLT.out.1; omega)).chg (F := fun _ => False) (Chg.of_below hbx) id)
  have HV0_1 := Lib.hid (show (Ty.rd .num).rd X1 (fun b => w.heap.size ≤ b ∧ b ≠ w.heap.size ∧ b ≠ k1 ∧ b ≠ rb) _ _ from rd_chg .num (K := fun _ => False) (Chg.of_below hbx) (fun b hb hl => ⟨id, by have h1 := HLT.out; omega, by have h1 := HLT.out; omega, by omega, by have h1 := HLT.out; omega⟩) hr)
  have HX1 := Lib.hid hX1
  have HKK := Lib.hid hk1
  clear hr hs hc hX1 hbx hk1
  go_wp2_with fail
  rw [← HKK.out, ← HX1.out]
  refine (get_num X1 rb s1 HR1.out HM1.out).mono ?_
  rintro e w2 ⟨cs, rfl, hr, hs, hc⟩
  rw [HD1.out] at hr hs
  dsimp only at hr hs
  obtain ⟨q1_0, rfl⟩ : ∃ z : Int, cs = [.int .i64 z] := ⟨_, hr.1⟩
  have hg : goV [.int .i64 q1_0] = .int .i64 q1_0 := rfl
  rw [hg]
  clear hg
  have hb' := HB1.out.chg hc (by have := HLK.out; omega)
  have t0 := hb'.cell 1 _ rfl
  have z0 := hb'.free 1
  obtain ⟨X2, hX⟩ : ∃ X, X = (w2.setCell ⟨k1, 1, none⟩ (.int .i64 q1_0)) := ⟨_, rfl⟩
  have hcx : Chg (fun b => b = k1) w2 X2 := by
    have g : ∀ (u : World) (j : Nat) (v : Value), Chg (fun b => b = k1) u (u.setCell ⟨k1, j, none⟩ v) := fun u j v => Chg.setCell _ _ rfl
    rw [hX]
    exact (g _ _ _)
  have HB2 := Lib.hid (show Blk X2 k1 [.int .i64 q0_0, .int .i64 q1_0, .int .i64 0, .string ⟨#[]⟩] from by rw [hX]; exact (hb'.set 1 (.int .i64 q1_0) (by simp)))
  have HR2 := Lib.hid (hs.keep (hcx.more (fun b _ e => by have := HLK.out; omega)))
  have hstep : Chg (fun b => b = rb ∨ b = k1) X1 X2 := (hc.more (fun b _ e => .inl e)).trans (hcx.more (fun b _ e => .inr e))
  have HC2 := Lib.hid (show Chg (fun b => b = rb ∨ w.heap.size ≤ b) w X2 from HC1.out.trans (hstep.more (fun b _ e => e.elim .inl (fun e => .inr (by have := HLK.out; omega)))))
  have HZ2 := Lib.hid (show Blk X2 w.heap.size [.int .i64 0, .int .i64 0, .int .i64 0, .string ⟨#[]⟩] from HZ1.out.chg hstep (by have := HLK.out; omega))
  have HV0_2 := Lib.hid (show (Ty.rd .num).rd X2 (fun b => w.heap.size ≤ b ∧ b ≠ w.heap.size ∧ b ≠ k1 ∧ b ≠ rb) _ _ from rd_chg .num hstep (fun b hb hl => ⟨fun e => by have := HLK.out; omega, hb⟩) HV0_1.out)
  have HV1_2 := Lib.hid (show (Ty.rd .num).rd X2 (fun b => w.heap.size ≤ b ∧ b ≠ w.heap.size ∧ b ≠ k1 ∧ b ≠ rb) _ _ from rd_chg .num hcx (fun b hb hl => by have h1 := HLK.out; have h2 := HC1.out.size; have h3 := HB1.out.lt; have hb : X1.heap.size ≤ b := hb; exact ⟨by omega, by omega, by omega, by omega, by omega⟩) hr)
  have HX2 := Lib.hid hX
  clear hr hs hc hb' hcx hstep hX 
  go_wp2_with fail
  rw [← HX2.out]
  refine (get_num X2 rb s2 HR2.out HM2.out).mono ?_
  rintro e w3 ⟨cs, rfl, hr, hs, hc⟩
  rw [HD2.out] at hr hs
  dsimp only at hr hs
  obtain ⟨q2_0, rfl⟩ : ∃ z : Int, cs = [.int .i64 z] := ⟨_, hr.1⟩
  have hg : goV [.int .i64 q2_0] = .int .i64 q2_0 := rfl
  rw [hg]
  clear hg
  have hb' := HB2.out.chg hc (by have := HLK.out; omega)
  have t0 := hb'.cell 2 _ rfl
  have z0 := hb'.free 2
  obtain ⟨X3, hX⟩ : ∃ X, X = (w3.setCell ⟨k1, 2, none⟩ (.int .i64 q2_0)) := ⟨_, rfl⟩
  have hcx : Chg (fun b => b = k1) w3 X3 := by
    have g : ∀ (u : World) (j : Nat) (v : Value), Chg (fun b => b = k1) u (u.setCell ⟨k1, j, none⟩ v) := fun u j v => Chg.setCell _ _ rfl
    rw [hX]
    exact (g _ _ _)
  have HB3 := Lib.hid (show Blk X3 k1 [.int .i64 q0_0, .int .i64 q1_0, .int .i64 q2_0, .string ⟨#[]⟩] from by rw [hX]; exact (hb'.set 2 (.int .i64 q2_0) (by simp)))
  have HR3 := Lib.hid (hs.keep (hcx.more (fun b _ e => by have := HLK.out; omega)))
  have hstep : Chg (fun b => b = rb ∨ b = k1) X2 X3 := (hc.more (fun b _ e => .inl e)).trans (hcx.more (fun b _ e => .inr e))
  have HC3 := Lib.hid (show Chg (fun b => b = rb ∨ w.heap.size ≤ b) w X3 from HC2.out.trans (hstep.more (fun b _ e => e.elim .inl (fun e => .inr (by have := HLK.out; omega)))))
  have HZ3 := Lib.hid (show Blk X3 w.heap.size [.int .i64 0, .int .i64 0, .int .i64 0, .string ⟨#[]⟩] from HZ2.out.chg hstep (by have := HLK.out; omega))
  have HV0_3 := Lib.hid (show (Ty.rd .num).rd X3 (fun b => w.heap.size ≤ b ∧ b ≠ w.heap.size ∧ b ≠ k1 ∧ b ≠ rb) _ _ from rd_chg .num hstep (fun b hb hl => ⟨fun e => by have := HLK.out; omega, hb⟩) HV0_2.out)
  have HV1_3 := Lib.hid (show (Ty.rd .num).rd X3 (fun b => w.heap.size ≤ b ∧ b ≠ w.heap.size ∧ b ≠ k1 ∧ b ≠ rb) _ _ from rd_chg .num hstep (fun b hb hl => ⟨fun e => by have := HLK.out; omega, hb⟩) HV1_2.out)
  have HV2_3 := Lib.hid (show (Ty.rd .num).rd X3 (fun b => w.heap.size ≤ b ∧ b ≠ w.heap.size ∧ b ≠ k1 ∧ b ≠ rb) _ _ from rd_chg .num hcx (fun b hb hl => by have h1 := HLK.out; have h2 := HC2.out.size; have h3 := HB2.out.lt; have hb : X2.heap.size ≤ b := hb; exact ⟨by omega, by omega, by omega, by omega, by omega⟩) hr)
  have HX3 := Lib.hid hX
  clear hr hs hc hb' hcx hstep hX 
  go_wp2_with fail
  rw [← HX3.out]
  refine (get_str X3 rb s3 HR3.out HM3.out).mono ?_
  rintro e w4 ⟨cs, rfl, hr, hs, hc⟩
  rw [HD3.out] at hr hs
  dsimp only at hr hs
  obtain ⟨q3_0, rfl⟩ : ∃ z : ByteArray, cs = [.string z] := ⟨_, hr.1⟩
  have hg : goV [.string q3_0] = .string q3_0 := rfl
  rw [hg]
  clear hg
  have hb' := HB3.out.chg hc (by have := HLK.out; omega)
  have t0 := hb'.cell 3 _ rfl
  have z0 := hb'.free 3
  obtain ⟨X4, hX⟩ : ∃ X, X = (w4.setCell ⟨k1, 3, none⟩ (.string q3_0)) := ⟨_, rfl⟩
  have hcx : Chg (fun b => b = k1) w4 X4 := by
    have g : ∀ (u : World) (j : Nat) (v : Value), Chg (fun b => b = k1) u (u.setCell ⟨k1, j, none⟩ v) := fun u j v => Chg.setCell _ _ rfl
    rw [hX]
    exact (g _ _ _)
  have HB4 := Lib.hid (show Blk X4 k1 [.int .i64 q0_0, .int .i64 q1_0, .int .i64 q2_0, .string q3_0] from by rw [hX]; exact (hb'.set 3 (.string q3_0) (by simp)))
  have HR4 := Lib.hid (hs.keep (hcx.more (fun b _ e => by have := HLK.out; omega)))
  have hstep : Chg (fun b => b = rb ∨ b = k1) X3 X4 := (hc.more (fun b _ e => .inl e)).trans (hcx.more (fun b _ e => .inr e))
  have HC4 := Lib.hid (show Chg (fun b => b = rb ∨ w.heap.size ≤ b) w X4 from HC3.out.trans (hstep.more (fun b _ e => e.elim .inl (fun e => .inr (by have := HLK.out; omega)))))
  have HZ4 := Lib.hid (show Blk X4 w.heap.size [.int .i64 0, .int .i64 0, .int .i64 0, .string ⟨#[]⟩] from HZ3.out.chg hstep (by have := HLK.out; omega))
  have HV0_4 := Lib.hid (show (Ty.rd .num).rd X4 (fun b => w.heap.size ≤ b ∧ b ≠ w.heap.size ∧ b ≠ k1 ∧ b ≠ rb) _ _ from rd_chg .num hstep (fun b hb hl => ⟨fun e => by have := HLK.out; omega, hb⟩) HV0_3.out)
  have HV1_4 := Lib.hid (show (Ty.rd .num).rd X4 (fun b => w.heap.size ≤ b ∧ b ≠ w.heap.size ∧ b ≠ k1 ∧ b ≠ rb) _ _ from rd_chg .num hstep (fun b hb hl => ⟨fun e => by have := HLK.out; omega, hb⟩) HV1_3.out)
  have HV2_4 := Lib.hid (show (Ty.rd .num).rd X4 (fun b => w.heap.size ≤ b ∧ b ≠ w.heap.size ∧ b ≠ k1 ∧ b ≠ rb) _ _ from rd_chg .num hstep (fun b hb hl => ⟨fun e => by have := HLK.out; omega, hb⟩) HV2_3.out)
  have HV3_4 := Lib.hid (show (Ty.rd .str).rd X4 (fun b => w.heap.size ≤ b ∧ b ≠ w.heap.size ∧ b ≠ k1 ∧ b ≠ rb) _ _ from rd_chg .str hcx (fun b hb hl => by have h1 := HLK.out; have h2 := HC3.out.size; have h3 := HB3.out.lt; have hb : X3.heap.size ≤ b := hb; exact ⟨by omega, by omega, by omega, by omega, by omega⟩) hr)
  have HX4 := Lib.hid hX
  clear hr hs hc hb' hcx hstep hX 
  go_upto_region 5 with fail
  rw [← HX4.out]
  have q0 := HB4.out.cell 0 _ rfl
  have zc0 := HZ4.out.cell 0 _ rfl
  have zf0 := HZ4.out.free 0
  have q1 := HB4.out.cell 1 _ rfl
  have zc1 := HZ4.out.cell 1 _ rfl
  have zf1 := HZ4.out.free 1
  have q2 := HB4.out.cell 2 _ rfl
  have zc2 := HZ4.out.cell 2 _ rfl
  have zf2 := HZ4.out.free 2
  have q3 := HB4.out.cell 3 _ rfl
  have zc3 := HZ4.out.cell 3 _ rfl
  have zf3 := HZ4.out.free 3
  go_wp2
  obtain ⟨Wf, hWf⟩ : ∃ Wf, Wf = ((((X4.setCell ⟨w.heap.size, 0, none⟩ (.int .i64 q0_0)).setCell ⟨w.heap.size, 1, none⟩ (.int .i64 q1_0)).setCell ⟨w.heap.size, 2, none⟩ (.int .i64 q2_0)).setCell ⟨w.heap.size, 3, none⟩ (.string q3_0)) := ⟨_, rfl⟩
  rw [← hWf]
  have hcf : Chg (fun b => b = w.heap.size) X4 Wf := by
    have g : ∀ (u : World) (j : Nat) (v : Value), Chg (fun b => b = w.heap.size) u (u.setCell ⟨w.heap.size, j, none⟩ v) := fun u j v => Chg.setCell _ _ rfl
    rw [hWf]
    exact (Chg.trans (Chg.trans (Chg.trans (g _ _ _) (g _ _ _)) (g _ _ _)) (g _ _ _))
  have HBF := Lib.hid (show Blk Wf w.heap.size [.int .i64 q0_0, .int .i64 q1_0, .int .i64 q2_0, .string q3_0] from by rw [hWf]; exact ((((HZ4.out.set 0 (.int .i64 q0_0) (by simp)).set 1 (.int .i64 q1_0) (by simp)).set 2 (.int .i64 q2_0) (by simp)).set 3 (.string q3_0) (by simp)))
  clear hWf q0 zc0 zf0 q1 zc1 zf1 q2 zc2 zf2 q3 zc3 zf3
  have sc0 := HBF.out.cell 0 _ rfl
  have sc1 := HBF.out.cell 1 _ rfl
  have sc2 := HBF.out.cell 2 _ rfl
  have sc3 := HBF.out.cell 3 _ rfl
  refine bodyPost_ret (v := .agg #[.int .i64 q0_0, .int .i64 q1_0, .int .i64 q2_0, .string q3_0]) (by simp [sc0, sc1, sc2, sc3, results, Tryz.results43, go_sem]) rfl ?_
  refine ⟨[.int .i64 q0_0, .int .i64 q1_0, .int .i64 q2_0, .string q3_0], rfl, ?_, ?_, ?_⟩
  · rw [HDEC.out]
    have h0 : (Ty.rd .num).rd Wf (w.heap.size ≤ ·) _ _ := rd_chg .num hcf (fun b hb hl => ⟨hb.2.1, hb.1⟩) HV0_4.out
    have h1 : (Ty.rd .num).rd Wf (w.heap.size ≤ ·) _ _ := rd_chg .num hcf (fun b hb hl => ⟨hb.2.1, hb.1⟩) HV1_4.out
    have h2 : (Ty.rd .num).rd Wf (w.heap.size ≤ ·) _ _ := rd_chg .num hcf (fun b hb hl => ⟨hb.2.1, hb.1⟩) HV2_4.out
    have h3 : (Ty.rd .str).rd Wf (w.heap.size ≤ ·) _ _ := rd_chg .str hcf (fun b hb hl => ⟨hb.2.1, hb.1⟩) HV3_4.out
    exact ⟨_, _, rfl, h0, _, _, rfl, h1, _, _, rfl, h2, h3⟩
  · rw [HDEC.out]; exact HR4.out.keep (hcf.more (fun b _ e => by have := HLK.out; omega))
  · exact (HC4.out.trans (hcf.more (fun b _ e => .inr (by omega)))).more (fun b hb e => e.elim id (fun e => by omega))

set_option maxRecDepth 100000 in
set_option maxHeartbeats 4000000 in
theorem get_Hold : GetC 30 tHold := by
  intro w rb s h hmod
  obtain ⟨W0, hW0⟩ : ∃ W0, W0 = w.alloc (.cells #[.int .i64 0, .int .i64 0, .int .i64 0] 45) := ⟨_, rfl⟩
  have hb0 : Below w.heap.size w W0 := by rw [hW0]; exact (Below.refl _ _).alloc (Nat.le_refl _) _
  have HLT := Lib.hid (show rb < w.heap.size ∧ W0.heap.size = w.heap.size + 1 from And.intro h.lt (by rw [hW0]; simp))
  have HK0 := Lib.hid (show Blk W0 w.heap.size [.int .i64 0, .int .i64 0, .int .i64 0] from by rw [hW0]; exact Blk.new w _ _)
  have HR0 := Lib.hid (h.below hb0)
  have HC0 := Lib.hid (show Chg (fun b => b = rb ∨ w.heap.size ≤ b) w W0 from Chg.of_below hb0)
  have HW0 := Lib.hid hW0
  obtain ⟨s0, hs0⟩ : ∃ s0, s0 = s := ⟨_, rfl⟩
  rw [← hs0] at HR0
  obtain ⟨x0, s1, hd0⟩ : ∃ x s', dec .num s0 = (x, s') := ⟨_, _, rfl⟩
  obtain ⟨x1, s2, hd1⟩ : ∃ x s', dec tPeriod s1 = (x, s') := ⟨_, _, rfl⟩
  have HDEC := Lib.hid (show dec tHold s = ((x0, x1), s2) from by
    rw [← hs0]
    show dec (.pair .num tPeriod) s0 = _
    simp only [dec_pair, hd0, hd1])
  rw [← hs0] at hmod
  obtain ⟨hm0, hm1⟩ := hmod
  simp only [hd0] at hm1
  have HM0 := Lib.hid hm0
  have HM1 := Lib.hid hm1
  have HD0 := Lib.hid hd0
  have HD1 := Lib.hid hd1
  clear hm0 hm1 h hb0 hW0 hs0 hd0 hd1
  go_enter Tryz.func30, Tryz.ntmps30
  go_wp2_with fail
  rw [← HW0.out]
  refine (get_num W0 rb s0 HR0.out HM0.out).mono ?_
  rintro e w1 ⟨cs, rfl, hr, hs, hc⟩
  rw [HD0.out] at hr hs
  dsimp only at hr hs
  obtain ⟨q0_0, rfl⟩ : ∃ z : Int, cs = [.int .i64 z] := ⟨_, hr.1⟩
  have hg : goV [.int .i64 q0_0] = .int .i64 q0_0 := rfl
  rw [hg]
  clear hg
  obtain ⟨k1, hk1⟩ : ∃ k1, k1 = w1.heap.size := ⟨_, rfl⟩
  obtain ⟨X1, hX1⟩ : ∃ X1, X1 = w1.alloc (.cells #[.int .i64 q0_0, .int .i64 0, .int .i64 0] 45) := ⟨_, rfl⟩
  have hbx : Below w1.heap.size w1 X1 := by rw [hX1]; exact (Below.refl _ _).alloc (Nat.le_refl _) _
  have HLK := Lib.hid (show rb < w.heap.size ∧ w.heap.size < k1 ∧ k1 < X1.heap.size from by
    have h1 := HLT.out; have h2 := hc.size; have h3 : X1.heap.size = w1.heap.size + 1 := by rw [hX1]; simp
    omega)
  have HB1 := Lib.hid (show Blk X1 k1 [.int .i64 q0_0, .int .i64 0, .int .i64 0] from by rw [hX1, hk1]; exact Blk.new w1 _ _)
  have HR1 := Lib.hid (hs.below hbx)
  have HC1 := Lib.hid (show Chg (fun b => b = rb ∨ w.heap.size ≤ b) w X1 from (HC0.out.trans (hc.more (fun b _ e => .inl e))).trans (Chg.of_below hbx))
  have HZ1 := Lib.hid (show Blk X1 w.heap.size [.int .i64 0, .int .i64 0, .int .i64 0] from (HK0.out.chg hc (by have := HLT.out.1; omega)).chg (F := fun _ => False) (Chg.of_below hbx) id)
  have HV0_1 := Lib.hid (show (Ty.rd .num).rd X1 (fun b => w.heap.size ≤ b ∧ b ≠ w.heap.size ∧ b ≠ k1 ∧ b ≠ rb) _ _ from rd_chg .num (K := fun _ => False) (Chg.of_below hbx) (fun b hb hl => ⟨id, by have h1 := HLT.out; omega, by have h1 := HLT.out; omega, by omega, by have h1 := HLT.out; omega⟩) hr)
  have HX1 := Lib.hid hX1
  have HKK := Lib.hid hk1
  clear hr hs hc hX1 hbx hk1
  go_wp2_with fail
  rw [← HKK.out, ← HX1.out]
  refine (get_Period X1 rb s1 HR1.out HM1.out).mono ?_
  rintro e w2 ⟨cs, rfl, hr, hs, hc⟩
  rw [HD1.out] at hr hs
  dsimp only at hr hs
  obtain ⟨q1_0, q1_1, rfl⟩ := shape_Period hr
  have hg : goV [.int .i64 q1_0, .int .i64 q1_1] = .agg #[.int .i64 q1_0, .int .i64 q1_1] := rfl
  rw [hg]
  clear hg
  have hb' := HB1.out.chg hc (by have := HLK.out; omega)
  have t0 := hb'.cell 1 _ rfl
  have z0 := hb'.free 1
  have t1 := hb'.cell 2 _ rfl
  have z1 := hb'.free 2
  obtain ⟨X2, hX⟩ : ∃ X, X = ((w2.setCell ⟨k1, 1, none⟩ (.int .i64 q1_0)).setCell ⟨k1, 2, none⟩ (.int .i64 q1_1)) := ⟨_, rfl⟩
  have hcx : Chg (fun b => b = k1) w2 X2 := by
    have g : ∀ (u : World) (j : Nat) (v : Value), Chg (fun b => b = k1) u (u.setCell ⟨k1, j, none⟩ v) := fun u j v => Chg.setCell _ _ rfl
    rw [hX]
    exact (Chg.trans (g _ _ _) (g _ _ _))
  have HB2 := Lib.hid (show Blk X2 k1 [.int .i64 q0_0, .int .i64 q1_0, .int .i64 q1_1] from by rw [hX]; exact ((hb'.set 1 (.int .i64 q1_0) (by simp)).set 2 (.int .i64 q1_1) (by simp)))
  have HR2 := Lib.hid (hs.keep (hcx.more (fun b _ e => by have := HLK.out; omega)))
  have hstep : Chg (fun b => b = rb ∨ b = k1) X1 X2 := (hc.more (fun b _ e => .inl e)).trans (hcx.more (fun b _ e => .inr e))
  have HC2 := Lib.hid (show Chg (fun b => b = rb ∨ w.heap.size ≤ b) w X2 from HC1.out.trans (hstep.more (fun b _ e => e.elim .inl (fun e => .inr (by have := HLK.out; omega)))))
  have HZ2 := Lib.hid (show Blk X2 w.heap.size [.int .i64 0, .int .i64 0, .int .i64 0] from HZ1.out.chg hstep (by have := HLK.out; omega))
  have HV0_2 := Lib.hid (show (Ty.rd .num).rd X2 (fun b => w.heap.size ≤ b ∧ b ≠ w.heap.size ∧ b ≠ k1 ∧ b ≠ rb) _ _ from rd_chg .num hstep (fun b hb hl => ⟨fun e => by have := HLK.out; omega, hb⟩) HV0_1.out)
  have HV1_2 := Lib.hid (show (Ty.rd tPeriod).rd X2 (fun b => w.heap.size ≤ b ∧ b ≠ w.heap.size ∧ b ≠ k1 ∧ b ≠ rb) _ _ from rd_chg tPeriod hcx (fun b hb hl => by have h1 := HLK.out; have h2 := HC1.out.size; have h3 := HB1.out.lt; have hb : X1.heap.size ≤ b := hb; exact ⟨by omega, by omega, by omega, by omega, by omega⟩) hr)
  have HX2 := Lib.hid hX
  clear hr hs hc hb' hcx hstep hX 
  go_upto_region 3 with fail
  rw [← HX2.out]
  have q0 := HB2.out.cell 0 _ rfl
  have zc0 := HZ2.out.cell 0 _ rfl
  have zf0 := HZ2.out.free 0
  have q1 := HB2.out.cell 1 _ rfl
  have zc1 := HZ2.out.cell 1 _ rfl
  have zf1 := HZ2.out.free 1
  have q2 := HB2.out.cell 2 _ rfl
  have zc2 := HZ2.out.cell 2 _ rfl
  have zf2 := HZ2.out.free 2
  go_wp2
  obtain ⟨Wf, hWf⟩ : ∃ Wf, Wf = (((X2.setCell ⟨w.heap.size, 0, none⟩ (.int .i64 q0_0)).setCell ⟨w.heap.size, 1, none⟩ (.int .i64 q1_0)).setCell ⟨w.heap.size, 2, none⟩ (.int .i64 q1_1)) := ⟨_, rfl⟩
  rw [← hWf]
  have hcf : Chg (fun b => b = w.heap.size) X2 Wf := by
    have g : ∀ (u : World) (j : Nat) (v : Value), Chg (fun b => b = w.heap.size) u (u.setCell ⟨w.heap.size, j, none⟩ v) := fun u j v => Chg.setCell _ _ rfl
    rw [hWf]
    exact (Chg.trans (Chg.trans (g _ _ _) (g _ _ _)) (g _ _ _))
  have HBF := Lib.hid (show Blk Wf w.heap.size [.int .i64 q0_0, .int .i64 q1_0, .int .i64 q1_1] from by rw [hWf]; exact (((HZ2.out.set 0 (.int .i64 q0_0) (by simp)).set 1 (.int .i64 q1_0) (by simp)).set 2 (.int .i64 q1_1) (by simp)))
  clear hWf q0 zc0 zf0 q1 zc1 zf1 q2 zc2 zf2
  have sc0 := HBF.out.cell 0 _ rfl
  have sc1 := HBF.out.cell 1 _ rfl
  have sc2 := HBF.out.cell 2 _ rfl
  refine bodyPost_ret (v := .agg #[.int .i64 q0_0, .int .i64 q1_0, .int .i64 q1_1]) (by simp [sc0, sc1, sc2, results, Tryz.results30, go_sem]) rfl ?_
  refine ⟨[.int .i64 q0_0, .int .i64 q1_0, .int .i64 q1_1], rfl, ?_, ?_, ?_⟩
  · rw [HDEC.out]
    have h0 : (Ty.rd .num).rd Wf (w.heap.size ≤ ·) _ _ := rd_chg .num hcf (fun b hb hl => ⟨hb.2.1, hb.1⟩) HV0_2.out
    have h1 : (Ty.rd tPeriod).rd Wf (w.heap.size ≤ ·) _ _ := rd_chg tPeriod hcf (fun b hb hl => ⟨hb.2.1, hb.1⟩) HV1_2.out
    exact ⟨_, _, rfl, h0, h1⟩
  · rw [HDEC.out]; exact HR2.out.keep (hcf.more (fun b _ e => by have := HLK.out; omega))
  · exact (HC2.out.trans (hcf.more (fun b _ e => .inr (by omega)))).more (fun b hb e => e.elim id (fun e => by omega))

theorem info_read_Hold : (Tryz.prog.info? 45).map (fun i => (i.zero, i.size, i.bytes)) = some (some ((.agg #[.int .i64 0, .int .i64 0, .int .i64 0])), 3, 24) := by kernel_rfl

set_option maxRecDepth 100000 in
set_option maxHeartbeats 4000000 in
theorem read_Hold : ReadC 29 30 tHold := by
  intro w rb s h hmod
  obtain ⟨i0, hi0, hz0, hz1, hz2⟩ := info_parts info_read_Hold
  obtain ⟨n, s1, hn⟩ : ∃ n s', dsize s = (n, s') := ⟨_, _, rfl⟩
  have hs := cd_size h
  rw [hn] at hs
  obtain ⟨hm1, hm2⟩ := hmod
  rw [hn] at hm1 hm2
  replace hm1 : n ≤ 1073741824 := hm1
  obtain ⟨L, S', hLS⟩ : ∃ L S', dmany (dec tHold) n s1 = (L, S') := ⟨_, _, rfl⟩
  have HDEC := Lib.hid (show dec (.list tHold) s = (L, S') from by show dmany (dec tHold) (dsize s).1 (dsize s).2 = _; rw [hn]; exact hLS)
  have HSZ := Lib.hid hs
  have HM := Lib.hid hm2
  have HM1 := Lib.hid hm1
  have HLS := Lib.hid hLS
  have HLT := Lib.hid h.lt
  have hn0 : 0 ≤ (n : Int) ∧ (n : Int) ≤ 1073741824 := by omega
  clear h hs hm1 hm2 hn hLS
  go_enter Tryz.func29, Tryz.ntmps29
  go_wp2_with fail
  refine HSZ.out.mono ?_
  rintro e w1 ⟨rfl, hr, hc⟩
  have HR1 := Lib.hid (show Rdr w1 rb s1 from hr)
  have HC1 := Lib.hid hc
  clear hr hc
  go_wp2
  go_loopg [5, 6] n (fun gk t5 t6 wr => ∃ (k : Nat) (sc : St) (l : List (Ty.T tHold)) (xs : List Value), gk = k ∧ t6 = .int .i64 (k : Int) ∧ Rdr wr rb sc ∧ Rows tHold 45 3 w.heap.size wr t5 l xs ∧ ModMany (Mod tHold) (dec tHold) k sc ∧ l.length + k ≤ n ∧ l ++ (dmany (dec tHold) k sc).1 = L ∧ (dmany (dec tHold) k sc).2 = S' ∧ Chg (fun b => b = rb ∨ w.heap.size ≤ b) w wr)
  case atStart =>
    exact ⟨n, s1, [], [], rfl, rfl, HR1.out, ⟨World.ownsRow_nil _ _ _ _, rarr_nil _ _ _⟩, HM.out, by simp, by rw [HLS.out]; rfl, by rw [HLS.out], HC1.out.more (fun b _ e => .inl e)⟩
  case round =>
    obtain ⟨k, sc, l, xs, rfl, rfl, hr, hrow, hm, hle, hL, hS, hc⟩ := hrel
    have HR := Lib.hid hr
    have HROW := Lib.hid hrow
    have HMM := Lib.hid hm
    have HLE := Lib.hid hle
    have HL := Lib.hid hL
    have HS := Lib.hid hS
    have HC := Lib.hid hc
    have hk0 : 0 ≤ (gk : Int) ∧ (gk : Int) ≤ 1073741824 := by have := HM1.out; omega
    clear hr hrow hm hle hL hS hc
    by_cases hk : gk = 0
    · subst hk
      have HLL := Lib.hid (show l = L from by have := HL.out; simpa [dmany] using this)
      have HSS := Lib.hid (show Rdr wr rb S' from by have := HS.out; rw [← this]; exact HR.out)
      have HFIN := Lib.hid (show (Ty.rd (.list tHold)).rd wr (w.heap.size ≤ ·) [_] L from by
        have := rd_own HROW.out.row (Rd.more _ (fun b hb => hb.1) HROW.out.arr) (F := (w.heap.size ≤ ·)) (fun b hb _ => hb)
        rw [HLL.out] at this
        exact this)
      go_wp2
      go_ret
      refine ⟨[_], rfl, ?_, ?_, HC.out.more (fun b hb e => e.elim id (fun e => by omega))⟩
      · rw [HDEC.out]; exact HFIN.out
      · rw [HDEC.out]; exact HSS.out
    · have hd1 : decide ((0 : Int) < (gk : Int)) = true := decide_eq_true (by omega)
      cases sc with
      | error e =>
        obtain ⟨c0, c1, he⟩ := HR.out.bad e rfl
        have g0 : (e == 0) = false := by rcases he with rfl | rfl <;> rfl
        have HLL := Lib.hid (show l = L from by have := HL.out; rw [dmany_error] at this; simpa using this)
        have HSS := Lib.hid (show Rdr wr rb S' from by have := HS.out; rw [dmany_error] at this; rw [← this]; exact HR.out)
        clear he
        have HFIN := Lib.hid (show (Ty.rd (.list tHold)).rd wr (w.heap.size ≤ ·) [_] L from by
          have := rd_own HROW.out.row (Rd.more _ (fun b hb => hb.1) HROW.out.arr) (F := (w.heap.size ≤ ·)) (fun b hb _ => hb)
          rw [HLL.out] at this
          exact this)
        go_wp2
        go_ret
        refine ⟨[_], rfl, ?_, ?_, HC.out.more (fun b hb e => e.elim id (fun e => by omega))⟩
        · rw [HDEC.out]; exact HFIN.out
        · rw [HDEC.out]; exact HSS.out
      | ok r =>
        obtain ⟨v, c0, c1, -, -⟩ := HR.out.ok r rfl
        obtain ⟨k', rfl⟩ : ∃ k', gk = k' + 1 := ⟨gk - 1, by omega⟩
        obtain ⟨x, s2, hd⟩ : ∃ x s', dec tHold (.ok r) = (x, s') := ⟨_, _, rfl⟩
        have HD := Lib.hid hd
        have HL2 := Lib.hid (show (l ++ [x]) ++ (dmany (dec tHold) k' s2).1 = L ∧ (dmany (dec tHold) k' s2).2 = S' from by
          have h1 := HL.out; have h2 := HS.out
          rw [dmany] at h1 h2
          simp only [hd] at h1 h2
          exact ⟨by simpa using h1, h2⟩)
        have HM2 := Lib.hid (show Mod tHold (.ok r) ∧ ModMany (Mod tHold) (dec tHold) k' s2 from by
          have h1 := HMM.out
          rw [ModMany] at h1
          simp only [hd] at h1
          exact h1)
        clear hd
        go_wp2_with fail
        refine (get_Hold wr rb (.ok r) HR.out HM2.out.1).mono ?_
        rintro e w2 ⟨cs, rfl, hr, hs, hc⟩
        rw [HD.out] at hr hs
        dsimp only at hr hs
        obtain ⟨q_0, q_1, q_2, rfl⟩ := shape_Hold hr
        have hg : goV [.int .i64 q_0, .int .i64 q_1, .int .i64 q_2] = .agg #[.int .i64 q_0, .int .i64 q_1, .int .i64 q_2] := rfl
        rw [hg]
        have HX := Lib.hid hr
        have HR2 := Lib.hid hs
        have HC2 := Lib.hid hc
        have HB3 := Lib.hid (show Below w2.heap.size w2 (w2.alloc (.cells #[.int .i64 q_0, .int .i64 q_1, .int .i64 q_2] 45)) from (Below.refl _ _).alloc (Nat.le_refl _) _)
        have HROW2 := Lib.hid (show (w2.alloc (.cells #[.int .i64 q_0, .int .i64 q_1, .int .i64 q_2] 45)).ownsRow w.heap.size 45 3 _ l.length xs from ownk_chg (ownk_chg HROW.out.row hc (fun b e hb => by have := (ownk_ge HROW.out.row b e).1; have := HLT.out; omega)) (F := fun _ => False) (Chg.of_below HB3.out) (fun _ _ e => e))
        have HBS := Lib.hid (show w.heap.size ≤ (w2.alloc (.cells #[.int .i64 q_0, .int .i64 q_1, .int .i64 q_2] 45)).heap.size from by have := HC.out.size; have := HC2.out.size; simp; omega)
        clear hg hr hs hc
        go_wp2_with (at_builtin; refine wpList_append_o rfl _ _ 26 rfl w.heap.size 45 i0 _ 3 24 Tryz.underlying26 hi0 hz0 hz1 hz2 rfl (by decide) _ l.length xs rfl HROW2.out _ 1 [.int .i64 q_0, .int .i64 q_1, .int .i64 q_2] rfl (sl_cells1 w2 _ _ rfl) (fun _ _ h => by cases h) (by simp [Value.oneCell']) (by have := HLE.out; have := HM1.out; unfold maxLen; omega) (by have := HLE.out; have := HM1.out; omega) HBS.out ?_)
        intro v' w4 h1 h2 h3
        have HROWS := Lib.hid (HROW.out.snoc HLT.out HC.out.size HC2.out HX.out HB3.out h1 h2 (by rw [World.size_alloc]; exact h3))
        have h24 := Chg.grown (F := fun b => w.heap.size ≤ b) h2 (fun b e => (ownk_ge HROW.out.row b e).1)
        have HR4 := Lib.hid ((HR2.out.below HB3.out).keep (h24.more (fun b _ e => by have := HLT.out; omega)))
        have HC4 := Lib.hid (show Chg (fun b => b = rb ∨ w.heap.size ≤ b) w w4 from ((HC.out.trans (HC2.out.more (fun b _ e => .inl e))).trans (Chg.of_below HB3.out)).trans (h24.more (fun b _ e => .inr e)))
        clear h1 h2 h3 h24
        go_wp2
        go_roundg k'
        case rel => exact ⟨k', s2, l ++ [x], _, rfl, by go_num, HR4.out, HROWS.out, HM2.out.2, by have := HLE.out; simp; omega, HL2.out.1, HL2.out.2, HC4.out⟩
        case measure => omega
end Go.Proofs.YtfppjpmflpaffaaGreat
