/-
  The reference's decoder: edits. Printed by gen_ct.py.
-/
import Derived.Test.YtfppjpmflpaffaaGreatCsH
namespace Go.Proofs.YtfppjpmflpaffaaGreat
open Go.RowKit
set_option linter.unusedVariables false
set_option linter.unusedSimpArgs false

theorem info_t_Expr : (Tryz.prog.info? 166).map (fun i => (i.zero, i.size, i.bytes)) = some (some ((.agg #[.int .i64 0, .int .i64 0, .int .i64 0, .int .i64 0, .int .i64 0, .int .i64 0, .string ⟨#[]⟩])), 7, 64) := by kernel_rfl

theorem info_t_Assignment : (Tryz.prog.info? 171).map (fun i => (i.zero, i.size, i.bytes)) = some (some ((.agg #[.int .i64 0, .int .i64 0])), 2, 16) := by kernel_rfl

set_option maxRecDepth 100000 in
set_option maxHeartbeats 8000000 in
theorem rget_Edit : RGetC 83 tEdit := by
  intro w rb B s h hmod
  obtain ⟨W0, hW0⟩ : ∃ W0, W0 = w.alloc (.cells #[.int .i64 0, .string ⟨#[]⟩, .slice none 0 0, .int .i64 0, .int .i64 0, .slice none 0 0, .int .i64 0, .slice none 0 0, .string ⟨#[]⟩, .slice none 0 0, .slice none 0 0, .slice none 0 0, .slice none 0 0, .int .i64 0, .string ⟨#[]⟩, .int .i64 0] 113) := ⟨_, rfl⟩
  have hb0 : Below w.heap.size w W0 := by rw [hW0]; exact (Below.refl _ _).alloc (Nat.le_refl _) _
  obtain ⟨bs, hbs⟩ : ∃ b, b = w.heap.size := ⟨_, rfl⟩
  have HO0 := Lib.hid (show bs = w.heap.size ∧ rb < bs ∧ W0.heap.size = w.heap.size + 1 from ⟨hbs, by rw [hbs]; exact h.lt, by rw [hW0]; simp⟩)
  have HB0 := Lib.hid (show Blk W0 w.heap.size [.int .i64 0, .string ⟨#[]⟩, .slice none 0 0, .int .i64 0, .int .i64 0, .slice none 0 0, .int .i64 0, .slice none 0 0, .string ⟨#[]⟩, .slice none 0 0, .slice none 0 0, .slice none 0 0, .slice none 0 0, .int .i64 0, .string ⟨#[]⟩, .int .i64 0] from by rw [hW0]; exact Blk.new w _ _)
  have HR0 := Lib.hid (h.below hb0)
  have HC0 := Lib.hid (show Chg (fun b => b = rb ∨ bs ≤ b) w W0 from Chg.of_below hb0)
  have HW0 := Lib.hid hW0
  obtain ⟨px0, ps1, phd0⟩ : ∃ x s', dec .num s = (x, s') := ⟨_, _, rfl⟩
  obtain ⟨px1, ps2, phd1⟩ : ∃ x s', dec .str ps1 = (x, s') := ⟨_, _, rfl⟩
  obtain ⟨px2, ps3, phd2⟩ : ∃ x s', dec (.list tValue) ps2 = (x, s') := ⟨_, _, rfl⟩
  obtain ⟨px3, ps4, phd3⟩ : ∃ x s', dec tPeriod ps3 = (x, s') := ⟨_, _, rfl⟩
  obtain ⟨px4, ps5, phd4⟩ : ∃ x s', dec (.list tExpr) ps4 = (x, s') := ⟨_, _, rfl⟩
  obtain ⟨px5, ps6, phd5⟩ : ∃ x s', dec .num ps5 = (x, s') := ⟨_, _, rfl⟩
  obtain ⟨px6, ps7, phd6⟩ : ∃ x s', dec (.list tAssignment) ps6 = (x, s') := ⟨_, _, rfl⟩
  obtain ⟨px7, ps8, phd7⟩ : ∃ x s', dec tSchema ps7 = (x, s') := ⟨_, _, rfl⟩
  obtain ⟨px8, ps9, phd8⟩ : ∃ x s', dec tColumn ps8 = (x, s') := ⟨_, _, rfl⟩
  obtain ⟨phm0, phm1, phm2, phm3, phm4, phm5, phm6, phm7, phm8⟩ := hmod
  simp only [phd0] at phm1
  simp only [phd0, phd1] at phm2
  simp only [phd0, phd1, phd2] at phm3
  simp only [phd0, phd1, phd2, phd3] at phm4
  simp only [phd0, phd1, phd2, phd3, phd4] at phm5
  simp only [phd0, phd1, phd2, phd3, phd4, phd5] at phm6
  simp only [phd0, phd1, phd2, phd3, phd4, phd5, phd6] at phm7
  simp only [phd0, phd1, phd2, phd3, phd4, phd5, phd6, phd7] at phm8
  have pHM0 := Lib.hid phm0
  have pHM1 := Lib.hid phm1
  have pHM2 := Lib.hid phm2
  have pHM3 := Lib.hid phm3
  have pHM4 := Lib.hid phm4
  have pHM5 := Lib.hid phm5
  have pHM6 := Lib.hid phm6
  have pHM7 := Lib.hid phm7
  have pHM8 := Lib.hid phm8
  have pHD0 := Lib.hid phd0
  have pHD1 := Lib.hid phd1
  have pHD2 := Lib.hid phd2
  have pHD3 := Lib.hid phd3
  have pHD4 := Lib.hid phd4
  have pHD5 := Lib.hid phd5
  have pHD6 := Lib.hid phd6
  have pHD7 := Lib.hid phd7
  have pHD8 := Lib.hid phd8
  have HDEC := Lib.hid (show dec tEdit s = ((px0, (px1, (px2, (px3, (px4, (px5, (px6, (px7, px8)))))))), ps9) from by
    show dec (.pair .num (.pair .str (.pair (.list tValue) (.pair tPeriod (.pair (.list tExpr) (.pair .num (.pair (.list tAssignment) (.pair tSchema tColumn)))))))) s = _
    simp only [dec_pair, phd0, phd1, phd2, phd3, phd4, phd5, phd6, phd7, phd8])
  clear phd0 phd1 phd2 phd3 phd4 phd5 phd6 phd7 phd8 phm0 phm1 phm2 phm3 phm4 phm5 phm6 phm7 phm8 h hb0 hW0 hbs
  go_enter Tryz.func83, Tryz.ntmps83
  go_wp2_with fail
  rw [← HW0.out]
  refine (rget_int W0 rb B s HR0.out pHM0.out).mono ?_
  rintro e w2 ⟨cs, rfl, hr, hs, hc⟩
  rw [pHD0.out] at hr hs
  dsimp only at hr hs
  obtain ⟨q1_0, rfl⟩ : ∃ z : Int, cs = [.int .i64 z] := ⟨_, hr.1⟩
  have hg : goV [.int .i64 q1_0] = .int .i64 q1_0 := rfl
  rw [hg]
  clear hg
  obtain ⟨k2, hk⟩ : ∃ k, k = w2.heap.size := ⟨_, rfl⟩
  obtain ⟨X2, hX⟩ : ∃ X, X = w2.alloc (.cells #[.int .i64 q1_0, .string ⟨#[]⟩, .slice none 0 0, .int .i64 0, .int .i64 0, .slice none 0 0, .int .i64 0, .slice none 0 0, .string ⟨#[]⟩, .slice none 0 0, .slice none 0 0, .slice none 0 0, .slice none 0 0, .int .i64 0, .string ⟨#[]⟩, .int .i64 0] 113) := ⟨_, rfl⟩
  have hbx : Below w2.heap.size w2 X2 := by rw [hX]; exact (Below.refl _ _).alloc (Nat.le_refl _) _
  have HO2 := Lib.hid (show rb < k2 ∧ w.heap.size < k2 ∧ bs ≤ k2 ∧ k2 < X2.heap.size from by
    have h1 := HC0.out.size; have h2 := hc.size; have h3 : X2.heap.size = w2.heap.size + 1 := by rw [hX]; simp
    have o0 := HO0.out
    omega)
  have HR2 := Lib.hid (hs.below hbx)
  have hstep : Chg (fun b => b = rb) W0 X2 := hc.trans ((Chg.of_below hbx))
  have HT2 := Lib.hid hstep
  have HB3_z := Lib.hid (show Blk X2 w.heap.size [.int .i64 0, .string ⟨#[]⟩, .slice none 0 0, .int .i64 0, .int .i64 0, .slice none 0 0, .int .i64 0, .slice none 0 0, .string ⟨#[]⟩, .slice none 0 0, .slice none 0 0, .slice none 0 0, .slice none 0 0, .int .i64 0, .string ⟨#[]⟩, .int .i64 0] from HB0.out.chg HT2.out (by have o0 := HO0.out; have o1 := HO2.out; omega))
  have HC3 := Lib.hid (show Chg (fun b => b = rb ∨ bs ≤ b) w X2 from HC0.out.trans (Chg.more HT2.out (fun b _ e => by have o0 := HO0.out; have o1 := HO2.out; omega)))
  have HV2 := Lib.hid (show (Ty.rd .num).rd X2 (fun b => bs ≤ b ∧ b ≠ w.heap.size ∧ b ≠ rb ∧ b ≠ k2) [.int .i64 q1_0] px0 from rd_chg .num (K := fun _ => False) (Chg.of_below hbx) (fun b hb hl => ⟨id, by have hb : W0.heap.size ≤ b := hb; have h1 := HC0.out.size; have o0 := HO0.out; have o1 := HO2.out; omega⟩) hr)
  have HB2 := Lib.hid (show Blk X2 k2 [.int .i64 q1_0, .string ⟨#[]⟩, .slice none 0 0, .int .i64 0, .int .i64 0, .slice none 0 0, .int .i64 0, .slice none 0 0, .string ⟨#[]⟩, .slice none 0 0, .slice none 0 0, .slice none 0 0, .slice none 0 0, .int .i64 0, .string ⟨#[]⟩, .int .i64 0] from by rw [hX, hk]; exact Blk.new w2 _ _)
  have HK2 := Lib.hid hk
  have HX2 := Lib.hid hX
  clear hr hs hc hk hX hbx hstep
  go_wp2_with fail
  rw [← HK2.out, ← HX2.out]
  refine (rget_str X2 rb B ps1 HR2.out pHM1.out).mono ?_
  rintro e w5 ⟨cs, rfl, hr, hs, hc⟩
  rw [pHD1.out] at hr hs
  dsimp only at hr hs
  obtain ⟨q4_0, rfl⟩ : ∃ z : ByteArray, cs = [.string z] := ⟨_, hr.1⟩
  have hg : goV [.string q4_0] = .string q4_0 := rfl
  rw [hg]
  clear hg
  have hb' := HB2.out.chg hc (by have o0 := HO0.out; have o1 := HO2.out; omega)
  have t0 := hb'.cell 1 _ rfl
  have z0 := hb'.free 1
  obtain ⟨X5, hX⟩ : ∃ X, X = (w5.setCell ⟨k2, 1, none⟩ (.string q4_0)) := ⟨_, rfl⟩
  have hcx : Chg (fun b => b = k2) w5 X5 := by
    have g : ∀ (u : World) (j : Nat) (v : Value), Chg (fun b => b = k2) u (u.setCell ⟨k2, j, none⟩ v) := fun u j v => Chg.setCell _ _ rfl
    rw [hX]
    exact (g _ _ _)
  have HB5 := Lib.hid (show Blk X5 k2 [.int .i64 q1_0, .string q4_0, .slice none 0 0, .int .i64 0, .int .i64 0, .slice none 0 0, .int .i64 0, .slice none 0 0, .string ⟨#[]⟩, .slice none 0 0, .slice none 0 0, .slice none 0 0, .slice none 0 0, .int .i64 0, .string ⟨#[]⟩, .int .i64 0] from by rw [hX]; exact (hb'.set 1 (.string q4_0) (by simp)))
  have HR5 := Lib.hid (hs.keep (hcx.more (fun b _ e => by have o0 := HO0.out; have o1 := HO2.out; omega)))
  have HT5 := Lib.hid (show Chg (fun b => b = rb ∨ b = k2) X2 X5 from (hc.more (fun b _ e => .inl e)).trans (hcx.more (fun b _ e => .inr e)))
  have HB6_z := Lib.hid (show Blk X5 w.heap.size [.int .i64 0, .string ⟨#[]⟩, .slice none 0 0, .int .i64 0, .int .i64 0, .slice none 0 0, .int .i64 0, .slice none 0 0, .string ⟨#[]⟩, .slice none 0 0, .slice none 0 0, .slice none 0 0, .slice none 0 0, .int .i64 0, .string ⟨#[]⟩, .int .i64 0] from HB3_z.out.chg HT5.out (by have o0 := HO0.out; have o1 := HO2.out; omega))
  have HV6_0 := Lib.hid (show (Ty.rd .num).rd X5 (fun b => bs ≤ b ∧ b ≠ w.heap.size ∧ b ≠ rb ∧ b ≠ k2) [.int .i64 q1_0] px0 from rd_chg .num HT5.out (fun b hb hl => ⟨fun e => by have o0 := HO0.out; have o1 := HO2.out; omega, hb⟩) HV2.out)
  have HC6 := Lib.hid (show Chg (fun b => b = rb ∨ bs ≤ b) w X5 from HC3.out.trans (Chg.more HT5.out (fun b _ e => by have o0 := HO0.out; have o1 := HO2.out; omega)))
  have HV5 := Lib.hid (show (Ty.rd .str).rd X5 (fun b => bs ≤ b ∧ b ≠ w.heap.size ∧ b ≠ rb ∧ b ≠ k2) [.string q4_0] px1 from rd_chg .str hcx (fun b hb hl => by have hb : X2.heap.size ≤ b := hb; have h1 := HC3.out.size; have h2 := HB2.out.lt; have o0 := HO0.out; have o1 := HO2.out; (try dsimp only); omega) hr)
  have HX5 := Lib.hid hX
  clear hr hs hc hb' hcx hX
  go_wp2_with fail
  rw [← HX5.out]
  refine (rget_Values X5 rb B ps2 HR5.out pHM2.out).mono ?_
  rintro e w8 ⟨cs, rfl, hr, hs, hc⟩
  rw [pHD2.out] at hr hs
  dsimp only at hr hs
  obtain ⟨q7_a0, q7_n0, q7_c0, rfl⟩ : ∃ a n c, cs = [.slice a n c] := by obtain ⟨a, n, c, e, _⟩ := id hr; exact ⟨a, n, c, e⟩
  have hg : goV [.slice q7_a0 q7_n0 q7_c0] = .slice q7_a0 q7_n0 q7_c0 := rfl
  rw [hg]
  clear hg
  have hb' := HB5.out.chg hc (by have o0 := HO0.out; have o1 := HO2.out; omega)
  have t0 := hb'.cell 2 _ rfl
  have z0 := hb'.free 2
  obtain ⟨X8, hX⟩ : ∃ X, X = (w8.setCell ⟨k2, 2, none⟩ (.slice q7_a0 q7_n0 q7_c0)) := ⟨_, rfl⟩
  have hcx : Chg (fun b => b = k2) w8 X8 := by
    have g : ∀ (u : World) (j : Nat) (v : Value), Chg (fun b => b = k2) u (u.setCell ⟨k2, j, none⟩ v) := fun u j v => Chg.setCell _ _ rfl
    rw [hX]
    exact (g _ _ _)
  have HB8 := Lib.hid (show Blk X8 k2 [.int .i64 q1_0, .string q4_0, .slice q7_a0 q7_n0 q7_c0, .int .i64 0, .int .i64 0, .slice none 0 0, .int .i64 0, .slice none 0 0, .string ⟨#[]⟩, .slice none 0 0, .slice none 0 0, .slice none 0 0, .slice none 0 0, .int .i64 0, .string ⟨#[]⟩, .int .i64 0] from by rw [hX]; exact (hb'.set 2 (.slice q7_a0 q7_n0 q7_c0) (by simp)))
  have HR8 := Lib.hid (hs.keep (hcx.more (fun b _ e => by have o0 := HO0.out; have o1 := HO2.out; omega)))
  have HT8 := Lib.hid (show Chg (fun b => b = rb ∨ b = k2) X5 X8 from (hc.more (fun b _ e => .inl e)).trans (hcx.more (fun b _ e => .inr e)))
  have HB9_z := Lib.hid (show Blk X8 w.heap.size [.int .i64 0, .string ⟨#[]⟩, .slice none 0 0, .int .i64 0, .int .i64 0, .slice none 0 0, .int .i64 0, .slice none 0 0, .string ⟨#[]⟩, .slice none 0 0, .slice none 0 0, .slice none 0 0, .slice none 0 0, .int .i64 0, .string ⟨#[]⟩, .int .i64 0] from HB6_z.out.chg HT8.out (by have o0 := HO0.out; have o1 := HO2.out; omega))
  have HV9_0 := Lib.hid (show (Ty.rd .num).rd X8 (fun b => bs ≤ b ∧ b ≠ w.heap.size ∧ b ≠ rb ∧ b ≠ k2) [.int .i64 q1_0] px0 from rd_chg .num HT8.out (fun b hb hl => ⟨fun e => by have o0 := HO0.out; have o1 := HO2.out; omega, hb⟩) HV6_0.out)
  have HV9_1 := Lib.hid (show (Ty.rd .str).rd X8 (fun b => bs ≤ b ∧ b ≠ w.heap.size ∧ b ≠ rb ∧ b ≠ k2) [.string q4_0] px1 from rd_chg .str HT8.out (fun b hb hl => ⟨fun e => by have o0 := HO0.out; have o1 := HO2.out; omega, hb⟩) HV5.out)
  have HC9 := Lib.hid (show Chg (fun b => b = rb ∨ bs ≤ b) w X8 from HC6.out.trans (Chg.more HT8.out (fun b _ e => by have o0 := HO0.out; have o1 := HO2.out; omega)))
  have HV8 := Lib.hid (show (Ty.rd (.list tValue)).rd X8 (fun b => bs ≤ b ∧ b ≠ w.heap.size ∧ b ≠ rb ∧ b ≠ k2) [.slice q7_a0 q7_n0 q7_c0] px2 from rd_chg (.list tValue) hcx (fun b hb hl => by have hb : X5.heap.size ≤ b := hb; have h1 := HC6.out.size; have h2 := HB5.out.lt; have o0 := HO0.out; have o1 := HO2.out; (try dsimp only); omega) hr)
  have HX8 := Lib.hid hX
  clear hr hs hc hb' hcx hX
  go_wp2_with fail
  rw [← HX8.out]
  refine (rget_Period X8 rb B ps3 HR8.out pHM3.out).mono ?_
  rintro e w11 ⟨cs, rfl, hr, hs, hc⟩
  rw [pHD3.out] at hr hs
  dsimp only at hr hs
  obtain ⟨q10_0, q10_1, rfl⟩ := shape_Period hr
  have hg : goV [.int .i64 q10_0, .int .i64 q10_1] = .agg #[.int .i64 q10_0, .int .i64 q10_1] := rfl
  rw [hg]
  clear hg
  have hb' := HB8.out.chg hc (by have o0 := HO0.out; have o1 := HO2.out; omega)
  have t0 := hb'.cell 3 _ rfl
  have z0 := hb'.free 3
  have t1 := hb'.cell 4 _ rfl
  have z1 := hb'.free 4
  obtain ⟨X11, hX⟩ : ∃ X, X = ((w11.setCell ⟨k2, 3, none⟩ (.int .i64 q10_0)).setCell ⟨k2, 4, none⟩ (.int .i64 q10_1)) := ⟨_, rfl⟩
  have hcx : Chg (fun b => b = k2) w11 X11 := by
    have g : ∀ (u : World) (j : Nat) (v : Value), Chg (fun b => b = k2) u (u.setCell ⟨k2, j, none⟩ v) := fun u j v => Chg.setCell _ _ rfl
    rw [hX]
    exact (Chg.trans (g _ _ _) (g _ _ _))
  have HB11 := Lib.hid (show Blk X11 k2 [.int .i64 q1_0, .string q4_0, .slice q7_a0 q7_n0 q7_c0, .int .i64 q10_0, .int .i64 q10_1, .slice none 0 0, .int .i64 0, .slice none 0 0, .string ⟨#[]⟩, .slice none 0 0, .slice none 0 0, .slice none 0 0, .slice none 0 0, .int .i64 0, .string ⟨#[]⟩, .int .i64 0] from by rw [hX]; exact ((hb'.set 3 (.int .i64 q10_0) (by simp)).set 4 (.int .i64 q10_1) (by simp)))
  have HR11 := Lib.hid (hs.keep (hcx.more (fun b _ e => by have o0 := HO0.out; have o1 := HO2.out; omega)))
  have HT11 := Lib.hid (show Chg (fun b => b = rb ∨ b = k2) X8 X11 from (hc.more (fun b _ e => .inl e)).trans (hcx.more (fun b _ e => .inr e)))
  have HB12_z := Lib.hid (show Blk X11 w.heap.size [.int .i64 0, .string ⟨#[]⟩, .slice none 0 0, .int .i64 0, .int .i64 0, .slice none 0 0, .int .i64 0, .slice none 0 0, .string ⟨#[]⟩, .slice none 0 0, .slice none 0 0, .slice none 0 0, .slice none 0 0, .int .i64 0, .string ⟨#[]⟩, .int .i64 0] from HB9_z.out.chg HT11.out (by have o0 := HO0.out; have o1 := HO2.out; omega))
  have HV12_0 := Lib.hid (show (Ty.rd .num).rd X11 (fun b => bs ≤ b ∧ b ≠ w.heap.size ∧ b ≠ rb ∧ b ≠ k2) [.int .i64 q1_0] px0 from rd_chg .num HT11.out (fun b hb hl => ⟨fun e => by have o0 := HO0.out; have o1 := HO2.out; omega, hb⟩) HV9_0.out)
  have HV12_1 := Lib.hid (show (Ty.rd .str).rd X11 (fun b => bs ≤ b ∧ b ≠ w.heap.size ∧ b ≠ rb ∧ b ≠ k2) [.string q4_0] px1 from rd_chg .str HT11.out (fun b hb hl => ⟨fun e => by have o0 := HO0.out; have o1 := HO2.out; omega, hb⟩) HV9_1.out)
  have HV12_2 := Lib.hid (show (Ty.rd (.list tValue)).rd X11 (fun b => bs ≤ b ∧ b ≠ w.heap.size ∧ b ≠ rb ∧ b ≠ k2) [.slice q7_a0 q7_n0 q7_c0] px2 from rd_chg (.list tValue) HT11.out (fun b hb hl => ⟨fun e => by have o0 := HO0.out; have o1 := HO2.out; omega, hb⟩) HV8.out)
  have HC12 := Lib.hid (show Chg (fun b => b = rb ∨ bs ≤ b) w X11 from HC9.out.trans (Chg.more HT11.out (fun b _ e => by have o0 := HO0.out; have o1 := HO2.out; omega)))
  have HV11 := Lib.hid (show (Ty.rd tPeriod).rd X11 (fun b => bs ≤ b ∧ b ≠ w.heap.size ∧ b ≠ rb ∧ b ≠ k2) [.int .i64 q10_0, .int .i64 q10_1] px3 from rd_chg tPeriod hcx (fun b hb hl => by have hb : X8.heap.size ≤ b := hb; have h1 := HC9.out.size; have h2 := HB8.out.lt; have o0 := HO0.out; have o1 := HO2.out; (try dsimp only); omega) hr)
  have HX11 := Lib.hid hX
  clear hr hs hc hb' hcx hX
  obtain ⟨n13, z13, hn⟩ : ∃ n s', dsize ps4 = (n, s') := ⟨_, _, rfl⟩
  have HN13 := Lib.hid hn
  have HLS13 := Lib.hid (show dmany (dec tExpr) n13 z13 = (px4, ps5) from by
    have h := pHD4.out
    replace h : dmany (dec tExpr) (dsize ps4).1 (dsize ps4).2 = _ := h
    rw [hn] at h; exact h)
  obtain ⟨hm1, hm2⟩ := pHM4.out
  rw [hn] at hm1 hm2
  replace hm1 : n13 ≤ 1073741824 := hm1
  have HMM13 := Lib.hid hm2
  have HM1_13 := Lib.hid hm1
  have hn0_13 : 0 ≤ (n13 : Int) ∧ (n13 : Int) ≤ 1073741824 := by omega
  have hsz := rcd_length HR11.out
  rw [hn] at hsz
  have HSZ13 := Lib.hid hsz
  clear hsz hn hm1 hm2
  go_wp2_with fail
  rw [← HX11.out]
  refine HSZ13.out.mono ?_
  rintro e w13 ⟨rfl, hr, hc⟩
  have HR13 := Lib.hid (show RefR w13 rb B z13 from hr)
  have HT13 := Lib.hid hc
  clear hr hc
  have HB14_z := Lib.hid (show Blk w13 w.heap.size [.int .i64 0, .string ⟨#[]⟩, .slice none 0 0, .int .i64 0, .int .i64 0, .slice none 0 0, .int .i64 0, .slice none 0 0, .string ⟨#[]⟩, .slice none 0 0, .slice none 0 0, .slice none 0 0, .slice none 0 0, .int .i64 0, .string ⟨#[]⟩, .int .i64 0] from HB12_z.out.chg HT13.out (by have o0 := HO0.out; have o1 := HO2.out; omega))
  have HB14_2 := Lib.hid (show Blk w13 k2 [.int .i64 q1_0, .string q4_0, .slice q7_a0 q7_n0 q7_c0, .int .i64 q10_0, .int .i64 q10_1, .slice none 0 0, .int .i64 0, .slice none 0 0, .string ⟨#[]⟩, .slice none 0 0, .slice none 0 0, .slice none 0 0, .slice none 0 0, .int .i64 0, .string ⟨#[]⟩, .int .i64 0] from HB11.out.chg HT13.out (by have o0 := HO0.out; have o1 := HO2.out; omega))
  have HV14_0 := Lib.hid (show (Ty.rd .num).rd w13 (fun b => bs ≤ b ∧ b ≠ w.heap.size ∧ b ≠ rb ∧ b ≠ k2) [.int .i64 q1_0] px0 from rd_chg .num HT13.out (fun b hb hl => ⟨fun e => by have o0 := HO0.out; have o1 := HO2.out; omega, hb⟩) HV12_0.out)
  have HV14_1 := Lib.hid (show (Ty.rd .str).rd w13 (fun b => bs ≤ b ∧ b ≠ w.heap.size ∧ b ≠ rb ∧ b ≠ k2) [.string q4_0] px1 from rd_chg .str HT13.out (fun b hb hl => ⟨fun e => by have o0 := HO0.out; have o1 := HO2.out; omega, hb⟩) HV12_1.out)
  have HV14_2 := Lib.hid (show (Ty.rd (.list tValue)).rd w13 (fun b => bs ≤ b ∧ b ≠ w.heap.size ∧ b ≠ rb ∧ b ≠ k2) [.slice q7_a0 q7_n0 q7_c0] px2 from rd_chg (.list tValue) HT13.out (fun b hb hl => ⟨fun e => by have o0 := HO0.out; have o1 := HO2.out; omega, hb⟩) HV12_2.out)
  have HV14_3 := Lib.hid (show (Ty.rd tPeriod).rd w13 (fun b => bs ≤ b ∧ b ≠ w.heap.size ∧ b ≠ rb ∧ b ≠ k2) [.int .i64 q10_0, .int .i64 q10_1] px3 from rd_chg tPeriod HT13.out (fun b hb hl => ⟨fun e => by have o0 := HO0.out; have o1 := HO2.out; omega, hb⟩) HV11.out)
  have HC14 := Lib.hid (show Chg (fun b => b = rb ∨ bs ≤ b) w w13 from HC12.out.trans (Chg.more HT13.out (fun b _ e => by have o0 := HO0.out; have o1 := HO2.out; omega)))
  obtain ⟨B13, hBL⟩ : ∃ b, b = w13.heap.size := ⟨_, rfl⟩
  have HO13 := Lib.hid (show B13 = w13.heap.size ∧ bs ≤ B13 ∧ k2 < B13 from ⟨hBL, by have h := HC14.out.size; have o0 := HO0.out; have o1 := HO2.out; omega, by rw [hBL]; exact HB14_2.out.lt⟩)
  clear hBL
  have HLA13 := Lib.hid (show LoopAt tExpr 166 7 B13 rb B k2 [.int .i64 q1_0, .string q4_0, .slice q7_a0 q7_n0 q7_c0, .int .i64 q10_0, .int .i64 q10_1, .slice none 0 0, .int .i64 0, .slice none 0 0, .string ⟨#[]⟩, .slice none 0 0, .slice none 0 0, .slice none 0 0, .slice none 0 0, .int .i64 0, .string ⟨#[]⟩, .int .i64 0] 5 w13 w13 z13 [] [] (.slice none 0 0) from LoopAt.start HR13.out HB14_2.out rfl (by simp) (by have o0 := HO0.out; have o1 := HO2.out; have o2 := HO13.out; omega) (by have o0 := HO0.out; have o1 := HO2.out; have o2 := HO13.out; omega))
  go_upto_block 0 with fail
  go_cut [5] (fun t5 wx => ∃ (a : Option Addr) (nn c : Nat), RefR wx rb B ps5 ∧ Blk wx k2 [.int .i64 q1_0, .string q4_0, .slice q7_a0 q7_n0 q7_c0, .int .i64 q10_0, .int .i64 q10_1, .slice a nn c, .int .i64 0, .slice none 0 0, .string ⟨#[]⟩, .slice none 0 0, .slice none 0 0, .slice none 0 0, .slice none 0 0, .int .i64 0, .string ⟨#[]⟩, .int .i64 0] ∧ (Ty.rd (.list tExpr)).rd wx (B13 ≤ ·) [.slice a nn c] px4 ∧ Chg (fun b => b = rb ∨ b = k2 ∨ B13 ≤ b) w13 wx)
  case first =>
    go_wp2_with fail
    go_loopg [5] n13 (fun gk t5 wr => ∃ (q k : Nat) (sc : St) (l : List (Ty.T tExpr)) (xs : List Value) (v : Value), gk = k ∧ q + k = n13 ∧ t5 = .int .i64 (q : Int) ∧ LoopAt tExpr 166 7 B13 rb B k2 [.int .i64 q1_0, .string q4_0, .slice q7_a0 q7_n0 q7_c0, .int .i64 q10_0, .int .i64 q10_1, .slice none 0 0, .int .i64 0, .slice none 0 0, .string ⟨#[]⟩, .slice none 0 0, .slice none 0 0, .slice none 0 0, .slice none 0 0, .int .i64 0, .string ⟨#[]⟩, .int .i64 0] 5 w13 wr sc l xs v ∧ ModMany (Mod tExpr) (dec tExpr) k sc ∧ l.length + k ≤ n13 ∧ l ++ (dmany (dec tExpr) k sc).1 = px4 ∧ (dmany (dec tExpr) k sc).2 = ps5)
    case atStart =>
      exact ⟨0, n13, z13, [], [], .slice none 0 0, rfl, by omega, rfl, HLA13.out, HMM13.out, by simp, by rw [HLS13.out]; rfl, by rw [HLS13.out]⟩
    case round =>
      generalize gk = gk13 at *
      generalize wr = wr13 at *
      obtain ⟨j13, kk, sc13, l13, xs13, v13, rfl, hqk, rfl, hla, hm, hle, hL, hS⟩ := hrel
      have HQ13 := Lib.hid hqk
      have HA13 := Lib.hid hla
      have HMK13 := Lib.hid hm
      have HLE13 := Lib.hid hle
      have HLL13 := Lib.hid hL
      have HSS13 := Lib.hid hS
      have hq0_13 : 0 ≤ (j13 : Int) ∧ (j13 : Int) ≤ 1073741824 := by have := HM1_13.out; omega
      obtain ⟨ii, err13, hp, hst⟩ := hla.r.at_
      have c2_13 := hp.c2
      have HST13 := Lib.hid hst
      clear hqk hla hm hle hL hS hp hst
      by_cases hk13 : gk13 = 0
      · have hqn : j13 = n13 := by have := HQ13.out; omega
        have hd1 : decide ((j13 : Int) < (n13 : Int)) = false := decide_eq_false (by omega)
        have hd1' : ¬ (j13 : Int) < (n13 : Int) := by omega
        clear hqn
        subst hk13
        have HE1 := Lib.hid (show l13 = px4 from by have := HLL13.out; simpa [dmany] using this)
        have HE2 := Lib.hid (show sc13 = ps5 from by have := HSS13.out; exact this)
        obtain ⟨a, nn, c, rfl, hfl⟩ := HA13.out.list
        have HFL := Lib.hid hfl
        clear hfl
        go_wp2
        go_meet
        exact ⟨a, nn, c, by rw [← HE2.out]; exact HA13.out.r, HA13.out.blk, by rw [← HE1.out]; exact HFL.out, HA13.out.chg⟩
      · have hd1 : decide ((j13 : Int) < (n13 : Int)) = true := decide_eq_true (by have := HQ13.out; omega)
        have hd1' : (j13 : Int) < (n13 : Int) := by have := HQ13.out; omega
        cases sc13 with
        | error e =>
          obtain ⟨he1, he⟩ := HST13.out.2 e rfl
          have g0 : (err13 == 0) = false := by rw [he1]; rcases he with rfl | rfl <;> rfl
          have HE1 := Lib.hid (show l13 = px4 from by have := HLL13.out; rw [dmany_error] at this; simpa using this)
          have HE2 := Lib.hid (show (.error e : St) = ps5 from by have := HSS13.out; rw [dmany_error] at this; exact this)
          clear he he1
          obtain ⟨a, nn, c, rfl, hfl⟩ := HA13.out.list
          have HFL := Lib.hid hfl
          clear hfl
          go_wp2
          go_meet
          exact ⟨a, nn, c, by rw [← HE2.out]; exact HA13.out.r, HA13.out.blk, by rw [← HE1.out]; exact HFL.out, HA13.out.chg⟩
        | ok r13 =>
          obtain ⟨rfl, -⟩ := HST13.out.1 r13 rfl
          obtain ⟨k', rfl⟩ : ∃ k', gk13 = k' + 1 := ⟨gk13 - 1, by omega⟩
          obtain ⟨rr13, hrr⟩ : ∃ s : St, s = .ok r13 := ⟨_, rfl⟩
          obtain ⟨y13, y2_13, hd⟩ : ∃ x s', dec tExpr rr13 = (x, s') := ⟨_, _, rfl⟩
          have HL2_13 := Lib.hid (show (l13 ++ [y13]) ++ (dmany (dec tExpr) k' y2_13).1 = px4 ∧ (dmany (dec tExpr) k' y2_13).2 = ps5 from by
            have h1 := HLL13.out; have h2 := HSS13.out
            rw [dmany, ← hrr] at h1 h2
            simp only [hd] at h1 h2
            exact ⟨by simpa using h1, h2⟩)
          have hM2 : Mod tExpr rr13 ∧ ModMany (Mod tExpr) (dec tExpr) k' y2_13 := by
            have h1 := HMK13.out
            rw [ModMany, ← hrr] at h1
            simp only [hd] at h1
            exact h1
          have HMK2_13 := Lib.hid hM2.2
          have HRR13 := Lib.hid (show RefR wr13 rb B rr13 from by rw [hrr]; exact HA13.out.r)
          have HDY13 := Lib.hid hd
          have hmy := hM2.1
          clear hd hM2 hrr
          obtain ⟨i0_13, hi0, hz0, hz1, hz2⟩ := info_parts info_t_Expr
          have HI13 := Lib.hid (And.intro hi0 (And.intro hz0 (And.intro hz1 hz2)))
          clear hi0 hz0 hz1 hz2
          obtain ⟨b13, hbs⟩ : ∃ b, b = wr13.heap.size := ⟨_, rfl⟩
          have HOb13 := Lib.hid (show b13 = wr13.heap.size ∧ B13 ≤ b13 ∧ k2 < b13 from ⟨hbs, by rw [hbs]; exact HA13.out.ord.2.2.1, by have := HA13.out.ord; omega⟩)
          have HC0_13 := Lib.hid (show Chg (fun b => b = rb ∨ b13 ≤ b) wr13 wr13 from Chg.refl _ _)
          clear hbs
          obtain ⟨e13x0, e13s1, e13hd0⟩ : ∃ x s', dec .num rr13 = (x, s') := ⟨_, _, rfl⟩
          obtain ⟨e13x1, e13s2, e13hd1⟩ : ∃ x s', dec .num e13s1 = (x, s') := ⟨_, _, rfl⟩
          obtain ⟨e13x2, e13s3, e13hd2⟩ : ∃ x s', dec .num e13s2 = (x, s') := ⟨_, _, rfl⟩
          obtain ⟨e13x3, e13s4, e13hd3⟩ : ∃ x s', dec .num e13s3 = (x, s') := ⟨_, _, rfl⟩
          obtain ⟨e13x4, e13s5, e13hd4⟩ : ∃ x s', dec tValue e13s4 = (x, s') := ⟨_, _, rfl⟩
          obtain ⟨e13hm0, e13hm1, e13hm2, e13hm3, e13hm4⟩ := hmy
          simp only [e13hd0] at e13hm1
          simp only [e13hd0, e13hd1] at e13hm2
          simp only [e13hd0, e13hd1, e13hd2] at e13hm3
          simp only [e13hd0, e13hd1, e13hd2, e13hd3] at e13hm4
          have e13HM0 := Lib.hid e13hm0
          have e13HM1 := Lib.hid e13hm1
          have e13HM2 := Lib.hid e13hm2
          have e13HM3 := Lib.hid e13hm3
          have e13HM4 := Lib.hid e13hm4
          have e13HD0 := Lib.hid e13hd0
          have e13HD1 := Lib.hid e13hd1
          have e13HD2 := Lib.hid e13hd2
          have e13HD3 := Lib.hid e13hd3
          have e13HD4 := Lib.hid e13hd4
          have e13DEC := Lib.hid (show y13 = (e13x0, (e13x1, (e13x2, (e13x3, e13x4)))) ∧ y2_13 = e13s5 from by
            have h := HDY13.out
            replace h : dec (.pair .num (.pair .num (.pair .num (.pair .num tValue)))) rr13 = _ := h
            simp only [dec_pair, e13hd0, e13hd1, e13hd2, e13hd3, e13hd4] at h
            cases h; exact ⟨rfl, rfl⟩)
          clear e13hd0 e13hd1 e13hd2 e13hd3 e13hd4 e13hm0 e13hm1 e13hm2 e13hm3 e13hm4
          go_wp2_with fail
          refine (rget_int wr13 rb B rr13 HRR13.out e13HM0.out).mono ?_
          rintro e w16 ⟨cs, rfl, hr, hs, hc⟩
          rw [e13HD0.out] at hr hs
          dsimp only at hr hs
          obtain ⟨q15_0, rfl⟩ : ∃ z : Int, cs = [.int .i64 z] := ⟨_, hr.1⟩
          have hg : goV [.int .i64 q15_0] = .int .i64 q15_0 := rfl
          rw [hg]
          clear hg
          obtain ⟨k16, hk⟩ : ∃ k, k = w16.heap.size := ⟨_, rfl⟩
          obtain ⟨X16, hX⟩ : ∃ X, X = w16.alloc (.cells #[.int .i64 q15_0, .int .i64 0, .int .i64 0, .int .i64 0, .int .i64 0, .int .i64 0, .string ⟨#[]⟩] 166) := ⟨_, rfl⟩
          have hbx : Below w16.heap.size w16 X16 := by rw [hX]; exact (Below.refl _ _).alloc (Nat.le_refl _) _
          have HO16 := Lib.hid (show k2 < k16 ∧ b13 ≤ k16 ∧ k16 < X16.heap.size from by
            have h1 := HC0_13.out.size; have h2 := hc.size; have h3 : X16.heap.size = w16.heap.size + 1 := by rw [hX]; simp
            have o0 := HO0.out; have o1 := HO2.out; have o2 := HO13.out; have o3 := HOb13.out
            omega)
          have HR16 := Lib.hid (hs.below hbx)
          have hstep : Chg (fun b => b = rb) wr13 X16 := hc.trans ((Chg.of_below hbx))
          have HT16 := Lib.hid hstep
          have HC17 := Lib.hid (show Chg (fun b => b = rb ∨ b13 ≤ b) wr13 X16 from HC0_13.out.trans (Chg.more HT16.out (fun b _ e => by have o0 := HO0.out; have o1 := HO2.out; have o2 := HO13.out; have o3 := HOb13.out; have o4 := HO16.out; omega)))
          have HV16 := Lib.hid (show (Ty.rd .num).rd X16 (fun b => b13 ≤ b ∧ b ≠ k16) [.int .i64 q15_0] e13x0 from rd_chg .num (K := fun _ => False) (Chg.of_below hbx) (fun b hb hl => ⟨id, by have hb : wr13.heap.size ≤ b := hb; have h1 := HC0_13.out.size; have o0 := HO0.out; have o1 := HO2.out; have o2 := HO13.out; have o3 := HOb13.out; have o4 := HO16.out; omega⟩) hr)
          have HB16 := Lib.hid (show Blk X16 k16 [.int .i64 q15_0, .int .i64 0, .int .i64 0, .int .i64 0, .int .i64 0, .int .i64 0, .string ⟨#[]⟩] from by rw [hX, hk]; exact Blk.new w16 _ _)
          have HK16 := Lib.hid hk
          have HX16 := Lib.hid hX
          clear hr hs hc hk hX hbx hstep
          go_wp2_with fail
          rw [← HK16.out, ← HX16.out]
          refine (rget_int X16 rb B e13s1 HR16.out e13HM1.out).mono ?_
          rintro e w19 ⟨cs, rfl, hr, hs, hc⟩
          rw [e13HD1.out] at hr hs
          dsimp only at hr hs
          obtain ⟨q18_0, rfl⟩ : ∃ z : Int, cs = [.int .i64 z] := ⟨_, hr.1⟩
          have hg : goV [.int .i64 q18_0] = .int .i64 q18_0 := rfl
          rw [hg]
          clear hg
          have hb' := HB16.out.chg hc (by have o0 := HO0.out; have o1 := HO2.out; have o2 := HO13.out; have o3 := HOb13.out; have o4 := HO16.out; omega)
          have t0 := hb'.cell 1 _ rfl
          have z0 := hb'.free 1
          obtain ⟨X19, hX⟩ : ∃ X, X = (w19.setCell ⟨k16, 1, none⟩ (.int .i64 q18_0)) := ⟨_, rfl⟩
          have hcx : Chg (fun b => b = k16) w19 X19 := by
            have g : ∀ (u : World) (j : Nat) (v : Value), Chg (fun b => b = k16) u (u.setCell ⟨k16, j, none⟩ v) := fun u j v => Chg.setCell _ _ rfl
            rw [hX]
            exact (g _ _ _)
          have HB19 := Lib.hid (show Blk X19 k16 [.int .i64 q15_0, .int .i64 q18_0, .int .i64 0, .int .i64 0, .int .i64 0, .int .i64 0, .string ⟨#[]⟩] from by rw [hX]; exact (hb'.set 1 (.int .i64 q18_0) (by simp)))
          have HR19 := Lib.hid (hs.keep (hcx.more (fun b _ e => by have o0 := HO0.out; have o1 := HO2.out; have o2 := HO13.out; have o3 := HOb13.out; have o4 := HO16.out; omega)))
          have HT19 := Lib.hid (show Chg (fun b => b = rb ∨ b = k16) X16 X19 from (hc.more (fun b _ e => .inl e)).trans (hcx.more (fun b _ e => .inr e)))
          have HV20_0 := Lib.hid (show (Ty.rd .num).rd X19 (fun b => b13 ≤ b ∧ b ≠ k16) [.int .i64 q15_0] e13x0 from rd_chg .num HT19.out (fun b hb hl => ⟨fun e => by have o0 := HO0.out; have o1 := HO2.out; have o2 := HO13.out; have o3 := HOb13.out; have o4 := HO16.out; omega, hb⟩) HV16.out)
          have HC20 := Lib.hid (show Chg (fun b => b = rb ∨ b13 ≤ b) wr13 X19 from HC17.out.trans (Chg.more HT19.out (fun b _ e => by have o0 := HO0.out; have o1 := HO2.out; have o2 := HO13.out; have o3 := HOb13.out; have o4 := HO16.out; omega)))
          have HV19 := Lib.hid (show (Ty.rd .num).rd X19 (fun b => b13 ≤ b ∧ b ≠ k16) [.int .i64 q18_0] e13x1 from rd_chg .num hcx (fun b hb hl => by have hb : X16.heap.size ≤ b := hb; have h1 := HC17.out.size; have h2 := HB16.out.lt; have o0 := HO0.out; have o1 := HO2.out; have o2 := HO13.out; have o3 := HOb13.out; have o4 := HO16.out; (try dsimp only); omega) hr)
          have HX19 := Lib.hid hX
          clear hr hs hc hb' hcx hX
          go_wp2_with fail
          rw [← HX19.out]
          refine (rget_int X19 rb B e13s2 HR19.out e13HM2.out).mono ?_
          rintro e w22 ⟨cs, rfl, hr, hs, hc⟩
          rw [e13HD2.out] at hr hs
          dsimp only at hr hs
          obtain ⟨q21_0, rfl⟩ : ∃ z : Int, cs = [.int .i64 z] := ⟨_, hr.1⟩
          have hg : goV [.int .i64 q21_0] = .int .i64 q21_0 := rfl
          rw [hg]
          clear hg
          have hb' := HB19.out.chg hc (by have o0 := HO0.out; have o1 := HO2.out; have o2 := HO13.out; have o3 := HOb13.out; have o4 := HO16.out; omega)
          have t0 := hb'.cell 2 _ rfl
          have z0 := hb'.free 2
          obtain ⟨X22, hX⟩ : ∃ X, X = (w22.setCell ⟨k16, 2, none⟩ (.int .i64 q21_0)) := ⟨_, rfl⟩
          have hcx : Chg (fun b => b = k16) w22 X22 := by
            have g : ∀ (u : World) (j : Nat) (v : Value), Chg (fun b => b = k16) u (u.setCell ⟨k16, j, none⟩ v) := fun u j v => Chg.setCell _ _ rfl
            rw [hX]
            exact (g _ _ _)
          have HB22 := Lib.hid (show Blk X22 k16 [.int .i64 q15_0, .int .i64 q18_0, .int .i64 q21_0, .int .i64 0, .int .i64 0, .int .i64 0, .string ⟨#[]⟩] from by rw [hX]; exact (hb'.set 2 (.int .i64 q21_0) (by simp)))
          have HR22 := Lib.hid (hs.keep (hcx.more (fun b _ e => by have o0 := HO0.out; have o1 := HO2.out; have o2 := HO13.out; have o3 := HOb13.out; have o4 := HO16.out; omega)))
          have HT22 := Lib.hid (show Chg (fun b => b = rb ∨ b = k16) X19 X22 from (hc.more (fun b _ e => .inl e)).trans (hcx.more (fun b _ e => .inr e)))
          have HV23_0 := Lib.hid (show (Ty.rd .num).rd X22 (fun b => b13 ≤ b ∧ b ≠ k16) [.int .i64 q15_0] e13x0 from rd_chg .num HT22.out (fun b hb hl => ⟨fun e => by have o0 := HO0.out; have o1 := HO2.out; have o2 := HO13.out; have o3 := HOb13.out; have o4 := HO16.out; omega, hb⟩) HV20_0.out)
          have HV23_1 := Lib.hid (show (Ty.rd .num).rd X22 (fun b => b13 ≤ b ∧ b ≠ k16) [.int .i64 q18_0] e13x1 from rd_chg .num HT22.out (fun b hb hl => ⟨fun e => by have o0 := HO0.out; have o1 := HO2.out; have o2 := HO13.out; have o3 := HOb13.out; have o4 := HO16.out; omega, hb⟩) HV19.out)
          have HC23 := Lib.hid (show Chg (fun b => b = rb ∨ b13 ≤ b) wr13 X22 from HC20.out.trans (Chg.more HT22.out (fun b _ e => by have o0 := HO0.out; have o1 := HO2.out; have o2 := HO13.out; have o3 := HOb13.out; have o4 := HO16.out; omega)))
          have HV22 := Lib.hid (show (Ty.rd .num).rd X22 (fun b => b13 ≤ b ∧ b ≠ k16) [.int .i64 q21_0] e13x2 from rd_chg .num hcx (fun b hb hl => by have hb : X19.heap.size ≤ b := hb; have h1 := HC20.out.size; have h2 := HB19.out.lt; have o0 := HO0.out; have o1 := HO2.out; have o2 := HO13.out; have o3 := HOb13.out; have o4 := HO16.out; (try dsimp only); omega) hr)
          have HX22 := Lib.hid hX
          clear hr hs hc hb' hcx hX
          go_wp2_with fail
          rw [← HX22.out]
          refine (rget_int X22 rb B e13s3 HR22.out e13HM3.out).mono ?_
          rintro e w25 ⟨cs, rfl, hr, hs, hc⟩
          rw [e13HD3.out] at hr hs
          dsimp only at hr hs
          obtain ⟨q24_0, rfl⟩ : ∃ z : Int, cs = [.int .i64 z] := ⟨_, hr.1⟩
          have hg : goV [.int .i64 q24_0] = .int .i64 q24_0 := rfl
          rw [hg]
          clear hg
          have hb' := HB22.out.chg hc (by have o0 := HO0.out; have o1 := HO2.out; have o2 := HO13.out; have o3 := HOb13.out; have o4 := HO16.out; omega)
          have t0 := hb'.cell 3 _ rfl
          have z0 := hb'.free 3
          obtain ⟨X25, hX⟩ : ∃ X, X = (w25.setCell ⟨k16, 3, none⟩ (.int .i64 q24_0)) := ⟨_, rfl⟩
          have hcx : Chg (fun b => b = k16) w25 X25 := by
            have g : ∀ (u : World) (j : Nat) (v : Value), Chg (fun b => b = k16) u (u.setCell ⟨k16, j, none⟩ v) := fun u j v => Chg.setCell _ _ rfl
            rw [hX]
            exact (g _ _ _)
          have HB25 := Lib.hid (show Blk X25 k16 [.int .i64 q15_0, .int .i64 q18_0, .int .i64 q21_0, .int .i64 q24_0, .int .i64 0, .int .i64 0, .string ⟨#[]⟩] from by rw [hX]; exact (hb'.set 3 (.int .i64 q24_0) (by simp)))
          have HR25 := Lib.hid (hs.keep (hcx.more (fun b _ e => by have o0 := HO0.out; have o1 := HO2.out; have o2 := HO13.out; have o3 := HOb13.out; have o4 := HO16.out; omega)))
          have HT25 := Lib.hid (show Chg (fun b => b = rb ∨ b = k16) X22 X25 from (hc.more (fun b _ e => .inl e)).trans (hcx.more (fun b _ e => .inr e)))
          have HV26_0 := Lib.hid (show (Ty.rd .num).rd X25 (fun b => b13 ≤ b ∧ b ≠ k16) [.int .i64 q15_0] e13x0 from rd_chg .num HT25.out (fun b hb hl => ⟨fun e => by have o0 := HO0.out; have o1 := HO2.out; have o2 := HO13.out; have o3 := HOb13.out; have o4 := HO16.out; omega, hb⟩) HV23_0.out)
          have HV26_1 := Lib.hid (show (Ty.rd .num).rd X25 (fun b => b13 ≤ b ∧ b ≠ k16) [.int .i64 q18_0] e13x1 from rd_chg .num HT25.out (fun b hb hl => ⟨fun e => by have o0 := HO0.out; have o1 := HO2.out; have o2 := HO13.out; have o3 := HOb13.out; have o4 := HO16.out; omega, hb⟩) HV23_1.out)
          have HV26_2 := Lib.hid (show (Ty.rd .num).rd X25 (fun b => b13 ≤ b ∧ b ≠ k16) [.int .i64 q21_0] e13x2 from rd_chg .num HT25.out (fun b hb hl => ⟨fun e => by have o0 := HO0.out; have o1 := HO2.out; have o2 := HO13.out; have o3 := HOb13.out; have o4 := HO16.out; omega, hb⟩) HV22.out)
          have HC26 := Lib.hid (show Chg (fun b => b = rb ∨ b13 ≤ b) wr13 X25 from HC23.out.trans (Chg.more HT25.out (fun b _ e => by have o0 := HO0.out; have o1 := HO2.out; have o2 := HO13.out; have o3 := HOb13.out; have o4 := HO16.out; omega)))
          have HV25 := Lib.hid (show (Ty.rd .num).rd X25 (fun b => b13 ≤ b ∧ b ≠ k16) [.int .i64 q24_0] e13x3 from rd_chg .num hcx (fun b hb hl => by have hb : X22.heap.size ≤ b := hb; have h1 := HC23.out.size; have h2 := HB22.out.lt; have o0 := HO0.out; have o1 := HO2.out; have o2 := HO13.out; have o3 := HOb13.out; have o4 := HO16.out; (try dsimp only); omega) hr)
          have HX25 := Lib.hid hX
          clear hr hs hc hb' hcx hX
          go_wp2_with fail
          rw [← HX25.out]
          refine (rget_Value X25 rb B e13s4 HR25.out e13HM4.out).mono ?_
          rintro e w28 ⟨cs, rfl, hr, hs, hc⟩
          rw [e13HD4.out] at hr hs
          dsimp only at hr hs
          obtain ⟨q27_0, q27_1, q27_2, rfl⟩ := shape_Value hr
          have hg : goV [.int .i64 q27_0, .int .i64 q27_1, .string q27_2] = .agg #[.int .i64 q27_0, .int .i64 q27_1, .string q27_2] := rfl
          rw [hg]
          clear hg
          have hb' := HB25.out.chg hc (by have o0 := HO0.out; have o1 := HO2.out; have o2 := HO13.out; have o3 := HOb13.out; have o4 := HO16.out; omega)
          have t0 := hb'.cell 4 _ rfl
          have z0 := hb'.free 4
          have t1 := hb'.cell 5 _ rfl
          have z1 := hb'.free 5
          have t2 := hb'.cell 6 _ rfl
          have z2 := hb'.free 6
          obtain ⟨X28, hX⟩ : ∃ X, X = (((w28.setCell ⟨k16, 4, none⟩ (.int .i64 q27_0)).setCell ⟨k16, 5, none⟩ (.int .i64 q27_1)).setCell ⟨k16, 6, none⟩ (.string q27_2)) := ⟨_, rfl⟩
          have hcx : Chg (fun b => b = k16) w28 X28 := by
            have g : ∀ (u : World) (j : Nat) (v : Value), Chg (fun b => b = k16) u (u.setCell ⟨k16, j, none⟩ v) := fun u j v => Chg.setCell _ _ rfl
            rw [hX]
            exact (Chg.trans (Chg.trans (g _ _ _) (g _ _ _)) (g _ _ _))
          have HB28 := Lib.hid (show Blk X28 k16 [.int .i64 q15_0, .int .i64 q18_0, .int .i64 q21_0, .int .i64 q24_0, .int .i64 q27_0, .int .i64 q27_1, .string q27_2] from by rw [hX]; exact (((hb'.set 4 (.int .i64 q27_0) (by simp)).set 5 (.int .i64 q27_1) (by simp)).set 6 (.string q27_2) (by simp)))
          have HR28 := Lib.hid (hs.keep (hcx.more (fun b _ e => by have o0 := HO0.out; have o1 := HO2.out; have o2 := HO13.out; have o3 := HOb13.out; have o4 := HO16.out; omega)))
          have HT28 := Lib.hid (show Chg (fun b => b = rb ∨ b = k16) X25 X28 from (hc.more (fun b _ e => .inl e)).trans (hcx.more (fun b _ e => .inr e)))
          have HV29_0 := Lib.hid (show (Ty.rd .num).rd X28 (fun b => b13 ≤ b ∧ b ≠ k16) [.int .i64 q15_0] e13x0 from rd_chg .num HT28.out (fun b hb hl => ⟨fun e => by have o0 := HO0.out; have o1 := HO2.out; have o2 := HO13.out; have o3 := HOb13.out; have o4 := HO16.out; omega, hb⟩) HV26_0.out)
          have HV29_1 := Lib.hid (show (Ty.rd .num).rd X28 (fun b => b13 ≤ b ∧ b ≠ k16) [.int .i64 q18_0] e13x1 from rd_chg .num HT28.out (fun b hb hl => ⟨fun e => by have o0 := HO0.out; have o1 := HO2.out; have o2 := HO13.out; have o3 := HOb13.out; have o4 := HO16.out; omega, hb⟩) HV26_1.out)
          have HV29_2 := Lib.hid (show (Ty.rd .num).rd X28 (fun b => b13 ≤ b ∧ b ≠ k16) [.int .i64 q21_0] e13x2 from rd_chg .num HT28.out (fun b hb hl => ⟨fun e => by have o0 := HO0.out; have o1 := HO2.out; have o2 := HO13.out; have o3 := HOb13.out; have o4 := HO16.out; omega, hb⟩) HV26_2.out)
          have HV29_3 := Lib.hid (show (Ty.rd .num).rd X28 (fun b => b13 ≤ b ∧ b ≠ k16) [.int .i64 q24_0] e13x3 from rd_chg .num HT28.out (fun b hb hl => ⟨fun e => by have o0 := HO0.out; have o1 := HO2.out; have o2 := HO13.out; have o3 := HOb13.out; have o4 := HO16.out; omega, hb⟩) HV25.out)
          have HC29 := Lib.hid (show Chg (fun b => b = rb ∨ b13 ≤ b) wr13 X28 from HC26.out.trans (Chg.more HT28.out (fun b _ e => by have o0 := HO0.out; have o1 := HO2.out; have o2 := HO13.out; have o3 := HOb13.out; have o4 := HO16.out; omega)))
          have HV28 := Lib.hid (show (Ty.rd tValue).rd X28 (fun b => b13 ≤ b ∧ b ≠ k16) [.int .i64 q27_0, .int .i64 q27_1, .string q27_2] e13x4 from rd_chg tValue hcx (fun b hb hl => by have hb : X25.heap.size ≤ b := hb; have h1 := HC26.out.size; have h2 := HB25.out.lt; have o0 := HO0.out; have o1 := HO2.out; have o2 := HO13.out; have o3 := HOb13.out; have o4 := HO16.out; (try dsimp only); omega) hr)
          have HX28 := Lib.hid hX
          clear hr hs hc hb' hcx hX
          go_upto_region 14 with fail
          rw [← HX28.out]
          have HCX13 := Lib.hid (show Chg (fun b => b = rb) wr13 X28 from Chg.more HC29.out (fun b hb e => by have o0 := HO0.out; have o1 := HO2.out; have o2 := HO13.out; have o3 := HOb13.out; have o4 := HO16.out; omega))
          have HX13 := Lib.hid (show (Ty.rd tExpr).rd X28 (wr13.heap.size ≤ ·) [.int .i64 q15_0, .int .i64 q18_0, .int .i64 q21_0, .int .i64 q24_0, .int .i64 q27_0, .int .i64 q27_1, .string q27_2] y13 from by
            rw [e13DEC.out.1]
            have h0 := Rd.more (F := (fun b => b13 ≤ b ∧ b ≠ k16)) (G := (wr13.heap.size ≤ ·)) (Ty.rd .num) (fun b hb => by have := HOb13.out; (try dsimp only at hb ⊢); omega) HV29_0.out
            have h1 := Rd.more (F := (fun b => b13 ≤ b ∧ b ≠ k16)) (G := (wr13.heap.size ≤ ·)) (Ty.rd .num) (fun b hb => by have := HOb13.out; (try dsimp only at hb ⊢); omega) HV29_1.out
            have h2 := Rd.more (F := (fun b => b13 ≤ b ∧ b ≠ k16)) (G := (wr13.heap.size ≤ ·)) (Ty.rd .num) (fun b hb => by have := HOb13.out; (try dsimp only at hb ⊢); omega) HV29_2.out
            have h3 := Rd.more (F := (fun b => b13 ≤ b ∧ b ≠ k16)) (G := (wr13.heap.size ≤ ·)) (Ty.rd .num) (fun b hb => by have := HOb13.out; (try dsimp only at hb ⊢); omega) HV29_3.out
            have h4 := Rd.more (F := (fun b => b13 ≤ b ∧ b ≠ k16)) (G := (wr13.heap.size ≤ ·)) (Ty.rd tValue) (fun b hb => by have := HOb13.out; (try dsimp only at hb ⊢); omega) HV28.out
            exact ⟨_, _, rfl, h0, _, _, rfl, h1, _, _, rfl, h2, _, _, rfl, h3, h4⟩)
          have HRX13 := Lib.hid (show RefR X28 rb B y2_13 from by rw [e13DEC.out.2]; exact HR28.out)
          have HAX13 := Lib.hid (HA13.out.turn HCX13.out HRX13.out)
          have HB3_13 := Lib.hid (show Below X28.heap.size X28 (X28.alloc (.cells #[.int .i64 q15_0, .int .i64 q18_0, .int .i64 q21_0, .int .i64 q24_0, .int .i64 q27_0, .int .i64 q27_1, .string q27_2] 166)) from (Below.refl _ _).alloc (Nat.le_refl _) _)
          have HA3_13 := Lib.hid (HAX13.out.below HB3_13.out)
          have qb13_0 := HB28.out.cell 0 _ rfl
          have qb13_1 := HB28.out.cell 1 _ rfl
          have qb13_2 := HB28.out.cell 2 _ rfl
          have qb13_3 := HB28.out.cell 3 _ rfl
          have qb13_4 := HB28.out.cell 4 _ rfl
          have qb13_5 := HB28.out.cell 5 _ rfl
          have qb13_6 := HB28.out.cell 6 _ rfl
          have qv13 : X28.cell? ⟨k2, 5, none⟩ = some v13 := HAX13.out.blk.cell 5 _ rfl
          go_wp2_with (at_builtin; refine wpList_append_o rfl _ _ 108 rfl B13 166 i0_13 _ 7 64 Tryz.underlying108 HI13.out.1 HI13.out.2.1 HI13.out.2.2.1 HI13.out.2.2.2 rfl (by decide) v13 l13.length xs13 rfl HA3_13.out.rows.row _ 1 [.int .i64 q15_0, .int .i64 q18_0, .int .i64 q21_0, .int .i64 q24_0, .int .i64 q27_0, .int .i64 q27_1, .string q27_2] rfl (sl_cells1 X28 _ _ rfl) (fun _ _ h => by cases h) (by simp [Value.oneCell']) (by have := HLE13.out; have := HM1_13.out; unfold maxLen; omega) (by have := HLE13.out; have := HM1_13.out; omega) HA3_13.out.ord.2.2.1 ?_)
          intro v' w4 h1 h2 h3
          obtain ⟨va, vn, vc, rfl⟩ := ownk_shape h1
          have hbk := HA3_13.out.app h2
          have tb := hbk.cell 5 _ rfl
          have zb := hbk.free 5
          have HST4 := Lib.hid (HA13.out.step HCX13.out HRX13.out HX13.out HB3_13.out h1 h2 (by rw [World.size_alloc]; exact h3))
          clear h1 h2 h3 hbk
          go_wp2
          go_roundg k'
          case rel => exact ⟨j13 + 1, k', y2_13, l13 ++ [y13], _, _, rfl, by have := HQ13.out; omega, by go_num, HST4.out, HMK2_13.out, by have := HLE13.out; simp; omega, HL2_13.out.1, HL2_13.out.2⟩
          case measure => omega
  case rest =>
    generalize wc = X13 at *
    obtain ⟨la13, ln13, lc13, hr, hb, hl, hc⟩ := hcut
    have HRl13 := Lib.hid hr
    have HBl13 := Lib.hid hb
    have HTl13 := Lib.hid hc
    have HB30_z := Lib.hid (show Blk X13 w.heap.size [.int .i64 0, .string ⟨#[]⟩, .slice none 0 0, .int .i64 0, .int .i64 0, .slice none 0 0, .int .i64 0, .slice none 0 0, .string ⟨#[]⟩, .slice none 0 0, .slice none 0 0, .slice none 0 0, .slice none 0 0, .int .i64 0, .string ⟨#[]⟩, .int .i64 0] from HB14_z.out.chg HTl13.out (by have o0 := HO0.out; have o1 := HO2.out; have o2 := HO13.out; omega))
    have HV30_0 := Lib.hid (show (Ty.rd .num).rd X13 (fun b => bs ≤ b ∧ b ≠ w.heap.size ∧ b ≠ rb ∧ b ≠ k2) [.int .i64 q1_0] px0 from rd_chg .num HTl13.out (fun b hb hl => ⟨fun e => by have o0 := HO0.out; have o1 := HO2.out; have o2 := HO13.out; omega, hb⟩) HV14_0.out)
    have HV30_1 := Lib.hid (show (Ty.rd .str).rd X13 (fun b => bs ≤ b ∧ b ≠ w.heap.size ∧ b ≠ rb ∧ b ≠ k2) [.string q4_0] px1 from rd_chg .str HTl13.out (fun b hb hl => ⟨fun e => by have o0 := HO0.out; have o1 := HO2.out; have o2 := HO13.out; omega, hb⟩) HV14_1.out)
    have HV30_2 := Lib.hid (show (Ty.rd (.list tValue)).rd X13 (fun b => bs ≤ b ∧ b ≠ w.heap.size ∧ b ≠ rb ∧ b ≠ k2) [.slice q7_a0 q7_n0 q7_c0] px2 from rd_chg (.list tValue) HTl13.out (fun b hb hl => ⟨fun e => by have o0 := HO0.out; have o1 := HO2.out; have o2 := HO13.out; omega, hb⟩) HV14_2.out)
    have HV30_3 := Lib.hid (show (Ty.rd tPeriod).rd X13 (fun b => bs ≤ b ∧ b ≠ w.heap.size ∧ b ≠ rb ∧ b ≠ k2) [.int .i64 q10_0, .int .i64 q10_1] px3 from rd_chg tPeriod HTl13.out (fun b hb hl => ⟨fun e => by have o0 := HO0.out; have o1 := HO2.out; have o2 := HO13.out; omega, hb⟩) HV14_3.out)
    have HC30 := Lib.hid (show Chg (fun b => b = rb ∨ bs ≤ b) w X13 from HC14.out.trans (Chg.more HTl13.out (fun b _ e => by have o0 := HO0.out; have o1 := HO2.out; have o2 := HO13.out; omega)))
    have HVl13 := Lib.hid (show (Ty.rd (.list tExpr)).rd X13 (fun b => bs ≤ b ∧ b ≠ w.heap.size ∧ b ≠ rb ∧ b ≠ k2) [.slice la13 ln13 lc13] px4 from Rd.more _ (fun b hb => by have hb : B13 ≤ b := hb; have o0 := HO0.out; have o1 := HO2.out; have o2 := HO13.out; (try dsimp only); omega) hl)
    clear hr hb hl hc
    go_wp2_with fail
    refine (rget_int X13 rb B ps5 HRl13.out pHM5.out).mono ?_
    rintro e w32 ⟨cs, rfl, hr, hs, hc⟩
    rw [pHD5.out] at hr hs
    dsimp only at hr hs
    obtain ⟨q31_0, rfl⟩ : ∃ z : Int, cs = [.int .i64 z] := ⟨_, hr.1⟩
    have hg : goV [.int .i64 q31_0] = .int .i64 q31_0 := rfl
    rw [hg]
    clear hg
    have hb' := HBl13.out.chg hc (by have o0 := HO0.out; have o1 := HO2.out; have o2 := HO13.out; omega)
    have t0 := hb'.cell 6 _ rfl
    have z0 := hb'.free 6
    obtain ⟨X32, hX⟩ : ∃ X, X = (w32.setCell ⟨k2, 6, none⟩ (.int .i64 q31_0)) := ⟨_, rfl⟩
    have hcx : Chg (fun b => b = k2) w32 X32 := by
      have g : ∀ (u : World) (j : Nat) (v : Value), Chg (fun b => b = k2) u (u.setCell ⟨k2, j, none⟩ v) := fun u j v => Chg.setCell _ _ rfl
      rw [hX]
      exact (g _ _ _)
    have HB32 := Lib.hid (show Blk X32 k2 [.int .i64 q1_0, .string q4_0, .slice q7_a0 q7_n0 q7_c0, .int .i64 q10_0, .int .i64 q10_1, .slice la13 ln13 lc13, .int .i64 q31_0, .slice none 0 0, .string ⟨#[]⟩, .slice none 0 0, .slice none 0 0, .slice none 0 0, .slice none 0 0, .int .i64 0, .string ⟨#[]⟩, .int .i64 0] from by rw [hX]; exact (hb'.set 6 (.int .i64 q31_0) (by simp)))
    have HR32 := Lib.hid (hs.keep (hcx.more (fun b _ e => by have o0 := HO0.out; have o1 := HO2.out; have o2 := HO13.out; omega)))
    have HT32 := Lib.hid (show Chg (fun b => b = rb ∨ b = k2) X13 X32 from (hc.more (fun b _ e => .inl e)).trans (hcx.more (fun b _ e => .inr e)))
    have HB33_z := Lib.hid (show Blk X32 w.heap.size [.int .i64 0, .string ⟨#[]⟩, .slice none 0 0, .int .i64 0, .int .i64 0, .slice none 0 0, .int .i64 0, .slice none 0 0, .string ⟨#[]⟩, .slice none 0 0, .slice none 0 0, .slice none 0 0, .slice none 0 0, .int .i64 0, .string ⟨#[]⟩, .int .i64 0] from HB30_z.out.chg HT32.out (by have o0 := HO0.out; have o1 := HO2.out; have o2 := HO13.out; omega))
    have HV33_0 := Lib.hid (show (Ty.rd .num).rd X32 (fun b => bs ≤ b ∧ b ≠ w.heap.size ∧ b ≠ rb ∧ b ≠ k2) [.int .i64 q1_0] px0 from rd_chg .num HT32.out (fun b hb hl => ⟨fun e => by have o0 := HO0.out; have o1 := HO2.out; have o2 := HO13.out; omega, hb⟩) HV30_0.out)
    have HV33_1 := Lib.hid (show (Ty.rd .str).rd X32 (fun b => bs ≤ b ∧ b ≠ w.heap.size ∧ b ≠ rb ∧ b ≠ k2) [.string q4_0] px1 from rd_chg .str HT32.out (fun b hb hl => ⟨fun e => by have o0 := HO0.out; have o1 := HO2.out; have o2 := HO13.out; omega, hb⟩) HV30_1.out)
    have HV33_2 := Lib.hid (show (Ty.rd (.list tValue)).rd X32 (fun b => bs ≤ b ∧ b ≠ w.heap.size ∧ b ≠ rb ∧ b ≠ k2) [.slice q7_a0 q7_n0 q7_c0] px2 from rd_chg (.list tValue) HT32.out (fun b hb hl => ⟨fun e => by have o0 := HO0.out; have o1 := HO2.out; have o2 := HO13.out; omega, hb⟩) HV30_2.out)
    have HV33_3 := Lib.hid (show (Ty.rd tPeriod).rd X32 (fun b => bs ≤ b ∧ b ≠ w.heap.size ∧ b ≠ rb ∧ b ≠ k2) [.int .i64 q10_0, .int .i64 q10_1] px3 from rd_chg tPeriod HT32.out (fun b hb hl => ⟨fun e => by have o0 := HO0.out; have o1 := HO2.out; have o2 := HO13.out; omega, hb⟩) HV30_3.out)
    have HV33_4 := Lib.hid (show (Ty.rd (.list tExpr)).rd X32 (fun b => bs ≤ b ∧ b ≠ w.heap.size ∧ b ≠ rb ∧ b ≠ k2) [.slice la13 ln13 lc13] px4 from rd_chg (.list tExpr) HT32.out (fun b hb hl => ⟨fun e => by have o0 := HO0.out; have o1 := HO2.out; have o2 := HO13.out; omega, hb⟩) HVl13.out)
    have HC33 := Lib.hid (show Chg (fun b => b = rb ∨ bs ≤ b) w X32 from HC30.out.trans (Chg.more HT32.out (fun b _ e => by have o0 := HO0.out; have o1 := HO2.out; have o2 := HO13.out; omega)))
    have HV32 := Lib.hid (show (Ty.rd .num).rd X32 (fun b => bs ≤ b ∧ b ≠ w.heap.size ∧ b ≠ rb ∧ b ≠ k2) [.int .i64 q31_0] px5 from rd_chg .num hcx (fun b hb hl => by have hb : X13.heap.size ≤ b := hb; have h1 := HC30.out.size; have h2 := HBl13.out.lt; have o0 := HO0.out; have o1 := HO2.out; have o2 := HO13.out; (try dsimp only); omega) hr)
    have HX32 := Lib.hid hX
    clear hr hs hc hb' hcx hX
    obtain ⟨n34, z34, hn⟩ : ∃ n s', dsize ps6 = (n, s') := ⟨_, _, rfl⟩
    have HN34 := Lib.hid hn
    have HLS34 := Lib.hid (show dmany (dec tAssignment) n34 z34 = (px6, ps7) from by
      have h := pHD6.out
      replace h : dmany (dec tAssignment) (dsize ps6).1 (dsize ps6).2 = _ := h
      rw [hn] at h; exact h)
    obtain ⟨hm1, hm2⟩ := pHM6.out
    rw [hn] at hm1 hm2
    replace hm1 : n34 ≤ 1073741824 := hm1
    have HMM34 := Lib.hid hm2
    have HM1_34 := Lib.hid hm1
    have hn0_34 : 0 ≤ (n34 : Int) ∧ (n34 : Int) ≤ 1073741824 := by omega
    have hsz := rcd_length HR32.out
    rw [hn] at hsz
    have HSZ34 := Lib.hid hsz
    clear hsz hn hm1 hm2
    go_wp2_with fail
    rw [← HX32.out]
    refine HSZ34.out.mono ?_
    rintro e w34 ⟨rfl, hr, hc⟩
    have HR34 := Lib.hid (show RefR w34 rb B z34 from hr)
    have HT34 := Lib.hid hc
    clear hr hc
    have HB35_z := Lib.hid (show Blk w34 w.heap.size [.int .i64 0, .string ⟨#[]⟩, .slice none 0 0, .int .i64 0, .int .i64 0, .slice none 0 0, .int .i64 0, .slice none 0 0, .string ⟨#[]⟩, .slice none 0 0, .slice none 0 0, .slice none 0 0, .slice none 0 0, .int .i64 0, .string ⟨#[]⟩, .int .i64 0] from HB33_z.out.chg HT34.out (by have o0 := HO0.out; have o1 := HO2.out; have o2 := HO13.out; omega))
    have HB35_2 := Lib.hid (show Blk w34 k2 [.int .i64 q1_0, .string q4_0, .slice q7_a0 q7_n0 q7_c0, .int .i64 q10_0, .int .i64 q10_1, .slice la13 ln13 lc13, .int .i64 q31_0, .slice none 0 0, .string ⟨#[]⟩, .slice none 0 0, .slice none 0 0, .slice none 0 0, .slice none 0 0, .int .i64 0, .string ⟨#[]⟩, .int .i64 0] from HB32.out.chg HT34.out (by have o0 := HO0.out; have o1 := HO2.out; have o2 := HO13.out; omega))
    have HV35_0 := Lib.hid (show (Ty.rd .num).rd w34 (fun b => bs ≤ b ∧ b ≠ w.heap.size ∧ b ≠ rb ∧ b ≠ k2) [.int .i64 q1_0] px0 from rd_chg .num HT34.out (fun b hb hl => ⟨fun e => by have o0 := HO0.out; have o1 := HO2.out; have o2 := HO13.out; omega, hb⟩) HV33_0.out)
    have HV35_1 := Lib.hid (show (Ty.rd .str).rd w34 (fun b => bs ≤ b ∧ b ≠ w.heap.size ∧ b ≠ rb ∧ b ≠ k2) [.string q4_0] px1 from rd_chg .str HT34.out (fun b hb hl => ⟨fun e => by have o0 := HO0.out; have o1 := HO2.out; have o2 := HO13.out; omega, hb⟩) HV33_1.out)
    have HV35_2 := Lib.hid (show (Ty.rd (.list tValue)).rd w34 (fun b => bs ≤ b ∧ b ≠ w.heap.size ∧ b ≠ rb ∧ b ≠ k2) [.slice q7_a0 q7_n0 q7_c0] px2 from rd_chg (.list tValue) HT34.out (fun b hb hl => ⟨fun e => by have o0 := HO0.out; have o1 := HO2.out; have o2 := HO13.out; omega, hb⟩) HV33_2.out)
    have HV35_3 := Lib.hid (show (Ty.rd tPeriod).rd w34 (fun b => bs ≤ b ∧ b ≠ w.heap.size ∧ b ≠ rb ∧ b ≠ k2) [.int .i64 q10_0, .int .i64 q10_1] px3 from rd_chg tPeriod HT34.out (fun b hb hl => ⟨fun e => by have o0 := HO0.out; have o1 := HO2.out; have o2 := HO13.out; omega, hb⟩) HV33_3.out)
    have HV35_4 := Lib.hid (show (Ty.rd (.list tExpr)).rd w34 (fun b => bs ≤ b ∧ b ≠ w.heap.size ∧ b ≠ rb ∧ b ≠ k2) [.slice la13 ln13 lc13] px4 from rd_chg (.list tExpr) HT34.out (fun b hb hl => ⟨fun e => by have o0 := HO0.out; have o1 := HO2.out; have o2 := HO13.out; omega, hb⟩) HV33_4.out)
    have HV35_5 := Lib.hid (show (Ty.rd .num).rd w34 (fun b => bs ≤ b ∧ b ≠ w.heap.size ∧ b ≠ rb ∧ b ≠ k2) [.int .i64 q31_0] px5 from rd_chg .num HT34.out (fun b hb hl => ⟨fun e => by have o0 := HO0.out; have o1 := HO2.out; have o2 := HO13.out; omega, hb⟩) HV32.out)
    have HC35 := Lib.hid (show Chg (fun b => b = rb ∨ bs ≤ b) w w34 from HC33.out.trans (Chg.more HT34.out (fun b _ e => by have o0 := HO0.out; have o1 := HO2.out; have o2 := HO13.out; omega)))
    obtain ⟨B34, hBL⟩ : ∃ b, b = w34.heap.size := ⟨_, rfl⟩
    have HO34 := Lib.hid (show B34 = w34.heap.size ∧ bs ≤ B34 ∧ k2 < B34 from ⟨hBL, by have h := HC35.out.size; have o0 := HO0.out; have o1 := HO2.out; have o2 := HO13.out; omega, by rw [hBL]; exact HB35_2.out.lt⟩)
    clear hBL
    have HLA34 := Lib.hid (show LoopAt tAssignment 171 2 B34 rb B k2 [.int .i64 q1_0, .string q4_0, .slice q7_a0 q7_n0 q7_c0, .int .i64 q10_0, .int .i64 q10_1, .slice la13 ln13 lc13, .int .i64 q31_0, .slice none 0 0, .string ⟨#[]⟩, .slice none 0 0, .slice none 0 0, .slice none 0 0, .slice none 0 0, .int .i64 0, .string ⟨#[]⟩, .int .i64 0] 7 w34 w34 z34 [] [] (.slice none 0 0) from LoopAt.start HR34.out HB35_2.out rfl (by simp) (by have o0 := HO0.out; have o1 := HO2.out; have o2 := HO13.out; have o3 := HO34.out; omega) (by have o0 := HO0.out; have o1 := HO2.out; have o2 := HO13.out; have o3 := HO34.out; omega))
    go_upto_block 2 with fail
    go_cut [7] (fun t7 wx => ∃ (a : Option Addr) (nn c : Nat), RefR wx rb B ps7 ∧ Blk wx k2 [.int .i64 q1_0, .string q4_0, .slice q7_a0 q7_n0 q7_c0, .int .i64 q10_0, .int .i64 q10_1, .slice la13 ln13 lc13, .int .i64 q31_0, .slice a nn c, .string ⟨#[]⟩, .slice none 0 0, .slice none 0 0, .slice none 0 0, .slice none 0 0, .int .i64 0, .string ⟨#[]⟩, .int .i64 0] ∧ (Ty.rd (.list tAssignment)).rd wx (B34 ≤ ·) [.slice a nn c] px6 ∧ Chg (fun b => b = rb ∨ b = k2 ∨ B34 ≤ b) w34 wx)
    case first =>
      go_wp2_with fail
      go_loopg [7] n34 (fun gk t7 wr => ∃ (q k : Nat) (sc : St) (l : List (Ty.T tAssignment)) (xs : List Value) (v : Value), gk = k ∧ q + k = n34 ∧ t7 = .int .i64 (q : Int) ∧ LoopAt tAssignment 171 2 B34 rb B k2 [.int .i64 q1_0, .string q4_0, .slice q7_a0 q7_n0 q7_c0, .int .i64 q10_0, .int .i64 q10_1, .slice la13 ln13 lc13, .int .i64 q31_0, .slice none 0 0, .string ⟨#[]⟩, .slice none 0 0, .slice none 0 0, .slice none 0 0, .slice none 0 0, .int .i64 0, .string ⟨#[]⟩, .int .i64 0] 7 w34 wr sc l xs v ∧ ModMany (Mod tAssignment) (dec tAssignment) k sc ∧ l.length + k ≤ n34 ∧ l ++ (dmany (dec tAssignment) k sc).1 = px6 ∧ (dmany (dec tAssignment) k sc).2 = ps7)
      case atStart =>
        exact ⟨0, n34, z34, [], [], .slice none 0 0, rfl, by omega, rfl, HLA34.out, HMM34.out, by simp, by rw [HLS34.out]; rfl, by rw [HLS34.out]⟩
      case round =>
        generalize gk = gk34 at *
        generalize wr = wr34 at *
        obtain ⟨j34, kk, sc34, l34, xs34, v34, rfl, hqk, rfl, hla, hm, hle, hL, hS⟩ := hrel
        have HQ34 := Lib.hid hqk
        have HA34 := Lib.hid hla
        have HMK34 := Lib.hid hm
        have HLE34 := Lib.hid hle
        have HLL34 := Lib.hid hL
        have HSS34 := Lib.hid hS
        have hq0_34 : 0 ≤ (j34 : Int) ∧ (j34 : Int) ≤ 1073741824 := by have := HM1_34.out; omega
        obtain ⟨ii, err34, hp, hst⟩ := hla.r.at_
        have c2_34 := hp.c2
        have HST34 := Lib.hid hst
        clear hqk hla hm hle hL hS hp hst
        by_cases hk34 : gk34 = 0
        · have hqn : j34 = n34 := by have := HQ34.out; omega
          have hd1 : decide ((j34 : Int) < (n34 : Int)) = false := decide_eq_false (by omega)
          have hd1' : ¬ (j34 : Int) < (n34 : Int) := by omega
          clear hqn
          subst hk34
          have HE1 := Lib.hid (show l34 = px6 from by have := HLL34.out; simpa [dmany] using this)
          have HE2 := Lib.hid (show sc34 = ps7 from by have := HSS34.out; exact this)
          obtain ⟨a, nn, c, rfl, hfl⟩ := HA34.out.list
          have HFL := Lib.hid hfl
          clear hfl
          go_wp2
          go_meet
          exact ⟨a, nn, c, by rw [← HE2.out]; exact HA34.out.r, HA34.out.blk, by rw [← HE1.out]; exact HFL.out, HA34.out.chg⟩
        · have hd1 : decide ((j34 : Int) < (n34 : Int)) = true := decide_eq_true (by have := HQ34.out; omega)
          have hd1' : (j34 : Int) < (n34 : Int) := by have := HQ34.out; omega
          cases sc34 with
          | error e =>
            obtain ⟨he1, he⟩ := HST34.out.2 e rfl
            have g0 : (err34 == 0) = false := by rw [he1]; rcases he with rfl | rfl <;> rfl
            have HE1 := Lib.hid (show l34 = px6 from by have := HLL34.out; rw [dmany_error] at this; simpa using this)
            have HE2 := Lib.hid (show (.error e : St) = ps7 from by have := HSS34.out; rw [dmany_error] at this; exact this)
            clear he he1
            obtain ⟨a, nn, c, rfl, hfl⟩ := HA34.out.list
            have HFL := Lib.hid hfl
            clear hfl
            go_wp2
            go_meet
            exact ⟨a, nn, c, by rw [← HE2.out]; exact HA34.out.r, HA34.out.blk, by rw [← HE1.out]; exact HFL.out, HA34.out.chg⟩
          | ok r34 =>
            obtain ⟨rfl, -⟩ := HST34.out.1 r34 rfl
            obtain ⟨k', rfl⟩ : ∃ k', gk34 = k' + 1 := ⟨gk34 - 1, by omega⟩
            obtain ⟨rr34, hrr⟩ : ∃ s : St, s = .ok r34 := ⟨_, rfl⟩
            obtain ⟨y34, y2_34, hd⟩ : ∃ x s', dec tAssignment rr34 = (x, s') := ⟨_, _, rfl⟩
            have HL2_34 := Lib.hid (show (l34 ++ [y34]) ++ (dmany (dec tAssignment) k' y2_34).1 = px6 ∧ (dmany (dec tAssignment) k' y2_34).2 = ps7 from by
              have h1 := HLL34.out; have h2 := HSS34.out
              rw [dmany, ← hrr] at h1 h2
              simp only [hd] at h1 h2
              exact ⟨by simpa using h1, h2⟩)
            have hM2 : Mod tAssignment rr34 ∧ ModMany (Mod tAssignment) (dec tAssignment) k' y2_34 := by
              have h1 := HMK34.out
              rw [ModMany, ← hrr] at h1
              simp only [hd] at h1
              exact h1
            have HMK2_34 := Lib.hid hM2.2
            have HRR34 := Lib.hid (show RefR wr34 rb B rr34 from by rw [hrr]; exact HA34.out.r)
            have HDY34 := Lib.hid hd
            have hmy := hM2.1
            clear hd hM2 hrr
            obtain ⟨i0_34, hi0, hz0, hz1, hz2⟩ := info_parts info_t_Assignment
            have HI34 := Lib.hid (And.intro hi0 (And.intro hz0 (And.intro hz1 hz2)))
            clear hi0 hz0 hz1 hz2
            obtain ⟨b34, hbs⟩ : ∃ b, b = wr34.heap.size := ⟨_, rfl⟩
            have HOb34 := Lib.hid (show b34 = wr34.heap.size ∧ B34 ≤ b34 ∧ k2 < b34 from ⟨hbs, by rw [hbs]; exact HA34.out.ord.2.2.1, by have := HA34.out.ord; omega⟩)
            have HC0_34 := Lib.hid (show Chg (fun b => b = rb ∨ b34 ≤ b) wr34 wr34 from Chg.refl _ _)
            clear hbs
            obtain ⟨e34x0, e34s1, e34hd0⟩ : ∃ x s', dec .num rr34 = (x, s') := ⟨_, _, rfl⟩
            obtain ⟨e34x1, e34s2, e34hd1⟩ : ∃ x s', dec .num e34s1 = (x, s') := ⟨_, _, rfl⟩
            obtain ⟨e34hm0, e34hm1⟩ := hmy
            simp only [e34hd0] at e34hm1
            have e34HM0 := Lib.hid e34hm0
            have e34HM1 := Lib.hid e34hm1
            have e34HD0 := Lib.hid e34hd0
            have e34HD1 := Lib.hid e34hd1
            have e34DEC := Lib.hid (show y34 = (e34x0, e34x1) ∧ y2_34 = e34s2 from by
              have h := HDY34.out
              replace h : dec (.pair .num .num) rr34 = _ := h
              simp only [dec_pair, e34hd0, e34hd1] at h
              cases h; exact ⟨rfl, rfl⟩)
            clear e34hd0 e34hd1 e34hm0 e34hm1
            go_wp2_with fail
            refine (rget_int wr34 rb B rr34 HRR34.out e34HM0.out).mono ?_
            rintro e w37 ⟨cs, rfl, hr, hs, hc⟩
            rw [e34HD0.out] at hr hs
            dsimp only at hr hs
            obtain ⟨q36_0, rfl⟩ : ∃ z : Int, cs = [.int .i64 z] := ⟨_, hr.1⟩
            have hg : goV [.int .i64 q36_0] = .int .i64 q36_0 := rfl
            rw [hg]
            clear hg
            obtain ⟨k37, hk⟩ : ∃ k, k = w37.heap.size := ⟨_, rfl⟩
            obtain ⟨X37, hX⟩ : ∃ X, X = w37.alloc (.cells #[.int .i64 q36_0, .int .i64 0] 171) := ⟨_, rfl⟩
            have hbx : Below w37.heap.size w37 X37 := by rw [hX]; exact (Below.refl _ _).alloc (Nat.le_refl _) _
            have HO37 := Lib.hid (show k2 < k37 ∧ b34 ≤ k37 ∧ k37 < X37.heap.size from by
              have h1 := HC0_34.out.size; have h2 := hc.size; have h3 : X37.heap.size = w37.heap.size + 1 := by rw [hX]; simp
              have o0 := HO0.out; have o1 := HO2.out; have o2 := HO13.out; have o3 := HO34.out; have o4 := HOb34.out
              omega)
            have HR37 := Lib.hid (hs.below hbx)
            have hstep : Chg (fun b => b = rb) wr34 X37 := hc.trans ((Chg.of_below hbx))
            have HT37 := Lib.hid hstep
            have HC38 := Lib.hid (show Chg (fun b => b = rb ∨ b34 ≤ b) wr34 X37 from HC0_34.out.trans (Chg.more HT37.out (fun b _ e => by have o0 := HO0.out; have o1 := HO2.out; have o2 := HO13.out; have o3 := HO34.out; have o4 := HOb34.out; have o5 := HO37.out; omega)))
            have HV37 := Lib.hid (show (Ty.rd .num).rd X37 (fun b => b34 ≤ b ∧ b ≠ k37) [.int .i64 q36_0] e34x0 from rd_chg .num (K := fun _ => False) (Chg.of_below hbx) (fun b hb hl => ⟨id, by have hb : wr34.heap.size ≤ b := hb; have h1 := HC0_34.out.size; have o0 := HO0.out; have o1 := HO2.out; have o2 := HO13.out; have o3 := HO34.out; have o4 := HOb34.out; have o5 := HO37.out; omega⟩) hr)
            have HB37 := Lib.hid (show Blk X37 k37 [.int .i64 q36_0, .int .i64 0] from by rw [hX, hk]; exact Blk.new w37 _ _)
            have HK37 := Lib.hid hk
            have HX37 := Lib.hid hX
            clear hr hs hc hk hX hbx hstep
            go_wp2_with fail
            rw [← HK37.out, ← HX37.out]
            refine (rget_int X37 rb B e34s1 HR37.out e34HM1.out).mono ?_
            rintro e w40 ⟨cs, rfl, hr, hs, hc⟩
            rw [e34HD1.out] at hr hs
            dsimp only at hr hs
            obtain ⟨q39_0, rfl⟩ : ∃ z : Int, cs = [.int .i64 z] := ⟨_, hr.1⟩
            have hg : goV [.int .i64 q39_0] = .int .i64 q39_0 := rfl
            rw [hg]
            clear hg
            have hb' := HB37.out.chg hc (by have o0 := HO0.out; have o1 := HO2.out; have o2 := HO13.out; have o3 := HO34.out; have o4 := HOb34.out; have o5 := HO37.out; omega)
            have t0 := hb'.cell 1 _ rfl
            have z0 := hb'.free 1
            obtain ⟨X40, hX⟩ : ∃ X, X = (w40.setCell ⟨k37, 1, none⟩ (.int .i64 q39_0)) := ⟨_, rfl⟩
            have hcx : Chg (fun b => b = k37) w40 X40 := by
              have g : ∀ (u : World) (j : Nat) (v : Value), Chg (fun b => b = k37) u (u.setCell ⟨k37, j, none⟩ v) := fun u j v => Chg.setCell _ _ rfl
              rw [hX]
              exact (g _ _ _)
            have HB40 := Lib.hid (show Blk X40 k37 [.int .i64 q36_0, .int .i64 q39_0] from by rw [hX]; exact (hb'.set 1 (.int .i64 q39_0) (by simp)))
            have HR40 := Lib.hid (hs.keep (hcx.more (fun b _ e => by have o0 := HO0.out; have o1 := HO2.out; have o2 := HO13.out; have o3 := HO34.out; have o4 := HOb34.out; have o5 := HO37.out; omega)))
            have HT40 := Lib.hid (show Chg (fun b => b = rb ∨ b = k37) X37 X40 from (hc.more (fun b _ e => .inl e)).trans (hcx.more (fun b _ e => .inr e)))
            have HV41_0 := Lib.hid (show (Ty.rd .num).rd X40 (fun b => b34 ≤ b ∧ b ≠ k37) [.int .i64 q36_0] e34x0 from rd_chg .num HT40.out (fun b hb hl => ⟨fun e => by have o0 := HO0.out; have o1 := HO2.out; have o2 := HO13.out; have o3 := HO34.out; have o4 := HOb34.out; have o5 := HO37.out; omega, hb⟩) HV37.out)
            have HC41 := Lib.hid (show Chg (fun b => b = rb ∨ b34 ≤ b) wr34 X40 from HC38.out.trans (Chg.more HT40.out (fun b _ e => by have o0 := HO0.out; have o1 := HO2.out; have o2 := HO13.out; have o3 := HO34.out; have o4 := HOb34.out; have o5 := HO37.out; omega)))
            have HV40 := Lib.hid (show (Ty.rd .num).rd X40 (fun b => b34 ≤ b ∧ b ≠ k37) [.int .i64 q39_0] e34x1 from rd_chg .num hcx (fun b hb hl => by have hb : X37.heap.size ≤ b := hb; have h1 := HC38.out.size; have h2 := HB37.out.lt; have o0 := HO0.out; have o1 := HO2.out; have o2 := HO13.out; have o3 := HO34.out; have o4 := HOb34.out; have o5 := HO37.out; (try dsimp only); omega) hr)
            have HX40 := Lib.hid hX
            clear hr hs hc hb' hcx hX
            go_upto_region 22 with fail
            rw [← HX40.out]
            have HCX34 := Lib.hid (show Chg (fun b => b = rb) wr34 X40 from Chg.more HC41.out (fun b hb e => by have o0 := HO0.out; have o1 := HO2.out; have o2 := HO13.out; have o3 := HO34.out; have o4 := HOb34.out; have o5 := HO37.out; omega))
            have HX34 := Lib.hid (show (Ty.rd tAssignment).rd X40 (wr34.heap.size ≤ ·) [.int .i64 q36_0, .int .i64 q39_0] y34 from by
              rw [e34DEC.out.1]
              have h0 := Rd.more (F := (fun b => b34 ≤ b ∧ b ≠ k37)) (G := (wr34.heap.size ≤ ·)) (Ty.rd .num) (fun b hb => by have := HOb34.out; (try dsimp only at hb ⊢); omega) HV41_0.out
              have h1 := Rd.more (F := (fun b => b34 ≤ b ∧ b ≠ k37)) (G := (wr34.heap.size ≤ ·)) (Ty.rd .num) (fun b hb => by have := HOb34.out; (try dsimp only at hb ⊢); omega) HV40.out
              exact ⟨_, _, rfl, h0, h1⟩)
            have HRX34 := Lib.hid (show RefR X40 rb B y2_34 from by rw [e34DEC.out.2]; exact HR40.out)
            have HAX34 := Lib.hid (HA34.out.turn HCX34.out HRX34.out)
            have HB3_34 := Lib.hid (show Below X40.heap.size X40 (X40.alloc (.cells #[.int .i64 q36_0, .int .i64 q39_0] 171)) from (Below.refl _ _).alloc (Nat.le_refl _) _)
            have HA3_34 := Lib.hid (HAX34.out.below HB3_34.out)
            have qb34_0 := HB40.out.cell 0 _ rfl
            have qb34_1 := HB40.out.cell 1 _ rfl
            have qv34 : X40.cell? ⟨k2, 7, none⟩ = some v34 := HAX34.out.blk.cell 7 _ rfl
            go_wp2_with (at_builtin; refine wpList_append_o rfl _ _ 109 rfl B34 171 i0_34 _ 2 16 Tryz.underlying109 HI34.out.1 HI34.out.2.1 HI34.out.2.2.1 HI34.out.2.2.2 rfl (by decide) v34 l34.length xs34 rfl HA3_34.out.rows.row _ 1 [.int .i64 q36_0, .int .i64 q39_0] rfl (sl_cells1 X40 _ _ rfl) (fun _ _ h => by cases h) (by simp [Value.oneCell']) (by have := HLE34.out; have := HM1_34.out; unfold maxLen; omega) (by have := HLE34.out; have := HM1_34.out; omega) HA3_34.out.ord.2.2.1 ?_)
            intro v' w4 h1 h2 h3
            obtain ⟨va, vn, vc, rfl⟩ := ownk_shape h1
            have hbk := HA3_34.out.app h2
            have tb := hbk.cell 7 _ rfl
            have zb := hbk.free 7
            have HST4 := Lib.hid (HA34.out.step HCX34.out HRX34.out HX34.out HB3_34.out h1 h2 (by rw [World.size_alloc]; exact h3))
            clear h1 h2 h3 hbk
            go_wp2
            go_roundg k'
            case rel => exact ⟨j34 + 1, k', y2_34, l34 ++ [y34], _, _, rfl, by have := HQ34.out; omega, by go_num, HST4.out, HMK2_34.out, by have := HLE34.out; simp; omega, HL2_34.out.1, HL2_34.out.2⟩
            case measure => omega
    case rest =>
      generalize wc = X34 at *
      obtain ⟨la34, ln34, lc34, hr, hb, hl, hc⟩ := hcut
      have HRl34 := Lib.hid hr
      have HBl34 := Lib.hid hb
      have HTl34 := Lib.hid hc
      have HB42_z := Lib.hid (show Blk X34 w.heap.size [.int .i64 0, .string ⟨#[]⟩, .slice none 0 0, .int .i64 0, .int .i64 0, .slice none 0 0, .int .i64 0, .slice none 0 0, .string ⟨#[]⟩, .slice none 0 0, .slice none 0 0, .slice none 0 0, .slice none 0 0, .int .i64 0, .string ⟨#[]⟩, .int .i64 0] from HB35_z.out.chg HTl34.out (by have o0 := HO0.out; have o1 := HO2.out; have o2 := HO13.out; have o3 := HO34.out; omega))
      have HV42_0 := Lib.hid (show (Ty.rd .num).rd X34 (fun b => bs ≤ b ∧ b ≠ w.heap.size ∧ b ≠ rb ∧ b ≠ k2) [.int .i64 q1_0] px0 from rd_chg .num HTl34.out (fun b hb hl => ⟨fun e => by have o0 := HO0.out; have o1 := HO2.out; have o2 := HO13.out; have o3 := HO34.out; omega, hb⟩) HV35_0.out)
      have HV42_1 := Lib.hid (show (Ty.rd .str).rd X34 (fun b => bs ≤ b ∧ b ≠ w.heap.size ∧ b ≠ rb ∧ b ≠ k2) [.string q4_0] px1 from rd_chg .str HTl34.out (fun b hb hl => ⟨fun e => by have o0 := HO0.out; have o1 := HO2.out; have o2 := HO13.out; have o3 := HO34.out; omega, hb⟩) HV35_1.out)
      have HV42_2 := Lib.hid (show (Ty.rd (.list tValue)).rd X34 (fun b => bs ≤ b ∧ b ≠ w.heap.size ∧ b ≠ rb ∧ b ≠ k2) [.slice q7_a0 q7_n0 q7_c0] px2 from rd_chg (.list tValue) HTl34.out (fun b hb hl => ⟨fun e => by have o0 := HO0.out; have o1 := HO2.out; have o2 := HO13.out; have o3 := HO34.out; omega, hb⟩) HV35_2.out)
      have HV42_3 := Lib.hid (show (Ty.rd tPeriod).rd X34 (fun b => bs ≤ b ∧ b ≠ w.heap.size ∧ b ≠ rb ∧ b ≠ k2) [.int .i64 q10_0, .int .i64 q10_1] px3 from rd_chg tPeriod HTl34.out (fun b hb hl => ⟨fun e => by have o0 := HO0.out; have o1 := HO2.out; have o2 := HO13.out; have o3 := HO34.out; omega, hb⟩) HV35_3.out)
      have HV42_4 := Lib.hid (show (Ty.rd (.list tExpr)).rd X34 (fun b => bs ≤ b ∧ b ≠ w.heap.size ∧ b ≠ rb ∧ b ≠ k2) [.slice la13 ln13 lc13] px4 from rd_chg (.list tExpr) HTl34.out (fun b hb hl => ⟨fun e => by have o0 := HO0.out; have o1 := HO2.out; have o2 := HO13.out; have o3 := HO34.out; omega, hb⟩) HV35_4.out)
      have HV42_5 := Lib.hid (show (Ty.rd .num).rd X34 (fun b => bs ≤ b ∧ b ≠ w.heap.size ∧ b ≠ rb ∧ b ≠ k2) [.int .i64 q31_0] px5 from rd_chg .num HTl34.out (fun b hb hl => ⟨fun e => by have o0 := HO0.out; have o1 := HO2.out; have o2 := HO13.out; have o3 := HO34.out; omega, hb⟩) HV35_5.out)
      have HC42 := Lib.hid (show Chg (fun b => b = rb ∨ bs ≤ b) w X34 from HC35.out.trans (Chg.more HTl34.out (fun b _ e => by have o0 := HO0.out; have o1 := HO2.out; have o2 := HO13.out; have o3 := HO34.out; omega)))
      have HVl34 := Lib.hid (show (Ty.rd (.list tAssignment)).rd X34 (fun b => bs ≤ b ∧ b ≠ w.heap.size ∧ b ≠ rb ∧ b ≠ k2) [.slice la34 ln34 lc34] px6 from Rd.more _ (fun b hb => by have hb : B34 ≤ b := hb; have o0 := HO0.out; have o1 := HO2.out; have o2 := HO13.out; have o3 := HO34.out; (try dsimp only); omega) hl)
      clear hr hb hl hc
      go_wp2_with fail
      refine (rget_Schema X34 rb B ps7 HRl34.out pHM7.out).mono ?_
      rintro e w44 ⟨cs, rfl, hr, hs, hc⟩
      rw [pHD7.out] at hr hs
      dsimp only at hr hs
      obtain ⟨q43_0, q43_a1, q43_n1, q43_c1, q43_a2, q43_n2, q43_c2, q43_a3, q43_n3, q43_c3, q43_a4, q43_n4, q43_c4, rfl⟩ := shape_Schema hr
      have hg : goV [.string q43_0, .slice q43_a1 q43_n1 q43_c1, .slice q43_a2 q43_n2 q43_c2, .slice q43_a3 q43_n3 q43_c3, .slice q43_a4 q43_n4 q43_c4] = .agg #[.string q43_0, .slice q43_a1 q43_n1 q43_c1, .slice q43_a2 q43_n2 q43_c2, .slice q43_a3 q43_n3 q43_c3, .slice q43_a4 q43_n4 q43_c4] := rfl
      rw [hg]
      clear hg
      have hb' := HBl34.out.chg hc (by have o0 := HO0.out; have o1 := HO2.out; have o2 := HO13.out; have o3 := HO34.out; omega)
      have t0 := hb'.cell 8 _ rfl
      have z0 := hb'.free 8
      have t1 := hb'.cell 9 _ rfl
      have z1 := hb'.free 9
      have t2 := hb'.cell 10 _ rfl
      have z2 := hb'.free 10
      have t3 := hb'.cell 11 _ rfl
      have z3 := hb'.free 11
      have t4 := hb'.cell 12 _ rfl
      have z4 := hb'.free 12
      obtain ⟨X44, hX⟩ : ∃ X, X = (((((w44.setCell ⟨k2, 8, none⟩ (.string q43_0)).setCell ⟨k2, 9, none⟩ (.slice q43_a1 q43_n1 q43_c1)).setCell ⟨k2, 10, none⟩ (.slice q43_a2 q43_n2 q43_c2)).setCell ⟨k2, 11, none⟩ (.slice q43_a3 q43_n3 q43_c3)).setCell ⟨k2, 12, none⟩ (.slice q43_a4 q43_n4 q43_c4)) := ⟨_, rfl⟩
      have hcx : Chg (fun b => b = k2) w44 X44 := by
        have g : ∀ (u : World) (j : Nat) (v : Value), Chg (fun b => b = k2) u (u.setCell ⟨k2, j, none⟩ v) := fun u j v => Chg.setCell _ _ rfl
        rw [hX]
        exact (Chg.trans (Chg.trans (Chg.trans (Chg.trans (g _ _ _) (g _ _ _)) (g _ _ _)) (g _ _ _)) (g _ _ _))
      have HB44 := Lib.hid (show Blk X44 k2 [.int .i64 q1_0, .string q4_0, .slice q7_a0 q7_n0 q7_c0, .int .i64 q10_0, .int .i64 q10_1, .slice la13 ln13 lc13, .int .i64 q31_0, .slice la34 ln34 lc34, .string q43_0, .slice q43_a1 q43_n1 q43_c1, .slice q43_a2 q43_n2 q43_c2, .slice q43_a3 q43_n3 q43_c3, .slice q43_a4 q43_n4 q43_c4, .int .i64 0, .string ⟨#[]⟩, .int .i64 0] from by rw [hX]; exact (((((hb'.set 8 (.string q43_0) (by simp)).set 9 (.slice q43_a1 q43_n1 q43_c1) (by simp)).set 10 (.slice q43_a2 q43_n2 q43_c2) (by simp)).set 11 (.slice q43_a3 q43_n3 q43_c3) (by simp)).set 12 (.slice q43_a4 q43_n4 q43_c4) (by simp)))
      have HR44 := Lib.hid (hs.keep (hcx.more (fun b _ e => by have o0 := HO0.out; have o1 := HO2.out; have o2 := HO13.out; have o3 := HO34.out; omega)))
      have HT44 := Lib.hid (show Chg (fun b => b = rb ∨ b = k2) X34 X44 from (hc.more (fun b _ e => .inl e)).trans (hcx.more (fun b _ e => .inr e)))
      have HB45_z := Lib.hid (show Blk X44 w.heap.size [.int .i64 0, .string ⟨#[]⟩, .slice none 0 0, .int .i64 0, .int .i64 0, .slice none 0 0, .int .i64 0, .slice none 0 0, .string ⟨#[]⟩, .slice none 0 0, .slice none 0 0, .slice none 0 0, .slice none 0 0, .int .i64 0, .string ⟨#[]⟩, .int .i64 0] from HB42_z.out.chg HT44.out (by have o0 := HO0.out; have o1 := HO2.out; have o2 := HO13.out; have o3 := HO34.out; omega))
      have HV45_0 := Lib.hid (show (Ty.rd .num).rd X44 (fun b => bs ≤ b ∧ b ≠ w.heap.size ∧ b ≠ rb ∧ b ≠ k2) [.int .i64 q1_0] px0 from rd_chg .num HT44.out (fun b hb hl => ⟨fun e => by have o0 := HO0.out; have o1 := HO2.out; have o2 := HO13.out; have o3 := HO34.out; omega, hb⟩) HV42_0.out)
      have HV45_1 := Lib.hid (show (Ty.rd .str).rd X44 (fun b => bs ≤ b ∧ b ≠ w.heap.size ∧ b ≠ rb ∧ b ≠ k2) [.string q4_0] px1 from rd_chg .str HT44.out (fun b hb hl => ⟨fun e => by have o0 := HO0.out; have o1 := HO2.out; have o2 := HO13.out; have o3 := HO34.out; omega, hb⟩) HV42_1.out)
      have HV45_2 := Lib.hid (show (Ty.rd (.list tValue)).rd X44 (fun b => bs ≤ b ∧ b ≠ w.heap.size ∧ b ≠ rb ∧ b ≠ k2) [.slice q7_a0 q7_n0 q7_c0] px2 from rd_chg (.list tValue) HT44.out (fun b hb hl => ⟨fun e => by have o0 := HO0.out; have o1 := HO2.out; have o2 := HO13.out; have o3 := HO34.out; omega, hb⟩) HV42_2.out)
      have HV45_3 := Lib.hid (show (Ty.rd tPeriod).rd X44 (fun b => bs ≤ b ∧ b ≠ w.heap.size ∧ b ≠ rb ∧ b ≠ k2) [.int .i64 q10_0, .int .i64 q10_1] px3 from rd_chg tPeriod HT44.out (fun b hb hl => ⟨fun e => by have o0 := HO0.out; have o1 := HO2.out; have o2 := HO13.out; have o3 := HO34.out; omega, hb⟩) HV42_3.out)
      have HV45_4 := Lib.hid (show (Ty.rd (.list tExpr)).rd X44 (fun b => bs ≤ b ∧ b ≠ w.heap.size ∧ b ≠ rb ∧ b ≠ k2) [.slice la13 ln13 lc13] px4 from rd_chg (.list tExpr) HT44.out (fun b hb hl => ⟨fun e => by have o0 := HO0.out; have o1 := HO2.out; have o2 := HO13.out; have o3 := HO34.out; omega, hb⟩) HV42_4.out)
      have HV45_5 := Lib.hid (show (Ty.rd .num).rd X44 (fun b => bs ≤ b ∧ b ≠ w.heap.size ∧ b ≠ rb ∧ b ≠ k2) [.int .i64 q31_0] px5 from rd_chg .num HT44.out (fun b hb hl => ⟨fun e => by have o0 := HO0.out; have o1 := HO2.out; have o2 := HO13.out; have o3 := HO34.out; omega, hb⟩) HV42_5.out)
      have HV45_6 := Lib.hid (show (Ty.rd (.list tAssignment)).rd X44 (fun b => bs ≤ b ∧ b ≠ w.heap.size ∧ b ≠ rb ∧ b ≠ k2) [.slice la34 ln34 lc34] px6 from rd_chg (.list tAssignment) HT44.out (fun b hb hl => ⟨fun e => by have o0 := HO0.out; have o1 := HO2.out; have o2 := HO13.out; have o3 := HO34.out; omega, hb⟩) HVl34.out)
      have HC45 := Lib.hid (show Chg (fun b => b = rb ∨ bs ≤ b) w X44 from HC42.out.trans (Chg.more HT44.out (fun b _ e => by have o0 := HO0.out; have o1 := HO2.out; have o2 := HO13.out; have o3 := HO34.out; omega)))
      have HV44 := Lib.hid (show (Ty.rd tSchema).rd X44 (fun b => bs ≤ b ∧ b ≠ w.heap.size ∧ b ≠ rb ∧ b ≠ k2) [.string q43_0, .slice q43_a1 q43_n1 q43_c1, .slice q43_a2 q43_n2 q43_c2, .slice q43_a3 q43_n3 q43_c3, .slice q43_a4 q43_n4 q43_c4] px7 from rd_chg tSchema hcx (fun b hb hl => by have hb : X34.heap.size ≤ b := hb; have h1 := HC42.out.size; have h2 := HBl34.out.lt; have o0 := HO0.out; have o1 := HO2.out; have o2 := HO13.out; have o3 := HO34.out; (try dsimp only); omega) hr)
      have HX44 := Lib.hid hX
      clear hr hs hc hb' hcx hX
      go_wp2_with fail
      rw [← HX44.out]
      refine (rget_Column X44 rb B ps8 HR44.out pHM8.out).mono ?_
      rintro e w47 ⟨cs, rfl, hr, hs, hc⟩
      rw [pHD8.out] at hr hs
      dsimp only at hr hs
      obtain ⟨q46_0, q46_1, q46_2, rfl⟩ := shape_Column hr
      have hg : goV [.int .i64 q46_0, .string q46_1, .int .i64 q46_2] = .agg #[.int .i64 q46_0, .string q46_1, .int .i64 q46_2] := rfl
      rw [hg]
      clear hg
      have hb' := HB44.out.chg hc (by have o0 := HO0.out; have o1 := HO2.out; have o2 := HO13.out; have o3 := HO34.out; omega)
      have t0 := hb'.cell 13 _ rfl
      have z0 := hb'.free 13
      have t1 := hb'.cell 14 _ rfl
      have z1 := hb'.free 14
      have t2 := hb'.cell 15 _ rfl
      have z2 := hb'.free 15
      obtain ⟨X47, hX⟩ : ∃ X, X = (((w47.setCell ⟨k2, 13, none⟩ (.int .i64 q46_0)).setCell ⟨k2, 14, none⟩ (.string q46_1)).setCell ⟨k2, 15, none⟩ (.int .i64 q46_2)) := ⟨_, rfl⟩
      have hcx : Chg (fun b => b = k2) w47 X47 := by
        have g : ∀ (u : World) (j : Nat) (v : Value), Chg (fun b => b = k2) u (u.setCell ⟨k2, j, none⟩ v) := fun u j v => Chg.setCell _ _ rfl
        rw [hX]
        exact (Chg.trans (Chg.trans (g _ _ _) (g _ _ _)) (g _ _ _))
      have HB47 := Lib.hid (show Blk X47 k2 [.int .i64 q1_0, .string q4_0, .slice q7_a0 q7_n0 q7_c0, .int .i64 q10_0, .int .i64 q10_1, .slice la13 ln13 lc13, .int .i64 q31_0, .slice la34 ln34 lc34, .string q43_0, .slice q43_a1 q43_n1 q43_c1, .slice q43_a2 q43_n2 q43_c2, .slice q43_a3 q43_n3 q43_c3, .slice q43_a4 q43_n4 q43_c4, .int .i64 q46_0, .string q46_1, .int .i64 q46_2] from by rw [hX]; exact (((hb'.set 13 (.int .i64 q46_0) (by simp)).set 14 (.string q46_1) (by simp)).set 15 (.int .i64 q46_2) (by simp)))
      have HR47 := Lib.hid (hs.keep (hcx.more (fun b _ e => by have o0 := HO0.out; have o1 := HO2.out; have o2 := HO13.out; have o3 := HO34.out; omega)))
      have HT47 := Lib.hid (show Chg (fun b => b = rb ∨ b = k2) X44 X47 from (hc.more (fun b _ e => .inl e)).trans (hcx.more (fun b _ e => .inr e)))
      have HB48_z := Lib.hid (show Blk X47 w.heap.size [.int .i64 0, .string ⟨#[]⟩, .slice none 0 0, .int .i64 0, .int .i64 0, .slice none 0 0, .int .i64 0, .slice none 0 0, .string ⟨#[]⟩, .slice none 0 0, .slice none 0 0, .slice none 0 0, .slice none 0 0, .int .i64 0, .string ⟨#[]⟩, .int .i64 0] from HB45_z.out.chg HT47.out (by have o0 := HO0.out; have o1 := HO2.out; have o2 := HO13.out; have o3 := HO34.out; omega))
      have HV48_0 := Lib.hid (show (Ty.rd .num).rd X47 (fun b => bs ≤ b ∧ b ≠ w.heap.size ∧ b ≠ rb ∧ b ≠ k2) [.int .i64 q1_0] px0 from rd_chg .num HT47.out (fun b hb hl => ⟨fun e => by have o0 := HO0.out; have o1 := HO2.out; have o2 := HO13.out; have o3 := HO34.out; omega, hb⟩) HV45_0.out)
      have HV48_1 := Lib.hid (show (Ty.rd .str).rd X47 (fun b => bs ≤ b ∧ b ≠ w.heap.size ∧ b ≠ rb ∧ b ≠ k2) [.string q4_0] px1 from rd_chg .str HT47.out (fun b hb hl => ⟨fun e => by have o0 := HO0.out; have o1 := HO2.out; have o2 := HO13.out; have o3 := HO34.out; omega, hb⟩) HV45_1.out)
      have HV48_2 := Lib.hid (show (Ty.rd (.list tValue)).rd X47 (fun b => bs ≤ b ∧ b ≠ w.heap.size ∧ b ≠ rb ∧ b ≠ k2) [.slice q7_a0 q7_n0 q7_c0] px2 from rd_chg (.list tValue) HT47.out (fun b hb hl => ⟨fun e => by have o0 := HO0.out; have o1 := HO2.out; have o2 := HO13.out; have o3 := HO34.out; omega, hb⟩) HV45_2.out)
      have HV48_3 := Lib.hid (show (Ty.rd tPeriod).rd X47 (fun b => bs ≤ b ∧ b ≠ w.heap.size ∧ b ≠ rb ∧ b ≠ k2) [.int .i64 q10_0, .int .i64 q10_1] px3 from rd_chg tPeriod HT47.out (fun b hb hl => ⟨fun e => by have o0 := HO0.out; have o1 := HO2.out; have o2 := HO13.out; have o3 := HO34.out; omega, hb⟩) HV45_3.out)
      have HV48_4 := Lib.hid (show (Ty.rd (.list tExpr)).rd X47 (fun b => bs ≤ b ∧ b ≠ w.heap.size ∧ b ≠ rb ∧ b ≠ k2) [.slice la13 ln13 lc13] px4 from rd_chg (.list tExpr) HT47.out (fun b hb hl => ⟨fun e => by have o0 := HO0.out; have o1 := HO2.out; have o2 := HO13.out; have o3 := HO34.out; omega, hb⟩) HV45_4.out)
      have HV48_5 := Lib.hid (show (Ty.rd .num).rd X47 (fun b => bs ≤ b ∧ b ≠ w.heap.size ∧ b ≠ rb ∧ b ≠ k2) [.int .i64 q31_0] px5 from rd_chg .num HT47.out (fun b hb hl => ⟨fun e => by have o0 := HO0.out; have o1 := HO2.out; have o2 := HO13.out; have o3 := HO34.out; omega, hb⟩) HV45_5.out)
      have HV48_6 := Lib.hid (show (Ty.rd (.list tAssignment)).rd X47 (fun b => bs ≤ b ∧ b ≠ w.heap.size ∧ b ≠ rb ∧ b ≠ k2) [.slice la34 ln34 lc34] px6 from rd_chg (.list tAssignment) HT47.out (fun b hb hl => ⟨fun e => by have o0 := HO0.out; have o1 := HO2.out; have o2 := HO13.out; have o3 := HO34.out; omega, hb⟩) HV45_6.out)
      have HV48_7 := Lib.hid (show (Ty.rd tSchema).rd X47 (fun b => bs ≤ b ∧ b ≠ w.heap.size ∧ b ≠ rb ∧ b ≠ k2) [.string q43_0, .slice q43_a1 q43_n1 q43_c1, .slice q43_a2 q43_n2 q43_c2, .slice q43_a3 q43_n3 q43_c3, .slice q43_a4 q43_n4 q43_c4] px7 from rd_chg tSchema HT47.out (fun b hb hl => ⟨fun e => by have o0 := HO0.out; have o1 := HO2.out; have o2 := HO13.out; have o3 := HO34.out; omega, hb⟩) HV44.out)
      have HC48 := Lib.hid (show Chg (fun b => b = rb ∨ bs ≤ b) w X47 from HC45.out.trans (Chg.more HT47.out (fun b _ e => by have o0 := HO0.out; have o1 := HO2.out; have o2 := HO13.out; have o3 := HO34.out; omega)))
      have HV47 := Lib.hid (show (Ty.rd tColumn).rd X47 (fun b => bs ≤ b ∧ b ≠ w.heap.size ∧ b ≠ rb ∧ b ≠ k2) [.int .i64 q46_0, .string q46_1, .int .i64 q46_2] px8 from rd_chg tColumn hcx (fun b hb hl => by have hb : X44.heap.size ≤ b := hb; have h1 := HC45.out.size; have h2 := HB44.out.lt; have o0 := HO0.out; have o1 := HO2.out; have o2 := HO13.out; have o3 := HO34.out; (try dsimp only); omega) hr)
      have HX47 := Lib.hid hX
      clear hr hs hc hb' hcx hX
      go_upto_region 25 with fail
      rw [← HX47.out]
      have q0 := HB47.out.cell 0 _ rfl
      have zc0 := HB48_z.out.cell 0 _ rfl
      have zf0 := HB48_z.out.free 0
      have q1 := HB47.out.cell 1 _ rfl
      have zc1 := HB48_z.out.cell 1 _ rfl
      have zf1 := HB48_z.out.free 1
      have q2 := HB47.out.cell 2 _ rfl
      have zc2 := HB48_z.out.cell 2 _ rfl
      have zf2 := HB48_z.out.free 2
      have q3 := HB47.out.cell 3 _ rfl
      have zc3 := HB48_z.out.cell 3 _ rfl
      have zf3 := HB48_z.out.free 3
      have q4 := HB47.out.cell 4 _ rfl
      have zc4 := HB48_z.out.cell 4 _ rfl
      have zf4 := HB48_z.out.free 4
      have q5 := HB47.out.cell 5 _ rfl
      have zc5 := HB48_z.out.cell 5 _ rfl
      have zf5 := HB48_z.out.free 5
      have q6 := HB47.out.cell 6 _ rfl
      have zc6 := HB48_z.out.cell 6 _ rfl
      have zf6 := HB48_z.out.free 6
      have q7 := HB47.out.cell 7 _ rfl
      have zc7 := HB48_z.out.cell 7 _ rfl
      have zf7 := HB48_z.out.free 7
      have q8 := HB47.out.cell 8 _ rfl
      have zc8 := HB48_z.out.cell 8 _ rfl
      have zf8 := HB48_z.out.free 8
      have q9 := HB47.out.cell 9 _ rfl
      have zc9 := HB48_z.out.cell 9 _ rfl
      have zf9 := HB48_z.out.free 9
      have q10 := HB47.out.cell 10 _ rfl
      have zc10 := HB48_z.out.cell 10 _ rfl
      have zf10 := HB48_z.out.free 10
      have q11 := HB47.out.cell 11 _ rfl
      have zc11 := HB48_z.out.cell 11 _ rfl
      have zf11 := HB48_z.out.free 11
      have q12 := HB47.out.cell 12 _ rfl
      have zc12 := HB48_z.out.cell 12 _ rfl
      have zf12 := HB48_z.out.free 12
      have q13 := HB47.out.cell 13 _ rfl
      have zc13 := HB48_z.out.cell 13 _ rfl
      have zf13 := HB48_z.out.free 13
      have q14 := HB47.out.cell 14 _ rfl
      have zc14 := HB48_z.out.cell 14 _ rfl
      have zf14 := HB48_z.out.free 14
      have q15 := HB47.out.cell 15 _ rfl
      have zc15 := HB48_z.out.cell 15 _ rfl
      have zf15 := HB48_z.out.free 15
      go_wp2
      obtain ⟨Wf, hWf⟩ : ∃ Wf, Wf = ((((((((((((((((X47.setCell ⟨w.heap.size, 0, none⟩ (.int .i64 q1_0)).setCell ⟨w.heap.size, 1, none⟩ (.string q4_0)).setCell ⟨w.heap.size, 2, none⟩ (.slice q7_a0 q7_n0 q7_c0)).setCell ⟨w.heap.size, 3, none⟩ (.int .i64 q10_0)).setCell ⟨w.heap.size, 4, none⟩ (.int .i64 q10_1)).setCell ⟨w.heap.size, 5, none⟩ (.slice la13 ln13 lc13)).setCell ⟨w.heap.size, 6, none⟩ (.int .i64 q31_0)).setCell ⟨w.heap.size, 7, none⟩ (.slice la34 ln34 lc34)).setCell ⟨w.heap.size, 8, none⟩ (.string q43_0)).setCell ⟨w.heap.size, 9, none⟩ (.slice q43_a1 q43_n1 q43_c1)).setCell ⟨w.heap.size, 10, none⟩ (.slice q43_a2 q43_n2 q43_c2)).setCell ⟨w.heap.size, 11, none⟩ (.slice q43_a3 q43_n3 q43_c3)).setCell ⟨w.heap.size, 12, none⟩ (.slice q43_a4 q43_n4 q43_c4)).setCell ⟨w.heap.size, 13, none⟩ (.int .i64 q46_0)).setCell ⟨w.heap.size, 14, none⟩ (.string q46_1)).setCell ⟨w.heap.size, 15, none⟩ (.int .i64 q46_2)) := ⟨_, rfl⟩
      rw [← hWf]
      have hcf : Chg (fun b => b = w.heap.size) X47 Wf := by
        have g : ∀ (u : World) (j : Nat) (v : Value), Chg (fun b => b = w.heap.size) u (u.setCell ⟨w.heap.size, j, none⟩ v) := fun u j v => Chg.setCell _ _ rfl
        rw [hWf]
        exact (Chg.trans (Chg.trans (Chg.trans (Chg.trans (Chg.trans (Chg.trans (Chg.trans (Chg.trans (Chg.trans (Chg.trans (Chg.trans (Chg.trans (Chg.trans (Chg.trans (Chg.trans (g _ _ _) (g _ _ _)) (g _ _ _)) (g _ _ _)) (g _ _ _)) (g _ _ _)) (g _ _ _)) (g _ _ _)) (g _ _ _)) (g _ _ _)) (g _ _ _)) (g _ _ _)) (g _ _ _)) (g _ _ _)) (g _ _ _)) (g _ _ _))
      have HBF := Lib.hid (show Blk Wf w.heap.size [.int .i64 q1_0, .string q4_0, .slice q7_a0 q7_n0 q7_c0, .int .i64 q10_0, .int .i64 q10_1, .slice la13 ln13 lc13, .int .i64 q31_0, .slice la34 ln34 lc34, .string q43_0, .slice q43_a1 q43_n1 q43_c1, .slice q43_a2 q43_n2 q43_c2, .slice q43_a3 q43_n3 q43_c3, .slice q43_a4 q43_n4 q43_c4, .int .i64 q46_0, .string q46_1, .int .i64 q46_2] from by rw [hWf]; exact ((((((((((((((((HB48_z.out.set 0 (.int .i64 q1_0) (by simp)).set 1 (.string q4_0) (by simp)).set 2 (.slice q7_a0 q7_n0 q7_c0) (by simp)).set 3 (.int .i64 q10_0) (by simp)).set 4 (.int .i64 q10_1) (by simp)).set 5 (.slice la13 ln13 lc13) (by simp)).set 6 (.int .i64 q31_0) (by simp)).set 7 (.slice la34 ln34 lc34) (by simp)).set 8 (.string q43_0) (by simp)).set 9 (.slice q43_a1 q43_n1 q43_c1) (by simp)).set 10 (.slice q43_a2 q43_n2 q43_c2) (by simp)).set 11 (.slice q43_a3 q43_n3 q43_c3) (by simp)).set 12 (.slice q43_a4 q43_n4 q43_c4) (by simp)).set 13 (.int .i64 q46_0) (by simp)).set 14 (.string q46_1) (by simp)).set 15 (.int .i64 q46_2) (by simp)))
      clear hWf q0 zc0 zf0 q1 zc1 zf1 q2 zc2 zf2 q3 zc3 zf3 q4 zc4 zf4 q5 zc5 zf5 q6 zc6 zf6 q7 zc7 zf7 q8 zc8 zf8 q9 zc9 zf9 q10 zc10 zf10 q11 zc11 zf11 q12 zc12 zf12 q13 zc13 zf13 q14 zc14 zf14 q15 zc15 zf15
      have sc0 := HBF.out.cell 0 _ rfl
      have sc1 := HBF.out.cell 1 _ rfl
      have sc2 := HBF.out.cell 2 _ rfl
      have sc3 := HBF.out.cell 3 _ rfl
      have sc4 := HBF.out.cell 4 _ rfl
      have sc5 := HBF.out.cell 5 _ rfl
      have sc6 := HBF.out.cell 6 _ rfl
      have sc7 := HBF.out.cell 7 _ rfl
      have sc8 := HBF.out.cell 8 _ rfl
      have sc9 := HBF.out.cell 9 _ rfl
      have sc10 := HBF.out.cell 10 _ rfl
      have sc11 := HBF.out.cell 11 _ rfl
      have sc12 := HBF.out.cell 12 _ rfl
      have sc13 := HBF.out.cell 13 _ rfl
      have sc14 := HBF.out.cell 14 _ rfl
      have sc15 := HBF.out.cell 15 _ rfl
      refine bodyPost_ret (v := .agg #[.int .i64 q1_0, .string q4_0, .slice q7_a0 q7_n0 q7_c0, .int .i64 q10_0, .int .i64 q10_1, .slice la13 ln13 lc13, .int .i64 q31_0, .slice la34 ln34 lc34, .string q43_0, .slice q43_a1 q43_n1 q43_c1, .slice q43_a2 q43_n2 q43_c2, .slice q43_a3 q43_n3 q43_c3, .slice q43_a4 q43_n4 q43_c4, .int .i64 q46_0, .string q46_1, .int .i64 q46_2]) (by simp [sc0, sc1, sc2, sc3, sc4, sc5, sc6, sc7, sc8, sc9, sc10, sc11, sc12, sc13, sc14, sc15, results, Tryz.results83, go_sem]) rfl ?_
      refine ⟨[.int .i64 q1_0, .string q4_0, .slice q7_a0 q7_n0 q7_c0, .int .i64 q10_0, .int .i64 q10_1, .slice la13 ln13 lc13, .int .i64 q31_0, .slice la34 ln34 lc34, .string q43_0, .slice q43_a1 q43_n1 q43_c1, .slice q43_a2 q43_n2 q43_c2, .slice q43_a3 q43_n3 q43_c3, .slice q43_a4 q43_n4 q43_c4, .int .i64 q46_0, .string q46_1, .int .i64 q46_2], rfl, ?_, ?_, ?_⟩
      · rw [HDEC.out]
        have h0 : (Ty.rd .num).rd Wf (w.heap.size ≤ ·) _ _ := rd_chg .num hcf (fun b hb hl => by have o0 := HO0.out; (try dsimp only at hb ⊢); omega) HV48_0.out
        have h1 : (Ty.rd .str).rd Wf (w.heap.size ≤ ·) _ _ := rd_chg .str hcf (fun b hb hl => by have o0 := HO0.out; (try dsimp only at hb ⊢); omega) HV48_1.out
        have h2 : (Ty.rd (.list tValue)).rd Wf (w.heap.size ≤ ·) _ _ := rd_chg (.list tValue) hcf (fun b hb hl => by have o0 := HO0.out; (try dsimp only at hb ⊢); omega) HV48_2.out
        have h3 : (Ty.rd tPeriod).rd Wf (w.heap.size ≤ ·) _ _ := rd_chg tPeriod hcf (fun b hb hl => by have o0 := HO0.out; (try dsimp only at hb ⊢); omega) HV48_3.out
        have h4 : (Ty.rd (.list tExpr)).rd Wf (w.heap.size ≤ ·) _ _ := rd_chg (.list tExpr) hcf (fun b hb hl => by have o0 := HO0.out; (try dsimp only at hb ⊢); omega) HV48_4.out
        have h5 : (Ty.rd .num).rd Wf (w.heap.size ≤ ·) _ _ := rd_chg .num hcf (fun b hb hl => by have o0 := HO0.out; (try dsimp only at hb ⊢); omega) HV48_5.out
        have h6 : (Ty.rd (.list tAssignment)).rd Wf (w.heap.size ≤ ·) _ _ := rd_chg (.list tAssignment) hcf (fun b hb hl => by have o0 := HO0.out; (try dsimp only at hb ⊢); omega) HV48_6.out
        have h7 : (Ty.rd tSchema).rd Wf (w.heap.size ≤ ·) _ _ := rd_chg tSchema hcf (fun b hb hl => by have o0 := HO0.out; (try dsimp only at hb ⊢); omega) HV48_7.out
        have h8 : (Ty.rd tColumn).rd Wf (w.heap.size ≤ ·) _ _ := rd_chg tColumn hcf (fun b hb hl => by have o0 := HO0.out; (try dsimp only at hb ⊢); omega) HV47.out
        exact ⟨_, _, rfl, h0, _, _, rfl, h1, _, _, rfl, h2, _, _, rfl, h3, _, _, rfl, h4, _, _, rfl, h5, _, _, rfl, h6, _, _, rfl, h7, h8⟩
      · rw [HDEC.out]; exact HR47.out.keep (hcf.more (fun b _ e => by have o0 := HO0.out; omega))
      · exact (HC48.out.trans (hcf.more (fun b _ e => .inr (by have o0 := HO0.out; omega)))).more (fun b hb e => e.elim id (fun e => by have o0 := HO0.out; omega))
end Go.Proofs.YtfppjpmflpaffaaGreat
