/-
  The program's decoder: expressions, assignments, columns. Printed by gen_cd.py.
-/
import Derived.Test.YtfppjpmflpaffaaGreatCdE
namespace Go.Proofs.YtfppjpmflpaffaaGreat
open Go.RowKit
set_option linter.unusedVariables false
set_option linter.unusedSimpArgs false

set_option maxRecDepth 100000 in
theorem get_ints : GetC 117 (.list .num) := by
  intro w rb s h hm
  have H := Lib.hid (read_int w rb s h hm)
  clear h hm
  go_enter Tryz.func117, Tryz.ntmps117
  go_wp2_with fail
  refine H.out.mono ?_
  rintro e w1 ⟨cs, rfl, hr, hs, hc⟩
  obtain ⟨a, n, c, rfl⟩ : ∃ a n c, cs = [.slice a n c] := by obtain ⟨a, n, c, e, _⟩ := id hr; exact ⟨a, n, c, e⟩
  have HR := Lib.hid (And.intro hr (And.intro hs hc))
  have hg : goV [.slice a n c] = .slice a n c := rfl
  rw [hg]
  clear hr hs hc hg
  go_wp2
  go_ret
  exact ⟨[.slice a n c], rfl, HR.out⟩


set_option maxRecDepth 100000 in
set_option maxHeartbeats 4000000 in
theorem get_Expr : GetC 77 tExpr := by
  intro w rb s h hmod
  obtain ⟨W0, hW0⟩ : ∃ W0, W0 = w.alloc (.cells #[.int .i64 0, .int .i64 0, .int .i64 0, .int .i64 0, .int .i64 0, .int .i64 0, .string ⟨#[]⟩] 166) := ⟨_, rfl⟩
  have hb0 : Below w.heap.size w W0 := by rw [hW0]; exact (Below.refl _ _).alloc (Nat.le_refl _) _
  have HLT := Lib.hid (show rb < w.heap.size ∧ W0.heap.size = w.heap.size + 1 from And.intro h.lt (by rw [hW0]; simp))
  have HK0 := Lib.hid (show Blk W0 w.heap.size [.int .i64 0, .int .i64 0, .int .i64 0, .int .i64 0, .int .i64 0, .int .i64 0, .string ⟨#[]⟩] from by rw [hW0]; exact Blk.new w _ _)
  have HR0 := Lib.hid (h.below hb0)
  have HC0 := Lib.hid (show Chg (fun b => b = rb ∨ w.heap.size ≤ b) w W0 from Chg.of_below hb0)
  have HW0 := Lib.hid hW0
  obtain ⟨s0, hs0⟩ : ∃ s0, s0 = s := ⟨_, rfl⟩
  rw [← hs0] at HR0
  obtain ⟨x0, s1, hd0⟩ : ∃ x s', dec .num s0 = (x, s') := ⟨_, _, rfl⟩
  obtain ⟨x1, s2, hd1⟩ : ∃ x s', dec .num s1 = (x, s') := ⟨_, _, rfl⟩
  obtain ⟨x2, s3, hd2⟩ : ∃ x s', dec .num s2 = (x, s') := ⟨_, _, rfl⟩
  obtain ⟨x3, s4, hd3⟩ : ∃ x s', dec .num s3 = (x, s') := ⟨_, _, rfl⟩
  obtain ⟨x4, s5, hd4⟩ : ∃ x s', dec tValue s4 = (x, s') := ⟨_, _, rfl⟩
  have HDEC := Lib.hid (show dec tExpr s = ((x0, (x1, (x2, (x3, x4)))), s5) from by
    rw [← hs0]
    show dec (.pair .num (.pair .num (.pair .num (.pair .num tValue)))) s0 = _
    simp only [dec_pair, hd0, hd1, hd2, hd3, hd4])
  rw [← hs0] at hmod
  obtain ⟨hm0, hm1, hm2, hm3, hm4⟩ := hmod
  simp only [hd0] at hm1
  simp only [hd0, hd1] at hm2
  simp only [hd0, hd1, hd2] at hm3
  simp only [hd0, hd1, hd2, hd3] at hm4
  have HM0 := Lib.hid hm0
  have HM1 := Lib.hid hm1
  have HM2 := Lib.hid hm2
  have HM3 := Lib.hid hm3
  have HM4 := Lib.hid hm4
  have HD0 := Lib.hid hd0
  have HD1 := Lib.hid hd1
  have HD2 := Lib.hid hd2
  have HD3 := Lib.hid hd3
  have HD4 := Lib.hid hd4
  clear hm0 hm1 hm2 hm3 hm4 h hb0 hW0 hs0 hd0 hd1 hd2 hd3 hd4
  go_enter Tryz.func77, Tryz.ntmps77
  go_wp2_with fail
  rw [← HW0.out]
  refine (get_num W0 rb s0 HR0.out HM0.out).mono ?_
  rintro e w1 ⟨cs, rfl, hr, hs, hc⟩
  rw [HD0.out] at hr hs
  dsimp only at hr hs
  obtain ⟨q0_0, rfl⟩ : ∃ z : Int, cs = [.int .i64 z] := ⟨_, hr.1⟩
  have hg : goV [.int .i64 q0_0] = .int .i64 q0_0 := rfl
  rw [hg]
  clear hg
  obtain ⟨k1, hk1⟩ : ∃ k1, k1 = w1.heap.size := ⟨_, rfl⟩
  obtain ⟨X1, hX1⟩ : ∃ X1, X1 = w1.alloc (.cells #[.int .i64 q0_0, .int .i64 0, .int .i64 0, .int .i64 0, .int .i64 0, .int .i64 0, .string ⟨#[]⟩] 166) := ⟨_, rfl⟩
  have hbx : Below w1.heap.size w1 X1 := by rw [hX1]; exact (Below.refl _ _).alloc (Nat.le_refl _) _
  have HLK := Lib.hid (show rb < w.heap.size ∧ w.heap.size < k1 ∧ k1 < X1.heap.size from by
    have h1 := HLT.out; have h2 := hc.size; have h3 : X1.heap.size = w1.heap.size + 1 := by rw [hX1]; simp
    omega)
  have HB1 := Lib.hid (show Blk X1 k1 [.int .i64 q0_0, .int .i64 0, .int .i64 0, .int .i64 0, .int .i64 0, .int .i64 0, .string ⟨#[]⟩] from by rw [hX1, hk1]; exact Blk.new w1 _ _)
  have HR1 := Lib.hid (hs.below hbx)
  have HC1 := Lib.hid (show Chg (fun b => b = rb ∨ w.heap.size ≤ b) w X1 from (HC0.out.trans (hc.more (fun b _ e => .inl e))).trans (Chg.of_below hbx))
  have HZ1 := Lib.hid (show Blk X1 w.heap.size [.int .i64 0, .int .i64 0, .int .i64 0, .int .i64 0, .int .i64 0, .int .i64 0, .string ⟨#[]⟩] from (HK0.out.chg hc (by have := HLT.out.1; omega)).chg (F := fun _ => False) (Chg.of_below hbx) id)
  have HV0_1 := Lib.hid (show (Ty.rd .num).rd X1 (fun b => w.heap.size ≤ b ∧ b ≠ w.heap.size ∧ b ≠ k1 ∧ b ≠ rb) _ _ from rd_chg .num (K := fun _ => False) (Chg.of_below hbx) (fun b hb hl => ⟨id, by have h1 := HLT.out; omega, by have h1 := HLT.out; omega, by omega, by have h1 := HLT.out; omega⟩) hr)
  have HX1 := Lib.hid hX1
  have HKK := Lib.hid hk1
  clear hr hs hc hX1 hbx hk1
  go_wp2_with fail
  rw [← HKK.out, ← HX1.out]
  refine (get_num X1 rb s1 HR1.out HM1.out).mono ?_
  rintro e w2 ⟨cs, rfl, hr, hs, hc⟩
  rw [HD1.out] at hr hs
  dsimp only at hr hs
  obtain ⟨q1_0, rfl⟩ : ∃ z : Int, cs = [.int .i64 z] := ⟨_, hr.1⟩
  have hg : goV [.int .i64 q1_0] = .int .i64 q1_0 := rfl
  rw [hg]
  clear hg
  have hb' := HB1.out.chg hc (by have := HLK.out; omega)
  have t0 := hb'.cell 1 _ rfl
  have z0 := hb'.free 1
  obtain ⟨X2, hX⟩ : ∃ X, X = (w2.setCell ⟨k1, 1, none⟩ (.int .i64 q1_0)) := ⟨_, rfl⟩
  have hcx : Chg (fun b => b = k1) w2 X2 := by
    have g : ∀ (u : World) (j : Nat) (v : Value), Chg (fun b => b = k1) u (u.setCell ⟨k1, j, none⟩ v) := fun u j v => Chg.setCell _ _ rfl
    rw [hX]
    exact (g _ _ _)
  have HB2 := Lib.hid (show Blk X2 k1 [.int .i64 q0_0, .int .i64 q1_0, .int .i64 0, .int .i64 0, .int .i64 0, .int .i64 0, .string ⟨#[]⟩] from by rw [hX]; exact (hb'.set 1 (.int .i64 q1_0) (by simp)))
  have HR2 := Lib.hid (hs.keep (hcx.more (fun b _ e => by have := HLK.out; omega)))
  have hstep : Chg (fun b => b = rb ∨ b = k1) X1 X2 := (hc.more (fun b _ e => .inl e)).trans (hcx.more (fun b _ e => .inr e))
  have HC2 := Lib.hid (show Chg (fun b => b = rb ∨ w.heap.size ≤ b) w X2 from HC1.out.trans (hstep.more (fun b _ e => e.elim .inl (fun e => .inr (by have := HLK.out; omega)))))
  have HZ2 := Lib.hid (show Blk X2 w.heap.size [.int .i64 0, .int .i64 0, .int .i64 0, .int .i64 0, .int .i64 0, .int .i64 0, .string ⟨#[]⟩] from HZ1.out.chg hstep (by have := HLK.out; omega))
  have HV0_2 := Lib.hid (show (Ty.rd .num).rd X2 (fun b => w.heap.size ≤ b ∧ b ≠ w.heap.size ∧ b ≠ k1 ∧ b ≠ rb) _ _ from rd_chg .num hstep (fun b hb hl => ⟨fun e => by have := HLK.out; omega, hb⟩) HV0_1.out)
  have HV1_2 := Lib.hid (show (Ty.rd .num).rd X2 (fun b => w.heap.size ≤ b ∧ b ≠ w.heap.size ∧ b ≠ k1 ∧ b ≠ rb) _ _ from rd_chg .num hcx (fun b hb hl => by have h1 := HLK.out; have h2 := HC1.out.size; have h3 := HB1.out.lt; have hb : X1.heap.size ≤ b := hb; exact ⟨by omega, by omega, by omega, by omega, by omega⟩) hr)
  have HX2 := Lib.hid hX
  clear hr hs hc hb' hcx hstep hX 
  go_wp2_with fail
  rw [← HX2.out]
  refine (get_num X2 rb s2 HR2.out HM2.out).mono ?_
  rintro e w3 ⟨cs, rfl, hr, hs, hc⟩
  rw [HD2.out] at hr hs
  dsimp only at hr hs
  obtain ⟨q2_0, rfl⟩ : ∃ z : Int, cs = [.int .i64 z] := ⟨_, hr.1⟩
  have hg : goV [.int .i64 q2_0] = .int .i64 q2_0 := rfl
  rw [hg]
  clear hg
  have hb' := HB2.out.chg hc (by have := HLK.out; omega)
  have t0 := hb'.cell 2 _ rfl
  have z0 := hb'.free 2
  obtain ⟨X3, hX⟩ : ∃ X, X = (w3.setCell ⟨k1, 2, none⟩ (.int .i64 q2_0)) := ⟨_, rfl⟩
  have hcx : Chg (fun b => b = k1) w3 X3 := by
    have g : ∀ (u : World) (j : Nat) (v : Value), Chg (fun b => b = k1) u (u.setCell ⟨k1, j, none⟩ v) := fun u j v => Chg.setCell _ _ rfl
    rw [hX]
    exact (g _ _ _)
  have HB3 := Lib.hid (show Blk X3 k1 [.int .i64 q0_0, .int .i64 q1_0, .int .i64 q2_0, .int .i64 0, .int .i64 0, .int .i64 0, .string ⟨#[]⟩] from by rw [hX]; exact (hb'.set 2 (.int .i64 q2_0) (by simp)))
  have HR3 := Lib.hid (hs.keep (hcx.more (fun b _ e => by have := HLK.out; omega)))
  have hstep : Chg (fun b => b = rb ∨ b = k1) X2 X3 := (hc.more (fun b _ e => .inl e)).trans (hcx.more (fun b _ e => .inr e))
  have HC3 := Lib.hid (show Chg (fun b => b = rb ∨ w.heap.size ≤ b) w X3 from HC2.out.trans (hstep.more (fun b _ e => e.elim .inl (fun e => .inr (by have := HLK.out; omega)))))
  have HZ3 := Lib.hid (show Blk X3 w.heap.size [.int .i64 0, .int .i64 0, .int .i64 0, .int .i64 0, .int .i64 0, .int .i64 0, .string ⟨#[]⟩] from HZ2.out.chg hstep (by have := HLK.out; omega))
  have HV0_3 := Lib.hid (show (Ty.rd .num).rd X3 (fun b => w.heap.size ≤ b ∧ b ≠ w.heap.size ∧ b ≠ k1 ∧ b ≠ rb) _ _ from rd_chg .num hstep (fun b hb hl => ⟨fun e => by have := HLK.out; omega, hb⟩) HV0_2.out)
  have HV1_3 := Lib.hid (show (Ty.rd .num).rd X3 (fun b => w.heap.size ≤ b ∧ b ≠ w.heap.size ∧ b ≠ k1 ∧ b ≠ rb) _ _ from rd_chg .num hstep (fun b hb hl => ⟨fun e => by have := HLK.out; omega, hb⟩) HV1_2.out)
  have HV2_3 := Lib.hid (show (Ty.rd .num).rd X3 (fun b => w.heap.size ≤ b ∧ b ≠ w.heap.size ∧ b ≠ k1 ∧ b ≠ rb) _ _ from rd_chg .num hcx (fun b hb hl => by have h1 := HLK.out; have h2 := HC2.out.size; have h3 := HB2.out.lt; have hb : X2.heap.size ≤ b := hb; exact ⟨by omega, by omega, by omega, by omega, by omega⟩) hr)
  have HX3 := Lib.hid hX
  clear hr hs hc hb' hcx hstep hX 
  go_wp2_with fail
  rw [← HX3.out]
  refine (get_num X3 rb s3 HR3.out HM3.out).mono ?_
  rintro e w4 ⟨cs, rfl, hr, hs, hc⟩
  rw [HD3.out] at hr hs
  dsimp only at hr hs
  obtain ⟨q3_0, rfl⟩ : ∃ z : Int, cs = [.int .i64 z] := ⟨_, hr.1⟩
  have hg : goV [.int .i64 q3_0] = .int .i64 q3_0 := rfl
  rw [hg]
  clear hg
  have hb' := HB3.out.chg hc (by have := HLK.out; omega)
  have t0 := hb'.cell 3 _ rfl
  have z0 := hb'.free 3
  obtain ⟨X4, hX⟩ : ∃ X, X = (w4.setCell ⟨k1, 3, none⟩ (.int .i64 q3_0)) := ⟨_, rfl⟩
  have hcx : Chg (fun b => b = k1) w4 X4 := by
    have g : ∀ (u : World) (j : Nat) (v : Value), Chg (fun b => b = k1) u (u.setCell ⟨k1, j, none⟩ v) := fun u j v => Chg.setCell _ _ rfl
    rw [hX]
    exact (g _ _ _)
  have HB4 := Lib.hid (show Blk X4 k1 [.int .i64 q0_0, .int .i64 q1_0, .int .i64 q2_0, .int .i64 q3_0, .int .i64 0, .int .i64 0, .string ⟨#[]⟩] from by rw [hX]; exact (hb'.set 3 (.int .i64 q3_0) (by simp)))
  have HR4 := Lib.hid (hs.keep (hcx.more (fun b _ e => by have := HLK.out; omega)))
  have hstep : Chg (fun b => b = rb ∨ b = k1) X3 X4 := (hc.more (fun b _ e => .inl e)).trans (hcx.more (fun b _ e => .inr e))
  have HC4 := Lib.hid (show Chg (fun b => b = rb ∨ w.heap.size ≤ b) w X4 from HC3.out.trans (hstep.more (fun b _ e => e.elim .inl (fun e => .inr (by have := HLK.out; omega)))))
  have HZ4 := Lib.hid (show Blk X4 w.heap.size [.int .i64 0, .int .i64 0, .int .i64 0, .int .i64 0, .int .i64 0, .int .i64 0, .string ⟨#[]⟩] from HZ3.out.chg hstep (by have := HLK.out; omega))
  have HV0_4 := Lib.hid (show (Ty.rd .num).rd X4 (fun b => w.heap.size ≤ b ∧ b ≠ w.heap.size ∧ b ≠ k1 ∧ b ≠ rb) _ _ from rd_chg .num hstep (fun b hb hl => ⟨fun e => by have := HLK.out; omega, hb⟩) HV0_3.out)
  have HV1_4 := Lib.hid (show (Ty.rd .num).rd X4 (fun b => w.heap.size ≤ b ∧ b ≠ w.heap.size ∧ b ≠ k1 ∧ b ≠ rb) _ _ from rd_chg .num hstep (fun b hb hl => ⟨fun e => by have := HLK.out; omega, hb⟩) HV1_3.out)
  have HV2_4 := Lib.hid (show (Ty.rd .num).rd X4 (fun b => w.heap.size ≤ b ∧ b ≠ w.heap.size ∧ b ≠ k1 ∧ b ≠ rb) _ _ from rd_chg .num hstep (fun b hb hl => ⟨fun e => by have := HLK.out; omega, hb⟩) HV2_3.out)
  have HV3_4 := Lib.hid (show (Ty.rd .num).rd X4 (fun b => w.heap.size ≤ b ∧ b ≠ w.heap.size ∧ b ≠ k1 ∧ b ≠ rb) _ _ from rd_chg .num hcx (fun b hb hl => by have h1 := HLK.out; have h2 := HC3.out.size; have h3 := HB3.out.lt; have hb : X3.heap.size ≤ b := hb; exact ⟨by omega, by omega, by omega, by omega, by omega⟩) hr)
  have HX4 := Lib.hid hX
  clear hr hs hc hb' hcx hstep hX 
  go_wp2_with fail
  rw [← HX4.out]
  refine (get_Value X4 rb s4 HR4.out HM4.out).mono ?_
  rintro e w5 ⟨cs, rfl, hr, hs, hc⟩
  rw [HD4.out] at hr hs
  dsimp only at hr hs
  obtain ⟨q4_0, q4_1, q4_2, rfl⟩ := shape_Value hr
  have hg : goV [.int .i64 q4_0, .int .i64 q4_1, .string q4_2] = .agg #[.int .i64 q4_0, .int .i64 q4_1, .string q4_2] := rfl
  rw [hg]
  clear hg
  have hb' := HB4.out.chg hc (by have := HLK.out; omega)
  have t0 := hb'.cell 4 _ rfl
  have z0 := hb'.free 4
  have t1 := hb'.cell 5 _ rfl
  have z1 := hb'.free 5
  have t2 := hb'.cell 6 _ rfl
  have z2 := hb'.free 6
  obtain ⟨X5, hX⟩ : ∃ X, X = (((w5.setCell ⟨k1, 4, none⟩ (.int .i64 q4_0)).setCell ⟨k1, 5, none⟩ (.int .i64 q4_1)).setCell ⟨k1, 6, none⟩ (.string q4_2)) := ⟨_, rfl⟩
  have hcx : Chg (fun b => b = k1) w5 X5 := by
    have g : ∀ (u : World) (j : Nat) (v : Value), Chg (fun b => b = k1) u (u.setCell ⟨k1, j, none⟩ v) := fun u j v => Chg.setCell _ _ rfl
    rw [hX]
    exact (Chg.trans (Chg.trans (g _ _ _) (g _ _ _)) (g _ _ _))
  have HB5 := Lib.hid (show Blk X5 k1 [.int .i64 q0_0, .int .i64 q1_0, .int .i64 q2_0, .int .i64 q3_0, .int .i64 q4_0, .int .i64 q4_1, .string q4_2] from by rw [hX]; exact (((hb'.set 4 (.int .i64 q4_0) (by simp)).set 5 (.int .i64 q4_1) (by simp)).set 6 (.string q4_2) (by simp)))
  have HR5 := Lib.hid (hs.keep (hcx.more (fun b _ e => by have := HLK.out; omega)))
  have hstep : Chg (fun b => b = rb ∨ b = k1) X4 X5 := (hc.more (fun b _ e => .inl e)).trans (hcx.more (fun b _ e => .inr e))
  have HC5 := Lib.hid (show Chg (fun b => b = rb ∨ w.heap.size ≤ b) w X5 from HC4.out.trans (hstep.more (fun b _ e => e.elim .inl (fun e => .inr (by have := HLK.out; omega)))))
  have HZ5 := Lib.hid (show Blk X5 w.heap.size [.int .i64 0, .int .i64 0, .int .i64 0, .int .i64 0, .int .i64 0, .int .i64 0, .string ⟨#[]⟩] from HZ4.out.chg hstep (by have := HLK.out; omega))
  have HV0_5 := Lib.hid (show (Ty.rd .num).rd X5 (fun b => w.heap.size ≤ b ∧ b ≠ w.heap.size ∧ b ≠ k1 ∧ b ≠ rb) _ _ from rd_chg .num hstep (fun b hb hl => ⟨fun e => by have := HLK.out; omega, hb⟩) HV0_4.out)
  have HV1_5 := Lib.hid (show (Ty.rd .num).rd X5 (fun b => w.heap.size ≤ b ∧ b ≠ w.heap.size ∧ b ≠ k1 ∧ b ≠ rb) _ _ from rd_chg .num hstep (fun b hb hl => ⟨fun e => by have := HLK.out; omega, hb⟩) HV1_4.out)
  have HV2_5 := Lib.hid (show (Ty.rd .num).rd X5 (fun b => w.heap.size ≤ b ∧ b ≠ w.heap.size ∧ b ≠ k1 ∧ b ≠ rb) _ _ from rd_chg .num hstep (fun b hb hl => ⟨fun e => by have := HLK.out; omega, hb⟩) HV2_4.out)
  have HV3_5 := Lib.hid (show (Ty.rd .num).rd X5 (fun b => w.heap.size ≤ b ∧ b ≠ w.heap.size ∧ b ≠ k1 ∧ b ≠ rb) _ _ from rd_chg .num hstep (fun b hb hl => ⟨fun e => by have := HLK.out; omega, hb⟩) HV3_4.out)
  have HV4_5 := Lib.hid (show (Ty.rd tValue).rd X5 (fun b => w.heap.size ≤ b ∧ b ≠ w.heap.size ∧ b ≠ k1 ∧ b ≠ rb) _ _ from rd_chg tValue hcx (fun b hb hl => by have h1 := HLK.out; have h2 := HC4.out.size; have h3 := HB4.out.lt; have hb : X4.heap.size ≤ b := hb; exact ⟨by omega, by omega, by omega, by omega, by omega⟩) hr)
  have HX5 := Lib.hid hX
  clear hr hs hc hb' hcx hstep hX 
  go_upto_region 6 with fail
  rw [← HX5.out]
  have q0 := HB5.out.cell 0 _ rfl
  have zc0 := HZ5.out.cell 0 _ rfl
  have zf0 := HZ5.out.free 0
  have q1 := HB5.out.cell 1 _ rfl
  have zc1 := HZ5.out.cell 1 _ rfl
  have zf1 := HZ5.out.free 1
  have q2 := HB5.out.cell 2 _ rfl
  have zc2 := HZ5.out.cell 2 _ rfl
  have zf2 := HZ5.out.free 2
  have q3 := HB5.out.cell 3 _ rfl
  have zc3 := HZ5.out.cell 3 _ rfl
  have zf3 := HZ5.out.free 3
  have q4 := HB5.out.cell 4 _ rfl
  have zc4 := HZ5.out.cell 4 _ rfl
  have zf4 := HZ5.out.free 4
  have q5 := HB5.out.cell 5 _ rfl
  have zc5 := HZ5.out.cell 5 _ rfl
  have zf5 := HZ5.out.free 5
  have q6 := HB5.out.cell 6 _ rfl
  have zc6 := HZ5.out.cell 6 _ rfl
  have zf6 := HZ5.out.free 6
  go_wp2
  obtain ⟨Wf, hWf⟩ : ∃ Wf, Wf = (((((((X5.setCell ⟨w.heap.size, 0, none⟩ (.int .i64 q0_0)).setCell ⟨w.heap.size, 1, none⟩ (.int .i64 q1_0)).setCell ⟨w.heap.size, 2, none⟩ (.int .i64 q2_0)).setCell ⟨w.heap.size, 3, none⟩ (.int .i64 q3_0)).setCell ⟨w.heap.size, 4, none⟩ (.int .i64 q4_0)).setCell ⟨w.heap.size, 5, none⟩ (.int .i64 q4_1)).setCell ⟨w.heap.size, 6, none⟩ (.string q4_2)) := ⟨_, rfl⟩
  rw [← hWf]
  have hcf : Chg (fun b => b = w.heap.size) X5 Wf := by
    have g : ∀ (u : World) (j : Nat) (v : Value), Chg (fun b => b = w.heap.size) u (u.setCell ⟨w.heap.size, j, none⟩ v) := fun u j v => Chg.setCell _ _ rfl
    rw [hWf]
    exact (Chg.trans (Chg.trans (Chg.trans (Chg.trans (Chg.trans (Chg.trans (g _ _ _) (g _ _ _)) (g _ _ _)) (g _ _ _)) (g _ _ _)) (g _ _ _)) (g _ _ _))
  have HBF := Lib.hid (show Blk Wf w.heap.size [.int .i64 q0_0, .int .i64 q1_0, .int .i64 q2_0, .int .i64 q3_0, .int .i64 q4_0, .int .i64 q4_1, .string q4_2] from by rw [hWf]; exact (((((((HZ5.out.set 0 (.int .i64 q0_0) (by simp)).set 1 (.int .i64 q1_0) (by simp)).set 2 (.int .i64 q2_0) (by simp)).set 3 (.int .i64 q3_0) (by simp)).set 4 (.int .i64 q4_0) (by simp)).set 5 (.int .i64 q4_1) (by simp)).set 6 (.string q4_2) (by simp)))
  clear hWf q0 zc0 zf0 q1 zc1 zf1 q2 zc2 zf2 q3 zc3 zf3 q4 zc4 zf4 q5 zc5 zf5 q6 zc6 zf6
  have sc0 := HBF.out.cell 0 _ rfl
  have sc1 := HBF.out.cell 1 _ rfl
  have sc2 := HBF.out.cell 2 _ rfl
  have sc3 := HBF.out.cell 3 _ rfl
  have sc4 := HBF.out.cell 4 _ rfl
  have sc5 := HBF.out.cell 5 _ rfl
  have sc6 := HBF.out.cell 6 _ rfl
  refine bodyPost_ret (v := .agg #[.int .i64 q0_0, .int .i64 q1_0, .int .i64 q2_0, .int .i64 q3_0, .int .i64 q4_0, .int .i64 q4_1, .string q4_2]) (by simp [sc0, sc1, sc2, sc3, sc4, sc5, sc6, results, Tryz.results77, go_sem]) rfl ?_
  refine ⟨[.int .i64 q0_0, .int .i64 q1_0, .int .i64 q2_0, .int .i64 q3_0, .int .i64 q4_0, .int .i64 q4_1, .string q4_2], rfl, ?_, ?_, ?_⟩
  · rw [HDEC.out]
    have h0 : (Ty.rd .num).rd Wf (w.heap.size ≤ ·) _ _ := rd_chg .num hcf (fun b hb hl => ⟨hb.2.1, hb.1⟩) HV0_5.out
    have h1 : (Ty.rd .num).rd Wf (w.heap.size ≤ ·) _ _ := rd_chg .num hcf (fun b hb hl => ⟨hb.2.1, hb.1⟩) HV1_5.out
    have h2 : (Ty.rd .num).rd Wf (w.heap.size ≤ ·) _ _ := rd_chg .num hcf (fun b hb hl => ⟨hb.2.1, hb.1⟩) HV2_5.out
    have h3 : (Ty.rd .num).rd Wf (w.heap.size ≤ ·) _ _ := rd_chg .num hcf (fun b hb hl => ⟨hb.2.1, hb.1⟩) HV3_5.out
    have h4 : (Ty.rd tValue).rd Wf (w.heap.size ≤ ·) _ _ := rd_chg tValue hcf (fun b hb hl => ⟨hb.2.1, hb.1⟩) HV4_5.out
    exact ⟨_, _, rfl, h0, _, _, rfl, h1, _, _, rfl, h2, _, _, rfl, h3, h4⟩
  · rw [HDEC.out]; exact HR5.out.keep (hcf.more (fun b _ e => by have := HLK.out; omega))
  · exact (HC5.out.trans (hcf.more (fun b _ e => .inr (by omega)))).more (fun b hb e => e.elim id (fun e => by omega))

theorem info_read_Expr : (Tryz.prog.info? 166).map (fun i => (i.zero, i.size, i.bytes)) = some (some ((.agg #[.int .i64 0, .int .i64 0, .int .i64 0, .int .i64 0, .int .i64 0, .int .i64 0, .string ⟨#[]⟩])), 7, 64) := by kernel_rfl

set_option maxRecDepth 100000 in
set_option maxHeartbeats 4000000 in
theorem read_Expr : ReadC 76 77 tExpr := by
  intro w rb s h hmod
  obtain ⟨i0, hi0, hz0, hz1, hz2⟩ := info_parts info_read_Expr
  obtain ⟨n, s1, hn⟩ : ∃ n s', dsize s = (n, s') := ⟨_, _, rfl⟩
  have hs := cd_size h
  rw [hn] at hs
  obtain ⟨hm1, hm2⟩ := hmod
  rw [hn] at hm1 hm2
  replace hm1 : n ≤ 1073741824 := hm1
  obtain ⟨L, S', hLS⟩ : ∃ L S', dmany (dec tExpr) n s1 = (L, S') := ⟨_, _, rfl⟩
  have HDEC := Lib.hid (show dec (.list tExpr) s = (L, S') from by show dmany (dec tExpr) (dsize s).1 (dsize s).2 = _; rw [hn]; exact hLS)
  have HSZ := Lib.hid hs
  have HM := Lib.hid hm2
  have HM1 := Lib.hid hm1
  have HLS := Lib.hid hLS
  have HLT := Lib.hid h.lt
  have hn0 : 0 ≤ (n : Int) ∧ (n : Int) ≤ 1073741824 := by omega
  clear h hs hm1 hm2 hn hLS
  go_enter Tryz.func76, Tryz.ntmps76
  go_wp2_with fail
  refine HSZ.out.mono ?_
  rintro e w1 ⟨rfl, hr, hc⟩
  have HR1 := Lib.hid (show Rdr w1 rb s1 from hr)
  have HC1 := Lib.hid hc
  clear hr hc
  go_wp2
  go_loopg [5, 6] n (fun gk t5 t6 wr => ∃ (k : Nat) (sc : St) (l : List (Ty.T tExpr)) (xs : List Value), gk = k ∧ t6 = .int .i64 (k : Int) ∧ Rdr wr rb sc ∧ Rows tExpr 166 7 w.heap.size wr t5 l xs ∧ ModMany (Mod tExpr) (dec tExpr) k sc ∧ l.length + k ≤ n ∧ l ++ (dmany (dec tExpr) k sc).1 = L ∧ (dmany (dec tExpr) k sc).2 = S' ∧ Chg (fun b => b = rb ∨ w.heap.size ≤ b) w wr)
  case atStart =>
    exact ⟨n, s1, [], [], rfl, rfl, HR1.out, ⟨World.ownsRow_nil _ _ _ _, rarr_nil _ _ _⟩, HM.out, by simp, by rw [HLS.out]; rfl, by rw [HLS.out], HC1.out.more (fun b _ e => .inl e)⟩
  case round =>
    obtain ⟨k, sc, l, xs, rfl, rfl, hr, hrow, hm, hle, hL, hS, hc⟩ := hrel
    have HR := Lib.hid hr
    have HROW := Lib.hid hrow
    have HMM := Lib.hid hm
    have HLE := Lib.hid hle
    have HL := Lib.hid hL
    have HS := Lib.hid hS
    have HC := Lib.hid hc
    have hk0 : 0 ≤ (gk : Int) ∧ (gk : Int) ≤ 1073741824 := by have := HM1.out; omega
    clear hr hrow hm hle hL hS hc
    by_cases hk : gk = 0
    · subst hk
      have HLL := Lib.hid (show l = L from by have := HL.out; simpa [dmany] using this)
      have HSS := Lib.hid (show Rdr wr rb S' from by have := HS.out; rw [← this]; exact HR.out)
      have HFIN := Lib.hid (show (Ty.rd (.list tExpr)).rd wr (w.heap.size ≤ ·) [_] L from by
        have := rd_own HROW.out.row (Rd.more _ (fun b hb => hb.1) HROW.out.arr) (F := (w.heap.size ≤ ·)) (fun b hb _ => hb)
        rw [HLL.out] at this
        exact this)
      go_wp2
      go_ret
      refine ⟨[_], rfl, ?_, ?_, HC.out.more (fun b hb e => e.elim id (fun e => by omega))⟩
      · rw [HDEC.out]; exact HFIN.out
      · rw [HDEC.out]; exact HSS.out
    · have hd1 : decide ((0 : Int) < (gk : Int)) = true := decide_eq_true (by omega)
      cases sc with
      | error e =>
        obtain ⟨c0, c1, he⟩ := HR.out.bad e rfl
        have g0 : (e == 0) = false := by rcases he with rfl | rfl <;> rfl
        have HLL := Lib.hid (show l = L from by have := HL.out; rw [dmany_error] at this; simpa using this)
        have HSS := Lib.hid (show Rdr wr rb S' from by have := HS.out; rw [dmany_error] at this; rw [← this]; exact HR.out)
        clear he
        have HFIN := Lib.hid (show (Ty.rd (.list tExpr)).rd wr (w.heap.size ≤ ·) [_] L from by
          have := rd_own HROW.out.row (Rd.more _ (fun b hb => hb.1) HROW.out.arr) (F := (w.heap.size ≤ ·)) (fun b hb _ => hb)
          rw [HLL.out] at this
          exact this)
        go_wp2
        go_ret
        refine ⟨[_], rfl, ?_, ?_, HC.out.more (fun b hb e => e.elim id (fun e => by omega))⟩
        · rw [HDEC.out]; exact HFIN.out
        · rw [HDEC.out]; exact HSS.out
      | ok r =>
        obtain ⟨v, c0, c1, -, -⟩ := HR.out.ok r rfl
        obtain ⟨k', rfl⟩ : ∃ k', gk = k' + 1 := ⟨gk - 1, by omega⟩
        obtain ⟨x, s2, hd⟩ : ∃ x s', dec tExpr (.ok r) = (x, s') := ⟨_, _, rfl⟩
        have HD := Lib.hid hd
        have HL2 := Lib.hid (show (l ++ [x]) ++ (dmany (dec tExpr) k' s2).1 = L ∧ (dmany (dec tExpr) k' s2).2 = S' from by
          have h1 := HL.out; have h2 := HS.out
          rw [dmany] at h1 h2
          simp only [hd] at h1 h2
          exact ⟨by simpa using h1, h2⟩)
        have HM2 := Lib.hid (show Mod tExpr (.ok r) ∧ ModMany (Mod tExpr) (dec tExpr) k' s2 from by
          have h1 := HMM.out
          rw [ModMany] at h1
          simp only [hd] at h1
          exact h1)
        clear hd
        go_wp2_with fail
        refine (get_Expr wr rb (.ok r) HR.out HM2.out.1).mono ?_
        rintro e w2 ⟨cs, rfl, hr, hs, hc⟩
        rw [HD.out] at hr hs
        dsimp only at hr hs
        obtain ⟨q_0, q_1, q_2, q_3, q_4, q_5, q_6, rfl⟩ := shape_Expr hr
        have hg : goV [.int .i64 q_0, .int .i64 q_1, .int .i64 q_2, .int .i64 q_3, .int .i64 q_4, .int .i64 q_5, .string q_6] = .agg #[.int .i64 q_0, .int .i64 q_1, .int .i64 q_2, .int .i64 q_3, .int .i64 q_4, .int .i64 q_5, .string q_6] := rfl
        rw [hg]
        have HX := Lib.hid hr
        have HR2 := Lib.hid hs
        have HC2 := Lib.hid hc
        have HB3 := Lib.hid (show Below w2.heap.size w2 (w2.alloc (.cells #[.int .i64 q_0, .int .i64 q_1, .int .i64 q_2, .int .i64 q_3, .int .i64 q_4, .int .i64 q_5, .string q_6] 166)) from (Below.refl _ _).alloc (Nat.le_refl _) _)
        have HROW2 := Lib.hid (show (w2.alloc (.cells #[.int .i64 q_0, .int .i64 q_1, .int .i64 q_2, .int .i64 q_3, .int .i64 q_4, .int .i64 q_5, .string q_6] 166)).ownsRow w.heap.size 166 7 _ l.length xs from ownk_chg (ownk_chg HROW.out.row hc (fun b e hb => by have := (ownk_ge HROW.out.row b e).1; have := HLT.out; omega)) (F := fun _ => False) (Chg.of_below HB3.out) (fun _ _ e => e))
        have HBS := Lib.hid (show w.heap.size ≤ (w2.alloc (.cells #[.int .i64 q_0, .int .i64 q_1, .int .i64 q_2, .int .i64 q_3, .int .i64 q_4, .int .i64 q_5, .string q_6] 166)).heap.size from by have := HC.out.size; have := HC2.out.size; simp; omega)
        clear hg hr hs hc
        go_wp2_with (at_builtin; refine wpList_append_o rfl _ _ 108 rfl w.heap.size 166 i0 _ 7 64 Tryz.underlying108 hi0 hz0 hz1 hz2 rfl (by decide) _ l.length xs rfl HROW2.out _ 1 [.int .i64 q_0, .int .i64 q_1, .int .i64 q_2, .int .i64 q_3, .int .i64 q_4, .int .i64 q_5, .string q_6] rfl (sl_cells1 w2 _ _ rfl) (fun _ _ h => by cases h) (by simp [Value.oneCell']) (by have := HLE.out; have := HM1.out; unfold maxLen; omega) (by have := HLE.out; have := HM1.out; omega) HBS.out ?_)
        intro v' w4 h1 h2 h3
        have HROWS := Lib.hid (HROW.out.snoc HLT.out HC.out.size HC2.out HX.out HB3.out h1 h2 (by rw [World.size_alloc]; exact h3))
        have h24 := Chg.grown (F := fun b => w.heap.size ≤ b) h2 (fun b e => (ownk_ge HROW.out.row b e).1)
        have HR4 := Lib.hid ((HR2.out.below HB3.out).keep (h24.more (fun b _ e => by have := HLT.out; omega)))
        have HC4 := Lib.hid (show Chg (fun b => b = rb ∨ w.heap.size ≤ b) w w4 from ((HC.out.trans (HC2.out.more (fun b _ e => .inl e))).trans (Chg.of_below HB3.out)).trans (h24.more (fun b _ e => .inr e)))
        clear h1 h2 h3 h24
        go_wp2
        go_roundg k'
        case rel => exact ⟨k', s2, l ++ [x], _, rfl, by go_num, HR4.out, HROWS.out, HM2.out.2, by have := HLE.out; simp; omega, HL2.out.1, HL2.out.2, HC4.out⟩
        case measure => omega

set_option maxRecDepth 100000 in
set_option maxHeartbeats 4000000 in
theorem get_Assignment : GetC 79 tAssignment := by
  intro w rb s h hmod
  obtain ⟨W0, hW0⟩ : ∃ W0, W0 = w.alloc (.cells #[.int .i64 0, .int .i64 0] 171) := ⟨_, rfl⟩
  have hb0 : Below w.heap.size w W0 := by rw [hW0]; exact (Below.refl _ _).alloc (Nat.le_refl _) _
  have HLT := Lib.hid (show rb < w.heap.size ∧ W0.heap.size = w.heap.size + 1 from And.intro h.lt (by rw [hW0]; simp))
  have HK0 := Lib.hid (show Blk W0 w.heap.size [.int .i64 0, .int .i64 0] from by rw [hW0]; exact Blk.new w _ _)
  have HR0 := Lib.hid (h.below hb0)
  have HC0 := Lib.hid (show Chg (fun b => b = rb ∨ w.heap.size ≤ b) w W0 from Chg.of_below hb0)
  have HW0 := Lib.hid hW0
  obtain ⟨s0, hs0⟩ : ∃ s0, s0 = s := ⟨_, rfl⟩
  rw [← hs0] at HR0
  obtain ⟨x0, s1, hd0⟩ : ∃ x s', dec .num s0 = (x, s') := ⟨_, _, rfl⟩
  obtain ⟨x1, s2, hd1⟩ : ∃ x s', dec .num s1 = (x, s') := ⟨_, _, rfl⟩
  have HDEC := Lib.hid (show dec tAssignment s = ((x0, x1), s2) from by
    rw [← hs0]
    show dec (.pair .num .num) s0 = _
    simp only [dec_pair, hd0, hd1])
  rw [← hs0] at hmod
  obtain ⟨hm0, hm1⟩ := hmod
  simp only [hd0] at hm1
  have HM0 := Lib.hid hm0
  have HM1 := Lib.hid hm1
  have HD0 := Lib.hid hd0
  have HD1 := Lib.hid hd1
  clear hm0 hm1 h hb0 hW0 hs0 hd0 hd1
  go_enter Tryz.func79, Tryz.ntmps79
  go_wp2_with fail
  rw [← HW0.out]
  refine (get_num W0 rb s0 HR0.out HM0.out).mono ?_
  rintro e w1 ⟨cs, rfl, hr, hs, hc⟩
  rw [HD0.out] at hr hs
  dsimp only at hr hs
  obtain ⟨q0_0, rfl⟩ : ∃ z : Int, cs = [.int .i64 z] := ⟨_, hr.1⟩
  have hg : goV [.int .i64 q0_0] = .int .i64 q0_0 := rfl
  rw [hg]
  clear hg
  obtain ⟨k1, hk1⟩ : ∃ k1, k1 = w1.heap.size := ⟨_, rfl⟩
  obtain ⟨X1, hX1⟩ : ∃ X1, X1 = w1.alloc (.cells #[.int .i64 q0_0, .int .i64 0] 171) := ⟨_, rfl⟩
  have hbx : Below w1.heap.size w1 X1 := by rw [hX1]; exact (Below.refl _ _).alloc (Nat.le_refl _) _
  have HLK := Lib.hid (show rb < w.heap.size ∧ w.heap.size < k1 ∧ k1 < X1.heap.size from by
    have h1 := HLT.out; have h2 := hc.size; have h3 : X1.heap.size = w1.heap.size + 1 := by rw [hX1]; simp
    omega)
  have HB1 := Lib.hid (show Blk X1 k1 [.int .i64 q0_0, .int .i64 0] from by rw [hX1, hk1]; exact Blk.new w1 _ _)
  have HR1 := Lib.hid (hs.below hbx)
  have HC1 := Lib.hid (show Chg (fun b => b = rb ∨ w.heap.size ≤ b) w X1 from (HC0.out.trans (hc.more (fun b _ e => .inl e))).trans (Chg.of_below hbx))
  have HZ1 := Lib.hid (show Blk X1 w.heap.size [.int .i64 0, .int .i64 0] from (HK0.out.chg hc (by have := HLT.out.1; omega)).chg (F := fun _ => False) (Chg.of_below hbx) id)
  have HV0_1 := Lib.hid (show (Ty.rd .num).rd X1 (fun b => w.heap.size ≤ b ∧ b ≠ w.heap.size ∧ b ≠ k1 ∧ b ≠ rb) _ _ from rd_chg .num (K := fun _ => False) (Chg.of_below hbx) (fun b hb hl => ⟨id, by have h1 := HLT.out; omega, by have h1 := HLT.out; omega, by omega, by have h1 := HLT.out; omega⟩) hr)
  have HX1 := Lib.hid hX1
  have HKK := Lib.hid hk1
  clear hr hs hc hX1 hbx hk1
  go_wp2_with fail
  rw [← HKK.out, ← HX1.out]
  refine (get_num X1 rb s1 HR1.out HM1.out).mono ?_
  rintro e w2 ⟨cs, rfl, hr, hs, hc⟩
  rw [HD1.out] at hr hs
  dsimp only at hr hs
  obtain ⟨q1_0, rfl⟩ : ∃ z : Int, cs = [.int .i64 z] := ⟨_, hr.1⟩
  have hg : goV [.int .i64 q1_0] = .int .i64 q1_0 := rfl
  rw [hg]
  clear hg
  have hb' := HB1.out.chg hc (by have := HLK.out; omega)
  have t0 := hb'.cell 1 _ rfl
  have z0 := hb'.free 1
  obtain ⟨X2, hX⟩ : ∃ X, X = (w2.setCell ⟨k1, 1, none⟩ (.int .i64 q1_0)) := ⟨_, rfl⟩
  have hcx : Chg (fun b => b = k1) w2 X2 := by
    have g : ∀ (u : World) (j : Nat) (v : Value), Chg (fun b => b = k1) u (u.setCell ⟨k1, j, none⟩ v) := fun u j v => Chg.setCell _ _ rfl
    rw [hX]
    exact (g _ _ _)
  have HB2 := Lib.hid (show Blk X2 k1 [.int .i64 q0_0, .int .i64 q1_0] from by rw [hX]; exact (hb'.set 1 (.int .i64 q1_0) (by simp)))
  have HR2 := Lib.hid (hs.keep (hcx.more (fun b _ e => by have := HLK.out; omega)))
  have hstep : Chg (fun b => b = rb ∨ b = k1) X1 X2 := (hc.more (fun b _ e => .inl e)).trans (hcx.more (fun b _ e => .inr e))
  have HC2 := Lib.hid (show Chg (fun b => b = rb ∨ w.heap.size ≤ b) w X2 from HC1.out.trans (hstep.more (fun b _ e => e.elim .inl (fun e => .inr (by have := HLK.out; omega)))))
  have HZ2 := Lib.hid (show Blk X2 w.heap.size [.int .i64 0, .int .i64 0] from HZ1.out.chg hstep (by have := HLK.out; omega))
  have HV0_2 := Lib.hid (show (Ty.rd .num).rd X2 (fun b => w.heap.size ≤ b ∧ b ≠ w.heap.size ∧ b ≠ k1 ∧ b ≠ rb) _ _ from rd_chg .num hstep (fun b hb hl => ⟨fun e => by have := HLK.out; omega, hb⟩) HV0_1.out)
  have HV1_2 := Lib.hid (show (Ty.rd .num).rd X2 (fun b => w.heap.size ≤ b ∧ b ≠ w.heap.size ∧ b ≠ k1 ∧ b ≠ rb) _ _ from rd_chg .num hcx (fun b hb hl => by have h1 := HLK.out; have h2 := HC1.out.size; have h3 := HB1.out.lt; have hb : X1.heap.size ≤ b := hb; exact ⟨by omega, by omega, by omega, by omega, by omega⟩) hr)
  have HX2 := Lib.hid hX
  clear hr hs hc hb' hcx hstep hX 
  go_upto_region 3 with fail
  rw [← HX2.out]
  have q0 := HB2.out.cell 0 _ rfl
  have zc0 := HZ2.out.cell 0 _ rfl
  have zf0 := HZ2.out.free 0
  have q1 := HB2.out.cell 1 _ rfl
  have zc1 := HZ2.out.cell 1 _ rfl
  have zf1 := HZ2.out.free 1
  go_wp2
  obtain ⟨Wf, hWf⟩ : ∃ Wf, Wf = ((X2.setCell ⟨w.heap.size, 0, none⟩ (.int .i64 q0_0)).setCell ⟨w.heap.size, 1, none⟩ (.int .i64 q1_0)) := ⟨_, rfl⟩
  rw [← hWf]
  have hcf : Chg (fun b => b = w.heap.size) X2 Wf := by
    have g : ∀ (u : World) (j : Nat) (v : Value), Chg (fun b => b = w.heap.size) u (u.setCell ⟨w.heap.size, j, none⟩ v) := fun u j v => Chg.setCell _ _ rfl
    rw [hWf]
    exact (Chg.trans (g _ _ _) (g _ _ _))
  have HBF := Lib.hid (show Blk Wf w.heap.size [.int .i64 q0_0, .int .i64 q1_0] from by rw [hWf]; exact ((HZ2.out.set 0 (.int .i64 q0_0) (by simp)).set 1 (.int .i64 q1_0) (by simp)))
  clear hWf q0 zc0 zf0 q1 zc1 zf1
  have sc0 := HBF.out.cell 0 _ rfl
  have sc1 := HBF.out.cell 1 _ rfl
  refine bodyPost_ret (v := .agg #[.int .i64 q0_0, .int .i64 q1_0]) (by simp [sc0, sc1, results, Tryz.results79, go_sem]) rfl ?_
  refine ⟨[.int .i64 q0_0, .int .i64 q1_0], rfl, ?_, ?_, ?_⟩
  · rw [HDEC.out]
    have h0 : (Ty.rd .num).rd Wf (w.heap.size ≤ ·) _ _ := rd_chg .num hcf (fun b hb hl => ⟨hb.2.1, hb.1⟩) HV0_2.out
    have h1 : (Ty.rd .num).rd Wf (w.heap.size ≤ ·) _ _ := rd_chg .num hcf (fun b hb hl => ⟨hb.2.1, hb.1⟩) HV1_2.out
    exact ⟨_, _, rfl, h0, h1⟩
  · rw [HDEC.out]; exact HR2.out.keep (hcf.more (fun b _ e => by have := HLK.out; omega))
  · exact (HC2.out.trans (hcf.more (fun b _ e => .inr (by omega)))).more (fun b hb e => e.elim id (fun e => by omega))

theorem info_read_Assignment : (Tryz.prog.info? 171).map (fun i => (i.zero, i.size, i.bytes)) = some (some ((.agg #[.int .i64 0, .int .i64 0])), 2, 16) := by kernel_rfl

set_option maxRecDepth 100000 in
set_option maxHeartbeats 4000000 in
theorem read_Assignment : ReadC 78 79 tAssignment := by
  intro w rb s h hmod
  obtain ⟨i0, hi0, hz0, hz1, hz2⟩ := info_parts info_read_Assignment
  obtain ⟨n, s1, hn⟩ : ∃ n s', dsize s = (n, s') := ⟨_, _, rfl⟩
  have hs := cd_size h
  rw [hn] at hs
  obtain ⟨hm1, hm2⟩ := hmod
  rw [hn] at hm1 hm2
  replace hm1 : n ≤ 1073741824 := hm1
  obtain ⟨L, S', hLS⟩ : ∃ L S', dmany (dec tAssignment) n s1 = (L, S') := ⟨_, _, rfl⟩
  have HDEC := Lib.hid (show dec (.list tAssignment) s = (L, S') from by show dmany (dec tAssignment) (dsize s).1 (dsize s).2 = _; rw [hn]; exact hLS)
  have HSZ := Lib.hid hs
  have HM := Lib.hid hm2
  have HM1 := Lib.hid hm1
  have HLS := Lib.hid hLS
  have HLT := Lib.hid h.lt
  have hn0 : 0 ≤ (n : Int) ∧ (n : Int) ≤ 1073741824 := by omega
  clear h hs hm1 hm2 hn hLS
  go_enter Tryz.func78, Tryz.ntmps78
  go_wp2_with fail
  refine HSZ.out.mono ?_
  rintro e w1 ⟨rfl, hr, hc⟩
  have HR1 := Lib.hid (show Rdr w1 rb s1 from hr)
  have HC1 := Lib.hid hc
  clear hr hc
  go_wp2
  go_loopg [5, 6] n (fun gk t5 t6 wr => ∃ (k : Nat) (sc : St) (l : List (Ty.T tAssignment)) (xs : List Value), gk = k ∧ t6 = .int .i64 (k : Int) ∧ Rdr wr rb sc ∧ Rows tAssignment 171 2 w.heap.size wr t5 l xs ∧ ModMany (Mod tAssignment) (dec tAssignment) k sc ∧ l.length + k ≤ n ∧ l ++ (dmany (dec tAssignment) k sc).1 = L ∧ (dmany (dec tAssignment) k sc).2 = S' ∧ Chg (fun b => b = rb ∨ w.heap.size ≤ b) w wr)
  case atStart =>
    exact ⟨n, s1, [], [], rfl, rfl, HR1.out, ⟨World.ownsRow_nil _ _ _ _, rarr_nil _ _ _⟩, HM.out, by simp, by rw [HLS.out]; rfl, by rw [HLS.out], HC1.out.more (fun b _ e => .inl e)⟩
  case round =>
    obtain ⟨k, sc, l, xs, rfl, rfl, hr, hrow, hm, hle, hL, hS, hc⟩ := hrel
    have HR := Lib.hid hr
    have HROW := Lib.hid hrow
    have HMM := Lib.hid hm
    have HLE := Lib.hid hle
    have HL := Lib.hid hL
    have HS := Lib.hid hS
    have HC := Lib.hid hc
    have hk0 : 0 ≤ (gk : Int) ∧ (gk : Int) ≤ 1073741824 := by have := HM1.out; omega
    clear hr hrow hm hle hL hS hc
    by_cases hk : gk = 0
    · subst hk
      have HLL := Lib.hid (show l = L from by have := HL.out; simpa [dmany] using this)
      have HSS := Lib.hid (show Rdr wr rb S' from by have := HS.out; rw [← this]; exact HR.out)
      have HFIN := Lib.hid (show (Ty.rd (.list tAssignment)).rd wr (w.heap.size ≤ ·) [_] L from by
        have := rd_own HROW.out.row (Rd.more _ (fun b hb => hb.1) HROW.out.arr) (F := (w.heap.size ≤ ·)) (fun b hb _ => hb)
        rw [HLL.out] at this
        exact this)
      go_wp2
      go_ret
      refine ⟨[_], rfl, ?_, ?_, HC.out.more (fun b hb e => e.elim id (fun e => by omega))⟩
      · rw [HDEC.out]; exact HFIN.out
      · rw [HDEC.out]; exact HSS.out
    · have hd1 : decide ((0 : Int) < (gk : Int)) = true := decide_eq_true (by omega)
      cases sc with
      | error e =>
        obtain ⟨c0, c1, he⟩ := HR.out.bad e rfl
        have g0 : (e == 0) = false := by rcases he with rfl | rfl <;> rfl
        have HLL := Lib.hid (show l = L from by have := HL.out; rw [dmany_error] at this; simpa using this)
        have HSS := Lib.hid (show Rdr wr rb S' from by have := HS.out; rw [dmany_error] at this; rw [← this]; exact HR.out)
        clear he
        have HFIN := Lib.hid (show (Ty.rd (.list tAssignment)).rd wr (w.heap.size ≤ ·) [_] L from by
          have := rd_own HROW.out.row (Rd.more _ (fun b hb => hb.1) HROW.out.arr) (F := (w.heap.size ≤ ·)) (fun b hb _ => hb)
          rw [HLL.out] at this
          exact this)
        go_wp2
        go_ret
        refine ⟨[_], rfl, ?_, ?_, HC.out.more (fun b hb e => e.elim id (fun e => by omega))⟩
        · rw [HDEC.out]; exact HFIN.out
        · rw [HDEC.out]; exact HSS.out
      | ok r =>
        obtain ⟨v, c0, c1, -, -⟩ := HR.out.ok r rfl
        obtain ⟨k', rfl⟩ : ∃ k', gk = k' + 1 := ⟨gk - 1, by omega⟩
        obtain ⟨x, s2, hd⟩ : ∃ x s', dec tAssignment (.ok r) = (x, s') := ⟨_, _, rfl⟩
        have HD := Lib.hid hd
        have HL2 := Lib.hid (show (l ++ [x]) ++ (dmany (dec tAssignment) k' s2).1 = L ∧ (dmany (dec tAssignment) k' s2).2 = S' from by
          have h1 := HL.out; have h2 := HS.out
          rw [dmany] at h1 h2
          simp only [hd] at h1 h2
          exact ⟨by simpa using h1, h2⟩)
        have HM2 := Lib.hid (show Mod tAssignment (.ok r) ∧ ModMany (Mod tAssignment) (dec tAssignment) k' s2 from by
          have h1 := HMM.out
          rw [ModMany] at h1
          simp only [hd] at h1
          exact h1)
        clear hd
        go_wp2_with fail
        refine (get_Assignment wr rb (.ok r) HR.out HM2.out.1).mono ?_
        rintro e w2 ⟨cs, rfl, hr, hs, hc⟩
        rw [HD.out] at hr hs
        dsimp only at hr hs
        obtain ⟨q_0, q_1, rfl⟩ := shape_Assignment hr
        have hg : goV [.int .i64 q_0, .int .i64 q_1] = .agg #[.int .i64 q_0, .int .i64 q_1] := rfl
        rw [hg]
        have HX := Lib.hid hr
        have HR2 := Lib.hid hs
        have HC2 := Lib.hid hc
        have HB3 := Lib.hid (show Below w2.heap.size w2 (w2.alloc (.cells #[.int .i64 q_0, .int .i64 q_1] 171)) from (Below.refl _ _).alloc (Nat.le_refl _) _)
        have HROW2 := Lib.hid (show (w2.alloc (.cells #[.int .i64 q_0, .int .i64 q_1] 171)).ownsRow w.heap.size 171 2 _ l.length xs from ownk_chg (ownk_chg HROW.out.row hc (fun b e hb => by have := (ownk_ge HROW.out.row b e).1; have := HLT.out; omega)) (F := fun _ => False) (Chg.of_below HB3.out) (fun _ _ e => e))
        have HBS := Lib.hid (show w.heap.size ≤ (w2.alloc (.cells #[.int .i64 q_0, .int .i64 q_1] 171)).heap.size from by have := HC.out.size; have := HC2.out.size; simp; omega)
        clear hg hr hs hc
        go_wp2_with (at_builtin; refine wpList_append_o rfl _ _ 109 rfl w.heap.size 171 i0 _ 2 16 Tryz.underlying109 hi0 hz0 hz1 hz2 rfl (by decide) _ l.length xs rfl HROW2.out _ 1 [.int .i64 q_0, .int .i64 q_1] rfl (sl_cells1 w2 _ _ rfl) (fun _ _ h => by cases h) (by simp [Value.oneCell']) (by have := HLE.out; have := HM1.out; unfold maxLen; omega) (by have := HLE.out; have := HM1.out; omega) HBS.out ?_)
        intro v' w4 h1 h2 h3
        have HROWS := Lib.hid (HROW.out.snoc HLT.out HC.out.size HC2.out HX.out HB3.out h1 h2 (by rw [World.size_alloc]; exact h3))
        have h24 := Chg.grown (F := fun b => w.heap.size ≤ b) h2 (fun b e => (ownk_ge HROW.out.row b e).1)
        have HR4 := Lib.hid ((HR2.out.below HB3.out).keep (h24.more (fun b _ e => by have := HLT.out; omega)))
        have HC4 := Lib.hid (show Chg (fun b => b = rb ∨ w.heap.size ≤ b) w w4 from ((HC.out.trans (HC2.out.more (fun b _ e => .inl e))).trans (Chg.of_below HB3.out)).trans (h24.more (fun b _ e => .inr e)))
        clear h1 h2 h3 h24
        go_wp2
        go_roundg k'
        case rel => exact ⟨k', s2, l ++ [x], _, rfl, by go_num, HR4.out, HROWS.out, HM2.out.2, by have := HLE.out; simp; omega, HL2.out.1, HL2.out.2, HC4.out⟩
        case measure => omega

set_option maxRecDepth 100000 in
set_option maxHeartbeats 4000000 in
theorem get_Column : GetC 80 tColumn := by
  intro w rb s h hmod
  obtain ⟨W0, hW0⟩ : ∃ W0, W0 = w.alloc (.cells #[.int .i64 0, .string ⟨#[]⟩, .int .i64 0] 111) := ⟨_, rfl⟩
  have hb0 : Below w.heap.size w W0 := by rw [hW0]; exact (Below.refl _ _).alloc (Nat.le_refl _) _
  have HLT := Lib.hid (show rb < w.heap.size ∧ W0.heap.size = w.heap.size + 1 from And.intro h.lt (by rw [hW0]; simp))
  have HK0 := Lib.hid (show Blk W0 w.heap.size [.int .i64 0, .string ⟨#[]⟩, .int .i64 0] from by rw [hW0]; exact Blk.new w _ _)
  have HR0 := Lib.hid (h.below hb0)
  have HC0 := Lib.hid (show Chg (fun b => b = rb ∨ w.heap.size ≤ b) w W0 from Chg.of_below hb0)
  have HW0 := Lib.hid hW0
  obtain ⟨s0, hs0⟩ : ∃ s0, s0 = s := ⟨_, rfl⟩
  rw [← hs0] at HR0
  obtain ⟨x0, s1, hd0⟩ : ∃ x s', dec .num s0 = (x, s') := ⟨_, _, rfl⟩
  obtain ⟨x1, s2, hd1⟩ : ∃ x s', dec .str s1 = (x, s') := ⟨_, _, rfl⟩
  obtain ⟨x2, s3, hd2⟩ : ∃ x s', dec .num s2 = (x, s') := ⟨_, _, rfl⟩
  have HDEC := Lib.hid (show dec tColumn s = ((x0, (x1, x2)), s3) from by
    rw [← hs0]
    show dec (.pair .num (.pair .str .num)) s0 = _
    simp only [dec_pair, hd0, hd1, hd2])
  rw [← hs0] at hmod
  obtain ⟨hm0, hm1, hm2⟩ := hmod
  simp only [hd0] at hm1
  simp only [hd0, hd1] at hm2
  have HM0 := Lib.hid hm0
  have HM1 := Lib.hid hm1
  have HM2 := Lib.hid hm2
  have HD0 := Lib.hid hd0
  have HD1 := Lib.hid hd1
  have HD2 := Lib.hid hd2
  clear hm0 hm1 hm2 h hb0 hW0 hs0 hd0 hd1 hd2
  go_enter Tryz.func80, Tryz.ntmps80
  go_wp2_with fail
  rw [← HW0.out]
  refine (get_num W0 rb s0 HR0.out HM0.out).mono ?_
  rintro e w1 ⟨cs, rfl, hr, hs, hc⟩
  rw [HD0.out] at hr hs
  dsimp only at hr hs
  obtain ⟨q0_0, rfl⟩ : ∃ z : Int, cs = [.int .i64 z] := ⟨_, hr.1⟩
  have hg : goV [.int .i64 q0_0] = .int .i64 q0_0 := rfl
  rw [hg]
  clear hg
  obtain ⟨k1, hk1⟩ : ∃ k1, k1 = w1.heap.size := ⟨_, rfl⟩
  obtain ⟨X1, hX1⟩ : ∃ X1, X1 = w1.alloc (.cells #[.int .i64 q0_0, .string ⟨#[]⟩, .int .i64 0] 111) := ⟨_, rfl⟩
  have hbx : Below w1.heap.size w1 X1 := by rw [hX1]; exact (Below.refl _ _).alloc (Nat.le_refl _) _
  have HLK := Lib.hid (show rb < w.heap.size ∧ w.heap.size < k1 ∧ k1 < X1.heap.size from by
    have h1 := HLT.out; have h2 := hc.size; have h3 : X1.heap.size = w1.heap.size + 1 := by rw [hX1]; simp
    omega)
  have HB1 := Lib.hid (show Blk X1 k1 [.int .i64 q0_0, .string ⟨#[]⟩, .int .i64 0] from by rw [hX1, hk1]; exact Blk.new w1 _ _)
  have HR1 := Lib.hid (hs.below hbx)
  have HC1 := Lib.hid (show Chg (fun b => b = rb ∨ w.heap.size ≤ b) w X1 from (HC0.out.trans (hc.more (fun b _ e => .inl e))).trans (Chg.of_below hbx))
  have HZ1 := Lib.hid (show Blk X1 w.heap.size [.int .i64 0, .string ⟨#[]⟩, .int .i64 0] from (HK0.out.chg hc (by have := HLT.out.1; omega)).chg (F := fun _ => False) (Chg.of_below hbx) id)
  have HV0_1 := Lib.hid (show (Ty.rd .num).rd X1 (fun b => w.heap.size ≤ b ∧ b ≠ w.heap.size ∧ b ≠ k1 ∧ b ≠ rb) _ _ from rd_chg .num (K := fun _ => False) (Chg.of_below hbx) (fun b hb hl => ⟨id, by have h1 := HLT.out; omega, by have h1 := HLT.out; omega, by omega, by have h1 := HLT.out; omega⟩) hr)
  have HX1 := Lib.hid hX1
  have HKK := Lib.hid hk1
  clear hr hs hc hX1 hbx hk1
  go_wp2_with fail
  rw [← HKK.out, ← HX1.out]
  refine (get_str X1 rb s1 HR1.out HM1.out).mono ?_
  rintro e w2 ⟨cs, rfl, hr, hs, hc⟩
  rw [HD1.out] at hr hs
  dsimp only at hr hs
  obtain ⟨q1_0, rfl⟩ : ∃ z : ByteArray, cs = [.string z] := ⟨_, hr.1⟩
  have hg : goV [.string q1_0] = .string q1_0 := rfl
  rw [hg]
  clear hg
  have hb' := HB1.out.chg hc (by have := HLK.out; omega)
  have t0 := hb'.cell 1 _ rfl
  have z0 := hb'.free 1
  obtain ⟨X2, hX⟩ : ∃ X, X = (w2.setCell ⟨k1, 1, none⟩ (.string q1_0)) := ⟨_, rfl⟩
  have hcx : Chg (fun b => b = k1) w2 X2 := by
    have g : ∀ (u : World) (j : Nat) (v : Value), Chg (fun b => b = k1) u (u.setCell ⟨k1, j, none⟩ v) := fun u j v => Chg.setCell _ _ rfl
    rw [hX]
    exact (g _ _ _)
  have HB2 := Lib.hid (show Blk X2 k1 [.int .i64 q0_0, .string q1_0, .int .i64 0] from by rw [hX]; exact (hb'.set 1 (.string q1_0) (by simp)))
  have HR2 := Lib.hid (hs.keep (hcx.more (fun b _ e => by have := HLK.out; omega)))
  have hstep : Chg (fun b => b = rb ∨ b = k1) X1 X2 := (hc.more (fun b _ e => .inl e)).trans (hcx.more (fun b _ e => .inr e))
  have HC2 := Lib.hid (show Chg (fun b => b = rb ∨ w.heap.size ≤ b) w X2 from HC1.out.trans (hstep.more (fun b _ e => e.elim .inl (fun e => .inr (by have := HLK.out; omega)))))
  have HZ2 := Lib.hid (show Blk X2 w.heap.size [.int .i64 0, .string ⟨#[]⟩, .int .i64 0] from HZ1.out.chg hstep (by have := HLK.out; omega))
  have HV0_2 := Lib.hid (show (Ty.rd .num).rd X2 (fun b => w.heap.size ≤ b ∧ b ≠ w.heap.size ∧ b ≠ k1 ∧ b ≠ rb) _ _ from rd_chg .num hstep (fun b hb hl => ⟨fun e => by have := HLK.out; omega, hb⟩) HV0_1.out)
  have HV1_2 := Lib.hid (show (Ty.rd .str).rd X2 (fun b => w.heap.size ≤ b ∧ b ≠ w.heap.size ∧ b ≠ k1 ∧ b ≠ rb) _ _ from rd_chg .str hcx (fun b hb hl => by have h1 := HLK.out; have h2 := HC1.out.size; have h3 := HB1.out.lt; have hb : X1.heap.size ≤ b := hb; exact ⟨by omega, by omega, by omega, by omega, by omega⟩) hr)
  have HX2 := Lib.hid hX
  clear hr hs hc hb' hcx hstep hX 
  go_wp2_with fail
  rw [← HX2.out]
  refine (get_num X2 rb s2 HR2.out HM2.out).mono ?_
  rintro e w3 ⟨cs, rfl, hr, hs, hc⟩
  rw [HD2.out] at hr hs
  dsimp only at hr hs
  obtain ⟨q2_0, rfl⟩ : ∃ z : Int, cs = [.int .i64 z] := ⟨_, hr.1⟩
  have hg : goV [.int .i64 q2_0] = .int .i64 q2_0 := rfl
  rw [hg]
  clear hg
  have hb' := HB2.out.chg hc (by have := HLK.out; omega)
  have t0 := hb'.cell 2 _ rfl
  have z0 := hb'.free 2
  obtain ⟨X3, hX⟩ : ∃ X, X = (w3.setCell ⟨k1, 2, none⟩ (.int .i64 q2_0)) := ⟨_, rfl⟩
  have hcx : Chg (fun b => b = k1) w3 X3 := by
    have g : ∀ (u : World) (j : Nat) (v : Value), Chg (fun b => b = k1) u (u.setCell ⟨k1, j, none⟩ v) := fun u j v => Chg.setCell _ _ rfl
    rw [hX]
    exact (g _ _ _)
  have HB3 := Lib.hid (show Blk X3 k1 [.int .i64 q0_0, .string q1_0, .int .i64 q2_0] from by rw [hX]; exact (hb'.set 2 (.int .i64 q2_0) (by simp)))
  have HR3 := Lib.hid (hs.keep (hcx.more (fun b _ e => by have := HLK.out; omega)))
  have hstep : Chg (fun b => b = rb ∨ b = k1) X2 X3 := (hc.more (fun b _ e => .inl e)).trans (hcx.more (fun b _ e => .inr e))
  have HC3 := Lib.hid (show Chg (fun b => b = rb ∨ w.heap.size ≤ b) w X3 from HC2.out.trans (hstep.more (fun b _ e => e.elim .inl (fun e => .inr (by have := HLK.out; omega)))))
  have HZ3 := Lib.hid (show Blk X3 w.heap.size [.int .i64 0, .string ⟨#[]⟩, .int .i64 0] from HZ2.out.chg hstep (by have := HLK.out; omega))
  have HV0_3 := Lib.hid (show (Ty.rd .num).rd X3 (fun b => w.heap.size ≤ b ∧ b ≠ w.heap.size ∧ b ≠ k1 ∧ b ≠ rb) _ _ from rd_chg .num hstep (fun b hb hl => ⟨fun e => by have := HLK.out; omega, hb⟩) HV0_2.out)
  have HV1_3 := Lib.hid (show (Ty.rd .str).rd X3 (fun b => w.heap.size ≤ b ∧ b ≠ w.heap.size ∧ b ≠ k1 ∧ b ≠ rb) _ _ from rd_chg .str hstep (fun b hb hl => ⟨fun e => by have := HLK.out; omega, hb⟩) HV1_2.out)
  have HV2_3 := Lib.hid (show (Ty.rd .num).rd X3 (fun b => w.heap.size ≤ b ∧ b ≠ w.heap.size ∧ b ≠ k1 ∧ b ≠ rb) _ _ from rd_chg .num hcx (fun b hb hl => by have h1 := HLK.out; have h2 := HC2.out.size; have h3 := HB2.out.lt; have hb : X2.heap.size ≤ b := hb; exact ⟨by omega, by omega, by omega, by omega, by omega⟩) hr)
  have HX3 := Lib.hid hX
  clear hr hs hc hb' hcx hstep hX 
  go_upto_region 4 with fail
  rw [← HX3.out]
  have q0 := HB3.out.cell 0 _ rfl
  have zc0 := HZ3.out.cell 0 _ rfl
  have zf0 := HZ3.out.free 0
  have q1 := HB3.out.cell 1 _ rfl
  have zc1 := HZ3.out.cell 1 _ rfl
  have zf1 := HZ3.out.free 1
  have q2 := HB3.out.cell 2 _ rfl
  have zc2 := HZ3.out.cell 2 _ rfl
  have zf2 := HZ3.out.free 2
  go_wp2
  obtain ⟨Wf, hWf⟩ : ∃ Wf, Wf = (((X3.setCell ⟨w.heap.size, 0, none⟩ (.int .i64 q0_0)).setCell ⟨w.heap.size, 1, none⟩ (.string q1_0)).setCell ⟨w.heap.size, 2, none⟩ (.int .i64 q2_0)) := ⟨_, rfl⟩
  rw [← hWf]
  have hcf : Chg (fun b => b = w.heap.size) X3 Wf := by
    have g : ∀ (u : World) (j : Nat) (v : Value), Chg (fun b => b = w.heap.size) u (u.setCell ⟨w.heap.size, j, none⟩ v) := fun u j v => Chg.setCell _ _ rfl
    rw [hWf]
    exact (Chg.trans (Chg.trans (g _ _ _) (g _ _ _)) (g _ _ _))
  have HBF := Lib.hid (show Blk Wf w.heap.size [.int .i64 q0_0, .string q1_0, .int .i64 q2_0] from by rw [hWf]; exact (((HZ3.out.set 0 (.int .i64 q0_0) (by simp)).set 1 (.string q1_0) (by simp)).set 2 (.int .i64 q2_0) (by simp)))
  clear hWf q0 zc0 zf0 q1 zc1 zf1 q2 zc2 zf2
  have sc0 := HBF.out.cell 0 _ rfl
  have sc1 := HBF.out.cell 1 _ rfl
  have sc2 := HBF.out.cell 2 _ rfl
  refine bodyPost_ret (v := .agg #[.int .i64 q0_0, .string q1_0, .int .i64 q2_0]) (by simp [sc0, sc1, sc2, results, Tryz.results80, go_sem]) rfl ?_
  refine ⟨[.int .i64 q0_0, .string q1_0, .int .i64 q2_0], rfl, ?_, ?_, ?_⟩
  · rw [HDEC.out]
    have h0 : (Ty.rd .num).rd Wf (w.heap.size ≤ ·) _ _ := rd_chg .num hcf (fun b hb hl => ⟨hb.2.1, hb.1⟩) HV0_3.out
    have h1 : (Ty.rd .str).rd Wf (w.heap.size ≤ ·) _ _ := rd_chg .str hcf (fun b hb hl => ⟨hb.2.1, hb.1⟩) HV1_3.out
    have h2 : (Ty.rd .num).rd Wf (w.heap.size ≤ ·) _ _ := rd_chg .num hcf (fun b hb hl => ⟨hb.2.1, hb.1⟩) HV2_3.out
    exact ⟨_, _, rfl, h0, _, _, rfl, h1, h2⟩
  · rw [HDEC.out]; exact HR3.out.keep (hcf.more (fun b _ e => by have := HLK.out; omega))
  · exact (HC3.out.trans (hcf.more (fun b _ e => .inr (by omega)))).more (fun b hb e => e.elim id (fun e => by omega))

theorem info_read_Column : (Tryz.prog.info? 111).map (fun i => (i.zero, i.size, i.bytes)) = some (some ((.agg #[.int .i64 0, .string ⟨#[]⟩, .int .i64 0])), 3, 32) := by kernel_rfl

set_option maxRecDepth 100000 in
set_option maxHeartbeats 4000000 in
theorem read_Column : ReadC 145 80 tColumn := by
  intro w rb s h hmod
  obtain ⟨i0, hi0, hz0, hz1, hz2⟩ := info_parts info_read_Column
  obtain ⟨n, s1, hn⟩ : ∃ n s', dsize s = (n, s') := ⟨_, _, rfl⟩
  have hs := cd_size h
  rw [hn] at hs
  obtain ⟨hm1, hm2⟩ := hmod
  rw [hn] at hm1 hm2
  replace hm1 : n ≤ 1073741824 := hm1
  obtain ⟨L, S', hLS⟩ : ∃ L S', dmany (dec tColumn) n s1 = (L, S') := ⟨_, _, rfl⟩
  have HDEC := Lib.hid (show dec (.list tColumn) s = (L, S') from by show dmany (dec tColumn) (dsize s).1 (dsize s).2 = _; rw [hn]; exact hLS)
  have HSZ := Lib.hid hs
  have HM := Lib.hid hm2
  have HM1 := Lib.hid hm1
  have HLS := Lib.hid hLS
  have HLT := Lib.hid h.lt
  have hn0 : 0 ≤ (n : Int) ∧ (n : Int) ≤ 1073741824 := by omega
  clear h hs hm1 hm2 hn hLS
  go_enter Tryz.func145, Tryz.ntmps145
  go_wp2_with fail
  refine HSZ.out.mono ?_
  rintro e w1 ⟨rfl, hr, hc⟩
  have HR1 := Lib.hid (show Rdr w1 rb s1 from hr)
  have HC1 := Lib.hid hc
  clear hr hc
  go_wp2
  go_loopg [5, 6] n (fun gk t5 t6 wr => ∃ (k : Nat) (sc : St) (l : List (Ty.T tColumn)) (xs : List Value), gk = k ∧ t6 = .int .i64 (k : Int) ∧ Rdr wr rb sc ∧ Rows tColumn 111 3 w.heap.size wr t5 l xs ∧ ModMany (Mod tColumn) (dec tColumn) k sc ∧ l.length + k ≤ n ∧ l ++ (dmany (dec tColumn) k sc).1 = L ∧ (dmany (dec tColumn) k sc).2 = S' ∧ Chg (fun b => b = rb ∨ w.heap.size ≤ b) w wr)
  case atStart =>
    exact ⟨n, s1, [], [], rfl, rfl, HR1.out, ⟨World.ownsRow_nil _ _ _ _, rarr_nil _ _ _⟩, HM.out, by simp, by rw [HLS.out]; rfl, by rw [HLS.out], HC1.out.more (fun b _ e => .inl e)⟩
  case round =>
    obtain ⟨k, sc, l, xs, rfl, rfl, hr, hrow, hm, hle, hL, hS, hc⟩ := hrel
    have HR := Lib.hid hr
    have HROW := Lib.hid hrow
    have HMM := Lib.hid hm
    have HLE := Lib.hid hle
    have HL := Lib.hid hL
    have HS := Lib.hid hS
    have HC := Lib.hid hc
    have hk0 : 0 ≤ (gk : Int) ∧ (gk : Int) ≤ 1073741824 := by have := HM1.out; omega
    clear hr hrow hm hle hL hS hc
    by_cases hk : gk = 0
    · subst hk
      have HLL := Lib.hid (show l = L from by have := HL.out; simpa [dmany] using this)
      have HSS := Lib.hid (show Rdr wr rb S' from by have := HS.out; rw [← this]; exact HR.out)
      have HFIN := Lib.hid (show (Ty.rd (.list tColumn)).rd wr (w.heap.size ≤ ·) [_] L from by
        have := rd_own HROW.out.row (Rd.more _ (fun b hb => hb.1) HROW.out.arr) (F := (w.heap.size ≤ ·)) (fun b hb _ => hb)
        rw [HLL.out] at this
        exact this)
      go_wp2
      go_ret
      refine ⟨[_], rfl, ?_, ?_, HC.out.more (fun b hb e => e.elim id (fun e => by omega))⟩
      · rw [HDEC.out]; exact HFIN.out
      · rw [HDEC.out]; exact HSS.out
    · have hd1 : decide ((0 : Int) < (gk : Int)) = true := decide_eq_true (by omega)
      cases sc with
      | error e =>
        obtain ⟨c0, c1, he⟩ := HR.out.bad e rfl
        have g0 : (e == 0) = false := by rcases he with rfl | rfl <;> rfl
        have HLL := Lib.hid (show l = L from by have := HL.out; rw [dmany_error] at this; simpa using this)
        have HSS := Lib.hid (show Rdr wr rb S' from by have := HS.out; rw [dmany_error] at this; rw [← this]; exact HR.out)
        clear he
        have HFIN := Lib.hid (show (Ty.rd (.list tColumn)).rd wr (w.heap.size ≤ ·) [_] L from by
          have := rd_own HROW.out.row (Rd.more _ (fun b hb => hb.1) HROW.out.arr) (F := (w.heap.size ≤ ·)) (fun b hb _ => hb)
          rw [HLL.out] at this
          exact this)
        go_wp2
        go_ret
        refine ⟨[_], rfl, ?_, ?_, HC.out.more (fun b hb e => e.elim id (fun e => by omega))⟩
        · rw [HDEC.out]; exact HFIN.out
        · rw [HDEC.out]; exact HSS.out
      | ok r =>
        obtain ⟨v, c0, c1, -, -⟩ := HR.out.ok r rfl
        obtain ⟨k', rfl⟩ : ∃ k', gk = k' + 1 := ⟨gk - 1, by omega⟩
        obtain ⟨x, s2, hd⟩ : ∃ x s', dec tColumn (.ok r) = (x, s') := ⟨_, _, rfl⟩
        have HD := Lib.hid hd
        have HL2 := Lib.hid (show (l ++ [x]) ++ (dmany (dec tColumn) k' s2).1 = L ∧ (dmany (dec tColumn) k' s2).2 = S' from by
          have h1 := HL.out; have h2 := HS.out
          rw [dmany] at h1 h2
          simp only [hd] at h1 h2
          exact ⟨by simpa using h1, h2⟩)
        have HM2 := Lib.hid (show Mod tColumn (.ok r) ∧ ModMany (Mod tColumn) (dec tColumn) k' s2 from by
          have h1 := HMM.out
          rw [ModMany] at h1
          simp only [hd] at h1
          exact h1)
        clear hd
        go_wp2_with fail
        refine (get_Column wr rb (.ok r) HR.out HM2.out.1).mono ?_
        rintro e w2 ⟨cs, rfl, hr, hs, hc⟩
        rw [HD.out] at hr hs
        dsimp only at hr hs
        obtain ⟨q_0, q_1, q_2, rfl⟩ := shape_Column hr
        have hg : goV [.int .i64 q_0, .string q_1, .int .i64 q_2] = .agg #[.int .i64 q_0, .string q_1, .int .i64 q_2] := rfl
        rw [hg]
        have HX := Lib.hid hr
        have HR2 := Lib.hid hs
        have HC2 := Lib.hid hc
        have HB3 := Lib.hid (show Below w2.heap.size w2 (w2.alloc (.cells #[.int .i64 q_0, .string q_1, .int .i64 q_2] 111)) from (Below.refl _ _).alloc (Nat.le_refl _) _)
        have HROW2 := Lib.hid (show (w2.alloc (.cells #[.int .i64 q_0, .string q_1, .int .i64 q_2] 111)).ownsRow w.heap.size 111 3 _ l.length xs from ownk_chg (ownk_chg HROW.out.row hc (fun b e hb => by have := (ownk_ge HROW.out.row b e).1; have := HLT.out; omega)) (F := fun _ => False) (Chg.of_below HB3.out) (fun _ _ e => e))
        have HBS := Lib.hid (show w.heap.size ≤ (w2.alloc (.cells #[.int .i64 q_0, .string q_1, .int .i64 q_2] 111)).heap.size from by have := HC.out.size; have := HC2.out.size; simp; omega)
        clear hg hr hs hc
        go_wp2_with (at_builtin; refine wpList_append_o rfl _ _ 149 rfl w.heap.size 111 i0 _ 3 32 Tryz.underlying149 hi0 hz0 hz1 hz2 rfl (by decide) _ l.length xs rfl HROW2.out _ 1 [.int .i64 q_0, .string q_1, .int .i64 q_2] rfl (sl_cells1 w2 _ _ rfl) (fun _ _ h => by cases h) (by simp [Value.oneCell']) (by have := HLE.out; have := HM1.out; unfold maxLen; omega) (by have := HLE.out; have := HM1.out; omega) HBS.out ?_)
        intro v' w4 h1 h2 h3
        have HROWS := Lib.hid (HROW.out.snoc HLT.out HC.out.size HC2.out HX.out HB3.out h1 h2 (by rw [World.size_alloc]; exact h3))
        have h24 := Chg.grown (F := fun b => w.heap.size ≤ b) h2 (fun b e => (ownk_ge HROW.out.row b e).1)
        have HR4 := Lib.hid ((HR2.out.below HB3.out).keep (h24.more (fun b _ e => by have := HLT.out; omega)))
        have HC4 := Lib.hid (show Chg (fun b => b = rb ∨ w.heap.size ≤ b) w w4 from ((HC.out.trans (HC2.out.more (fun b _ e => .inl e))).trans (Chg.of_below HB3.out)).trans (h24.more (fun b _ e => .inr e)))
        clear h1 h2 h3 h24
        go_wp2
        go_roundg k'
        case rel => exact ⟨k', s2, l ++ [x], _, rfl, by go_num, HR4.out, HROWS.out, HM2.out.2, by have := HLE.out; simp; omega, HL2.out.1, HL2.out.2, HC4.out⟩
        case measure => omega
end Go.Proofs.YtfppjpmflpaffaaGreat
