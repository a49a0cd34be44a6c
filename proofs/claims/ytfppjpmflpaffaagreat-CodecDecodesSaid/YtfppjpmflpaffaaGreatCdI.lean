/-
  The program's decoder: tables, citations. Printed by gen_cd.py.
-/
import Derived.Test.YtfppjpmflpaffaaGreatCdH
namespace Go.Proofs.YtfppjpmflpaffaaGreat
open Go.RowKit
set_option linter.unusedVariables false
set_option linter.unusedSimpArgs false

set_option maxRecDepth 100000 in
set_option maxHeartbeats 4000000 in
theorem get_Version : GetC 66 tVersion := by
  intro w rb s h hmod
  obtain ⟨W0, hW0⟩ : ∃ W0, W0 = w.alloc (.cells #[.int .i64 0, .slice none 0 0, .int .i64 0, .int .i64 0, .int .i64 0, .int .i64 0] 99) := ⟨_, rfl⟩
  have hb0 : Below w.heap.size w W0 := by rw [hW0]; exact (Below.refl _ _).alloc (Nat.le_refl _) _
  have HLT := Lib.hid (show rb < w.heap.size ∧ W0.heap.size = w.heap.size + 1 from And.intro h.lt (by rw [hW0]; simp))
  have HK0 := Lib.hid (show Blk W0 w.heap.size [.int .i64 0, .slice none 0 0, .int .i64 0, .int .i64 0, .int .i64 0, .int .i64 0] from by rw [hW0]; exact Blk.new w _ _)
  have HR0 := Lib.hid (h.below hb0)
  have HC0 := Lib.hid (show Chg (fun b => b = rb ∨ w.heap.size ≤ b) w W0 from Chg.of_below hb0)
  have HW0 := Lib.hid hW0
  obtain ⟨s0, hs0⟩ : ∃ s0, s0 = s := ⟨_, rfl⟩
  rw [← hs0] at HR0
  obtain ⟨x0, s1, hd0⟩ : ∃ x s', dec .num s0 = (x, s') := ⟨_, _, rfl⟩
  obtain ⟨x1, s2, hd1⟩ : ∃ x s', dec (.list tValue) s1 = (x, s') := ⟨_, _, rfl⟩
  obtain ⟨x2, s3, hd2⟩ : ∃ x s', dec tPeriod s2 = (x, s') := ⟨_, _, rfl⟩
  obtain ⟨x3, s4, hd3⟩ : ∃ x s', dec tPeriod s3 = (x, s') := ⟨_, _, rfl⟩
  have HDEC := Lib.hid (show dec tVersion s = ((x0, (x1, (x2, x3))), s4) from by
    rw [← hs0]
    show dec (.pair .num (.pair (.list tValue) (.pair tPeriod tPeriod))) s0 = _
    simp only [dec_pair, hd0, hd1, hd2, hd3])
  rw [← hs0] at hmod
  obtain ⟨hm0, hm1, hm2, hm3⟩ := hmod
  simp only [hd0] at hm1
  simp only [hd0, hd1] at hm2
  simp only [hd0, hd1, hd2] at hm3
  have HM0 := Lib.hid hm0
  have HM1 := Lib.hid hm1
  have HM2 := Lib.hid hm2
  have HM3 := Lib.hid hm3
  have HD0 := Lib.hid hd0
  have HD1 := Lib.hid hd1
  have HD2 := Lib.hid hd2
  have HD3 := Lib.hid hd3
  clear hm0 hm1 hm2 hm3 h hb0 hW0 hs0 hd0 hd1 hd2 hd3
  go_enter Tryz.func66, Tryz.ntmps66
  go_wp2_with fail
  rw [← HW0.out]
  refine (get_num W0 rb s0 HR0.out HM0.out).mono ?_
  rintro e w1 ⟨cs, rfl, hr, hs, hc⟩
  rw [HD0.out] at hr hs
  dsimp only at hr hs
  obtain ⟨q0_0, rfl⟩ : ∃ z : Int, cs = [.int .i64 z] := ⟨_, hr.1⟩
  have hg : goV [.int .i64 q0_0] = .int .i64 q0_0 := rfl
  rw [hg]
  clear hg
  obtain ⟨k1, hk1⟩ : ∃ k1, k1 = w1.heap.size := ⟨_, rfl⟩
  obtain ⟨X1, hX1⟩ : ∃ X1, X1 = w1.alloc (.cells #[.int .i64 q0_0, .slice none 0 0, .int .i64 0, .int .i64 0, .int .i64 0, .int .i64 0] 99) := ⟨_, rfl⟩
  have hbx : Below w1.heap.size w1 X1 := by rw [hX1]; exact (Below.refl _ _).alloc (Nat.le_refl _) _
  have HLK := Lib.hid (show rb < w.heap.size ∧ w.heap.size < k1 ∧ k1 < X1.heap.size from by
    have h1 := HLT.out; have h2 := hc.size; have h3 : X1.heap.size = w1.heap.size + 1 := by rw [hX1]; simp
    omega)
  have HB1 := Lib.hid (show Blk X1 k1 [.int .i64 q0_0, .slice none 0 0, .int .i64 0, .int .i64 0, .int .i64 0, .int .i64 0] from by rw [hX1, hk1]; exact Blk.new w1 _ _)
  have HR1 := Lib.hid (hs.below hbx)
  have HC1 := Lib.hid (show Chg (fun b => b = rb ∨ w.heap.size ≤ b) w X1 from (HC0.out.trans (hc.more (fun b _ e => .inl e))).trans (Chg.of_below hbx))
  have HZ1 := Lib.hid (show Blk X1 w.heap.size [.int .i64 0, .slice none 0 0, .int .i64 0, .int .i64 0, .int .i64 0, .int .i64 0] from (HK0.out.chg hc (by have := HLT.out.1; omega)).chg (F := fun _ => False) (Chg.of_below hbx) id)
  have HV0_1 := Lib.hid (show (Ty.rd .num).rd X1 (fun b => w.heap.size ≤ b ∧ b ≠ w.heap.size ∧ b ≠ k1 ∧ b ≠ rb) _ _ from rd_chg .num (K := fun _ => False) (Chg.of_below hbx) (fun b hb hl => ⟨id, by have h1 := HLT.out; omega, by have h1 := HLT.out; omega, by omega, by have h1 := HLT.out; omega⟩) hr)
  have HX1 := Lib.hid hX1
  have HKK := Lib.hid hk1
  clear hr hs hc hX1 hbx hk1
  go_wp2_with fail
  rw [← HKK.out, ← HX1.out]
  refine (read_Value X1 rb s1 HR1.out HM1.out).mono ?_
  rintro e w2 ⟨cs, rfl, hr, hs, hc⟩
  rw [HD1.out] at hr hs
  dsimp only at hr hs
  obtain ⟨q1_a0, q1_n0, q1_c0, rfl⟩ : ∃ a n c, cs = [.slice a n c] := by obtain ⟨a, n, c, e, _⟩ := id hr; exact ⟨a, n, c, e⟩
  have hg : goV [.slice q1_a0 q1_n0 q1_c0] = .slice q1_a0 q1_n0 q1_c0 := rfl
  rw [hg]
  clear hg
  have hb' := HB1.out.chg hc (by have := HLK.out; omega)
  have t0 := hb'.cell 1 _ rfl
  have z0 := hb'.free 1
  obtain ⟨X2, hX⟩ : ∃ X, X = (w2.setCell ⟨k1, 1, none⟩ (.slice q1_a0 q1_n0 q1_c0)) := ⟨_, rfl⟩
  have hcx : Chg (fun b => b = k1) w2 X2 := by
    have g : ∀ (u : World) (j : Nat) (v : Value), Chg (fun b => b = k1) u (u.setCell ⟨k1, j, none⟩ v) := fun u j v => Chg.setCell _ _ rfl
    rw [hX]
    exact (g _ _ _)
  have HB2 := Lib.hid (show Blk X2 k1 [.int .i64 q0_0, .slice q1_a0 q1_n0 q1_c0, .int .i64 0, .int .i64 0, .int .i64 0, .int .i64 0] from by rw [hX]; exact (hb'.set 1 (.slice q1_a0 q1_n0 q1_c0) (by simp)))
  have HR2 := Lib.hid (hs.keep (hcx.more (fun b _ e => by have := HLK.out; omega)))
  have hstep : Chg (fun b => b = rb ∨ b = k1) X1 X2 := (hc.more (fun b _ e => .inl e)).trans (hcx.more (fun b _ e => .inr e))
  have HC2 := Lib.hid (show Chg (fun b => b = rb ∨ w.heap.size ≤ b) w X2 from HC1.out.trans (hstep.more (fun b _ e => e.elim .inl (fun e => .inr (by have := HLK.out; omega)))))
  have HZ2 := Lib.hid (show Blk X2 w.heap.size [.int .i64 0, .slice none 0 0, .int .i64 0, .int .i64 0, .int .i64 0, .int .i64 0] from HZ1.out.chg hstep (by have := HLK.out; omega))
  have HV0_2 := Lib.hid (show (Ty.rd .num).rd X2 (fun b => w.heap.size ≤ b ∧ b ≠ w.heap.size ∧ b ≠ k1 ∧ b ≠ rb) _ _ from rd_chg .num hstep (fun b hb hl => ⟨fun e => by have := HLK.out; omega, hb⟩) HV0_1.out)
  have HV1_2 := Lib.hid (show (Ty.rd (.list tValue)).rd X2 (fun b => w.heap.size ≤ b ∧ b ≠ w.heap.size ∧ b ≠ k1 ∧ b ≠ rb) _ _ from rd_chg (.list tValue) hcx (fun b hb hl => by have h1 := HLK.out; have h2 := HC1.out.size; have h3 := HB1.out.lt; have hb : X1.heap.size ≤ b := hb; exact ⟨by omega, by omega, by omega, by omega, by omega⟩) hr)
  have HX2 := Lib.hid hX
  clear hr hs hc hb' hcx hstep hX 
  go_wp2_with fail
  rw [← HX2.out]
  refine (get_Period X2 rb s2 HR2.out HM2.out).mono ?_
  rintro e w3 ⟨cs, rfl, hr, hs, hc⟩
  rw [HD2.out] at hr hs
  dsimp only at hr hs
  obtain ⟨q2_0, q2_1, rfl⟩ := shape_Period hr
  have hg : goV [.int .i64 q2_0, .int .i64 q2_1] = .agg #[.int .i64 q2_0, .int .i64 q2_1] := rfl
  rw [hg]
  clear hg
  have hb' := HB2.out.chg hc (by have := HLK.out; omega)
  have t0 := hb'.cell 2 _ rfl
  have z0 := hb'.free 2
  have t1 := hb'.cell 3 _ rfl
  have z1 := hb'.free 3
  obtain ⟨X3, hX⟩ : ∃ X, X = ((w3.setCell ⟨k1, 2, none⟩ (.int .i64 q2_0)).setCell ⟨k1, 3, none⟩ (.int .i64 q2_1)) := ⟨_, rfl⟩
  have hcx : Chg (fun b => b = k1) w3 X3 := by
    have g : ∀ (u : World) (j : Nat) (v : Value), Chg (fun b => b = k1) u (u.setCell ⟨k1, j, none⟩ v) := fun u j v => Chg.setCell _ _ rfl
    rw [hX]
    exact (Chg.trans (g _ _ _) (g _ _ _))
  have HB3 := Lib.hid (show Blk X3 k1 [.int .i64 q0_0, .slice q1_a0 q1_n0 q1_c0, .int .i64 q2_0, .int .i64 q2_1, .int .i64 0, .int .i64 0] from by rw [hX]; exact ((hb'.set 2 (.int .i64 q2_0) (by simp)).set 3 (.int .i64 q2_1) (by simp)))
  have HR3 := Lib.hid (hs.keep (hcx.more (fun b _ e => by have := HLK.out; omega)))
  have hstep : Chg (fun b => b = rb ∨ b = k1) X2 X3 := (hc.more (fun b _ e => .inl e)).trans (hcx.more (fun b _ e => .inr e))
  have HC3 := Lib.hid (show Chg (fun b => b = rb ∨ w.heap.size ≤ b) w X3 from HC2.out.trans (hstep.more (fun b _ e => e.elim .inl (fun e => .inr (by have := HLK.out; omega)))))
  have HZ3 := Lib.hid (show Blk X3 w.heap.size [.int .i64 0, .slice none 0 0, .int .i64 0, .int .i64 0, .int .i64 0, .int .i64 0] from HZ2.out.chg hstep (by have := HLK.out; omega))
  have HV0_3 := Lib.hid (show (Ty.rd .num).rd X3 (fun b => w.heap.size ≤ b ∧ b ≠ w.heap.size ∧ b ≠ k1 ∧ b ≠ rb) _ _ from rd_chg .num hstep (fun b hb hl => ⟨fun e => by have := HLK.out; omega, hb⟩) HV0_2.out)
  have HV1_3 := Lib.hid (show (Ty.rd (.list tValue)).rd X3 (fun b => w.heap.size ≤ b ∧ b ≠ w.heap.size ∧ b ≠ k1 ∧ b ≠ rb) _ _ from rd_chg (.list tValue) hstep (fun b hb hl => ⟨fun e => by have := HLK.out; omega, hb⟩) HV1_2.out)
  have HV2_3 := Lib.hid (show (Ty.rd tPeriod).rd X3 (fun b => w.heap.size ≤ b ∧ b ≠ w.heap.size ∧ b ≠ k1 ∧ b ≠ rb) _ _ from rd_chg tPeriod hcx (fun b hb hl => by have h1 := HLK.out; have h2 := HC2.out.size; have h3 := HB2.out.lt; have hb : X2.heap.size ≤ b := hb; exact ⟨by omega, by omega, by omega, by omega, by omega⟩) hr)
  have HX3 := Lib.hid hX
  clear hr hs hc hb' hcx hstep hX 
  go_wp2_with fail
  rw [← HX3.out]
  refine (get_Period X3 rb s3 HR3.out HM3.out).mono ?_
  rintro e w4 ⟨cs, rfl, hr, hs, hc⟩
  rw [HD3.out] at hr hs
  dsimp only at hr hs
  obtain ⟨q3_0, q3_1, rfl⟩ := shape_Period hr
  have hg : goV [.int .i64 q3_0, .int .i64 q3_1] = .agg #[.int .i64 q3_0, .int .i64 q3_1] := rfl
  rw [hg]
  clear hg
  have hb' := HB3.out.chg hc (by have := HLK.out; omega)
  have t0 := hb'.cell 4 _ rfl
  have z0 := hb'.free 4
  have t1 := hb'.cell 5 _ rfl
  have z1 := hb'.free 5
  obtain ⟨X4, hX⟩ : ∃ X, X = ((w4.setCell ⟨k1, 4, none⟩ (.int .i64 q3_0)).setCell ⟨k1, 5, none⟩ (.int .i64 q3_1)) := ⟨_, rfl⟩
  have hcx : Chg (fun b => b = k1) w4 X4 := by
    have g : ∀ (u : World) (j : Nat) (v : Value), Chg (fun b => b = k1) u (u.setCell ⟨k1, j, none⟩ v) := fun u j v => Chg.setCell _ _ rfl
    rw [hX]
    exact (Chg.trans (g _ _ _) (g _ _ _))
  have HB4 := Lib.hid (show Blk X4 k1 [.int .i64 q0_0, .slice q1_a0 q1_n0 q1_c0, .int .i64 q2_0, .int .i64 q2_1, .int .i64 q3_0, .int .i64 q3_1] from by rw [hX]; exact ((hb'.set 4 (.int .i64 q3_0) (by simp)).set 5 (.int .i64 q3_1) (by simp)))
  have HR4 := Lib.hid (hs.keep (hcx.more (fun b _ e => by have := HLK.out; omega)))
  have hstep : Chg (fun b => b = rb ∨ b = k1) X3 X4 := (hc.more (fun b _ e => .inl e)).trans (hcx.more (fun b _ e => .inr e))
  have HC4 := Lib.hid (show Chg (fun b => b = rb ∨ w.heap.size ≤ b) w X4 from HC3.out.trans (hstep.more (fun b _ e => e.elim .inl (fun e => .inr (by have := HLK.out; omega)))))
  have HZ4 := Lib.hid (show Blk X4 w.heap.size [.int .i64 0, .slice none 0 0, .int .i64 0, .int .i64 0, .int .i64 0, .int .i64 0] from HZ3.out.chg hstep (by have := HLK.out; omega))
  have HV0_4 := Lib.hid (show (Ty.rd .num).rd X4 (fun b => w.heap.size ≤ b ∧ b ≠ w.heap.size ∧ b ≠ k1 ∧ b ≠ rb) _ _ from rd_chg .num hstep (fun b hb hl => ⟨fun e => by have := HLK.out; omega, hb⟩) HV0_3.out)
  have HV1_4 := Lib.hid (show (Ty.rd (.list tValue)).rd X4 (fun b => w.heap.size ≤ b ∧ b ≠ w.heap.size ∧ b ≠ k1 ∧ b ≠ rb) _ _ from rd_chg (.list tValue) hstep (fun b hb hl => ⟨fun e => by have := HLK.out; omega, hb⟩) HV1_3.out)
  have HV2_4 := Lib.hid (show (Ty.rd tPeriod).rd X4 (fun b => w.heap.size ≤ b ∧ b ≠ w.heap.size ∧ b ≠ k1 ∧ b ≠ rb) _ _ from rd_chg tPeriod hstep (fun b hb hl => ⟨fun e => by have := HLK.out; omega, hb⟩) HV2_3.out)
  have HV3_4 := Lib.hid (show (Ty.rd tPeriod).rd X4 (fun b => w.heap.size ≤ b ∧ b ≠ w.heap.size ∧ b ≠ k1 ∧ b ≠ rb) _ _ from rd_chg tPeriod hcx (fun b hb hl => by have h1 := HLK.out; have h2 := HC3.out.size; have h3 := HB3.out.lt; have hb : X3.heap.size ≤ b := hb; exact ⟨by omega, by omega, by omega, by omega, by omega⟩) hr)
  have HX4 := Lib.hid hX
  clear hr hs hc hb' hcx hstep hX 
  go_upto_region 5 with fail
  rw [← HX4.out]
  have q0 := HB4.out.cell 0 _ rfl
  have zc0 := HZ4.out.cell 0 _ rfl
  have zf0 := HZ4.out.free 0
  have q1 := HB4.out.cell 1 _ rfl
  have zc1 := HZ4.out.cell 1 _ rfl
  have zf1 := HZ4.out.free 1
  have q2 := HB4.out.cell 2 _ rfl
  have zc2 := HZ4.out.cell 2 _ rfl
  have zf2 := HZ4.out.free 2
  have q3 := HB4.out.cell 3 _ rfl
  have zc3 := HZ4.out.cell 3 _ rfl
  have zf3 := HZ4.out.free 3
  have q4 := HB4.out.cell 4 _ rfl
  have zc4 := HZ4.out.cell 4 _ rfl
  have zf4 := HZ4.out.free 4
  have q5 := HB4.out.cell 5 _ rfl
  have zc5 := HZ4.out.cell 5 _ rfl
  have zf5 := HZ4.out.free 5
  go_wp2
  obtain ⟨Wf, hWf⟩ : ∃ Wf, Wf = ((((((X4.setCell ⟨w.heap.size, 0, none⟩ (.int .i64 q0_0)).setCell ⟨w.heap.size, 1, none⟩ (.slice q1_a0 q1_n0 q1_c0)).setCell ⟨w.heap.size, 2, none⟩ (.int .i64 q2_0)).setCell ⟨w.heap.size, 3, none⟩ (.int .i64 q2_1)).setCell ⟨w.heap.size, 4, none⟩ (.int .i64 q3_0)).setCell ⟨w.heap.size, 5, none⟩ (.int .i64 q3_1)) := ⟨_, rfl⟩
  rw [← hWf]
  have hcf : Chg (fun b => b = w.heap.size) X4 Wf := by
    have g : ∀ (u : World) (j : Nat) (v : Value), Chg (fun b => b = w.heap.size) u (u.setCell ⟨w.heap.size, j, none⟩ v) := fun u j v => Chg.setCell _ _ rfl
    rw [hWf]
    exact (Chg.trans (Chg.trans (Chg.trans (Chg.trans (Chg.trans (g _ _ _) (g _ _ _)) (g _ _ _)) (g _ _ _)) (g _ _ _)) (g _ _ _))
  have HBF := Lib.hid (show Blk Wf w.heap.size [.int .i64 q0_0, .slice q1_a0 q1_n0 q1_c0, .int .i64 q2_0, .int .i64 q2_1, .int .i64 q3_0, .int .i64 q3_1] from by rw [hWf]; exact ((((((HZ4.out.set 0 (.int .i64 q0_0) (by simp)).set 1 (.slice q1_a0 q1_n0 q1_c0) (by simp)).set 2 (.int .i64 q2_0) (by simp)).set 3 (.int .i64 q2_1) (by simp)).set 4 (.int .i64 q3_0) (by simp)).set 5 (.int .i64 q3_1) (by simp)))
  clear hWf q0 zc0 zf0 q1 zc1 zf1 q2 zc2 zf2 q3 zc3 zf3 q4 zc4 zf4 q5 zc5 zf5
  have sc0 := HBF.out.cell 0 _ rfl
  have sc1 := HBF.out.cell 1 _ rfl
  have sc2 := HBF.out.cell 2 _ rfl
  have sc3 := HBF.out.cell 3 _ rfl
  have sc4 := HBF.out.cell 4 _ rfl
  have sc5 := HBF.out.cell 5 _ rfl
  refine bodyPost_ret (v := .agg #[.int .i64 q0_0, .slice q1_a0 q1_n0 q1_c0, .int .i64 q2_0, .int .i64 q2_1, .int .i64 q3_0, .int .i64 q3_1]) (by simp [sc0, sc1, sc2, sc3, sc4, sc5, results, Tryz.results66, go_sem]) rfl ?_
  refine ⟨[.int .i64 q0_0, .slice q1_a0 q1_n0 q1_c0, .int .i64 q2_0, .int .i64 q2_1, .int .i64 q3_0, .int .i64 q3_1], rfl, ?_, ?_, ?_⟩
  · rw [HDEC.out]
    have h0 : (Ty.rd .num).rd Wf (w.heap.size ≤ ·) _ _ := rd_chg .num hcf (fun b hb hl => ⟨hb.2.1, hb.1⟩) HV0_4.out
    have h1 : (Ty.rd (.list tValue)).rd Wf (w.heap.size ≤ ·) _ _ := rd_chg (.list tValue) hcf (fun b hb hl => ⟨hb.2.1, hb.1⟩) HV1_4.out
    have h2 : (Ty.rd tPeriod).rd Wf (w.heap.size ≤ ·) _ _ := rd_chg tPeriod hcf (fun b hb hl => ⟨hb.2.1, hb.1⟩) HV2_4.out
    have h3 : (Ty.rd tPeriod).rd Wf (w.heap.size ≤ ·) _ _ := rd_chg tPeriod hcf (fun b hb hl => ⟨hb.2.1, hb.1⟩) HV3_4.out
    exact ⟨_, _, rfl, h0, _, _, rfl, h1, _, _, rfl, h2, h3⟩
  · rw [HDEC.out]; exact HR4.out.keep (hcf.more (fun b _ e => by have := HLK.out; omega))
  · exact (HC4.out.trans (hcf.more (fun b _ e => .inr (by omega)))).more (fun b hb e => e.elim id (fun e => by omega))

theorem info_read_Version : (Tryz.prog.info? 99).map (fun i => (i.zero, i.size, i.bytes)) = some (some ((.agg #[.int .i64 0, .slice none 0 0, .int .i64 0, .int .i64 0, .int .i64 0, .int .i64 0])), 6, 64) := by kernel_rfl

set_option maxRecDepth 100000 in
set_option maxHeartbeats 4000000 in
theorem read_Version : ReadC 65 66 tVersion := by
  intro w rb s h hmod
  obtain ⟨i0, hi0, hz0, hz1, hz2⟩ := info_parts info_read_Version
  obtain ⟨n, s1, hn⟩ : ∃ n s', dsize s = (n, s') := ⟨_, _, rfl⟩
  have hs := cd_size h
  rw [hn] at hs
  obtain ⟨hm1, hm2⟩ := hmod
  rw [hn] at hm1 hm2
  replace hm1 : n ≤ 1073741824 := hm1
  obtain ⟨L, S', hLS⟩ : ∃ L S', dmany (dec tVersion) n s1 = (L, S') := ⟨_, _, rfl⟩
  have HDEC := Lib.hid (show dec (.list tVersion) s = (L, S') from by show dmany (dec tVersion) (dsize s).1 (dsize s).2 = _; rw [hn]; exact hLS)
  have HSZ := Lib.hid hs
  have HM := Lib.hid hm2
  have HM1 := Lib.hid hm1
  have HLS := Lib.hid hLS
  have HLT := Lib.hid h.lt
  have hn0 : 0 ≤ (n : Int) ∧ (n : Int) ≤ 1073741824 := by omega
  clear h hs hm1 hm2 hn hLS
  go_enter Tryz.func65, Tryz.ntmps65
  go_wp2_with fail
  refine HSZ.out.mono ?_
  rintro e w1 ⟨rfl, hr, hc⟩
  have HR1 := Lib.hid (show Rdr w1 rb s1 from hr)
  have HC1 := Lib.hid hc
  clear hr hc
  go_wp2
  go_loopg [5, 6] n (fun gk t5 t6 wr => ∃ (k : Nat) (sc : St) (l : List (Ty.T tVersion)) (xs : List Value), gk = k ∧ t6 = .int .i64 (k : Int) ∧ Rdr wr rb sc ∧ Rows tVersion 99 6 w.heap.size wr t5 l xs ∧ ModMany (Mod tVersion) (dec tVersion) k sc ∧ l.length + k ≤ n ∧ l ++ (dmany (dec tVersion) k sc).1 = L ∧ (dmany (dec tVersion) k sc).2 = S' ∧ Chg (fun b => b = rb ∨ w.heap.size ≤ b) w wr)
  case atStart =>
    exact ⟨n, s1, [], [], rfl, rfl, HR1.out, ⟨World.ownsRow_nil _ _ _ _, rarr_nil _ _ _⟩, HM.out, by simp, by rw [HLS.out]; rfl, by rw [HLS.out], HC1.out.more (fun b _ e => .inl e)⟩
  case round =>
    obtain ⟨k, sc, l, xs, rfl, rfl, hr, hrow, hm, hle, hL, hS, hc⟩ := hrel
    have HR := Lib.hid hr
    have HROW := Lib.hid hrow
    have HMM := Lib.hid hm
    have HLE := Lib.hid hle
    have HL := Lib.hid hL
    have HS := Lib.hid hS
    have HC := Lib.hid hc
    have hk0 : 0 ≤ (gk : Int) ∧ (gk : Int) ≤ 1073741824 := by have := HM1.out; omega
    clear hr hrow hm hle hL hS hc
    by_cases hk : gk = 0
    · subst hk
      have HLL := Lib.hid (show l = L from by have := HL.out; simpa [dmany] using this)
      have HSS := Lib.hid (show Rdr wr rb S' from by have := HS.out; rw [← this]; exact HR.out)
      have HFIN := Lib.hid (show (Ty.rd (.list tVersion)).rd wr (w.heap.size ≤ ·) [_] L from by
        have := rd_own HROW.out.row (Rd.more _ (fun b hb => hb.1) HROW.out.arr) (F := (w.heap.size ≤ ·)) (fun b hb _ => hb)
        rw [HLL.out] at this
        exact this)
      go_wp2
      go_ret
      refine ⟨[_], rfl, ?_, ?_, HC.out.more (fun b hb e => e.elim id (fun e => by omega))⟩
      · rw [HDEC.out]; exact HFIN.out
      · rw [HDEC.out]; exact HSS.out
    · have hd1 : decide ((0 : Int) < (gk : Int)) = true := decide_eq_true (by omega)
      cases sc with
      | error e =>
        obtain ⟨c0, c1, he⟩ := HR.out.bad e rfl
        have g0 : (e == 0) = false := by rcases he with rfl | rfl <;> rfl
        have HLL := Lib.hid (show l = L from by have := HL.out; rw [dmany_error] at this; simpa using this)
        have HSS := Lib.hid (show Rdr wr rb S' from by have := HS.out; rw [dmany_error] at this; rw [← this]; exact HR.out)
        clear he
        have HFIN := Lib.hid (show (Ty.rd (.list tVersion)).rd wr (w.heap.size ≤ ·) [_] L from by
          have := rd_own HROW.out.row (Rd.more _ (fun b hb => hb.1) HROW.out.arr) (F := (w.heap.size ≤ ·)) (fun b hb _ => hb)
          rw [HLL.out] at this
          exact this)
        go_wp2
        go_ret
        refine ⟨[_], rfl, ?_, ?_, HC.out.more (fun b hb e => e.elim id (fun e => by omega))⟩
        · rw [HDEC.out]; exact HFIN.out
        · rw [HDEC.out]; exact HSS.out
      | ok r =>
        obtain ⟨v, c0, c1, -, -⟩ := HR.out.ok r rfl
        obtain ⟨k', rfl⟩ : ∃ k', gk = k' + 1 := ⟨gk - 1, by omega⟩
        obtain ⟨x, s2, hd⟩ : ∃ x s', dec tVersion (.ok r) = (x, s') := ⟨_, _, rfl⟩
        have HD := Lib.hid hd
        have HL2 := Lib.hid (show (l ++ [x]) ++ (dmany (dec tVersion) k' s2).1 = L ∧ (dmany (dec tVersion) k' s2).2 = S' from by
          have h1 := HL.out; have h2 := HS.out
          rw [dmany] at h1 h2
          simp only [hd] at h1 h2
          exact ⟨by simpa using h1, h2⟩)
        have HM2 := Lib.hid (show Mod tVersion (.ok r) ∧ ModMany (Mod tVersion) (dec tVersion) k' s2 from by
          have h1 := HMM.out
          rw [ModMany] at h1
          simp only [hd] at h1
          exact h1)
        clear hd
        go_wp2_with fail
        refine (get_Version wr rb (.ok r) HR.out HM2.out.1).mono ?_
        rintro e w2 ⟨cs, rfl, hr, hs, hc⟩
        rw [HD.out] at hr hs
        dsimp only at hr hs
        obtain ⟨q_0, q_a1, q_n1, q_c1, q_2, q_3, q_4, q_5, rfl⟩ := shape_Version hr
        have hg : goV [.int .i64 q_0, .slice q_a1 q_n1 q_c1, .int .i64 q_2, .int .i64 q_3, .int .i64 q_4, .int .i64 q_5] = .agg #[.int .i64 q_0, .slice q_a1 q_n1 q_c1, .int .i64 q_2, .int .i64 q_3, .int .i64 q_4, .int .i64 q_5] := rfl
        rw [hg]
        have HX := Lib.hid hr
        have HR2 := Lib.hid hs
        have HC2 := Lib.hid hc
        have HB3 := Lib.hid (show Below w2.heap.size w2 (w2.alloc (.cells #[.int .i64 q_0, .slice q_a1 q_n1 q_c1, .int .i64 q_2, .int .i64 q_3, .int .i64 q_4, .int .i64 q_5] 99)) from (Below.refl _ _).alloc (Nat.le_refl _) _)
        have HROW2 := Lib.hid (show (w2.alloc (.cells #[.int .i64 q_0, .slice q_a1 q_n1 q_c1, .int .i64 q_2, .int .i64 q_3, .int .i64 q_4, .int .i64 q_5] 99)).ownsRow w.heap.size 99 6 _ l.length xs from ownk_chg (ownk_chg HROW.out.row hc (fun b e hb => by have := (ownk_ge HROW.out.row b e).1; have := HLT.out; omega)) (F := fun _ => False) (Chg.of_below HB3.out) (fun _ _ e => e))
        have HBS := Lib.hid (show w.heap.size ≤ (w2.alloc (.cells #[.int .i64 q_0, .slice q_a1 q_n1 q_c1, .int .i64 q_2, .int .i64 q_3, .int .i64 q_4, .int .i64 q_5] 99)).heap.size from by have := HC.out.size; have := HC2.out.size; simp; omega)
        clear hg hr hs hc
        go_wp2_with (at_builtin; refine wpList_append_o rfl _ _ 70 rfl w.heap.size 99 i0 _ 6 64 Tryz.underlying70 hi0 hz0 hz1 hz2 rfl (by decide) _ l.length xs rfl HROW2.out _ 1 [.int .i64 q_0, .slice q_a1 q_n1 q_c1, .int .i64 q_2, .int .i64 q_3, .int .i64 q_4, .int .i64 q_5] rfl (sl_cells1 w2 _ _ rfl) (fun _ _ h => by cases h) (by simp [Value.oneCell']) (by have := HLE.out; have := HM1.out; unfold maxLen; omega) (by have := HLE.out; have := HM1.out; omega) HBS.out ?_)
        intro v' w4 h1 h2 h3
        have HROWS := Lib.hid (HROW.out.snoc HLT.out HC.out.size HC2.out HX.out HB3.out h1 h2 (by rw [World.size_alloc]; exact h3))
        have h24 := Chg.grown (F := fun b => w.heap.size ≤ b) h2 (fun b e => (ownk_ge HROW.out.row b e).1)
        have HR4 := Lib.hid ((HR2.out.below HB3.out).keep (h24.more (fun b _ e => by have := HLT.out; omega)))
        have HC4 := Lib.hid (show Chg (fun b => b = rb ∨ w.heap.size ≤ b) w w4 from ((HC.out.trans (HC2.out.more (fun b _ e => .inl e))).trans (Chg.of_below HB3.out)).trans (h24.more (fun b _ e => .inr e)))
        clear h1 h2 h3 h24
        go_wp2
        go_roundg k'
        case rel => exact ⟨k', s2, l ++ [x], _, rfl, by go_num, HR4.out, HROWS.out, HM2.out.2, by have := HLE.out; simp; omega, HL2.out.1, HL2.out.2, HC4.out⟩
        case measure => omega

set_option maxRecDepth 100000 in
set_option maxHeartbeats 4000000 in
theorem get_Row : GetC 69 tRow := by
  intro w rb s h hmod
  obtain ⟨W0, hW0⟩ : ∃ W0, W0 = w.alloc (.cells #[.slice none 0 0, .slice none 0 0] 106) := ⟨_, rfl⟩
  have hb0 : Below w.heap.size w W0 := by rw [hW0]; exact (Below.refl _ _).alloc (Nat.le_refl _) _
  have HLT := Lib.hid (show rb < w.heap.size ∧ W0.heap.size = w.heap.size + 1 from And.intro h.lt (by rw [hW0]; simp))
  have HK0 := Lib.hid (show Blk W0 w.heap.size [.slice none 0 0, .slice none 0 0] from by rw [hW0]; exact Blk.new w _ _)
  have HR0 := Lib.hid (h.below hb0)
  have HC0 := Lib.hid (show Chg (fun b => b = rb ∨ w.heap.size ≤ b) w W0 from Chg.of_below hb0)
  have HW0 := Lib.hid hW0
  obtain ⟨s0, hs0⟩ : ∃ s0, s0 = s := ⟨_, rfl⟩
  rw [← hs0] at HR0
  obtain ⟨x0, s1, hd0⟩ : ∃ x s', dec (.list tValue) s0 = (x, s') := ⟨_, _, rfl⟩
  obtain ⟨x1, s2, hd1⟩ : ∃ x s', dec (.list .num) s1 = (x, s') := ⟨_, _, rfl⟩
  have HDEC := Lib.hid (show dec tRow s = ((x0, x1), s2) from by
    rw [← hs0]
    show dec (.pair (.list tValue) (.list .num)) s0 = _
    simp only [dec_pair, hd0, hd1])
  rw [← hs0] at hmod
  obtain ⟨hm0, hm1⟩ := hmod
  simp only [hd0] at hm1
  have HM0 := Lib.hid hm0
  have HM1 := Lib.hid hm1
  have HD0 := Lib.hid hd0
  have HD1 := Lib.hid hd1
  clear hm0 hm1 h hb0 hW0 hs0 hd0 hd1
  go_enter Tryz.func69, Tryz.ntmps69
  go_wp2_with fail
  rw [← HW0.out]
  refine (read_Value W0 rb s0 HR0.out HM0.out).mono ?_
  rintro e w1 ⟨cs, rfl, hr, hs, hc⟩
  rw [HD0.out] at hr hs
  dsimp only at hr hs
  obtain ⟨q0_a0, q0_n0, q0_c0, rfl⟩ : ∃ a n c, cs = [.slice a n c] := by obtain ⟨a, n, c, e, _⟩ := id hr; exact ⟨a, n, c, e⟩
  have hg : goV [.slice q0_a0 q0_n0 q0_c0] = .slice q0_a0 q0_n0 q0_c0 := rfl
  rw [hg]
  clear hg
  obtain ⟨k1, hk1⟩ : ∃ k1, k1 = w1.heap.size := ⟨_, rfl⟩
  obtain ⟨X1, hX1⟩ : ∃ X1, X1 = w1.alloc (.cells #[.slice q0_a0 q0_n0 q0_c0, .slice none 0 0] 106) := ⟨_, rfl⟩
  have hbx : Below w1.heap.size w1 X1 := by rw [hX1]; exact (Below.refl _ _).alloc (Nat.le_refl _) _
  have HLK := Lib.hid (show rb < w.heap.size ∧ w.heap.size < k1 ∧ k1 < X1.heap.size from by
    have h1 := HLT.out; have h2 := hc.size; have h3 : X1.heap.size = w1.heap.size + 1 := by rw [hX1]; simp
    omega)
  have HB1 := Lib.hid (show Blk X1 k1 [.slice q0_a0 q0_n0 q0_c0, .slice none 0 0] from by rw [hX1, hk1]; exact Blk.new w1 _ _)
  have HR1 := Lib.hid (hs.below hbx)
  have HC1 := Lib.hid (show Chg (fun b => b = rb ∨ w.heap.size ≤ b) w X1 from (HC0.out.trans (hc.more (fun b _ e => .inl e))).trans (Chg.of_below hbx))
  have HZ1 := Lib.hid (show Blk X1 w.heap.size [.slice none 0 0, .slice none 0 0] from (HK0.out.chg hc (by have := HLT.out.1; omega)).chg (F := fun _ => False) (Chg.of_below hbx) id)
  have HV0_1 := Lib.hid (show (Ty.rd (.list tValue)).rd X1 (fun b => w.heap.size ≤ b ∧ b ≠ w.heap.size ∧ b ≠ k1 ∧ b ≠ rb) _ _ from rd_chg (.list tValue) (K := fun _ => False) (Chg.of_below hbx) (fun b hb hl => ⟨id, by have h1 := HLT.out; omega, by have h1 := HLT.out; omega, by omega, by have h1 := HLT.out; omega⟩) hr)
  have HX1 := Lib.hid hX1
  have HKK := Lib.hid hk1
  clear hr hs hc hX1 hbx hk1
  go_wp2_with fail
  rw [← HKK.out, ← HX1.out]
  refine (get_ints X1 rb s1 HR1.out HM1.out).mono ?_
  rintro e w2 ⟨cs, rfl, hr, hs, hc⟩
  rw [HD1.out] at hr hs
  dsimp only at hr hs
  obtain ⟨q1_a0, q1_n0, q1_c0, rfl⟩ : ∃ a n c, cs = [.slice a n c] := by obtain ⟨a, n, c, e, _⟩ := id hr; exact ⟨a, n, c, e⟩
  have hg : goV [.slice q1_a0 q1_n0 q1_c0] = .slice q1_a0 q1_n0 q1_c0 := rfl
  rw [hg]
  clear hg
  have hb' := HB1.out.chg hc (by have := HLK.out; omega)
  have t0 := hb'.cell 1 _ rfl
  have z0 := hb'.free 1
  obtain ⟨X2, hX⟩ : ∃ X, X = (w2.setCell ⟨k1, 1, none⟩ (.slice q1_a0 q1_n0 q1_c0)) := ⟨_, rfl⟩
  have hcx : Chg (fun b => b = k1) w2 X2 := by
    have g : ∀ (u : World) (j : Nat) (v : Value), Chg (fun b => b = k1) u (u.setCell ⟨k1, j, none⟩ v) := fun u j v => Chg.setCell _ _ rfl
    rw [hX]
    exact (g _ _ _)
  have HB2 := Lib.hid (show Blk X2 k1 [.slice q0_a0 q0_n0 q0_c0, .slice q1_a0 q1_n0 q1_c0] from by rw [hX]; exact (hb'.set 1 (.slice q1_a0 q1_n0 q1_c0) (by simp)))
  have HR2 := Lib.hid (hs.keep (hcx.more (fun b _ e => by have := HLK.out; omega)))
  have hstep : Chg (fun b => b = rb ∨ b = k1) X1 X2 := (hc.more (fun b _ e => .inl e)).trans (hcx.more (fun b _ e => .inr e))
  have HC2 := Lib.hid (show Chg (fun b => b = rb ∨ w.heap.size ≤ b) w X2 from HC1.out.trans (hstep.more (fun b _ e => e.elim .inl (fun e => .inr (by have := HLK.out; omega)))))
  have HZ2 := Lib.hid (show Blk X2 w.heap.size [.slice none 0 0, .slice none 0 0] from HZ1.out.chg hstep (by have := HLK.out; omega))
  have HV0_2 := Lib.hid (show (Ty.rd (.list tValue)).rd X2 (fun b => w.heap.size ≤ b ∧ b ≠ w.heap.size ∧ b ≠ k1 ∧ b ≠ rb) _ _ from rd_chg (.list tValue) hstep (fun b hb hl => ⟨fun e => by have := HLK.out; omega, hb⟩) HV0_1.out)
  have HV1_2 := Lib.hid (show (Ty.rd (.list .num)).rd X2 (fun b => w.heap.size ≤ b ∧ b ≠ w.heap.size ∧ b ≠ k1 ∧ b ≠ rb) _ _ from rd_chg (.list .num) hcx (fun b hb hl => by have h1 := HLK.out; have h2 := HC1.out.size; have h3 := HB1.out.lt; have hb : X1.heap.size ≤ b := hb; exact ⟨by omega, by omega, by omega, by omega, by omega⟩) hr)
  have HX2 := Lib.hid hX
  clear hr hs hc hb' hcx hstep hX 
  go_upto_region 3 with fail
  rw [← HX2.out]
  have q0 := HB2.out.cell 0 _ rfl
  have zc0 := HZ2.out.cell 0 _ rfl
  have zf0 := HZ2.out.free 0
  have q1 := HB2.out.cell 1 _ rfl
  have zc1 := HZ2.out.cell 1 _ rfl
  have zf1 := HZ2.out.free 1
  go_wp2
  obtain ⟨Wf, hWf⟩ : ∃ Wf, Wf = ((X2.setCell ⟨w.heap.size, 0, none⟩ (.slice q0_a0 q0_n0 q0_c0)).setCell ⟨w.heap.size, 1, none⟩ (.slice q1_a0 q1_n0 q1_c0)) := ⟨_, rfl⟩
  rw [← hWf]
  have hcf : Chg (fun b => b = w.heap.size) X2 Wf := by
    have g : ∀ (u : World) (j : Nat) (v : Value), Chg (fun b => b = w.heap.size) u (u.setCell ⟨w.heap.size, j, none⟩ v) := fun u j v => Chg.setCell _ _ rfl
    rw [hWf]
    exact (Chg.trans (g _ _ _) (g _ _ _))
  have HBF := Lib.hid (show Blk Wf w.heap.size [.slice q0_a0 q0_n0 q0_c0, .slice q1_a0 q1_n0 q1_c0] from by rw [hWf]; exact ((HZ2.out.set 0 (.slice q0_a0 q0_n0 q0_c0) (by simp)).set 1 (.slice q1_a0 q1_n0 q1_c0) (by simp)))
  clear hWf q0 zc0 zf0 q1 zc1 zf1
  have sc0 := HBF.out.cell 0 _ rfl
  have sc1 := HBF.out.cell 1 _ rfl
  refine bodyPost_ret (v := .agg #[.slice q0_a0 q0_n0 q0_c0, .slice q1_a0 q1_n0 q1_c0]) (by simp [sc0, sc1, results, Tryz.results69, go_sem]) rfl ?_
  refine ⟨[.slice q0_a0 q0_n0 q0_c0, .slice q1_a0 q1_n0 q1_c0], rfl, ?_, ?_, ?_⟩
  · rw [HDEC.out]
    have h0 : (Ty.rd (.list tValue)).rd Wf (w.heap.size ≤ ·) _ _ := rd_chg (.list tValue) hcf (fun b hb hl => ⟨hb.2.1, hb.1⟩) HV0_2.out
    have h1 : (Ty.rd (.list .num)).rd Wf (w.heap.size ≤ ·) _ _ := rd_chg (.list .num) hcf (fun b hb hl => ⟨hb.2.1, hb.1⟩) HV1_2.out
    exact ⟨_, _, rfl, h0, h1⟩
  · rw [HDEC.out]; exact HR2.out.keep (hcf.more (fun b _ e => by have := HLK.out; omega))
  · exact (HC2.out.trans (hcf.more (fun b _ e => .inr (by omega)))).more (fun b hb e => e.elim id (fun e => by omega))

theorem info_read_Row : (Tryz.prog.info? 106).map (fun i => (i.zero, i.size, i.bytes)) = some (some ((.agg #[.slice none 0 0, .slice none 0 0])), 2, 48) := by kernel_rfl

set_option maxRecDepth 100000 in
set_option maxHeartbeats 4000000 in
theorem read_Row : ReadC 68 69 tRow := by
  intro w rb s h hmod
  obtain ⟨i0, hi0, hz0, hz1, hz2⟩ := info_parts info_read_Row
  obtain ⟨n, s1, hn⟩ : ∃ n s', dsize s = (n, s') := ⟨_, _, rfl⟩
  have hs := cd_size h
  rw [hn] at hs
  obtain ⟨hm1, hm2⟩ := hmod
  rw [hn] at hm1 hm2
  replace hm1 : n ≤ 1073741824 := hm1
  obtain ⟨L, S', hLS⟩ : ∃ L S', dmany (dec tRow) n s1 = (L, S') := ⟨_, _, rfl⟩
  have HDEC := Lib.hid (show dec (.list tRow) s = (L, S') from by show dmany (dec tRow) (dsize s).1 (dsize s).2 = _; rw [hn]; exact hLS)
  have HSZ := Lib.hid hs
  have HM := Lib.hid hm2
  have HM1 := Lib.hid hm1
  have HLS := Lib.hid hLS
  have HLT := Lib.hid h.lt
  have hn0 : 0 ≤ (n : Int) ∧ (n : Int) ≤ 1073741824 := by omega
  clear h hs hm1 hm2 hn hLS
  go_enter Tryz.func68, Tryz.ntmps68
  go_wp2_with fail
  refine HSZ.out.mono ?_
  rintro e w1 ⟨rfl, hr, hc⟩
  have HR1 := Lib.hid (show Rdr w1 rb s1 from hr)
  have HC1 := Lib.hid hc
  clear hr hc
  go_wp2
  go_loopg [5, 6] n (fun gk t5 t6 wr => ∃ (k : Nat) (sc : St) (l : List (Ty.T tRow)) (xs : List Value), gk = k ∧ t6 = .int .i64 (k : Int) ∧ Rdr wr rb sc ∧ Rows tRow 106 2 w.heap.size wr t5 l xs ∧ ModMany (Mod tRow) (dec tRow) k sc ∧ l.length + k ≤ n ∧ l ++ (dmany (dec tRow) k sc).1 = L ∧ (dmany (dec tRow) k sc).2 = S' ∧ Chg (fun b => b = rb ∨ w.heap.size ≤ b) w wr)
  case atStart =>
    exact ⟨n, s1, [], [], rfl, rfl, HR1.out, ⟨World.ownsRow_nil _ _ _ _, rarr_nil _ _ _⟩, HM.out, by simp, by rw [HLS.out]; rfl, by rw [HLS.out], HC1.out.more (fun b _ e => .inl e)⟩
  case round =>
    obtain ⟨k, sc, l, xs, rfl, rfl, hr, hrow, hm, hle, hL, hS, hc⟩ := hrel
    have HR := Lib.hid hr
    have HROW := Lib.hid hrow
    have HMM := Lib.hid hm
    have HLE := Lib.hid hle
    have HL := Lib.hid hL
    have HS := Lib.hid hS
    have HC := Lib.hid hc
    have hk0 : 0 ≤ (gk : Int) ∧ (gk : Int) ≤ 1073741824 := by have := HM1.out; omega
    clear hr hrow hm hle hL hS hc
    by_cases hk : gk = 0
    · subst hk
      have HLL := Lib.hid (show l = L from by have := HL.out; simpa [dmany] using this)
      have HSS := Lib.hid (show Rdr wr rb S' from by have := HS.out; rw [← this]; exact HR.out)
      have HFIN := Lib.hid (show (Ty.rd (.list tRow)).rd wr (w.heap.size ≤ ·) [_] L from by
        have := rd_own HROW.out.row (Rd.more _ (fun b hb => hb.1) HROW.out.arr) (F := (w.heap.size ≤ ·)) (fun b hb _ => hb)
        rw [HLL.out] at this
        exact this)
      go_wp2
      go_ret
      refine ⟨[_], rfl, ?_, ?_, HC.out.more (fun b hb e => e.elim id (fun e => by omega))⟩
      · rw [HDEC.out]; exact HFIN.out
      · rw [HDEC.out]; exact HSS.out
    · have hd1 : decide ((0 : Int) < (gk : Int)) = true := decide_eq_true (by omega)
      cases sc with
      | error e =>
        obtain ⟨c0, c1, he⟩ := HR.out.bad e rfl
        have g0 : (e == 0) = false := by rcases he with rfl | rfl <;> rfl
        have HLL := Lib.hid (show l = L from by have := HL.out; rw [dmany_error] at this; simpa using this)
        have HSS := Lib.hid (show Rdr wr rb S' from by have := HS.out; rw [dmany_error] at this; rw [← this]; exact HR.out)
        clear he
        have HFIN := Lib.hid (show (Ty.rd (.list tRow)).rd wr (w.heap.size ≤ ·) [_] L from by
          have := rd_own HROW.out.row (Rd.more _ (fun b hb => hb.1) HROW.out.arr) (F := (w.heap.size ≤ ·)) (fun b hb _ => hb)
          rw [HLL.out] at this
          exact this)
        go_wp2
        go_ret
        refine ⟨[_], rfl, ?_, ?_, HC.out.more (fun b hb e => e.elim id (fun e => by omega))⟩
        · rw [HDEC.out]; exact HFIN.out
        · rw [HDEC.out]; exact HSS.out
      | ok r =>
        obtain ⟨v, c0, c1, -, -⟩ := HR.out.ok r rfl
        obtain ⟨k', rfl⟩ : ∃ k', gk = k' + 1 := ⟨gk - 1, by omega⟩
        obtain ⟨x, s2, hd⟩ : ∃ x s', dec tRow (.ok r) = (x, s') := ⟨_, _, rfl⟩
        have HD := Lib.hid hd
        have HL2 := Lib.hid (show (l ++ [x]) ++ (dmany (dec tRow) k' s2).1 = L ∧ (dmany (dec tRow) k' s2).2 = S' from by
          have h1 := HL.out; have h2 := HS.out
          rw [dmany] at h1 h2
          simp only [hd] at h1 h2
          exact ⟨by simpa using h1, h2⟩)
        have HM2 := Lib.hid (show Mod tRow (.ok r) ∧ ModMany (Mod tRow) (dec tRow) k' s2 from by
          have h1 := HMM.out
          rw [ModMany] at h1
          simp only [hd] at h1
          exact h1)
        clear hd
        go_wp2_with fail
        refine (get_Row wr rb (.ok r) HR.out HM2.out.1).mono ?_
        rintro e w2 ⟨cs, rfl, hr, hs, hc⟩
        rw [HD.out] at hr hs
        dsimp only at hr hs
        obtain ⟨q_a0, q_n0, q_c0, q_a1, q_n1, q_c1, rfl⟩ := shape_Row hr
        have hg : goV [.slice q_a0 q_n0 q_c0, .slice q_a1 q_n1 q_c1] = .agg #[.slice q_a0 q_n0 q_c0, .slice q_a1 q_n1 q_c1] := rfl
        rw [hg]
        have HX := Lib.hid hr
        have HR2 := Lib.hid hs
        have HC2 := Lib.hid hc
        have HB3 := Lib.hid (show Below w2.heap.size w2 (w2.alloc (.cells #[.slice q_a0 q_n0 q_c0, .slice q_a1 q_n1 q_c1] 106)) from (Below.refl _ _).alloc (Nat.le_refl _) _)
        have HROW2 := Lib.hid (show (w2.alloc (.cells #[.slice q_a0 q_n0 q_c0, .slice q_a1 q_n1 q_c1] 106)).ownsRow w.heap.size 106 2 _ l.length xs from ownk_chg (ownk_chg HROW.out.row hc (fun b e hb => by have := (ownk_ge HROW.out.row b e).1; have := HLT.out; omega)) (F := fun _ => False) (Chg.of_below HB3.out) (fun _ _ e => e))
        have HBS := Lib.hid (show w.heap.size ≤ (w2.alloc (.cells #[.slice q_a0 q_n0 q_c0, .slice q_a1 q_n1 q_c1] 106)).heap.size from by have := HC.out.size; have := HC2.out.size; simp; omega)
        clear hg hr hs hc
        go_wp2_with (at_builtin; refine wpList_append_o rfl _ _ 77 rfl w.heap.size 106 i0 _ 2 48 Tryz.underlying77 hi0 hz0 hz1 hz2 rfl (by decide) _ l.length xs rfl HROW2.out _ 1 [.slice q_a0 q_n0 q_c0, .slice q_a1 q_n1 q_c1] rfl (sl_cells1 w2 _ _ rfl) (fun _ _ h => by cases h) (by simp [Value.oneCell']) (by have := HLE.out; have := HM1.out; unfold maxLen; omega) (by have := HLE.out; have := HM1.out; omega) HBS.out ?_)
        intro v' w4 h1 h2 h3
        have HROWS := Lib.hid (HROW.out.snoc HLT.out HC.out.size HC2.out HX.out HB3.out h1 h2 (by rw [World.size_alloc]; exact h3))
        have h24 := Chg.grown (F := fun b => w.heap.size ≤ b) h2 (fun b e => (ownk_ge HROW.out.row b e).1)
        have HR4 := Lib.hid ((HR2.out.below HB3.out).keep (h24.more (fun b _ e => by have := HLT.out; omega)))
        have HC4 := Lib.hid (show Chg (fun b => b = rb ∨ w.heap.size ≤ b) w w4 from ((HC.out.trans (HC2.out.more (fun b _ e => .inl e))).trans (Chg.of_below HB3.out)).trans (h24.more (fun b _ e => .inr e)))
        clear h1 h2 h3 h24
        go_wp2
        go_roundg k'
        case rel => exact ⟨k', s2, l ++ [x], _, rfl, by go_num, HR4.out, HROWS.out, HM2.out.2, by have := HLE.out; simp; omega, HL2.out.1, HL2.out.2, HC4.out⟩
        case measure => omega

set_option maxRecDepth 100000 in
set_option maxHeartbeats 4000000 in
theorem get_Table : GetC 28 tTable := by
  intro w rb s h hmod
  obtain ⟨W0, hW0⟩ : ∃ W0, W0 = w.alloc (.cells #[.string ⟨#[]⟩, .slice none 0 0, .slice none 0 0, .slice none 0 0, .slice none 0 0, .slice none 0 0] 72) := ⟨_, rfl⟩
  have hb0 : Below w.heap.size w W0 := by rw [hW0]; exact (Below.refl _ _).alloc (Nat.le_refl _) _
  have HLT := Lib.hid (show rb < w.heap.size ∧ W0.heap.size = w.heap.size + 1 from And.intro h.lt (by rw [hW0]; simp))
  have HK0 := Lib.hid (show Blk W0 w.heap.size [.string ⟨#[]⟩, .slice none 0 0, .slice none 0 0, .slice none 0 0, .slice none 0 0, .slice none 0 0] from by rw [hW0]; exact Blk.new w _ _)
  have HR0 := Lib.hid (h.below hb0)
  have HC0 := Lib.hid (show Chg (fun b => b = rb ∨ w.heap.size ≤ b) w W0 from Chg.of_below hb0)
  have HW0 := Lib.hid hW0
  obtain ⟨s0, hs0⟩ : ∃ s0, s0 = s := ⟨_, rfl⟩
  rw [← hs0] at HR0
  obtain ⟨x0, s1, hd0⟩ : ∃ x s', dec tSchema s0 = (x, s') := ⟨_, _, rfl⟩
  obtain ⟨x1, s2, hd1⟩ : ∃ x s', dec (.list tVersion) s1 = (x, s') := ⟨_, _, rfl⟩
  have HDEC := Lib.hid (show dec tTable s = ((x0, x1), s2) from by
    rw [← hs0]
    show dec (.pair tSchema (.list tVersion)) s0 = _
    simp only [dec_pair, hd0, hd1])
  rw [← hs0] at hmod
  obtain ⟨hm0, hm1⟩ := hmod
  simp only [hd0] at hm1
  have HM0 := Lib.hid hm0
  have HM1 := Lib.hid hm1
  have HD0 := Lib.hid hd0
  have HD1 := Lib.hid hd1
  clear hm0 hm1 h hb0 hW0 hs0 hd0 hd1
  go_enter Tryz.func28, Tryz.ntmps28
  go_wp2_with fail
  rw [← HW0.out]
  refine (get_Schema W0 rb s0 HR0.out HM0.out).mono ?_
  rintro e w1 ⟨cs, rfl, hr, hs, hc⟩
  rw [HD0.out] at hr hs
  dsimp only at hr hs
  obtain ⟨q0_0, q0_a1, q0_n1, q0_c1, q0_a2, q0_n2, q0_c2, q0_a3, q0_n3, q0_c3, q0_a4, q0_n4, q0_c4, rfl⟩ := shape_Schema hr
  have hg : goV [.string q0_0, .slice q0_a1 q0_n1 q0_c1, .slice q0_a2 q0_n2 q0_c2, .slice q0_a3 q0_n3 q0_c3, .slice q0_a4 q0_n4 q0_c4] = .agg #[.string q0_0, .slice q0_a1 q0_n1 q0_c1, .slice q0_a2 q0_n2 q0_c2, .slice q0_a3 q0_n3 q0_c3, .slice q0_a4 q0_n4 q0_c4] := rfl
  rw [hg]
  clear hg
  obtain ⟨k1, hk1⟩ : ∃ k1, k1 = w1.heap.size := ⟨_, rfl⟩
  obtain ⟨X1, hX1⟩ : ∃ X1, X1 = w1.alloc (.cells #[.string q0_0, .slice q0_a1 q0_n1 q0_c1, .slice q0_a2 q0_n2 q0_c2, .slice q0_a3 q0_n3 q0_c3, .slice q0_a4 q0_n4 q0_c4, .slice none 0 0] 72) := ⟨_, rfl⟩
  have hbx : Below w1.heap.size w1 X1 := by rw [hX1]; exact (Below.refl _ _).alloc (Nat.le_refl _) _
  have HLK := Lib.hid (show rb < w.heap.size ∧ w.heap.size < k1 ∧ k1 < X1.heap.size from by
    have h1 := HLT.out; have h2 := hc.size; have h3 : X1.heap.size = w1.heap.size + 1 := by rw [hX1]; simp
    omega)
  have HB1 := Lib.hid (show Blk X1 k1 [.string q0_0, .slice q0_a1 q0_n1 q0_c1, .slice q0_a2 q0_n2 q0_c2, .slice q0_a3 q0_n3 q0_c3, .slice q0_a4 q0_n4 q0_c4, .slice none 0 0] from by rw [hX1, hk1]; exact Blk.new w1 _ _)
  have HR1 := Lib.hid (hs.below hbx)
  have HC1 := Lib.hid (show Chg (fun b => b = rb ∨ w.heap.size ≤ b) w X1 from (HC0.out.trans (hc.more (fun b _ e => .inl e))).trans (Chg.of_below hbx))
  have HZ1 := Lib.hid (show Blk X1 w.heap.size [.string ⟨#[]⟩, .slice none 0 0, .slice none 0 0, .slice none 0 0, .slice none 0 0, .slice none 0 0] from (HK0.out.chg hc (by have := HLT.out.1; omega)).chg (F := fun _ => False) (Chg.of_below hbx) id)
  have HV0_1 := Lib.hid (show (Ty.rd tSchema).rd X1 (fun b => w.heap.size ≤ b ∧ b ≠ w.heap.size ∧ b ≠ k1 ∧ b ≠ rb) _ _ from rd_chg tSchema (K := fun _ => False) (Chg.of_below hbx) (fun b hb hl => ⟨id, by have h1 := HLT.out; omega, by have h1 := HLT.out; omega, by omega, by have h1 := HLT.out; omega⟩) hr)
  have HX1 := Lib.hid hX1
  have HKK := Lib.hid hk1
  clear hr hs hc hX1 hbx hk1
  go_wp2_with fail
  rw [← HKK.out, ← HX1.out]
  refine (read_Version X1 rb s1 HR1.out HM1.out).mono ?_
  rintro e w2 ⟨cs, rfl, hr, hs, hc⟩
  rw [HD1.out] at hr hs
  dsimp only at hr hs
  obtain ⟨q1_a0, q1_n0, q1_c0, rfl⟩ : ∃ a n c, cs = [.slice a n c] := by obtain ⟨a, n, c, e, _⟩ := id hr; exact ⟨a, n, c, e⟩
  have hg : goV [.slice q1_a0 q1_n0 q1_c0] = .slice q1_a0 q1_n0 q1_c0 := rfl
  rw [hg]
  clear hg
  have hb' := HB1.out.chg hc (by have := HLK.out; omega)
  have t0 := hb'.cell 5 _ rfl
  have z0 := hb'.free 5
  obtain ⟨X2, hX⟩ : ∃ X, X = (w2.setCell ⟨k1, 5, none⟩ (.slice q1_a0 q1_n0 q1_c0)) := ⟨_, rfl⟩
  have hcx : Chg (fun b => b = k1) w2 X2 := by
    have g : ∀ (u : World) (j : Nat) (v : Value), Chg (fun b => b = k1) u (u.setCell ⟨k1, j, none⟩ v) := fun u j v => Chg.setCell _ _ rfl
    rw [hX]
    exact (g _ _ _)
  have HB2 := Lib.hid (show Blk X2 k1 [.string q0_0, .slice q0_a1 q0_n1 q0_c1, .slice q0_a2 q0_n2 q0_c2, .slice q0_a3 q0_n3 q0_c3, .slice q0_a4 q0_n4 q0_c4, .slice q1_a0 q1_n0 q1_c0] from by rw [hX]; exact (hb'.set 5 (.slice q1_a0 q1_n0 q1_c0) (by simp)))
  have HR2 := Lib.hid (hs.keep (hcx.more (fun b _ e => by have := HLK.out; omega)))
  have hstep : Chg (fun b => b = rb ∨ b = k1) X1 X2 := (hc.more (fun b _ e => .inl e)).trans (hcx.more (fun b _ e => .inr e))
  have HC2 := Lib.hid (show Chg (fun b => b = rb ∨ w.heap.size ≤ b) w X2 from HC1.out.trans (hstep.more (fun b _ e => e.elim .inl (fun e => .inr (by have := HLK.out; omega)))))
  have HZ2 := Lib.hid (show Blk X2 w.heap.size [.string ⟨#[]⟩, .slice none 0 0, .slice none 0 0, .slice none 0 0, .slice none 0 0, .slice none 0 0] from HZ1.out.chg hstep (by have := HLK.out; omega))
  have HV0_2 := Lib.hid (show (Ty.rd tSchema).rd X2 (fun b => w.heap.size ≤ b ∧ b ≠ w.heap.size ∧ b ≠ k1 ∧ b ≠ rb) _ _ from rd_chg tSchema hstep (fun b hb hl => ⟨fun e => by have := HLK.out; omega, hb⟩) HV0_1.out)
  have HV1_2 := Lib.hid (show (Ty.rd (.list tVersion)).rd X2 (fun b => w.heap.size ≤ b ∧ b ≠ w.heap.size ∧ b ≠ k1 ∧ b ≠ rb) _ _ from rd_chg (.list tVersion) hcx (fun b hb hl => by have h1 := HLK.out; have h2 := HC1.out.size; have h3 := HB1.out.lt; have hb : X1.heap.size ≤ b := hb; exact ⟨by omega, by omega, by omega, by omega, by omega⟩) hr)
  have HX2 := Lib.hid hX
  clear hr hs hc hb' hcx hstep hX 
  go_upto_region 3 with fail
  rw [← HX2.out]
  have q0 := HB2.out.cell 0 _ rfl
  have zc0 := HZ2.out.cell 0 _ rfl
  have zf0 := HZ2.out.free 0
  have q1 := HB2.out.cell 1 _ rfl
  have zc1 := HZ2.out.cell 1 _ rfl
  have zf1 := HZ2.out.free 1
  have q2 := HB2.out.cell 2 _ rfl
  have zc2 := HZ2.out.cell 2 _ rfl
  have zf2 := HZ2.out.free 2
  have q3 := HB2.out.cell 3 _ rfl
  have zc3 := HZ2.out.cell 3 _ rfl
  have zf3 := HZ2.out.free 3
  have q4 := HB2.out.cell 4 _ rfl
  have zc4 := HZ2.out.cell 4 _ rfl
  have zf4 := HZ2.out.free 4
  have q5 := HB2.out.cell 5 _ rfl
  have zc5 := HZ2.out.cell 5 _ rfl
  have zf5 := HZ2.out.free 5
  go_wp2
  obtain ⟨Wf, hWf⟩ : ∃ Wf, Wf = ((((((X2.setCell ⟨w.heap.size, 0, none⟩ (.string q0_0)).setCell ⟨w.heap.size, 1, none⟩ (.slice q0_a1 q0_n1 q0_c1)).setCell ⟨w.heap.size, 2, none⟩ (.slice q0_a2 q0_n2 q0_c2)).setCell ⟨w.heap.size, 3, none⟩ (.slice q0_a3 q0_n3 q0_c3)).setCell ⟨w.heap.size, 4, none⟩ (.slice q0_a4 q0_n4 q0_c4)).setCell ⟨w.heap.size, 5, none⟩ (.slice q1_a0 q1_n0 q1_c0)) := ⟨_, rfl⟩
  rw [← hWf]
  have hcf : Chg (fun b => b = w.heap.size) X2 Wf := by
    have g : ∀ (u : World) (j : Nat) (v : Value), Chg (fun b => b = w.heap.size) u (u.setCell ⟨w.heap.size, j, none⟩ v) := fun u j v => Chg.setCell _ _ rfl
    rw [hWf]
    exact (Chg.trans (Chg.trans (Chg.trans (Chg.trans (Chg.trans (g _ _ _) (g _ _ _)) (g _ _ _)) (g _ _ _)) (g _ _ _)) (g _ _ _))
  have HBF := Lib.hid (show Blk Wf w.heap.size [.string q0_0, .slice q0_a1 q0_n1 q0_c1, .slice q0_a2 q0_n2 q0_c2, .slice q0_a3 q0_n3 q0_c3, .slice q0_a4 q0_n4 q0_c4, .slice q1_a0 q1_n0 q1_c0] from by rw [hWf]; exact ((((((HZ2.out.set 0 (.string q0_0) (by simp)).set 1 (.slice q0_a1 q0_n1 q0_c1) (by simp)).set 2 (.slice q0_a2 q0_n2 q0_c2) (by simp)).set 3 (.slice q0_a3 q0_n3 q0_c3) (by simp)).set 4 (.slice q0_a4 q0_n4 q0_c4) (by simp)).set 5 (.slice q1_a0 q1_n0 q1_c0) (by simp)))
  clear hWf q0 zc0 zf0 q1 zc1 zf1 q2 zc2 zf2 q3 zc3 zf3 q4 zc4 zf4 q5 zc5 zf5
  have sc0 := HBF.out.cell 0 _ rfl
  have sc1 := HBF.out.cell 1 _ rfl
  have sc2 := HBF.out.cell 2 _ rfl
  have sc3 := HBF.out.cell 3 _ rfl
  have sc4 := HBF.out.cell 4 _ rfl
  have sc5 := HBF.out.cell 5 _ rfl
  refine bodyPost_ret (v := .agg #[.string q0_0, .slice q0_a1 q0_n1 q0_c1, .slice q0_a2 q0_n2 q0_c2, .slice q0_a3 q0_n3 q0_c3, .slice q0_a4 q0_n4 q0_c4, .slice q1_a0 q1_n0 q1_c0]) (by simp [sc0, sc1, sc2, sc3, sc4, sc5, results, Tryz.results28, go_sem]) rfl ?_
  refine ⟨[.string q0_0, .slice q0_a1 q0_n1 q0_c1, .slice q0_a2 q0_n2 q0_c2, .slice q0_a3 q0_n3 q0_c3, .slice q0_a4 q0_n4 q0_c4, .slice q1_a0 q1_n0 q1_c0], rfl, ?_, ?_, ?_⟩
  · rw [HDEC.out]
    have h0 : (Ty.rd tSchema).rd Wf (w.heap.size ≤ ·) _ _ := rd_chg tSchema hcf (fun b hb hl => ⟨hb.2.1, hb.1⟩) HV0_2.out
    have h1 : (Ty.rd (.list tVersion)).rd Wf (w.heap.size ≤ ·) _ _ := rd_chg (.list tVersion) hcf (fun b hb hl => ⟨hb.2.1, hb.1⟩) HV1_2.out
    exact ⟨_, _, rfl, h0, h1⟩
  · rw [HDEC.out]; exact HR2.out.keep (hcf.more (fun b _ e => by have := HLK.out; omega))
  · exact (HC2.out.trans (hcf.more (fun b _ e => .inr (by omega)))).more (fun b hb e => e.elim id (fun e => by omega))

theorem info_read_Table : (Tryz.prog.info? 72).map (fun i => (i.zero, i.size, i.bytes)) = some (some ((.agg #[.string ⟨#[]⟩, .slice none 0 0, .slice none 0 0, .slice none 0 0, .slice none 0 0, .slice none 0 0])), 6, 136) := by kernel_rfl

set_option maxRecDepth 100000 in
set_option maxHeartbeats 4000000 in
theorem read_Table : ReadC 27 28 tTable := by
  intro w rb s h hmod
  obtain ⟨i0, hi0, hz0, hz1, hz2⟩ := info_parts info_read_Table
  obtain ⟨n, s1, hn⟩ : ∃ n s', dsize s = (n, s') := ⟨_, _, rfl⟩
  have hs := cd_size h
  rw [hn] at hs
  obtain ⟨hm1, hm2⟩ := hmod
  rw [hn] at hm1 hm2
  replace hm1 : n ≤ 1073741824 := hm1
  obtain ⟨L, S', hLS⟩ : ∃ L S', dmany (dec tTable) n s1 = (L, S') := ⟨_, _, rfl⟩
  have HDEC := Lib.hid (show dec (.list tTable) s = (L, S') from by show dmany (dec tTable) (dsize s).1 (dsize s).2 = _; rw [hn]; exact hLS)
  have HSZ := Lib.hid hs
  have HM := Lib.hid hm2
  have HM1 := Lib.hid hm1
  have HLS := Lib.hid hLS
  have HLT := Lib.hid h.lt
  have hn0 : 0 ≤ (n : Int) ∧ (n : Int) ≤ 1073741824 := by omega
  clear h hs hm1 hm2 hn hLS
  go_enter Tryz.func27, Tryz.ntmps27
  go_wp2_with fail
  refine HSZ.out.mono ?_
  rintro e w1 ⟨rfl, hr, hc⟩
  have HR1 := Lib.hid (show Rdr w1 rb s1 from hr)
  have HC1 := Lib.hid hc
  clear hr hc
  go_wp2
  go_loopg [5, 6] n (fun gk t5 t6 wr => ∃ (k : Nat) (sc : St) (l : List (Ty.T tTable)) (xs : List Value), gk = k ∧ t6 = .int .i64 (k : Int) ∧ Rdr wr rb sc ∧ Rows tTable 72 6 w.heap.size wr t5 l xs ∧ ModMany (Mod tTable) (dec tTable) k sc ∧ l.length + k ≤ n ∧ l ++ (dmany (dec tTable) k sc).1 = L ∧ (dmany (dec tTable) k sc).2 = S' ∧ Chg (fun b => b = rb ∨ w.heap.size ≤ b) w wr)
  case atStart =>
    exact ⟨n, s1, [], [], rfl, rfl, HR1.out, ⟨World.ownsRow_nil _ _ _ _, rarr_nil _ _ _⟩, HM.out, by simp, by rw [HLS.out]; rfl, by rw [HLS.out], HC1.out.more (fun b _ e => .inl e)⟩
  case round =>
    obtain ⟨k, sc, l, xs, rfl, rfl, hr, hrow, hm, hle, hL, hS, hc⟩ := hrel
    have HR := Lib.hid hr
    have HROW := Lib.hid hrow
    have HMM := Lib.hid hm
    have HLE := Lib.hid hle
    have HL := Lib.hid hL
    have HS := Lib.hid hS
    have HC := Lib.hid hc
    have hk0 : 0 ≤ (gk : Int) ∧ (gk : Int) ≤ 1073741824 := by have := HM1.out; omega
    clear hr hrow hm hle hL hS hc
    by_cases hk : gk = 0
    · subst hk
      have HLL := Lib.hid (show l = L from by have := HL.out; simpa [dmany] using this)
      have HSS := Lib.hid (show Rdr wr rb S' from by have := HS.out; rw [← this]; exact HR.out)
      have HFIN := Lib.hid (show (Ty.rd (.list tTable)).rd wr (w.heap.size ≤ ·) [_] L from by
        have := rd_own HROW.out.row (Rd.more _ (fun b hb => hb.1) HROW.out.arr) (F := (w.heap.size ≤ ·)) (fun b hb _ => hb)
        rw [HLL.out] at this
        exact this)
      go_wp2
      go_ret
      refine ⟨[_], rfl, ?_, ?_, HC.out.more (fun b hb e => e.elim id (fun e => by omega))⟩
      · rw [HDEC.out]; exact HFIN.out
      · rw [HDEC.out]; exact HSS.out
    · have hd1 : decide ((0 : Int) < (gk : Int)) = true := decide_eq_true (by omega)
      cases sc with
      | error e =>
        obtain ⟨c0, c1, he⟩ := HR.out.bad e rfl
        have g0 : (e == 0) = false := by rcases he with rfl | rfl <;> rfl
        have HLL := Lib.hid (show l = L from by have := HL.out; rw [dmany_error] at this; simpa using this)
        have HSS := Lib.hid (show Rdr wr rb S' from by have := HS.out; rw [dmany_error] at this; rw [← this]; exact HR.out)
        clear he
        have HFIN := Lib.hid (show (Ty.rd (.list tTable)).rd wr (w.heap.size ≤ ·) [_] L from by
          have := rd_own HROW.out.row (Rd.more _ (fun b hb => hb.1) HROW.out.arr) (F := (w.heap.size ≤ ·)) (fun b hb _ => hb)
          rw [HLL.out] at this
          exact this)
        go_wp2
        go_ret
        refine ⟨[_], rfl, ?_, ?_, HC.out.more (fun b hb e => e.elim id (fun e => by omega))⟩
        · rw [HDEC.out]; exact HFIN.out
        · rw [HDEC.out]; exact HSS.out
      | ok r =>
        obtain ⟨v, c0, c1, -, -⟩ := HR.out.ok r rfl
        obtain ⟨k', rfl⟩ : ∃ k', gk = k' + 1 := ⟨gk - 1, by omega⟩
        obtain ⟨x, s2, hd⟩ : ∃ x s', dec tTable (.ok r) = (x, s') := ⟨_, _, rfl⟩
        have HD := Lib.hid hd
        have HL2 := Lib.hid (show (l ++ [x]) ++ (dmany (dec tTable) k' s2).1 = L ∧ (dmany (dec tTable) k' s2).2 = S' from by
          have h1 := HL.out; have h2 := HS.out
          rw [dmany] at h1 h2
          simp only [hd] at h1 h2
          exact ⟨by simpa using h1, h2⟩)
        have HM2 := Lib.hid (show Mod tTable (.ok r) ∧ ModMany (Mod tTable) (dec tTable) k' s2 from by
          have h1 := HMM.out
          rw [ModMany] at h1
          simp only [hd] at h1
          exact h1)
        clear hd
        go_wp2_with fail
        refine (get_Table wr rb (.ok r) HR.out HM2.out.1).mono ?_
        rintro e w2 ⟨cs, rfl, hr, hs, hc⟩
        rw [HD.out] at hr hs
        dsimp only at hr hs
        obtain ⟨q_0, q_a1, q_n1, q_c1, q_a2, q_n2, q_c2, q_a3, q_n3, q_c3, q_a4, q_n4, q_c4, q_a5, q_n5, q_c5, rfl⟩ := shape_Table hr
        have hg : goV [.string q_0, .slice q_a1 q_n1 q_c1, .slice q_a2 q_n2 q_c2, .slice q_a3 q_n3 q_c3, .slice q_a4 q_n4 q_c4, .slice q_a5 q_n5 q_c5] = .agg #[.string q_0, .slice q_a1 q_n1 q_c1, .slice q_a2 q_n2 q_c2, .slice q_a3 q_n3 q_c3, .slice q_a4 q_n4 q_c4, .slice q_a5 q_n5 q_c5] := rfl
        rw [hg]
        have HX := Lib.hid hr
        have HR2 := Lib.hid hs
        have HC2 := Lib.hid hc
        have HB3 := Lib.hid (show Below w2.heap.size w2 (w2.alloc (.cells #[.string q_0, .slice q_a1 q_n1 q_c1, .slice q_a2 q_n2 q_c2, .slice q_a3 q_n3 q_c3, .slice q_a4 q_n4 q_c4, .slice q_a5 q_n5 q_c5] 72)) from (Below.refl _ _).alloc (Nat.le_refl _) _)
        have HROW2 := Lib.hid (show (w2.alloc (.cells #[.string q_0, .slice q_a1 q_n1 q_c1, .slice q_a2 q_n2 q_c2, .slice q_a3 q_n3 q_c3, .slice q_a4 q_n4 q_c4, .slice q_a5 q_n5 q_c5] 72)).ownsRow w.heap.size 72 6 _ l.length xs from ownk_chg (ownk_chg HROW.out.row hc (fun b e hb => by have := (ownk_ge HROW.out.row b e).1; have := HLT.out; omega)) (F := fun _ => False) (Chg.of_below HB3.out) (fun _ _ e => e))
        have HBS := Lib.hid (show w.heap.size ≤ (w2.alloc (.cells #[.string q_0, .slice q_a1 q_n1 q_c1, .slice q_a2 q_n2 q_c2, .slice q_a3 q_n3 q_c3, .slice q_a4 q_n4 q_c4, .slice q_a5 q_n5 q_c5] 72)).heap.size from by have := HC.out.size; have := HC2.out.size; simp; omega)
        clear hg hr hs hc
        go_wp2_with (at_builtin; refine wpList_append_o rfl _ _ 25 rfl w.heap.size 72 i0 _ 6 136 Tryz.underlying25 hi0 hz0 hz1 hz2 rfl (by decide) _ l.length xs rfl HROW2.out _ 1 [.string q_0, .slice q_a1 q_n1 q_c1, .slice q_a2 q_n2 q_c2, .slice q_a3 q_n3 q_c3, .slice q_a4 q_n4 q_c4, .slice q_a5 q_n5 q_c5] rfl (sl_cells1 w2 _ _ rfl) (fun _ _ h => by cases h) (by simp [Value.oneCell']) (by have := HLE.out; have := HM1.out; unfold maxLen; omega) (by have := HLE.out; have := HM1.out; omega) HBS.out ?_)
        intro v' w4 h1 h2 h3
        have HROWS := Lib.hid (HROW.out.snoc HLT.out HC.out.size HC2.out HX.out HB3.out h1 h2 (by rw [World.size_alloc]; exact h3))
        have h24 := Chg.grown (F := fun b => w.heap.size ≤ b) h2 (fun b e => (ownk_ge HROW.out.row b e).1)
        have HR4 := Lib.hid ((HR2.out.below HB3.out).keep (h24.more (fun b _ e => by have := HLT.out; omega)))
        have HC4 := Lib.hid (show Chg (fun b => b = rb ∨ w.heap.size ≤ b) w w4 from ((HC.out.trans (HC2.out.more (fun b _ e => .inl e))).trans (Chg.of_below HB3.out)).trans (h24.more (fun b _ e => .inr e)))
        clear h1 h2 h3 h24
        go_wp2
        go_roundg k'
        case rel => exact ⟨k', s2, l ++ [x], _, rfl, by go_num, HR4.out, HROWS.out, HM2.out.2, by have := HLE.out; simp; omega, HL2.out.1, HL2.out.2, HC4.out⟩
        case measure => omega

set_option maxRecDepth 100000 in
set_option maxHeartbeats 4000000 in
theorem get_Citation : GetC 32 tCitation := by
  intro w rb s h hmod
  obtain ⟨W0, hW0⟩ : ∃ W0, W0 = w.alloc (.cells #[.int .i64 0, .int .i64 0, .int .i64 0, .int .i64 0, .string ⟨#[]⟩, .slice none 0 0] 79) := ⟨_, rfl⟩
  have hb0 : Below w.heap.size w W0 := by rw [hW0]; exact (Below.refl _ _).alloc (Nat.le_refl _) _
  have HLT := Lib.hid (show rb < w.heap.size ∧ W0.heap.size = w.heap.size + 1 from And.intro h.lt (by rw [hW0]; simp))
  have HK0 := Lib.hid (show Blk W0 w.heap.size [.int .i64 0, .int .i64 0, .int .i64 0, .int .i64 0, .string ⟨#[]⟩, .slice none 0 0] from by rw [hW0]; exact Blk.new w _ _)
  have HR0 := Lib.hid (h.below hb0)
  have HC0 := Lib.hid (show Chg (fun b => b = rb ∨ w.heap.size ≤ b) w W0 from Chg.of_below hb0)
  have HW0 := Lib.hid hW0
  obtain ⟨s0, hs0⟩ : ∃ s0, s0 = s := ⟨_, rfl⟩
  rw [← hs0] at HR0
  obtain ⟨x0, s1, hd0⟩ : ∃ x s', dec .num s0 = (x, s') := ⟨_, _, rfl⟩
  obtain ⟨x1, s2, hd1⟩ : ∃ x s', dec tRequest s1 = (x, s') := ⟨_, _, rfl⟩
  obtain ⟨x2, s3, hd2⟩ : ∃ x s', dec (.list tRow) s2 = (x, s') := ⟨_, _, rfl⟩
  have HDEC := Lib.hid (show dec tCitation s = ((x0, (x1, x2)), s3) from by
    rw [← hs0]
    show dec (.pair .num (.pair tRequest (.list tRow))) s0 = _
    simp only [dec_pair, hd0, hd1, hd2])
  rw [← hs0] at hmod
  obtain ⟨hm0, hm1, hm2⟩ := hmod
  simp only [hd0] at hm1
  simp only [hd0, hd1] at hm2
  have HM0 := Lib.hid hm0
  have HM1 := Lib.hid hm1
  have HM2 := Lib.hid hm2
  have HD0 := Lib.hid hd0
  have HD1 := Lib.hid hd1
  have HD2 := Lib.hid hd2
  clear hm0 hm1 hm2 h hb0 hW0 hs0 hd0 hd1 hd2
  go_enter Tryz.func32, Tryz.ntmps32
  go_wp2_with fail
  rw [← HW0.out]
  refine (get_num W0 rb s0 HR0.out HM0.out).mono ?_
  rintro e w1 ⟨cs, rfl, hr, hs, hc⟩
  rw [HD0.out] at hr hs
  dsimp only at hr hs
  obtain ⟨q0_0, rfl⟩ : ∃ z : Int, cs = [.int .i64 z] := ⟨_, hr.1⟩
  have hg : goV [.int .i64 q0_0] = .int .i64 q0_0 := rfl
  rw [hg]
  clear hg
  obtain ⟨k1, hk1⟩ : ∃ k1, k1 = w1.heap.size := ⟨_, rfl⟩
  obtain ⟨X1, hX1⟩ : ∃ X1, X1 = w1.alloc (.cells #[.int .i64 q0_0, .int .i64 0, .int .i64 0, .int .i64 0, .string ⟨#[]⟩, .slice none 0 0] 79) := ⟨_, rfl⟩
  have hbx : Below w1.heap.size w1 X1 := by rw [hX1]; exact (Below.refl _ _).alloc (Nat.le_refl _) _
  have HLK := Lib.hid (show rb < w.heap.size ∧ w.heap.size < k1 ∧ k1 < X1.heap.size from by
    have h1 := HLT.out; have h2 := hc.size; have h3 : X1.heap.size = w1.heap.size + 1 := by rw [hX1]; simp
    omega)
  have HB1 := Lib.hid (show Blk X1 k1 [.int .i64 q0_0, .int .i64 0, .int .i64 0, .int .i64 0, .string ⟨#[]⟩, .slice none 0 0] from by rw [hX1, hk1]; exact Blk.new w1 _ _)
  have HR1 := Lib.hid (hs.below hbx)
  have HC1 := Lib.hid (show Chg (fun b => b = rb ∨ w.heap.size ≤ b) w X1 from (HC0.out.trans (hc.more (fun b _ e => .inl e))).trans (Chg.of_below hbx))
  have HZ1 := Lib.hid (show Blk X1 w.heap.size [.int .i64 0, .int .i64 0, .int .i64 0, .int .i64 0, .string ⟨#[]⟩, .slice none 0 0] from (HK0.out.chg hc (by have := HLT.out.1; omega)).chg (F := fun _ => False) (Chg.of_below hbx) id)
  have HV0_1 := Lib.hid (show (Ty.rd .num).rd X1 (fun b => w.heap.size ≤ b ∧ b ≠ w.heap.size ∧ b ≠ k1 ∧ b ≠ rb) _ _ from rd_chg .num (K := fun _ => False) (Chg.of_below hbx) (fun b hb hl => ⟨id, by have h1 := HLT.out; omega, by have h1 := HLT.out; omega, by omega, by have h1 := HLT.out; omega⟩) hr)
  have HX1 := Lib.hid hX1
  have HKK := Lib.hid hk1
  clear hr hs hc hX1 hbx hk1
  go_wp2_with fail
  rw [← HKK.out, ← HX1.out]
  refine (get_Request X1 rb s1 HR1.out HM1.out).mono ?_
  rintro e w2 ⟨cs, rfl, hr, hs, hc⟩
  rw [HD1.out] at hr hs
  dsimp only at hr hs
  obtain ⟨q1_0, q1_1, q1_2, q1_3, rfl⟩ := shape_Request hr
  have hg : goV [.int .i64 q1_0, .int .i64 q1_1, .int .i64 q1_2, .string q1_3] = .agg #[.int .i64 q1_0, .int .i64 q1_1, .int .i64 q1_2, .string q1_3] := rfl
  rw [hg]
  clear hg
  have hb' := HB1.out.chg hc (by have := HLK.out; omega)
  have t0 := hb'.cell 1 _ rfl
  have z0 := hb'.free 1
  have t1 := hb'.cell 2 _ rfl
  have z1 := hb'.free 2
  have t2 := hb'.cell 3 _ rfl
  have z2 := hb'.free 3
  have t3 := hb'.cell 4 _ rfl
  have z3 := hb'.free 4
  obtain ⟨X2, hX⟩ : ∃ X, X = ((((w2.setCell ⟨k1, 1, none⟩ (.int .i64 q1_0)).setCell ⟨k1, 2, none⟩ (.int .i64 q1_1)).setCell ⟨k1, 3, none⟩ (.int .i64 q1_2)).setCell ⟨k1, 4, none⟩ (.string q1_3)) := ⟨_, rfl⟩
  have hcx : Chg (fun b => b = k1) w2 X2 := by
    have g : ∀ (u : World) (j : Nat) (v : Value), Chg (fun b => b = k1) u (u.setCell ⟨k1, j, none⟩ v) := fun u j v => Chg.setCell _ _ rfl
    rw [hX]
    exact (Chg.trans (Chg.trans (Chg.trans (g _ _ _) (g _ _ _)) (g _ _ _)) (g _ _ _))
  have HB2 := Lib.hid (show Blk X2 k1 [.int .i64 q0_0, .int .i64 q1_0, .int .i64 q1_1, .int .i64 q1_2, .string q1_3, .slice none 0 0] from by rw [hX]; exact ((((hb'.set 1 (.int .i64 q1_0) (by simp)).set 2 (.int .i64 q1_1) (by simp)).set 3 (.int .i64 q1_2) (by simp)).set 4 (.string q1_3) (by simp)))
  have HR2 := Lib.hid (hs.keep (hcx.more (fun b _ e => by have := HLK.out; omega)))
  have hstep : Chg (fun b => b = rb ∨ b = k1) X1 X2 := (hc.more (fun b _ e => .inl e)).trans (hcx.more (fun b _ e => .inr e))
  have HC2 := Lib.hid (show Chg (fun b => b = rb ∨ w.heap.size ≤ b) w X2 from HC1.out.trans (hstep.more (fun b _ e => e.elim .inl (fun e => .inr (by have := HLK.out; omega)))))
  have HZ2 := Lib.hid (show Blk X2 w.heap.size [.int .i64 0, .int .i64 0, .int .i64 0, .int .i64 0, .string ⟨#[]⟩, .slice none 0 0] from HZ1.out.chg hstep (by have := HLK.out; omega))
  have HV0_2 := Lib.hid (show (Ty.rd .num).rd X2 (fun b => w.heap.size ≤ b ∧ b ≠ w.heap.size ∧ b ≠ k1 ∧ b ≠ rb) _ _ from rd_chg .num hstep (fun b hb hl => ⟨fun e => by have := HLK.out; omega, hb⟩) HV0_1.out)
  have HV1_2 := Lib.hid (show (Ty.rd tRequest).rd X2 (fun b => w.heap.size ≤ b ∧ b ≠ w.heap.size ∧ b ≠ k1 ∧ b ≠ rb) _ _ from rd_chg tRequest hcx (fun b hb hl => by have h1 := HLK.out; have h2 := HC1.out.size; have h3 := HB1.out.lt; have hb : X1.heap.size ≤ b := hb; exact ⟨by omega, by omega, by omega, by omega, by omega⟩) hr)
  have HX2 := Lib.hid hX
  clear hr hs hc hb' hcx hstep hX 
  go_wp2_with fail
  rw [← HX2.out]
  refine (read_Row X2 rb s2 HR2.out HM2.out).mono ?_
  rintro e w3 ⟨cs, rfl, hr, hs, hc⟩
  rw [HD2.out] at hr hs
  dsimp only at hr hs
  obtain ⟨q2_a0, q2_n0, q2_c0, rfl⟩ : ∃ a n c, cs = [.slice a n c] := by obtain ⟨a, n, c, e, _⟩ := id hr; exact ⟨a, n, c, e⟩
  have hg : goV [.slice q2_a0 q2_n0 q2_c0] = .slice q2_a0 q2_n0 q2_c0 := rfl
  rw [hg]
  clear hg
  have hb' := HB2.out.chg hc (by have := HLK.out; omega)
  have t0 := hb'.cell 5 _ rfl
  have z0 := hb'.free 5
  obtain ⟨X3, hX⟩ : ∃ X, X = (w3.setCell ⟨k1, 5, none⟩ (.slice q2_a0 q2_n0 q2_c0)) := ⟨_, rfl⟩
  have hcx : Chg (fun b => b = k1) w3 X3 := by
    have g : ∀ (u : World) (j : Nat) (v : Value), Chg (fun b => b = k1) u (u.setCell ⟨k1, j, none⟩ v) := fun u j v => Chg.setCell _ _ rfl
    rw [hX]
    exact (g _ _ _)
  have HB3 := Lib.hid (show Blk X3 k1 [.int .i64 q0_0, .int .i64 q1_0, .int .i64 q1_1, .int .i64 q1_2, .string q1_3, .slice q2_a0 q2_n0 q2_c0] from by rw [hX]; exact (hb'.set 5 (.slice q2_a0 q2_n0 q2_c0) (by simp)))
  have HR3 := Lib.hid (hs.keep (hcx.more (fun b _ e => by have := HLK.out; omega)))
  have hstep : Chg (fun b => b = rb ∨ b = k1) X2 X3 := (hc.more (fun b _ e => .inl e)).trans (hcx.more (fun b _ e => .inr e))
  have HC3 := Lib.hid (show Chg (fun b => b = rb ∨ w.heap.size ≤ b) w X3 from HC2.out.trans (hstep.more (fun b _ e => e.elim .inl (fun e => .inr (by have := HLK.out; omega)))))
  have HZ3 := Lib.hid (show Blk X3 w.heap.size [.int .i64 0, .int .i64 0, .int .i64 0, .int .i64 0, .string ⟨#[]⟩, .slice none 0 0] from HZ2.out.chg hstep (by have := HLK.out; omega))
  have HV0_3 := Lib.hid (show (Ty.rd .num).rd X3 (fun b => w.heap.size ≤ b ∧ b ≠ w.heap.size ∧ b ≠ k1 ∧ b ≠ rb) _ _ from rd_chg .num hstep (fun b hb hl => ⟨fun e => by have := HLK.out; omega, hb⟩) HV0_2.out)
  have HV1_3 := Lib.hid (show (Ty.rd tRequest).rd X3 (fun b => w.heap.size ≤ b ∧ b ≠ w.heap.size ∧ b ≠ k1 ∧ b ≠ rb) _ _ from rd_chg tRequest hstep (fun b hb hl => ⟨fun e => by have := HLK.out; omega, hb⟩) HV1_2.out)
  have HV2_3 := Lib.hid (show (Ty.rd (.list tRow)).rd X3 (fun b => w.heap.size ≤ b ∧ b ≠ w.heap.size ∧ b ≠ k1 ∧ b ≠ rb) _ _ from rd_chg (.list tRow) hcx (fun b hb hl => by have h1 := HLK.out; have h2 := HC2.out.size; have h3 := HB2.out.lt; have hb : X2.heap.size ≤ b := hb; exact ⟨by omega, by omega, by omega, by omega, by omega⟩) hr)
  have HX3 := Lib.hid hX
  clear hr hs hc hb' hcx hstep hX 
  go_upto_region 4 with fail
  rw [← HX3.out]
  have q0 := HB3.out.cell 0 _ rfl
  have zc0 := HZ3.out.cell 0 _ rfl
  have zf0 := HZ3.out.free 0
  have q1 := HB3.out.cell 1 _ rfl
  have zc1 := HZ3.out.cell 1 _ rfl
  have zf1 := HZ3.out.free 1
  have q2 := HB3.out.cell 2 _ rfl
  have zc2 := HZ3.out.cell 2 _ rfl
  have zf2 := HZ3.out.free 2
  have q3 := HB3.out.cell 3 _ rfl
  have zc3 := HZ3.out.cell 3 _ rfl
  have zf3 := HZ3.out.free 3
  have q4 := HB3.out.cell 4 _ rfl
  have zc4 := HZ3.out.cell 4 _ rfl
  have zf4 := HZ3.out.free 4
  have q5 := HB3.out.cell 5 _ rfl
  have zc5 := HZ3.out.cell 5 _ rfl
  have zf5 := HZ3.out.free 5
  go_wp2
  obtain ⟨Wf, hWf⟩ : ∃ Wf, Wf = ((((((X3.setCell ⟨w.heap.size, 0, none⟩ (.int .i64 q0_0)).setCell ⟨w.heap.size, 1, none⟩ (.int .i64 q1_0)).setCell ⟨w.heap.size, 2, none⟩ (.int .i64 q1_1)).setCell ⟨w.heap.size, 3, none⟩ (.int .i64 q1_2)).setCell ⟨w.heap.size, 4, none⟩ (.string q1_3)).setCell ⟨w.heap.size, 5, none⟩ (.slice q2_a0 q2_n0 q2_c0)) := ⟨_, rfl⟩
  rw [← hWf]
  have hcf : Chg (fun b => b = w.heap.size) X3 Wf := by
    have g : ∀ (u : World) (j : Nat) (v : Value), Chg (fun b => b = w.heap.size) u (u.setCell ⟨w.heap.size, j, none⟩ v) := fun u j v => Chg.setCell _ _ rfl
    rw [hWf]
    exact (Chg.trans (Chg.trans (Chg.trans (Chg.trans (Chg.trans (g _ _ _) (g _ _ _)) (g _ _ _)) (g _ _ _)) (g _ _ _)) (g _ _ _))
  have HBF := Lib.hid (show Blk Wf w.heap.size [.int .i64 q0_0, .int .i64 q1_0, .int .i64 q1_1, .int .i64 q1_2, .string q1_3, .slice q2_a0 q2_n0 q2_c0] from by rw [hWf]; exact ((((((HZ3.out.set 0 (.int .i64 q0_0) (by simp)).set 1 (.int .i64 q1_0) (by simp)).set 2 (.int .i64 q1_1) (by simp)).set 3 (.int .i64 q1_2) (by simp)).set 4 (.string q1_3) (by simp)).set 5 (.slice q2_a0 q2_n0 q2_c0) (by simp)))
  clear hWf q0 zc0 zf0 q1 zc1 zf1 q2 zc2 zf2 q3 zc3 zf3 q4 zc4 zf4 q5 zc5 zf5
  have sc0 := HBF.out.cell 0 _ rfl
  have sc1 := HBF.out.cell 1 _ rfl
  have sc2 := HBF.out.cell 2 _ rfl
  have sc3 := HBF.out.cell 3 _ rfl
  have sc4 := HBF.out.cell 4 _ rfl
  have sc5 := HBF.out.cell 5 _ rfl
  refine bodyPost_ret (v := .agg #[.int .i64 q0_0, .int .i64 q1_0, .int .i64 q1_1, .int .i64 q1_2, .string q1_3, .slice q2_a0 q2_n0 q2_c0]) (by simp [sc0, sc1, sc2, sc3, sc4, sc5, results, Tryz.results32, go_sem]) rfl ?_
  refine ⟨[.int .i64 q0_0, .int .i64 q1_0, .int .i64 q1_1, .int .i64 q1_2, .string q1_3, .slice q2_a0 q2_n0 q2_c0], rfl, ?_, ?_, ?_⟩
  · rw [HDEC.out]
    have h0 : (Ty.rd .num).rd Wf (w.heap.size ≤ ·) _ _ := rd_chg .num hcf (fun b hb hl => ⟨hb.2.1, hb.1⟩) HV0_3.out
    have h1 : (Ty.rd tRequest).rd Wf (w.heap.size ≤ ·) _ _ := rd_chg tRequest hcf (fun b hb hl => ⟨hb.2.1, hb.1⟩) HV1_3.out
    have h2 : (Ty.rd (.list tRow)).rd Wf (w.heap.size ≤ ·) _ _ := rd_chg (.list tRow) hcf (fun b hb hl => ⟨hb.2.1, hb.1⟩) HV2_3.out
    exact ⟨_, _, rfl, h0, _, _, rfl, h1, h2⟩
  · rw [HDEC.out]; exact HR3.out.keep (hcf.more (fun b _ e => by have := HLK.out; omega))
  · exact (HC3.out.trans (hcf.more (fun b _ e => .inr (by omega)))).more (fun b hb e => e.elim id (fun e => by omega))

theorem info_read_Citation : (Tryz.prog.info? 79).map (fun i => (i.zero, i.size, i.bytes)) = some (some ((.agg #[.int .i64 0, .int .i64 0, .int .i64 0, .int .i64 0, .string ⟨#[]⟩, .slice none 0 0])), 6, 72) := by kernel_rfl

set_option maxRecDepth 100000 in
set_option maxHeartbeats 4000000 in
theorem read_Citation : ReadC 31 32 tCitation := by
  intro w rb s h hmod
  obtain ⟨i0, hi0, hz0, hz1, hz2⟩ := info_parts info_read_Citation
  obtain ⟨n, s1, hn⟩ : ∃ n s', dsize s = (n, s') := ⟨_, _, rfl⟩
  have hs := cd_size h
  rw [hn] at hs
  obtain ⟨hm1, hm2⟩ := hmod
  rw [hn] at hm1 hm2
  replace hm1 : n ≤ 1073741824 := hm1
  obtain ⟨L, S', hLS⟩ : ∃ L S', dmany (dec tCitation) n s1 = (L, S') := ⟨_, _, rfl⟩
  have HDEC := Lib.hid (show dec (.list tCitation) s = (L, S') from by show dmany (dec tCitation) (dsize s).1 (dsize s).2 = _; rw [hn]; exact hLS)
  have HSZ := Lib.hid hs
  have HM := Lib.hid hm2
  have HM1 := Lib.hid hm1
  have HLS := Lib.hid hLS
  have HLT := Lib.hid h.lt
  have hn0 : 0 ≤ (n : Int) ∧ (n : Int) ≤ 1073741824 := by omega
  clear h hs hm1 hm2 hn hLS
  go_enter Tryz.func31, Tryz.ntmps31
  go_wp2_with fail
  refine HSZ.out.mono ?_
  rintro e w1 ⟨rfl, hr, hc⟩
  have HR1 := Lib.hid (show Rdr w1 rb s1 from hr)
  have HC1 := Lib.hid hc
  clear hr hc
  go_wp2
  go_loopg [5, 6] n (fun gk t5 t6 wr => ∃ (k : Nat) (sc : St) (l : List (Ty.T tCitation)) (xs : List Value), gk = k ∧ t6 = .int .i64 (k : Int) ∧ Rdr wr rb sc ∧ Rows tCitation 79 6 w.heap.size wr t5 l xs ∧ ModMany (Mod tCitation) (dec tCitation) k sc ∧ l.length + k ≤ n ∧ l ++ (dmany (dec tCitation) k sc).1 = L ∧ (dmany (dec tCitation) k sc).2 = S' ∧ Chg (fun b => b = rb ∨ w.heap.size ≤ b) w wr)
  case atStart =>
    exact ⟨n, s1, [], [], rfl, rfl, HR1.out, ⟨World.ownsRow_nil _ _ _ _, rarr_nil _ _ _⟩, HM.out, by simp, by rw [HLS.out]; rfl, by rw [HLS.out], HC1.out.more (fun b _ e => .inl e)⟩
  case round =>
    obtain ⟨k, sc, l, xs, rfl, rfl, hr, hrow, hm, hle, hL, hS, hc⟩ := hrel
    have HR := Lib.hid hr
    have HROW := Lib.hid hrow
    have HMM := Lib.hid hm
    have HLE := Lib.hid hle
    have HL := Lib.hid hL
    have HS := Lib.hid hS
    have HC := Lib.hid hc
    have hk0 : 0 ≤ (gk : Int) ∧ (gk : Int) ≤ 1073741824 := by have := HM1.out; omega
    clear hr hrow hm hle hL hS hc
    by_cases hk : gk = 0
    · subst hk
      have HLL := Lib.hid (show l = L from by have := HL.out; simpa [dmany] using this)
      have HSS := Lib.hid (show Rdr wr rb S' from by have := HS.out; rw [← this]; exact HR.out)
      have HFIN := Lib.hid (show (Ty.rd (.list tCitation)).rd wr (w.heap.size ≤ ·) [_] L from by
        have := rd_own HROW.out.row (Rd.more _ (fun b hb => hb.1) HROW.out.arr) (F := (w.heap.size ≤ ·)) (fun b hb _ => hb)
        rw [HLL.out] at this
        exact this)
      go_wp2
      go_ret
      refine ⟨[_], rfl, ?_, ?_, HC.out.more (fun b hb e => e.elim id (fun e => by omega))⟩
      · rw [HDEC.out]; exact HFIN.out
      · rw [HDEC.out]; exact HSS.out
    · have hd1 : decide ((0 : Int) < (gk : Int)) = true := decide_eq_true (by omega)
      cases sc with
      | error e =>
        obtain ⟨c0, c1, he⟩ := HR.out.bad e rfl
        have g0 : (e == 0) = false := by rcases he with rfl | rfl <;> rfl
        have HLL := Lib.hid (show l = L from by have := HL.out; rw [dmany_error] at this; simpa using this)
        have HSS := Lib.hid (show Rdr wr rb S' from by have := HS.out; rw [dmany_error] at this; rw [← this]; exact HR.out)
        clear he
        have HFIN := Lib.hid (show (Ty.rd (.list tCitation)).rd wr (w.heap.size ≤ ·) [_] L from by
          have := rd_own HROW.out.row (Rd.more _ (fun b hb => hb.1) HROW.out.arr) (F := (w.heap.size ≤ ·)) (fun b hb _ => hb)
          rw [HLL.out] at this
          exact this)
        go_wp2
        go_ret
        refine ⟨[_], rfl, ?_, ?_, HC.out.more (fun b hb e => e.elim id (fun e => by omega))⟩
        · rw [HDEC.out]; exact HFIN.out
        · rw [HDEC.out]; exact HSS.out
      | ok r =>
        obtain ⟨v, c0, c1, -, -⟩ := HR.out.ok r rfl
        obtain ⟨k', rfl⟩ : ∃ k', gk = k' + 1 := ⟨gk - 1, by omega⟩
        obtain ⟨x, s2, hd⟩ : ∃ x s', dec tCitation (.ok r) = (x, s') := ⟨_, _, rfl⟩
        have HD := Lib.hid hd
        have HL2 := Lib.hid (show (l ++ [x]) ++ (dmany (dec tCitation) k' s2).1 = L ∧ (dmany (dec tCitation) k' s2).2 = S' from by
          have h1 := HL.out; have h2 := HS.out
          rw [dmany] at h1 h2
          simp only [hd] at h1 h2
          exact ⟨by simpa using h1, h2⟩)
        have HM2 := Lib.hid (show Mod tCitation (.ok r) ∧ ModMany (Mod tCitation) (dec tCitation) k' s2 from by
          have h1 := HMM.out
          rw [ModMany] at h1
          simp only [hd] at h1
          exact h1)
        clear hd
        go_wp2_with fail
        refine (get_Citation wr rb (.ok r) HR.out HM2.out.1).mono ?_
        rintro e w2 ⟨cs, rfl, hr, hs, hc⟩
        rw [HD.out] at hr hs
        dsimp only at hr hs
        obtain ⟨q_0, q_1, q_2, q_3, q_4, q_a5, q_n5, q_c5, rfl⟩ := shape_Citation hr
        have hg : goV [.int .i64 q_0, .int .i64 q_1, .int .i64 q_2, .int .i64 q_3, .string q_4, .slice q_a5 q_n5 q_c5] = .agg #[.int .i64 q_0, .int .i64 q_1, .int .i64 q_2, .int .i64 q_3, .string q_4, .slice q_a5 q_n5 q_c5] := rfl
        rw [hg]
        have HX := Lib.hid hr
        have HR2 := Lib.hid hs
        have HC2 := Lib.hid hc
        have HB3 := Lib.hid (show Below w2.heap.size w2 (w2.alloc (.cells #[.int .i64 q_0, .int .i64 q_1, .int .i64 q_2, .int .i64 q_3, .string q_4, .slice q_a5 q_n5 q_c5] 79)) from (Below.refl _ _).alloc (Nat.le_refl _) _)
        have HROW2 := Lib.hid (show (w2.alloc (.cells #[.int .i64 q_0, .int .i64 q_1, .int .i64 q_2, .int .i64 q_3, .string q_4, .slice q_a5 q_n5 q_c5] 79)).ownsRow w.heap.size 79 6 _ l.length xs from ownk_chg (ownk_chg HROW.out.row hc (fun b e hb => by have := (ownk_ge HROW.out.row b e).1; have := HLT.out; omega)) (F := fun _ => False) (Chg.of_below HB3.out) (fun _ _ e => e))
        have HBS := Lib.hid (show w.heap.size ≤ (w2.alloc (.cells #[.int .i64 q_0, .int .i64 q_1, .int .i64 q_2, .int .i64 q_3, .string q_4, .slice q_a5 q_n5 q_c5] 79)).heap.size from by have := HC.out.size; have := HC2.out.size; simp; omega)
        clear hg hr hs hc
        go_wp2_with (at_builtin; refine wpList_append_o rfl _ _ 27 rfl w.heap.size 79 i0 _ 6 72 Tryz.underlying27 hi0 hz0 hz1 hz2 rfl (by decide) _ l.length xs rfl HROW2.out _ 1 [.int .i64 q_0, .int .i64 q_1, .int .i64 q_2, .int .i64 q_3, .string q_4, .slice q_a5 q_n5 q_c5] rfl (sl_cells1 w2 _ _ rfl) (fun _ _ h => by cases h) (by simp [Value.oneCell']) (by have := HLE.out; have := HM1.out; unfold maxLen; omega) (by have := HLE.out; have := HM1.out; omega) HBS.out ?_)
        intro v' w4 h1 h2 h3
        have HROWS := Lib.hid (HROW.out.snoc HLT.out HC.out.size HC2.out HX.out HB3.out h1 h2 (by rw [World.size_alloc]; exact h3))
        have h24 := Chg.grown (F := fun b => w.heap.size ≤ b) h2 (fun b e => (ownk_ge HROW.out.row b e).1)
        have HR4 := Lib.hid ((HR2.out.below HB3.out).keep (h24.more (fun b _ e => by have := HLT.out; omega)))
        have HC4 := Lib.hid (show Chg (fun b => b = rb ∨ w.heap.size ≤ b) w w4 from ((HC.out.trans (HC2.out.more (fun b _ e => .inl e))).trans (Chg.of_below HB3.out)).trans (h24.more (fun b _ e => .inr e)))
        clear h1 h2 h3 h24
        go_wp2
        go_roundg k'
        case rel => exact ⟨k', s2, l ++ [x], _, rfl, by go_num, HR4.out, HROWS.out, HM2.out.2, by have := HLE.out; simp; omega, HL2.out.1, HL2.out.2, HC4.out⟩
        case measure => omega
end Go.Proofs.YtfppjpmflpaffaaGreat
