/-
  The program's decoder: commands, databases. Printed by gen_cd.py.
-/
import Derived.Test.YtfppjpmflpaffaaGreatCdI
namespace Go.Proofs.YtfppjpmflpaffaaGreat
open Go.RowKit
set_option linter.unusedVariables false
set_option linter.unusedSimpArgs false

set_option maxRecDepth 100000 in
set_option maxHeartbeats 4000000 in
theorem cd_DecodeCommand (w : World) (v : Value) (b : List UInt8) (hd : Dat w v b) (hmax : b.length ≤ maxLen) (hmod0 : Mod tCommand (.ok b)) (x : Ty.T tCommand) (sn : St) (hx : dec tCommand (.ok b) = (x, sn)) :
    Calls Tryz.prog 13 #[v] w fun e w' => ∃ cs : List Value, e = .returned (.tuple #[goV cs, .int .i64 (endE sn)]) ∧ (endE sn = 0 → (Ty.rd tCommand).rd w' (w.heap.size ≤ ·) cs x) ∧ (endE sn ≠ 0 → (Ty.rd tCommand).rd w' (w.heap.size ≤ ·) cs (zeroT tCommand)) ∧ Below w.heap.size w w' := by
  obtain ⟨va, vn, vc, rfl⟩ : ∃ a n c, v = .slice a n c := by obtain ⟨a, c, e⟩ := hd.len; exact ⟨a, _, c, e⟩
  obtain ⟨E, hE⟩ : ∃ E, E = endE sn := ⟨_, rfl⟩
  rw [← hE]
  have HEE := Lib.hid hE
  clear hE
  obtain ⟨s, hs⟩ : ∃ s : St, s = .ok b := ⟨_, rfl⟩
  rw [← hs] at hx
  have hmod : Mod tCommand s := by rw [hs]; exact hmod0
  obtain ⟨Wa, hWa⟩ : ∃ Wa, Wa = w.alloc (.cells #[.int .i64 0, .int .i64 0, .slice none 0 0, .int .i64 0, .int .i64 0, .int .i64 0, .string ⟨#[]⟩, .int .i64 0, .int .i64 0, .int .i64 0] 47) := ⟨_, rfl⟩
  obtain ⟨W0, hW0⟩ : ∃ W0, W0 = Wa.alloc (.cells #[.slice va vn vc, .int .i64 0] 83) := ⟨_, rfl⟩
  obtain ⟨rb, hrb⟩ : ∃ rb, rb = w.heap.size + 1 := ⟨_, rfl⟩
  have hza : Wa.heap.size = w.heap.size + 1 := by rw [hWa]; simp
  have hba : Below w.heap.size w Wa := by rw [hWa]; exact (Below.refl _ _).alloc (Nat.le_refl _) _
  have hb1 : Below Wa.heap.size Wa W0 := by rw [hW0]; exact (Below.refl _ _).alloc (Nat.le_refl _) _
  have hb0 : Below w.heap.size w W0 := hba.trans (hb1.mono hba.size)
  have HLT := Lib.hid (show rb = w.heap.size + 1 ∧ W0.heap.size = w.heap.size + 2 from ⟨hrb, by rw [hW0]; simp; omega⟩)
  have HK0 := Lib.hid (show Blk W0 w.heap.size [.int .i64 0, .int .i64 0, .slice none 0 0, .int .i64 0, .int .i64 0, .int .i64 0, .string ⟨#[]⟩, .int .i64 0, .int .i64 0, .int .i64 0] from Blk.chg (F := fun _ => False) (by rw [hWa]; exact Blk.new w _ _) (Chg.of_below hb1) id)
  have hbk : Blk W0 rb [.slice va vn vc, .int .i64 0] := by rw [hW0, show rb = Wa.heap.size by omega]; exact Blk.new Wa _ _
  have HR0 := Lib.hid (show Rdr W0 rb s from ⟨hbk.lt, hbk.free, fun r e => by
    rw [hs] at e
    cases e
    refine ⟨.slice va vn vc, hbk.cell 0 _ rfl, hbk.cell 1 _ rfl, (hd.keep hb0), fun y m c e hm => ?_⟩
    rcases hd.1.2 with ⟨h0, a', c', e'⟩ | ⟨g, o, c', e', _, hg, _⟩
    · rw [e] at e'; simp only [Value.slice.injEq] at e'; omega
    · rw [e] at e'; simp only [Value.slice.injEq, Option.some.injEq] at e'; rw [e'.1]; show g < rb; omega, fun e he => (by rw [hs] at he; cases he), fun r e => by rw [hs] at e; cases e; exact hmax⟩)
  have HWA := Lib.hid hWa
  have HRB := Lib.hid hrb
  have HMAIN := Lib.hid hx
  clear hs hmod0 hWa hrb hza hba hb1 hbk hd hmax hx
  have h := True.intro
  have HC0 := Lib.hid (show Chg (fun b => b = rb ∨ w.heap.size ≤ b) w W0 from Chg.of_below hb0)
  have HW0 := Lib.hid hW0
  obtain ⟨s0, hs0⟩ : ∃ s0, s0 = s := ⟨_, rfl⟩
  rw [← hs0] at HR0
  obtain ⟨x0, s1, hd0⟩ : ∃ x s', dec .num s0 = (x, s') := ⟨_, _, rfl⟩
  obtain ⟨x1, s2, hd1⟩ : ∃ x s', dec .num s1 = (x, s') := ⟨_, _, rfl⟩
  obtain ⟨x2, s3, hd2⟩ : ∃ x s', dec (.list tEdit) s2 = (x, s') := ⟨_, _, rfl⟩
  obtain ⟨x3, s4, hd3⟩ : ∃ x s', dec tRequest s3 = (x, s') := ⟨_, _, rfl⟩
  obtain ⟨x4, s5, hd4⟩ : ∃ x s', dec tHold s4 = (x, s') := ⟨_, _, rfl⟩
  have HDEC := Lib.hid (show dec tCommand s = ((x0, (x1, (x2, (x3, x4)))), s5) from by
    rw [← hs0]
    show dec (.pair .num (.pair .num (.pair (.list tEdit) (.pair tRequest tHold)))) s0 = _
    simp only [dec_pair, hd0, hd1, hd2, hd3, hd4])
  rw [← hs0] at hmod
  obtain ⟨hm0, hm1, hm2, hm3, hm4⟩ := hmod
  simp only [hd0] at hm1
  simp only [hd0, hd1] at hm2
  simp only [hd0, hd1, hd2] at hm3
  simp only [hd0, hd1, hd2, hd3] at hm4
  have HM0 := Lib.hid hm0
  have HM1 := Lib.hid hm1
  have HM2 := Lib.hid hm2
  have HM3 := Lib.hid hm3
  have HM4 := Lib.hid hm4
  have HD0 := Lib.hid hd0
  have HD1 := Lib.hid hd1
  have HD2 := Lib.hid hd2
  have HD3 := Lib.hid hd3
  have HD4 := Lib.hid hd4
  clear hm0 hm1 hm2 hm3 hm4 h hb0 hW0 hs0 hd0 hd1 hd2 hd3 hd4
  go_enter Tryz.func13, Tryz.ntmps13
  go_wp2_with fail
  rw [← HWA.out, ← HRB.out, ← HW0.out]
  refine (get_num W0 rb s0 HR0.out HM0.out).mono ?_
  rintro e w1 ⟨cs, rfl, hr, hs, hc⟩
  rw [HD0.out] at hr hs
  dsimp only at hr hs
  obtain ⟨q0_0, rfl⟩ : ∃ z : Int, cs = [.int .i64 z] := ⟨_, hr.1⟩
  have hg : goV [.int .i64 q0_0] = .int .i64 q0_0 := rfl
  rw [hg]
  clear hg
  obtain ⟨k1, hk1⟩ : ∃ k1, k1 = w1.heap.size := ⟨_, rfl⟩
  obtain ⟨X1, hX1⟩ : ∃ X1, X1 = w1.alloc (.cells #[.int .i64 q0_0, .int .i64 0, .slice none 0 0, .int .i64 0, .int .i64 0, .int .i64 0, .string ⟨#[]⟩, .int .i64 0, .int .i64 0, .int .i64 0] 47) := ⟨_, rfl⟩
  have hbx : Below w1.heap.size w1 X1 := by rw [hX1]; exact (Below.refl _ _).alloc (Nat.le_refl _) _
  have HLK := Lib.hid (show rb = w.heap.size + 1 ∧ rb < k1 ∧ k1 < X1.heap.size from by
    have h1 := HLT.out; have h2 := hc.size; have h3 : X1.heap.size = w1.heap.size + 1 := by rw [hX1]; simp
    omega)
  have HB1 := Lib.hid (show Blk X1 k1 [.int .i64 q0_0, .int .i64 0, .slice none 0 0, .int .i64 0, .int .i64 0, .int .i64 0, .string ⟨#[]⟩, .int .i64 0, .int .i64 0, .int .i64 0] from by rw [hX1, hk1]; exact Blk.new w1 _ _)
  have HR1 := Lib.hid (hs.below hbx)
  have HC1 := Lib.hid (show Chg (fun b => b = rb ∨ w.heap.size ≤ b) w X1 from (HC0.out.trans (hc.more (fun b _ e => .inl e))).trans (Chg.of_below hbx))
  have HZ1 := Lib.hid (show Blk X1 w.heap.size [.int .i64 0, .int .i64 0, .slice none 0 0, .int .i64 0, .int .i64 0, .int .i64 0, .string ⟨#[]⟩, .int .i64 0, .int .i64 0, .int .i64 0] from (HK0.out.chg hc (by have := HLT.out.1; omega)).chg (F := fun _ => False) (Chg.of_below hbx) id)
  have HV0_1 := Lib.hid (show (Ty.rd .num).rd X1 (fun b => w.heap.size ≤ b ∧ b ≠ w.heap.size ∧ b ≠ k1 ∧ b ≠ rb) _ _ from rd_chg .num (K := fun _ => False) (Chg.of_below hbx) (fun b hb hl => ⟨id, by have h1 := HLT.out; omega, by have h1 := HLT.out; omega, by omega, by have h1 := HLT.out; omega⟩) hr)
  have HX1 := Lib.hid hX1
  have HKK := Lib.hid hk1
  clear hr hs hc hX1 hbx hk1
  go_wp2_with fail
  rw [← HKK.out, ← HX1.out]
  refine (get_num X1 rb s1 HR1.out HM1.out).mono ?_
  rintro e w2 ⟨cs, rfl, hr, hs, hc⟩
  rw [HD1.out] at hr hs
  dsimp only at hr hs
  obtain ⟨q1_0, rfl⟩ : ∃ z : Int, cs = [.int .i64 z] := ⟨_, hr.1⟩
  have hg : goV [.int .i64 q1_0] = .int .i64 q1_0 := rfl
  rw [hg]
  clear hg
  have hb' := HB1.out.chg hc (by have := HLK.out; omega)
  have t0 := hb'.cell 1 _ rfl
  have z0 := hb'.free 1
  obtain ⟨X2, hX⟩ : ∃ X, X = (w2.setCell ⟨k1, 1, none⟩ (.int .i64 q1_0)) := ⟨_, rfl⟩
  have hcx : Chg (fun b => b = k1) w2 X2 := by
    have g : ∀ (u : World) (j : Nat) (v : Value), Chg (fun b => b = k1) u (u.setCell ⟨k1, j, none⟩ v) := fun u j v => Chg.setCell _ _ rfl
    rw [hX]
    exact (g _ _ _)
  have HB2 := Lib.hid (show Blk X2 k1 [.int .i64 q0_0, .int .i64 q1_0, .slice none 0 0, .int .i64 0, .int .i64 0, .int .i64 0, .string ⟨#[]⟩, .int .i64 0, .int .i64 0, .int .i64 0] from by rw [hX]; exact (hb'.set 1 (.int .i64 q1_0) (by simp)))
  have HR2 := Lib.hid (hs.keep (hcx.more (fun b _ e => by have := HLK.out; omega)))
  have hstep : Chg (fun b => b = rb ∨ b = k1) X1 X2 := (hc.more (fun b _ e => .inl e)).trans (hcx.more (fun b _ e => .inr e))
  have HC2 := Lib.hid (show Chg (fun b => b = rb ∨ w.heap.size ≤ b) w X2 from HC1.out.trans (hstep.more (fun b _ e => e.elim .inl (fun e => .inr (by have := HLK.out; omega)))))
  have HZ2 := Lib.hid (show Blk X2 w.heap.size [.int .i64 0, .int .i64 0, .slice none 0 0, .int .i64 0, .int .i64 0, .int .i64 0, .string ⟨#[]⟩, .int .i64 0, .int .i64 0, .int .i64 0] from HZ1.out.chg hstep (by have := HLK.out; omega))
  have HV0_2 := Lib.hid (show (Ty.rd .num).rd X2 (fun b => w.heap.size ≤ b ∧ b ≠ w.heap.size ∧ b ≠ k1 ∧ b ≠ rb) _ _ from rd_chg .num hstep (fun b hb hl => ⟨fun e => by have := HLK.out; omega, hb⟩) HV0_1.out)
  have HV1_2 := Lib.hid (show (Ty.rd .num).rd X2 (fun b => w.heap.size ≤ b ∧ b ≠ w.heap.size ∧ b ≠ k1 ∧ b ≠ rb) _ _ from rd_chg .num hcx (fun b hb hl => by have h1 := HLK.out; have h2 := HC1.out.size; have h3 := HB1.out.lt; have hb : X1.heap.size ≤ b := hb; exact ⟨by omega, by omega, by omega, by omega, by omega⟩) hr)
  have HX2 := Lib.hid hX
  clear hr hs hc hb' hcx hstep hX 
  go_wp2_with fail
  rw [← HX2.out]
  refine (read_Edit X2 rb s2 HR2.out HM2.out).mono ?_
  rintro e w3 ⟨cs, rfl, hr, hs, hc⟩
  rw [HD2.out] at hr hs
  dsimp only at hr hs
  obtain ⟨q2_a0, q2_n0, q2_c0, rfl⟩ : ∃ a n c, cs = [.slice a n c] := by obtain ⟨a, n, c, e, _⟩ := id hr; exact ⟨a, n, c, e⟩
  have hg : goV [.slice q2_a0 q2_n0 q2_c0] = .slice q2_a0 q2_n0 q2_c0 := rfl
  rw [hg]
  clear hg
  have hb' := HB2.out.chg hc (by have := HLK.out; omega)
  have t0 := hb'.cell 2 _ rfl
  have z0 := hb'.free 2
  obtain ⟨X3, hX⟩ : ∃ X, X = (w3.setCell ⟨k1, 2, none⟩ (.slice q2_a0 q2_n0 q2_c0)) := ⟨_, rfl⟩
  have hcx : Chg (fun b => b = k1) w3 X3 := by
    have g : ∀ (u : World) (j : Nat) (v : Value), Chg (fun b => b = k1) u (u.setCell ⟨k1, j, none⟩ v) := fun u j v => Chg.setCell _ _ rfl
    rw [hX]
    exact (g _ _ _)
  have HB3 := Lib.hid (show Blk X3 k1 [.int .i64 q0_0, .int .i64 q1_0, .slice q2_a0 q2_n0 q2_c0, .int .i64 0, .int .i64 0, .int .i64 0, .string ⟨#[]⟩, .int .i64 0, .int .i64 0, .int .i64 0] from by rw [hX]; exact (hb'.set 2 (.slice q2_a0 q2_n0 q2_c0) (by simp)))
  have HR3 := Lib.hid (hs.keep (hcx.more (fun b _ e => by have := HLK.out; omega)))
  have hstep : Chg (fun b => b = rb ∨ b = k1) X2 X3 := (hc.more (fun b _ e => .inl e)).trans (hcx.more (fun b _ e => .inr e))
  have HC3 := Lib.hid (show Chg (fun b => b = rb ∨ w.heap.size ≤ b) w X3 from HC2.out.trans (hstep.more (fun b _ e => e.elim .inl (fun e => .inr (by have := HLK.out; omega)))))
  have HZ3 := Lib.hid (show Blk X3 w.heap.size [.int .i64 0, .int .i64 0, .slice none 0 0, .int .i64 0, .int .i64 0, .int .i64 0, .string ⟨#[]⟩, .int .i64 0, .int .i64 0, .int .i64 0] from HZ2.out.chg hstep (by have := HLK.out; omega))
  have HV0_3 := Lib.hid (show (Ty.rd .num).rd X3 (fun b => w.heap.size ≤ b ∧ b ≠ w.heap.size ∧ b ≠ k1 ∧ b ≠ rb) _ _ from rd_chg .num hstep (fun b hb hl => ⟨fun e => by have := HLK.out; omega, hb⟩) HV0_2.out)
  have HV1_3 := Lib.hid (show (Ty.rd .num).rd X3 (fun b => w.heap.size ≤ b ∧ b ≠ w.heap.size ∧ b ≠ k1 ∧ b ≠ rb) _ _ from rd_chg .num hstep (fun b hb hl => ⟨fun e => by have := HLK.out; omega, hb⟩) HV1_2.out)
  have HV2_3 := Lib.hid (show (Ty.rd (.list tEdit)).rd X3 (fun b => w.heap.size ≤ b ∧ b ≠ w.heap.size ∧ b ≠ k1 ∧ b ≠ rb) _ _ from rd_chg (.list tEdit) hcx (fun b hb hl => by have h1 := HLK.out; have h2 := HC2.out.size; have h3 := HB2.out.lt; have hb : X2.heap.size ≤ b := hb; exact ⟨by omega, by omega, by omega, by omega, by omega⟩) hr)
  have HX3 := Lib.hid hX
  clear hr hs hc hb' hcx hstep hX 
  go_wp2_with fail
  rw [← HX3.out]
  refine (get_Request X3 rb s3 HR3.out HM3.out).mono ?_
  rintro e w4 ⟨cs, rfl, hr, hs, hc⟩
  rw [HD3.out] at hr hs
  dsimp only at hr hs
  obtain ⟨q3_0, q3_1, q3_2, q3_3, rfl⟩ := shape_Request hr
  have hg : goV [.int .i64 q3_0, .int .i64 q3_1, .int .i64 q3_2, .string q3_3] = .agg #[.int .i64 q3_0, .int .i64 q3_1, .int .i64 q3_2, .string q3_3] := rfl
  rw [hg]
  clear hg
  have hb' := HB3.out.chg hc (by have := HLK.out; omega)
  have t0 := hb'.cell 3 _ rfl
  have z0 := hb'.free 3
  have t1 := hb'.cell 4 _ rfl
  have z1 := hb'.free 4
  have t2 := hb'.cell 5 _ rfl
  have z2 := hb'.free 5
  have t3 := hb'.cell 6 _ rfl
  have z3 := hb'.free 6
  obtain ⟨X4, hX⟩ : ∃ X, X = ((((w4.setCell ⟨k1, 3, none⟩ (.int .i64 q3_0)).setCell ⟨k1, 4, none⟩ (.int .i64 q3_1)).setCell ⟨k1, 5, none⟩ (.int .i64 q3_2)).setCell ⟨k1, 6, none⟩ (.string q3_3)) := ⟨_, rfl⟩
  have hcx : Chg (fun b => b = k1) w4 X4 := by
    have g : ∀ (u : World) (j : Nat) (v : Value), Chg (fun b => b = k1) u (u.setCell ⟨k1, j, none⟩ v) := fun u j v => Chg.setCell _ _ rfl
    rw [hX]
    exact (Chg.trans (Chg.trans (Chg.trans (g _ _ _) (g _ _ _)) (g _ _ _)) (g _ _ _))
  have HB4 := Lib.hid (show Blk X4 k1 [.int .i64 q0_0, .int .i64 q1_0, .slice q2_a0 q2_n0 q2_c0, .int .i64 q3_0, .int .i64 q3_1, .int .i64 q3_2, .string q3_3, .int .i64 0, .int .i64 0, .int .i64 0] from by rw [hX]; exact ((((hb'.set 3 (.int .i64 q3_0) (by simp)).set 4 (.int .i64 q3_1) (by simp)).set 5 (.int .i64 q3_2) (by simp)).set 6 (.string q3_3) (by simp)))
  have HR4 := Lib.hid (hs.keep (hcx.more (fun b _ e => by have := HLK.out; omega)))
  have hstep : Chg (fun b => b = rb ∨ b = k1) X3 X4 := (hc.more (fun b _ e => .inl e)).trans (hcx.more (fun b _ e => .inr e))
  have HC4 := Lib.hid (show Chg (fun b => b = rb ∨ w.heap.size ≤ b) w X4 from HC3.out.trans (hstep.more (fun b _ e => e.elim .inl (fun e => .inr (by have := HLK.out; omega)))))
  have HZ4 := Lib.hid (show Blk X4 w.heap.size [.int .i64 0, .int .i64 0, .slice none 0 0, .int .i64 0, .int .i64 0, .int .i64 0, .string ⟨#[]⟩, .int .i64 0, .int .i64 0, .int .i64 0] from HZ3.out.chg hstep (by have := HLK.out; omega))
  have HV0_4 := Lib.hid (show (Ty.rd .num).rd X4 (fun b => w.heap.size ≤ b ∧ b ≠ w.heap.size ∧ b ≠ k1 ∧ b ≠ rb) _ _ from rd_chg .num hstep (fun b hb hl => ⟨fun e => by have := HLK.out; omega, hb⟩) HV0_3.out)
  have HV1_4 := Lib.hid (show (Ty.rd .num).rd X4 (fun b => w.heap.size ≤ b ∧ b ≠ w.heap.size ∧ b ≠ k1 ∧ b ≠ rb) _ _ from rd_chg .num hstep (fun b hb hl => ⟨fun e => by have := HLK.out; omega, hb⟩) HV1_3.out)
  have HV2_4 := Lib.hid (show (Ty.rd (.list tEdit)).rd X4 (fun b => w.heap.size ≤ b ∧ b ≠ w.heap.size ∧ b ≠ k1 ∧ b ≠ rb) _ _ from rd_chg (.list tEdit) hstep (fun b hb hl => ⟨fun e => by have := HLK.out; omega, hb⟩) HV2_3.out)
  have HV3_4 := Lib.hid (show (Ty.rd tRequest).rd X4 (fun b => w.heap.size ≤ b ∧ b ≠ w.heap.size ∧ b ≠ k1 ∧ b ≠ rb) _ _ from rd_chg tRequest hcx (fun b hb hl => by have h1 := HLK.out; have h2 := HC3.out.size; have h3 := HB3.out.lt; have hb : X3.heap.size ≤ b := hb; exact ⟨by omega, by omega, by omega, by omega, by omega⟩) hr)
  have HX4 := Lib.hid hX
  clear hr hs hc hb' hcx hstep hX 
  go_wp2_with fail
  rw [← HX4.out]
  refine (get_Hold X4 rb s4 HR4.out HM4.out).mono ?_
  rintro e w5 ⟨cs, rfl, hr, hs, hc⟩
  rw [HD4.out] at hr hs
  dsimp only at hr hs
  obtain ⟨q4_0, q4_1, q4_2, rfl⟩ := shape_Hold hr
  have hg : goV [.int .i64 q4_0, .int .i64 q4_1, .int .i64 q4_2] = .agg #[.int .i64 q4_0, .int .i64 q4_1, .int .i64 q4_2] := rfl
  rw [hg]
  clear hg
  have hb' := HB4.out.chg hc (by have := HLK.out; omega)
  have t0 := hb'.cell 7 _ rfl
  have z0 := hb'.free 7
  have t1 := hb'.cell 8 _ rfl
  have z1 := hb'.free 8
  have t2 := hb'.cell 9 _ rfl
  have z2 := hb'.free 9
  obtain ⟨X5, hX⟩ : ∃ X, X = (((w5.setCell ⟨k1, 7, none⟩ (.int .i64 q4_0)).setCell ⟨k1, 8, none⟩ (.int .i64 q4_1)).setCell ⟨k1, 9, none⟩ (.int .i64 q4_2)) := ⟨_, rfl⟩
  have hcx : Chg (fun b => b = k1) w5 X5 := by
    have g : ∀ (u : World) (j : Nat) (v : Value), Chg (fun b => b = k1) u (u.setCell ⟨k1, j, none⟩ v) := fun u j v => Chg.setCell _ _ rfl
    rw [hX]
    exact (Chg.trans (Chg.trans (g _ _ _) (g _ _ _)) (g _ _ _))
  have HB5 := Lib.hid (show Blk X5 k1 [.int .i64 q0_0, .int .i64 q1_0, .slice q2_a0 q2_n0 q2_c0, .int .i64 q3_0, .int .i64 q3_1, .int .i64 q3_2, .string q3_3, .int .i64 q4_0, .int .i64 q4_1, .int .i64 q4_2] from by rw [hX]; exact (((hb'.set 7 (.int .i64 q4_0) (by simp)).set 8 (.int .i64 q4_1) (by simp)).set 9 (.int .i64 q4_2) (by simp)))
  have HR5 := Lib.hid (hs.keep (hcx.more (fun b _ e => by have := HLK.out; omega)))
  have hstep : Chg (fun b => b = rb ∨ b = k1) X4 X5 := (hc.more (fun b _ e => .inl e)).trans (hcx.more (fun b _ e => .inr e))
  have HC5 := Lib.hid (show Chg (fun b => b = rb ∨ w.heap.size ≤ b) w X5 from HC4.out.trans (hstep.more (fun b _ e => e.elim .inl (fun e => .inr (by have := HLK.out; omega)))))
  have HZ5 := Lib.hid (show Blk X5 w.heap.size [.int .i64 0, .int .i64 0, .slice none 0 0, .int .i64 0, .int .i64 0, .int .i64 0, .string ⟨#[]⟩, .int .i64 0, .int .i64 0, .int .i64 0] from HZ4.out.chg hstep (by have := HLK.out; omega))
  have HV0_5 := Lib.hid (show (Ty.rd .num).rd X5 (fun b => w.heap.size ≤ b ∧ b ≠ w.heap.size ∧ b ≠ k1 ∧ b ≠ rb) _ _ from rd_chg .num hstep (fun b hb hl => ⟨fun e => by have := HLK.out; omega, hb⟩) HV0_4.out)
  have HV1_5 := Lib.hid (show (Ty.rd .num).rd X5 (fun b => w.heap.size ≤ b ∧ b ≠ w.heap.size ∧ b ≠ k1 ∧ b ≠ rb) _ _ from rd_chg .num hstep (fun b hb hl => ⟨fun e => by have := HLK.out; omega, hb⟩) HV1_4.out)
  have HV2_5 := Lib.hid (show (Ty.rd (.list tEdit)).rd X5 (fun b => w.heap.size ≤ b ∧ b ≠ w.heap.size ∧ b ≠ k1 ∧ b ≠ rb) _ _ from rd_chg (.list tEdit) hstep (fun b hb hl => ⟨fun e => by have := HLK.out; omega, hb⟩) HV2_4.out)
  have HV3_5 := Lib.hid (show (Ty.rd tRequest).rd X5 (fun b => w.heap.size ≤ b ∧ b ≠ w.heap.size ∧ b ≠ k1 ∧ b ≠ rb) _ _ from rd_chg tRequest hstep (fun b hb hl => ⟨fun e => by have := HLK.out; omega, hb⟩) HV3_4.out)
  have HV4_5 := Lib.hid (show (Ty.rd tHold).rd X5 (fun b => w.heap.size ≤ b ∧ b ≠ w.heap.size ∧ b ≠ k1 ∧ b ≠ rb) _ _ from rd_chg tHold hcx (fun b hb hl => by have h1 := HLK.out; have h2 := HC4.out.size; have h3 := HB4.out.lt; have hb : X4.heap.size ≤ b := hb; exact ⟨by omega, by omega, by omega, by omega, by omega⟩) hr)
  have HX5 := Lib.hid hX
  clear hr hs hc hb' hcx hstep hX 
  go_upto_region 7 with fail
  rw [← HX5.out]
  have hsn : sn = s5 := by have h1 := HMAIN.out; rw [HDEC.out] at h1; cases h1; rfl
  have hxx : x = (x0, (x1, (x2, (x3, x4)))) := by have h1 := HMAIN.out; rw [HDEC.out] at h1; cases h1; rfl
  have HXX := Lib.hid hxx
  have hend := cd_end HR5.out
  rw [← hsn, ← HEE.out] at hend
  have HEND := Lib.hid hend
  clear hsn hxx hend
  go_wp2_with fail
  refine HEND.out.mono ?_
  rintro e wE ⟨rfl, rfl⟩
  have zc0 := HZ5.out.cell 0 _ rfl
  have zf0 := HZ5.out.free 0
  have zc1 := HZ5.out.cell 1 _ rfl
  have zf1 := HZ5.out.free 1
  have zc2 := HZ5.out.cell 2 _ rfl
  have zf2 := HZ5.out.free 2
  have zc3 := HZ5.out.cell 3 _ rfl
  have zf3 := HZ5.out.free 3
  have zc4 := HZ5.out.cell 4 _ rfl
  have zf4 := HZ5.out.free 4
  have zc5 := HZ5.out.cell 5 _ rfl
  have zf5 := HZ5.out.free 5
  have zc6 := HZ5.out.cell 6 _ rfl
  have zf6 := HZ5.out.free 6
  have zc7 := HZ5.out.cell 7 _ rfl
  have zf7 := HZ5.out.free 7
  have zc8 := HZ5.out.cell 8 _ rfl
  have zf8 := HZ5.out.free 8
  have zc9 := HZ5.out.cell 9 _ rfl
  have zf9 := HZ5.out.free 9
  by_cases hE0 : E = 0
  · have g0 : (E == 0) = true := beq_iff_eq.2 hE0
    have HE0 := Lib.hid hE0
    clear hE0
    have q0 := HB5.out.cell 0 _ rfl
    have q1 := HB5.out.cell 1 _ rfl
    have q2 := HB5.out.cell 2 _ rfl
    have q3 := HB5.out.cell 3 _ rfl
    have q4 := HB5.out.cell 4 _ rfl
    have q5 := HB5.out.cell 5 _ rfl
    have q6 := HB5.out.cell 6 _ rfl
    have q7 := HB5.out.cell 7 _ rfl
    have q8 := HB5.out.cell 8 _ rfl
    have q9 := HB5.out.cell 9 _ rfl
    go_wp2
    obtain ⟨Wf, hWf⟩ : ∃ Wf, Wf = ((((((((((wE.setCell ⟨w.heap.size, 0, none⟩ (.int .i64 q0_0)).setCell ⟨w.heap.size, 1, none⟩ (.int .i64 q1_0)).setCell ⟨w.heap.size, 2, none⟩ (.slice q2_a0 q2_n0 q2_c0)).setCell ⟨w.heap.size, 3, none⟩ (.int .i64 q3_0)).setCell ⟨w.heap.size, 4, none⟩ (.int .i64 q3_1)).setCell ⟨w.heap.size, 5, none⟩ (.int .i64 q3_2)).setCell ⟨w.heap.size, 6, none⟩ (.string q3_3)).setCell ⟨w.heap.size, 7, none⟩ (.int .i64 q4_0)).setCell ⟨w.heap.size, 8, none⟩ (.int .i64 q4_1)).setCell ⟨w.heap.size, 9, none⟩ (.int .i64 q4_2)) := ⟨_, rfl⟩
    rw [← hWf]
    have hcf : Chg (fun b => b = w.heap.size) wE Wf := by
      have g : ∀ (u : World) (j : Nat) (v : Value), Chg (fun b => b = w.heap.size) u (u.setCell ⟨w.heap.size, j, none⟩ v) := fun u j v => Chg.setCell _ _ rfl
      rw [hWf]
      exact (Chg.trans (Chg.trans (Chg.trans (Chg.trans (Chg.trans (Chg.trans (Chg.trans (Chg.trans (Chg.trans (g _ _ _) (g _ _ _)) (g _ _ _)) (g _ _ _)) (g _ _ _)) (g _ _ _)) (g _ _ _)) (g _ _ _)) (g _ _ _)) (g _ _ _))
    have HBF := Lib.hid (show Blk Wf w.heap.size [.int .i64 q0_0, .int .i64 q1_0, .slice q2_a0 q2_n0 q2_c0, .int .i64 q3_0, .int .i64 q3_1, .int .i64 q3_2, .string q3_3, .int .i64 q4_0, .int .i64 q4_1, .int .i64 q4_2] from by rw [hWf]; exact ((((((((((HZ5.out.set 0 (.int .i64 q0_0) (by simp)).set 1 (.int .i64 q1_0) (by simp)).set 2 (.slice q2_a0 q2_n0 q2_c0) (by simp)).set 3 (.int .i64 q3_0) (by simp)).set 4 (.int .i64 q3_1) (by simp)).set 5 (.int .i64 q3_2) (by simp)).set 6 (.string q3_3) (by simp)).set 7 (.int .i64 q4_0) (by simp)).set 8 (.int .i64 q4_1) (by simp)).set 9 (.int .i64 q4_2) (by simp)))
    clear hWf zc0 zf0 zc1 zf1 zc2 zf2 zc3 zf3 zc4 zf4 zc5 zf5 zc6 zf6 zc7 zf7 zc8 zf8 zc9 zf9
    clear q0 q1 q2 q3 q4 q5 q6 q7 q8 q9
    have sc0 := HBF.out.cell 0 _ rfl
    have sc1 := HBF.out.cell 1 _ rfl
    have sc2 := HBF.out.cell 2 _ rfl
    have sc3 := HBF.out.cell 3 _ rfl
    have sc4 := HBF.out.cell 4 _ rfl
    have sc5 := HBF.out.cell 5 _ rfl
    have sc6 := HBF.out.cell 6 _ rfl
    have sc7 := HBF.out.cell 7 _ rfl
    have sc8 := HBF.out.cell 8 _ rfl
    have sc9 := HBF.out.cell 9 _ rfl
    refine bodyPost_ret (v := .tuple #[.agg #[.int .i64 q0_0, .int .i64 q1_0, .slice q2_a0 q2_n0 q2_c0, .int .i64 q3_0, .int .i64 q3_1, .int .i64 q3_2, .string q3_3, .int .i64 q4_0, .int .i64 q4_1, .int .i64 q4_2], .int .i64 E]) (by simp [sc0, sc1, sc2, sc3, sc4, sc5, sc6, sc7, sc8, sc9, HE0.out, results, Tryz.results13, go_sem]) rfl ?_
    refine ⟨[.int .i64 q0_0, .int .i64 q1_0, .slice q2_a0 q2_n0 q2_c0, .int .i64 q3_0, .int .i64 q3_1, .int .i64 q3_2, .string q3_3, .int .i64 q4_0, .int .i64 q4_1, .int .i64 q4_2], rfl, fun e => ?_, fun e => ?_, (HC5.out.trans (hcf.more (fun b _ e => .inr (by omega)))).below (Nat.le_refl _) (fun b e => e.elim (fun e => by have := HLK.out; omega) id)⟩
    · rw [HXX.out]
      have h0 : (Ty.rd .num).rd Wf (w.heap.size ≤ ·) _ _ := rd_chg .num hcf (fun b hb hl => ⟨hb.2.1, hb.1⟩) HV0_5.out
      have h1 : (Ty.rd .num).rd Wf (w.heap.size ≤ ·) _ _ := rd_chg .num hcf (fun b hb hl => ⟨hb.2.1, hb.1⟩) HV1_5.out
      have h2 : (Ty.rd (.list tEdit)).rd Wf (w.heap.size ≤ ·) _ _ := rd_chg (.list tEdit) hcf (fun b hb hl => ⟨hb.2.1, hb.1⟩) HV2_5.out
      have h3 : (Ty.rd tRequest).rd Wf (w.heap.size ≤ ·) _ _ := rd_chg tRequest hcf (fun b hb hl => ⟨hb.2.1, hb.1⟩) HV3_5.out
      have h4 : (Ty.rd tHold).rd Wf (w.heap.size ≤ ·) _ _ := rd_chg tHold hcf (fun b hb hl => ⟨hb.2.1, hb.1⟩) HV4_5.out
      exact ⟨_, _, rfl, h0, _, _, rfl, h1, _, _, rfl, h2, _, _, rfl, h3, h4⟩
    · exact absurd HE0.out e

  · have g0 : (E == 0) = false := beq_eq_false_iff_ne.2 hE0
    have HE0 := Lib.hid hE0
    clear hE0
    go_wp2
    obtain ⟨Wf, hWf⟩ : ∃ Wf, Wf = ((((((((((wE.setCell ⟨w.heap.size, 0, none⟩ (.int .i64 0)).setCell ⟨w.heap.size, 1, none⟩ (.int .i64 0)).setCell ⟨w.heap.size, 2, none⟩ (.slice none 0 0)).setCell ⟨w.heap.size, 3, none⟩ (.int .i64 0)).setCell ⟨w.heap.size, 4, none⟩ (.int .i64 0)).setCell ⟨w.heap.size, 5, none⟩ (.int .i64 0)).setCell ⟨w.heap.size, 6, none⟩ (.string ⟨#[]⟩)).setCell ⟨w.heap.size, 7, none⟩ (.int .i64 0)).setCell ⟨w.heap.size, 8, none⟩ (.int .i64 0)).setCell ⟨w.heap.size, 9, none⟩ (.int .i64 0)) := ⟨_, rfl⟩
    rw [← hWf]
    have hcf : Chg (fun b => b = w.heap.size) wE Wf := by
      have g : ∀ (u : World) (j : Nat) (v : Value), Chg (fun b => b = w.heap.size) u (u.setCell ⟨w.heap.size, j, none⟩ v) := fun u j v => Chg.setCell _ _ rfl
      rw [hWf]
      exact (Chg.trans (Chg.trans (Chg.trans (Chg.trans (Chg.trans (Chg.trans (Chg.trans (Chg.trans (Chg.trans (g _ _ _) (g _ _ _)) (g _ _ _)) (g _ _ _)) (g _ _ _)) (g _ _ _)) (g _ _ _)) (g _ _ _)) (g _ _ _)) (g _ _ _))
    have HBF := Lib.hid (show Blk Wf w.heap.size [.int .i64 0, .int .i64 0, .slice none 0 0, .int .i64 0, .int .i64 0, .int .i64 0, .string ⟨#[]⟩, .int .i64 0, .int .i64 0, .int .i64 0] from by rw [hWf]; exact ((((((((((HZ5.out.set 0 (.int .i64 0) (by simp)).set 1 (.int .i64 0) (by simp)).set 2 (.slice none 0 0) (by simp)).set 3 (.int .i64 0) (by simp)).set 4 (.int .i64 0) (by simp)).set 5 (.int .i64 0) (by simp)).set 6 (.string ⟨#[]⟩) (by simp)).set 7 (.int .i64 0) (by simp)).set 8 (.int .i64 0) (by simp)).set 9 (.int .i64 0) (by simp)))
    clear hWf zc0 zf0 zc1 zf1 zc2 zf2 zc3 zf3 zc4 zf4 zc5 zf5 zc6 zf6 zc7 zf7 zc8 zf8 zc9 zf9
    have sc0 := HBF.out.cell 0 _ rfl
    have sc1 := HBF.out.cell 1 _ rfl
    have sc2 := HBF.out.cell 2 _ rfl
    have sc3 := HBF.out.cell 3 _ rfl
    have sc4 := HBF.out.cell 4 _ rfl
    have sc5 := HBF.out.cell 5 _ rfl
    have sc6 := HBF.out.cell 6 _ rfl
    have sc7 := HBF.out.cell 7 _ rfl
    have sc8 := HBF.out.cell 8 _ rfl
    have sc9 := HBF.out.cell 9 _ rfl
    refine bodyPost_ret (v := .tuple #[.agg #[.int .i64 0, .int .i64 0, .slice none 0 0, .int .i64 0, .int .i64 0, .int .i64 0, .string ⟨#[]⟩, .int .i64 0, .int .i64 0, .int .i64 0], .int .i64 E]) (by simp [sc0, sc1, sc2, sc3, sc4, sc5, sc6, sc7, sc8, sc9, HE0.out, results, Tryz.results13, go_sem]) rfl ?_
    refine ⟨[.int .i64 0, .int .i64 0, .slice none 0 0, .int .i64 0, .int .i64 0, .int .i64 0, .string ⟨#[]⟩, .int .i64 0, .int .i64 0, .int .i64 0], rfl, fun e => ?_, fun e => ?_, (HC5.out.trans (hcf.more (fun b _ e => .inr (by omega)))).below (Nat.le_refl _) (fun b e => e.elim (fun e => by have := HLK.out; omega) id)⟩
    · exact absurd e HE0.out
    · exact zero_rd tCommand Wf _

set_option maxRecDepth 100000 in
set_option maxHeartbeats 4000000 in
theorem cd_DecodeDatabase (w : World) (v : Value) (b : List UInt8) (hd : Dat w v b) (hmax : b.length ≤ maxLen) (hmod0 : Mod tDatabase (.ok b)) (x : Ty.T tDatabase) (sn : St) (hx : dec tDatabase (.ok b) = (x, sn)) :
    Calls Tryz.prog 9 #[v] w fun e w' => ∃ cs : List Value, e = .returned (.tuple #[goV cs, .int .i64 (endE sn)]) ∧ (endE sn = 0 → (Ty.rd tDatabase).rd w' (w.heap.size ≤ ·) cs x) ∧ (endE sn ≠ 0 → (Ty.rd tDatabase).rd w' (w.heap.size ≤ ·) cs (zeroT tDatabase)) ∧ Below w.heap.size w w' := by
  obtain ⟨va, vn, vc, rfl⟩ : ∃ a n c, v = .slice a n c := by obtain ⟨a, c, e⟩ := hd.len; exact ⟨a, _, c, e⟩
  obtain ⟨E, hE⟩ : ∃ E, E = endE sn := ⟨_, rfl⟩
  rw [← hE]
  have HEE := Lib.hid hE
  clear hE
  obtain ⟨s, hs⟩ : ∃ s : St, s = .ok b := ⟨_, rfl⟩
  rw [← hs] at hx
  have hmod : Mod tDatabase s := by rw [hs]; exact hmod0
  obtain ⟨Wa, hWa⟩ : ∃ Wa, Wa = w.alloc (.cells #[.int .i64 0, .int .i64 0, .slice none 0 0, .int .i64 0, .slice none 0 0, .slice none 0 0] 29) := ⟨_, rfl⟩
  obtain ⟨W0, hW0⟩ : ∃ W0, W0 = Wa.alloc (.cells #[.slice va vn vc, .int .i64 0] 83) := ⟨_, rfl⟩
  obtain ⟨rb, hrb⟩ : ∃ rb, rb = w.heap.size + 1 := ⟨_, rfl⟩
  have hza : Wa.heap.size = w.heap.size + 1 := by rw [hWa]; simp
  have hba : Below w.heap.size w Wa := by rw [hWa]; exact (Below.refl _ _).alloc (Nat.le_refl _) _
  have hb1 : Below Wa.heap.size Wa W0 := by rw [hW0]; exact (Below.refl _ _).alloc (Nat.le_refl _) _
  have hb0 : Below w.heap.size w W0 := hba.trans (hb1.mono hba.size)
  have HLT := Lib.hid (show rb = w.heap.size + 1 ∧ W0.heap.size = w.heap.size + 2 from ⟨hrb, by rw [hW0]; simp; omega⟩)
  have HK0 := Lib.hid (show Blk W0 w.heap.size [.int .i64 0, .int .i64 0, .slice none 0 0, .int .i64 0, .slice none 0 0, .slice none 0 0] from Blk.chg (F := fun _ => False) (by rw [hWa]; exact Blk.new w _ _) (Chg.of_below hb1) id)
  have hbk : Blk W0 rb [.slice va vn vc, .int .i64 0] := by rw [hW0, show rb = Wa.heap.size by omega]; exact Blk.new Wa _ _
  have HR0 := Lib.hid (show Rdr W0 rb s from ⟨hbk.lt, hbk.free, fun r e => by
    rw [hs] at e
    cases e
    refine ⟨.slice va vn vc, hbk.cell 0 _ rfl, hbk.cell 1 _ rfl, (hd.keep hb0), fun y m c e hm => ?_⟩
    rcases hd.1.2 with ⟨h0, a', c', e'⟩ | ⟨g, o, c', e', _, hg, _⟩
    · rw [e] at e'; simp only [Value.slice.injEq] at e'; omega
    · rw [e] at e'; simp only [Value.slice.injEq, Option.some.injEq] at e'; rw [e'.1]; show g < rb; omega, fun e he => (by rw [hs] at he; cases he), fun r e => by rw [hs] at e; cases e; exact hmax⟩)
  have HWA := Lib.hid hWa
  have HRB := Lib.hid hrb
  have HMAIN := Lib.hid hx
  clear hs hmod0 hWa hrb hza hba hb1 hbk hd hmax hx
  have h := True.intro
  have HC0 := Lib.hid (show Chg (fun b => b = rb ∨ w.heap.size ≤ b) w W0 from Chg.of_below hb0)
  have HW0 := Lib.hid hW0
  obtain ⟨s0, hs0⟩ : ∃ s0, s0 = s := ⟨_, rfl⟩
  rw [← hs0] at HR0
  obtain ⟨x0, s1, hd0⟩ : ∃ x s', dec .num s0 = (x, s') := ⟨_, _, rfl⟩
  obtain ⟨x1, s2, hd1⟩ : ∃ x s', dec .num s1 = (x, s') := ⟨_, _, rfl⟩
  obtain ⟨x2, s3, hd2⟩ : ∃ x s', dec (.list tTable) s2 = (x, s') := ⟨_, _, rfl⟩
  obtain ⟨x3, s4, hd3⟩ : ∃ x s', dec .num s3 = (x, s') := ⟨_, _, rfl⟩
  obtain ⟨x4, s5, hd4⟩ : ∃ x s', dec (.list tHold) s4 = (x, s') := ⟨_, _, rfl⟩
  obtain ⟨x5, s6, hd5⟩ : ∃ x s', dec (.list tCitation) s5 = (x, s') := ⟨_, _, rfl⟩
  have HDEC := Lib.hid (show dec tDatabase s = ((x0, (x1, (x2, (x3, (x4, x5))))), s6) from by
    rw [← hs0]
    show dec (.pair .num (.pair .num (.pair (.list tTable) (.pair .num (.pair (.list tHold) (.list tCitation)))))) s0 = _
    simp only [dec_pair, hd0, hd1, hd2, hd3, hd4, hd5])
  rw [← hs0] at hmod
  obtain ⟨hm0, hm1, hm2, hm3, hm4, hm5⟩ := hmod
  simp only [hd0] at hm1
  simp only [hd0, hd1] at hm2
  simp only [hd0, hd1, hd2] at hm3
  simp only [hd0, hd1, hd2, hd3] at hm4
  simp only [hd0, hd1, hd2, hd3, hd4] at hm5
  have HM0 := Lib.hid hm0
  have HM1 := Lib.hid hm1
  have HM2 := Lib.hid hm2
  have HM3 := Lib.hid hm3
  have HM4 := Lib.hid hm4
  have HM5 := Lib.hid hm5
  have HD0 := Lib.hid hd0
  have HD1 := Lib.hid hd1
  have HD2 := Lib.hid hd2
  have HD3 := Lib.hid hd3
  have HD4 := Lib.hid hd4
  have HD5 := Lib.hid hd5
  clear hm0 hm1 hm2 hm3 hm4 hm5 h hb0 hW0 hs0 hd0 hd1 hd2 hd3 hd4 hd5
  go_enter Tryz.func9, Tryz.ntmps9
  go_wp2_with fail
  rw [← HWA.out, ← HRB.out, ← HW0.out]
  refine (get_num W0 rb s0 HR0.out HM0.out).mono ?_
  rintro e w1 ⟨cs, rfl, hr, hs, hc⟩
  rw [HD0.out] at hr hs
  dsimp only at hr hs
  obtain ⟨q0_0, rfl⟩ : ∃ z : Int, cs = [.int .i64 z] := ⟨_, hr.1⟩
  have hg : goV [.int .i64 q0_0] = .int .i64 q0_0 := rfl
  rw [hg]
  clear hg
  obtain ⟨k1, hk1⟩ : ∃ k1, k1 = w1.heap.size := ⟨_, rfl⟩
  obtain ⟨X1, hX1⟩ : ∃ X1, X1 = w1.alloc (.cells #[.int .i64 q0_0, .int .i64 0, .slice none 0 0, .int .i64 0, .slice none 0 0, .slice none 0 0] 29) := ⟨_, rfl⟩
  have hbx : Below w1.heap.size w1 X1 := by rw [hX1]; exact (Below.refl _ _).alloc (Nat.le_refl _) _
  have HLK := Lib.hid (show rb = w.heap.size + 1 ∧ rb < k1 ∧ k1 < X1.heap.size from by
    have h1 := HLT.out; have h2 := hc.size; have h3 : X1.heap.size = w1.heap.size + 1 := by rw [hX1]; simp
    omega)
  have HB1 := Lib.hid (show Blk X1 k1 [.int .i64 q0_0, .int .i64 0, .slice none 0 0, .int .i64 0, .slice none 0 0, .slice none 0 0] from by rw [hX1, hk1]; exact Blk.new w1 _ _)
  have HR1 := Lib.hid (hs.below hbx)
  have HC1 := Lib.hid (show Chg (fun b => b = rb ∨ w.heap.size ≤ b) w X1 from (HC0.out.trans (hc.more (fun b _ e => .inl e))).trans (Chg.of_below hbx))
  have HZ1 := Lib.hid (show Blk X1 w.heap.size [.int .i64 0, .int .i64 0, .slice none 0 0, .int .i64 0, .slice none 0 0, .slice none 0 0] from (HK0.out.chg hc (by have := HLT.out.1; omega)).chg (F := fun _ => False) (Chg.of_below hbx) id)
  have HV0_1 := Lib.hid (show (Ty.rd .num).rd X1 (fun b => w.heap.size ≤ b ∧ b ≠ w.heap.size ∧ b ≠ k1 ∧ b ≠ rb) _ _ from rd_chg .num (K := fun _ => False) (Chg.of_below hbx) (fun b hb hl => ⟨id, by have h1 := HLT.out; omega, by have h1 := HLT.out; omega, by omega, by have h1 := HLT.out; omega⟩) hr)
  have HX1 := Lib.hid hX1
  have HKK := Lib.hid hk1
  clear hr hs hc hX1 hbx hk1
  go_wp2_with fail
  rw [← HKK.out, ← HX1.out]
  refine (get_num X1 rb s1 HR1.out HM1.out).mono ?_
  rintro e w2 ⟨cs, rfl, hr, hs, hc⟩
  rw [HD1.out] at hr hs
  dsimp only at hr hs
  obtain ⟨q1_0, rfl⟩ : ∃ z : Int, cs = [.int .i64 z] := ⟨_, hr.1⟩
  have hg : goV [.int .i64 q1_0] = .int .i64 q1_0 := rfl
  rw [hg]
  clear hg
  have hb' := HB1.out.chg hc (by have := HLK.out; omega)
  have t0 := hb'.cell 1 _ rfl
  have z0 := hb'.free 1
  obtain ⟨X2, hX⟩ : ∃ X, X = (w2.setCell ⟨k1, 1, none⟩ (.int .i64 q1_0)) := ⟨_, rfl⟩
  have hcx : Chg (fun b => b = k1) w2 X2 := by
    have g : ∀ (u : World) (j : Nat) (v : Value), Chg (fun b => b = k1) u (u.setCell ⟨k1, j, none⟩ v) := fun u j v => Chg.setCell _ _ rfl
    rw [hX]
    exact (g _ _ _)
  have HB2 := Lib.hid (show Blk X2 k1 [.int .i64 q0_0, .int .i64 q1_0, .slice none 0 0, .int .i64 0, .slice none 0 0, .slice none 0 0] from by rw [hX]; exact (hb'.set 1 (.int .i64 q1_0) (by simp)))
  have HR2 := Lib.hid (hs.keep (hcx.more (fun b _ e => by have := HLK.out; omega)))
  have hstep : Chg (fun b => b = rb ∨ b = k1) X1 X2 := (hc.more (fun b _ e => .inl e)).trans (hcx.more (fun b _ e => .inr e))
  have HC2 := Lib.hid (show Chg (fun b => b = rb ∨ w.heap.size ≤ b) w X2 from HC1.out.trans (hstep.more (fun b _ e => e.elim .inl (fun e => .inr (by have := HLK.out; omega)))))
  have HZ2 := Lib.hid (show Blk X2 w.heap.size [.int .i64 0, .int .i64 0, .slice none 0 0, .int .i64 0, .slice none 0 0, .slice none 0 0] from HZ1.out.chg hstep (by have := HLK.out; omega))
  have HV0_2 := Lib.hid (show (Ty.rd .num).rd X2 (fun b => w.heap.size ≤ b ∧ b ≠ w.heap.size ∧ b ≠ k1 ∧ b ≠ rb) _ _ from rd_chg .num hstep (fun b hb hl => ⟨fun e => by have := HLK.out; omega, hb⟩) HV0_1.out)
  have HV1_2 := Lib.hid (show (Ty.rd .num).rd X2 (fun b => w.heap.size ≤ b ∧ b ≠ w.heap.size ∧ b ≠ k1 ∧ b ≠ rb) _ _ from rd_chg .num hcx (fun b hb hl => by have h1 := HLK.out; have h2 := HC1.out.size; have h3 := HB1.out.lt; have hb : X1.heap.size ≤ b := hb; exact ⟨by omega, by omega, by omega, by omega, by omega⟩) hr)
  have HX2 := Lib.hid hX
  clear hr hs hc hb' hcx hstep hX 
  go_wp2_with fail
  rw [← HX2.out]
  refine (read_Table X2 rb s2 HR2.out HM2.out).mono ?_
  rintro e w3 ⟨cs, rfl, hr, hs, hc⟩
  rw [HD2.out] at hr hs
  dsimp only at hr hs
  obtain ⟨q2_a0, q2_n0, q2_c0, rfl⟩ : ∃ a n c, cs = [.slice a n c] := by obtain ⟨a, n, c, e, _⟩ := id hr; exact ⟨a, n, c, e⟩
  have hg : goV [.slice q2_a0 q2_n0 q2_c0] = .slice q2_a0 q2_n0 q2_c0 := rfl
  rw [hg]
  clear hg
  have hb' := HB2.out.chg hc (by have := HLK.out; omega)
  have t0 := hb'.cell 2 _ rfl
  have z0 := hb'.free 2
  obtain ⟨X3, hX⟩ : ∃ X, X = (w3.setCell ⟨k1, 2, none⟩ (.slice q2_a0 q2_n0 q2_c0)) := ⟨_, rfl⟩
  have hcx : Chg (fun b => b = k1) w3 X3 := by
    have g : ∀ (u : World) (j : Nat) (v : Value), Chg (fun b => b = k1) u (u.setCell ⟨k1, j, none⟩ v) := fun u j v => Chg.setCell _ _ rfl
    rw [hX]
    exact (g _ _ _)
  have HB3 := Lib.hid (show Blk X3 k1 [.int .i64 q0_0, .int .i64 q1_0, .slice q2_a0 q2_n0 q2_c0, .int .i64 0, .slice none 0 0, .slice none 0 0] from by rw [hX]; exact (hb'.set 2 (.slice q2_a0 q2_n0 q2_c0) (by simp)))
  have HR3 := Lib.hid (hs.keep (hcx.more (fun b _ e => by have := HLK.out; omega)))
  have hstep : Chg (fun b => b = rb ∨ b = k1) X2 X3 := (hc.more (fun b _ e => .inl e)).trans (hcx.more (fun b _ e => .inr e))
  have HC3 := Lib.hid (show Chg (fun b => b = rb ∨ w.heap.size ≤ b) w X3 from HC2.out.trans (hstep.more (fun b _ e => e.elim .inl (fun e => .inr (by have := HLK.out; omega)))))
  have HZ3 := Lib.hid (show Blk X3 w.heap.size [.int .i64 0, .int .i64 0, .slice none 0 0, .int .i64 0, .slice none 0 0, .slice none 0 0] from HZ2.out.chg hstep (by have := HLK.out; omega))
  have HV0_3 := Lib.hid (show (Ty.rd .num).rd X3 (fun b => w.heap.size ≤ b ∧ b ≠ w.heap.size ∧ b ≠ k1 ∧ b ≠ rb) _ _ from rd_chg .num hstep (fun b hb hl => ⟨fun e => by have := HLK.out; omega, hb⟩) HV0_2.out)
  have HV1_3 := Lib.hid (show (Ty.rd .num).rd X3 (fun b => w.heap.size ≤ b ∧ b ≠ w.heap.size ∧ b ≠ k1 ∧ b ≠ rb) _ _ from rd_chg .num hstep (fun b hb hl => ⟨fun e => by have := HLK.out; omega, hb⟩) HV1_2.out)
  have HV2_3 := Lib.hid (show (Ty.rd (.list tTable)).rd X3 (fun b => w.heap.size ≤ b ∧ b ≠ w.heap.size ∧ b ≠ k1 ∧ b ≠ rb) _ _ from rd_chg (.list tTable) hcx (fun b hb hl => by have h1 := HLK.out; have h2 := HC2.out.size; have h3 := HB2.out.lt; have hb : X2.heap.size ≤ b := hb; exact ⟨by omega, by omega, by omega, by omega, by omega⟩) hr)
  have HX3 := Lib.hid hX
  clear hr hs hc hb' hcx hstep hX 
  go_wp2_with fail
  rw [← HX3.out]
  refine (get_num X3 rb s3 HR3.out HM3.out).mono ?_
  rintro e w4 ⟨cs, rfl, hr, hs, hc⟩
  rw [HD3.out] at hr hs
  dsimp only at hr hs
  obtain ⟨q3_0, rfl⟩ : ∃ z : Int, cs = [.int .i64 z] := ⟨_, hr.1⟩
  have hg : goV [.int .i64 q3_0] = .int .i64 q3_0 := rfl
  rw [hg]
  clear hg
  have hb' := HB3.out.chg hc (by have := HLK.out; omega)
  have t0 := hb'.cell 3 _ rfl
  have z0 := hb'.free 3
  obtain ⟨X4, hX⟩ : ∃ X, X = (w4.setCell ⟨k1, 3, none⟩ (.int .i64 q3_0)) := ⟨_, rfl⟩
  have hcx : Chg (fun b => b = k1) w4 X4 := by
    have g : ∀ (u : World) (j : Nat) (v : Value), Chg (fun b => b = k1) u (u.setCell ⟨k1, j, none⟩ v) := fun u j v => Chg.setCell _ _ rfl
    rw [hX]
    exact (g _ _ _)
  have HB4 := Lib.hid (show Blk X4 k1 [.int .i64 q0_0, .int .i64 q1_0, .slice q2_a0 q2_n0 q2_c0, .int .i64 q3_0, .slice none 0 0, .slice none 0 0] from by rw [hX]; exact (hb'.set 3 (.int .i64 q3_0) (by simp)))
  have HR4 := Lib.hid (hs.keep (hcx.more (fun b _ e => by have := HLK.out; omega)))
  have hstep : Chg (fun b => b = rb ∨ b = k1) X3 X4 := (hc.more (fun b _ e => .inl e)).trans (hcx.more (fun b _ e => .inr e))
  have HC4 := Lib.hid (show Chg (fun b => b = rb ∨ w.heap.size ≤ b) w X4 from HC3.out.trans (hstep.more (fun b _ e => e.elim .inl (fun e => .inr (by have := HLK.out; omega)))))
  have HZ4 := Lib.hid (show Blk X4 w.heap.size [.int .i64 0, .int .i64 0, .slice none 0 0, .int .i64 0, .slice none 0 0, .slice none 0 0] from HZ3.out.chg hstep (by have := HLK.out; omega))
  have HV0_4 := Lib.hid (show (Ty.rd .num).rd X4 (fun b => w.heap.size ≤ b ∧ b ≠ w.heap.size ∧ b ≠ k1 ∧ b ≠ rb) _ _ from rd_chg .num hstep (fun b hb hl => ⟨fun e => by have := HLK.out; omega, hb⟩) HV0_3.out)
  have HV1_4 := Lib.hid (show (Ty.rd .num).rd X4 (fun b => w.heap.size ≤ b ∧ b ≠ w.heap.size ∧ b ≠ k1 ∧ b ≠ rb) _ _ from rd_chg .num hstep (fun b hb hl => ⟨fun e => by have := HLK.out; omega, hb⟩) HV1_3.out)
  have HV2_4 := Lib.hid (show (Ty.rd (.list tTable)).rd X4 (fun b => w.heap.size ≤ b ∧ b ≠ w.heap.size ∧ b ≠ k1 ∧ b ≠ rb) _ _ from rd_chg (.list tTable) hstep (fun b hb hl => ⟨fun e => by have := HLK.out; omega, hb⟩) HV2_3.out)
  have HV3_4 := Lib.hid (show (Ty.rd .num).rd X4 (fun b => w.heap.size ≤ b ∧ b ≠ w.heap.size ∧ b ≠ k1 ∧ b ≠ rb) _ _ from rd_chg .num hcx (fun b hb hl => by have h1 := HLK.out; have h2 := HC3.out.size; have h3 := HB3.out.lt; have hb : X3.heap.size ≤ b := hb; exact ⟨by omega, by omega, by omega, by omega, by omega⟩) hr)
  have HX4 := Lib.hid hX
  clear hr hs hc hb' hcx hstep hX 
  go_wp2_with fail
  rw [← HX4.out]
  refine (read_Hold X4 rb s4 HR4.out HM4.out).mono ?_
  rintro e w5 ⟨cs, rfl, hr, hs, hc⟩
  rw [HD4.out] at hr hs
  dsimp only at hr hs
  obtain ⟨q4_a0, q4_n0, q4_c0, rfl⟩ : ∃ a n c, cs = [.slice a n c] := by obtain ⟨a, n, c, e, _⟩ := id hr; exact ⟨a, n, c, e⟩
  have hg : goV [.slice q4_a0 q4_n0 q4_c0] = .slice q4_a0 q4_n0 q4_c0 := rfl
  rw [hg]
  clear hg
  have hb' := HB4.out.chg hc (by have := HLK.out; omega)
  have t0 := hb'.cell 4 _ rfl
  have z0 := hb'.free 4
  obtain ⟨X5, hX⟩ : ∃ X, X = (w5.setCell ⟨k1, 4, none⟩ (.slice q4_a0 q4_n0 q4_c0)) := ⟨_, rfl⟩
  have hcx : Chg (fun b => b = k1) w5 X5 := by
    have g : ∀ (u : World) (j : Nat) (v : Value), Chg (fun b => b = k1) u (u.setCell ⟨k1, j, none⟩ v) := fun u j v => Chg.setCell _ _ rfl
    rw [hX]
    exact (g _ _ _)
  have HB5 := Lib.hid (show Blk X5 k1 [.int .i64 q0_0, .int .i64 q1_0, .slice q2_a0 q2_n0 q2_c0, .int .i64 q3_0, .slice q4_a0 q4_n0 q4_c0, .slice none 0 0] from by rw [hX]; exact (hb'.set 4 (.slice q4_a0 q4_n0 q4_c0) (by simp)))
  have HR5 := Lib.hid (hs.keep (hcx.more (fun b _ e => by have := HLK.out; omega)))
  have hstep : Chg (fun b => b = rb ∨ b = k1) X4 X5 := (hc.more (fun b _ e => .inl e)).trans (hcx.more (fun b _ e => .inr e))
  have HC5 := Lib.hid (show Chg (fun b => b = rb ∨ w.heap.size ≤ b) w X5 from HC4.out.trans (hstep.more (fun b _ e => e.elim .inl (fun e => .inr (by have := HLK.out; omega)))))
  have HZ5 := Lib.hid (show Blk X5 w.heap.size [.int .i64 0, .int .i64 0, .slice none 0 0, .int .i64 0, .slice none 0 0, .slice none 0 0] from HZ4.out.chg hstep (by have := HLK.out; omega))
  have HV0_5 := Lib.hid (show (Ty.rd .num).rd X5 (fun b => w.heap.size ≤ b ∧ b ≠ w.heap.size ∧ b ≠ k1 ∧ b ≠ rb) _ _ from rd_chg .num hstep (fun b hb hl => ⟨fun e => by have := HLK.out; omega, hb⟩) HV0_4.out)
  have HV1_5 := Lib.hid (show (Ty.rd .num).rd X5 (fun b => w.heap.size ≤ b ∧ b ≠ w.heap.size ∧ b ≠ k1 ∧ b ≠ rb) _ _ from rd_chg .num hstep (fun b hb hl => ⟨fun e => by have := HLK.out; omega, hb⟩) HV1_4.out)
  have HV2_5 := Lib.hid (show (Ty.rd (.list tTable)).rd X5 (fun b => w.heap.size ≤ b ∧ b ≠ w.heap.size ∧ b ≠ k1 ∧ b ≠ rb) _ _ from rd_chg (.list tTable) hstep (fun b hb hl => ⟨fun e => by have := HLK.out; omega, hb⟩) HV2_4.out)
  have HV3_5 := Lib.hid (show (Ty.rd .num).rd X5 (fun b => w.heap.size ≤ b ∧ b ≠ w.heap.size ∧ b ≠ k1 ∧ b ≠ rb) _ _ from rd_chg .num hstep (fun b hb hl => ⟨fun e => by have := HLK.out; omega, hb⟩) HV3_4.out)
  have HV4_5 := Lib.hid (show (Ty.rd (.list tHold)).rd X5 (fun b => w.heap.size ≤ b ∧ b ≠ w.heap.size ∧ b ≠ k1 ∧ b ≠ rb) _ _ from rd_chg (.list tHold) hcx (fun b hb hl => by have h1 := HLK.out; have h2 := HC4.out.size; have h3 := HB4.out.lt; have hb : X4.heap.size ≤ b := hb; exact ⟨by omega, by omega, by omega, by omega, by omega⟩) hr)
  have HX5 := Lib.hid hX
  clear hr hs hc hb' hcx hstep hX 
  go_wp2_with fail
  rw [← HX5.out]
  refine (read_Citation X5 rb s5 HR5.out HM5.out).mono ?_
  rintro e w6 ⟨cs, rfl, hr, hs, hc⟩
  rw [HD5.out] at hr hs
  dsimp only at hr hs
  obtain ⟨q5_a0, q5_n0, q5_c0, rfl⟩ : ∃ a n c, cs = [.slice a n c] := by obtain ⟨a, n, c, e, _⟩ := id hr; exact ⟨a, n, c, e⟩
  have hg : goV [.slice q5_a0 q5_n0 q5_c0] = .slice q5_a0 q5_n0 q5_c0 := rfl
  rw [hg]
  clear hg
  have hb' := HB5.out.chg hc (by have := HLK.out; omega)
  have t0 := hb'.cell 5 _ rfl
  have z0 := hb'.free 5
  obtain ⟨X6, hX⟩ : ∃ X, X = (w6.setCell ⟨k1, 5, none⟩ (.slice q5_a0 q5_n0 q5_c0)) := ⟨_, rfl⟩
  have hcx : Chg (fun b => b = k1) w6 X6 := by
    have g : ∀ (u : World) (j : Nat) (v : Value), Chg (fun b => b = k1) u (u.setCell ⟨k1, j, none⟩ v) := fun u j v => Chg.setCell _ _ rfl
    rw [hX]
    exact (g _ _ _)
  have HB6 := Lib.hid (show Blk X6 k1 [.int .i64 q0_0, .int .i64 q1_0, .slice q2_a0 q2_n0 q2_c0, .int .i64 q3_0, .slice q4_a0 q4_n0 q4_c0, .slice q5_a0 q5_n0 q5_c0] from by rw [hX]; exact (hb'.set 5 (.slice q5_a0 q5_n0 q5_c0) (by simp)))
  have HR6 := Lib.hid (hs.keep (hcx.more (fun b _ e => by have := HLK.out; omega)))
  have hstep : Chg (fun b => b = rb ∨ b = k1) X5 X6 := (hc.more (fun b _ e => .inl e)).trans (hcx.more (fun b _ e => .inr e))
  have HC6 := Lib.hid (show Chg (fun b => b = rb ∨ w.heap.size ≤ b) w X6 from HC5.out.trans (hstep.more (fun b _ e => e.elim .inl (fun e => .inr (by have := HLK.out; omega)))))
  have HZ6 := Lib.hid (show Blk X6 w.heap.size [.int .i64 0, .int .i64 0, .slice none 0 0, .int .i64 0, .slice none 0 0, .slice none 0 0] from HZ5.out.chg hstep (by have := HLK.out; omega))
  have HV0_6 := Lib.hid (show (Ty.rd .num).rd X6 (fun b => w.heap.size ≤ b ∧ b ≠ w.heap.size ∧ b ≠ k1 ∧ b ≠ rb) _ _ from rd_chg .num hstep (fun b hb hl => ⟨fun e => by have := HLK.out; omega, hb⟩) HV0_5.out)
  have HV1_6 := Lib.hid (show (Ty.rd .num).rd X6 (fun b => w.heap.size ≤ b ∧ b ≠ w.heap.size ∧ b ≠ k1 ∧ b ≠ rb) _ _ from rd_chg .num hstep (fun b hb hl => ⟨fun e => by have := HLK.out; omega, hb⟩) HV1_5.out)
  have HV2_6 := Lib.hid (show (Ty.rd (.list tTable)).rd X6 (fun b => w.heap.size ≤ b ∧ b ≠ w.heap.size ∧ b ≠ k1 ∧ b ≠ rb) _ _ from rd_chg (.list tTable) hstep (fun b hb hl => ⟨fun e => by have := HLK.out; omega, hb⟩) HV2_5.out)
  have HV3_6 := Lib.hid (show (Ty.rd .num).rd X6 (fun b => w.heap.size ≤ b ∧ b ≠ w.heap.size ∧ b ≠ k1 ∧ b ≠ rb) _ _ from rd_chg .num hstep (fun b hb hl => ⟨fun e => by have := HLK.out; omega, hb⟩) HV3_5.out)
  have HV4_6 := Lib.hid (show (Ty.rd (.list tHold)).rd X6 (fun b => w.heap.size ≤ b ∧ b ≠ w.heap.size ∧ b ≠ k1 ∧ b ≠ rb) _ _ from rd_chg (.list tHold) hstep (fun b hb hl => ⟨fun e => by have := HLK.out; omega, hb⟩) HV4_5.out)
  have HV5_6 := Lib.hid (show (Ty.rd (.list tCitation)).rd X6 (fun b => w.heap.size ≤ b ∧ b ≠ w.heap.size ∧ b ≠ k1 ∧ b ≠ rb) _ _ from rd_chg (.list tCitation) hcx (fun b hb hl => by have h1 := HLK.out; have h2 := HC5.out.size; have h3 := HB5.out.lt; have hb : X5.heap.size ≤ b := hb; exact ⟨by omega, by omega, by omega, by omega, by omega⟩) hr)
  have HX6 := Lib.hid hX
  clear hr hs hc hb' hcx hstep hX 
  go_upto_region 8 with fail
  rw [← HX6.out]
  have hsn : sn = s6 := by have h1 := HMAIN.out; rw [HDEC.out] at h1; cases h1; rfl
  have hxx : x = (x0, (x1, (x2, (x3, (x4, x5))))) := by have h1 := HMAIN.out; rw [HDEC.out] at h1; cases h1; rfl
  have HXX := Lib.hid hxx
  have hend := cd_end HR6.out
  rw [← hsn, ← HEE.out] at hend
  have HEND := Lib.hid hend
  clear hsn hxx hend
  go_wp2_with fail
  refine HEND.out.mono ?_
  rintro e wE ⟨rfl, rfl⟩
  have zc0 := HZ6.out.cell 0 _ rfl
  have zf0 := HZ6.out.free 0
  have zc1 := HZ6.out.cell 1 _ rfl
  have zf1 := HZ6.out.free 1
  have zc2 := HZ6.out.cell 2 _ rfl
  have zf2 := HZ6.out.free 2
  have zc3 := HZ6.out.cell 3 _ rfl
  have zf3 := HZ6.out.free 3
  have zc4 := HZ6.out.cell 4 _ rfl
  have zf4 := HZ6.out.free 4
  have zc5 := HZ6.out.cell 5 _ rfl
  have zf5 := HZ6.out.free 5
  by_cases hE0 : E = 0
  · have g0 : (E == 0) = true := beq_iff_eq.2 hE0
    have HE0 := Lib.hid hE0
    clear hE0
    have q0 := HB6.out.cell 0 _ rfl
    have q1 := HB6.out.cell 1 _ rfl
    have q2 := HB6.out.cell 2 _ rfl
    have q3 := HB6.out.cell 3 _ rfl
    have q4 := HB6.out.cell 4 _ rfl
    have q5 := HB6.out.cell 5 _ rfl
    go_wp2
    obtain ⟨Wf, hWf⟩ : ∃ Wf, Wf = ((((((wE.setCell ⟨w.heap.size, 0, none⟩ (.int .i64 q0_0)).setCell ⟨w.heap.size, 1, none⟩ (.int .i64 q1_0)).setCell ⟨w.heap.size, 2, none⟩ (.slice q2_a0 q2_n0 q2_c0)).setCell ⟨w.heap.size, 3, none⟩ (.int .i64 q3_0)).setCell ⟨w.heap.size, 4, none⟩ (.slice q4_a0 q4_n0 q4_c0)).setCell ⟨w.heap.size, 5, none⟩ (.slice q5_a0 q5_n0 q5_c0)) := ⟨_, rfl⟩
    rw [← hWf]
    have hcf : Chg (fun b => b = w.heap.size) wE Wf := by
      have g : ∀ (u : World) (j : Nat) (v : Value), Chg (fun b => b = w.heap.size) u (u.setCell ⟨w.heap.size, j, none⟩ v) := fun u j v => Chg.setCell _ _ rfl
      rw [hWf]
      exact (Chg.trans (Chg.trans (Chg.trans (Chg.trans (Chg.trans (g _ _ _) (g _ _ _)) (g _ _ _)) (g _ _ _)) (g _ _ _)) (g _ _ _))
    have HBF := Lib.hid (show Blk Wf w.heap.size [.int .i64 q0_0, .int .i64 q1_0, .slice q2_a0 q2_n0 q2_c0, .int .i64 q3_0, .slice q4_a0 q4_n0 q4_c0, .slice q5_a0 q5_n0 q5_c0] from by rw [hWf]; exact ((((((HZ6.out.set 0 (.int .i64 q0_0) (by simp)).set 1 (.int .i64 q1_0) (by simp)).set 2 (.slice q2_a0 q2_n0 q2_c0) (by simp)).set 3 (.int .i64 q3_0) (by simp)).set 4 (.slice q4_a0 q4_n0 q4_c0) (by simp)).set 5 (.slice q5_a0 q5_n0 q5_c0) (by simp)))
    clear hWf zc0 zf0 zc1 zf1 zc2 zf2 zc3 zf3 zc4 zf4 zc5 zf5
    clear q0 q1 q2 q3 q4 q5
    have sc0 := HBF.out.cell 0 _ rfl
    have sc1 := HBF.out.cell 1 _ rfl
    have sc2 := HBF.out.cell 2 _ rfl
    have sc3 := HBF.out.cell 3 _ rfl
    have sc4 := HBF.out.cell 4 _ rfl
    have sc5 := HBF.out.cell 5 _ rfl
    refine bodyPost_ret (v := .tuple #[.agg #[.int .i64 q0_0, .int .i64 q1_0, .slice q2_a0 q2_n0 q2_c0, .int .i64 q3_0, .slice q4_a0 q4_n0 q4_c0, .slice q5_a0 q5_n0 q5_c0], .int .i64 E]) (by simp [sc0, sc1, sc2, sc3, sc4, sc5, HE0.out, results, Tryz.results9, go_sem]) rfl ?_
    refine ⟨[.int .i64 q0_0, .int .i64 q1_0, .slice q2_a0 q2_n0 q2_c0, .int .i64 q3_0, .slice q4_a0 q4_n0 q4_c0, .slice q5_a0 q5_n0 q5_c0], rfl, fun e => ?_, fun e => ?_, (HC6.out.trans (hcf.more (fun b _ e => .inr (by omega)))).below (Nat.le_refl _) (fun b e => e.elim (fun e => by have := HLK.out; omega) id)⟩
    · rw [HXX.out]
      have h0 : (Ty.rd .num).rd Wf (w.heap.size ≤ ·) _ _ := rd_chg .num hcf (fun b hb hl => ⟨hb.2.1, hb.1⟩) HV0_6.out
      have h1 : (Ty.rd .num).rd Wf (w.heap.size ≤ ·) _ _ := rd_chg .num hcf (fun b hb hl => ⟨hb.2.1, hb.1⟩) HV1_6.out
      have h2 : (Ty.rd (.list tTable)).rd Wf (w.heap.size ≤ ·) _ _ := rd_chg (.list tTable) hcf (fun b hb hl => ⟨hb.2.1, hb.1⟩) HV2_6.out
      have h3 : (Ty.rd .num).rd Wf (w.heap.size ≤ ·) _ _ := rd_chg .num hcf (fun b hb hl => ⟨hb.2.1, hb.1⟩) HV3_6.out
      have h4 : (Ty.rd (.list tHold)).rd Wf (w.heap.size ≤ ·) _ _ := rd_chg (.list tHold) hcf (fun b hb hl => ⟨hb.2.1, hb.1⟩) HV4_6.out
      have h5 : (Ty.rd (.list tCitation)).rd Wf (w.heap.size ≤ ·) _ _ := rd_chg (.list tCitation) hcf (fun b hb hl => ⟨hb.2.1, hb.1⟩) HV5_6.out
      exact ⟨_, _, rfl, h0, _, _, rfl, h1, _, _, rfl, h2, _, _, rfl, h3, _, _, rfl, h4, h5⟩
    · exact absurd HE0.out e

  · have g0 : (E == 0) = false := beq_eq_false_iff_ne.2 hE0
    have HE0 := Lib.hid hE0
    clear hE0
    go_wp2
    obtain ⟨Wf, hWf⟩ : ∃ Wf, Wf = ((((((wE.setCell ⟨w.heap.size, 0, none⟩ (.int .i64 0)).setCell ⟨w.heap.size, 1, none⟩ (.int .i64 0)).setCell ⟨w.heap.size, 2, none⟩ (.slice none 0 0)).setCell ⟨w.heap.size, 3, none⟩ (.int .i64 0)).setCell ⟨w.heap.size, 4, none⟩ (.slice none 0 0)).setCell ⟨w.heap.size, 5, none⟩ (.slice none 0 0)) := ⟨_, rfl⟩
    rw [← hWf]
    have hcf : Chg (fun b => b = w.heap.size) wE Wf := by
      have g : ∀ (u : World) (j : Nat) (v : Value), Chg (fun b => b = w.heap.size) u (u.setCell ⟨w.heap.size, j, none⟩ v) := fun u j v => Chg.setCell _ _ rfl
      rw [hWf]
      exact (Chg.trans (Chg.trans (Chg.trans (Chg.trans (Chg.trans (g _ _ _) (g _ _ _)) (g _ _ _)) (g _ _ _)) (g _ _ _)) (g _ _ _))
    have HBF := Lib.hid (show Blk Wf w.heap.size [.int .i64 0, .int .i64 0, .slice none 0 0, .int .i64 0, .slice none 0 0, .slice none 0 0] from by rw [hWf]; exact ((((((HZ6.out.set 0 (.int .i64 0) (by simp)).set 1 (.int .i64 0) (by simp)).set 2 (.slice none 0 0) (by simp)).set 3 (.int .i64 0) (by simp)).set 4 (.slice none 0 0) (by simp)).set 5 (.slice none 0 0) (by simp)))
    clear hWf zc0 zf0 zc1 zf1 zc2 zf2 zc3 zf3 zc4 zf4 zc5 zf5
    have sc0 := HBF.out.cell 0 _ rfl
    have sc1 := HBF.out.cell 1 _ rfl
    have sc2 := HBF.out.cell 2 _ rfl
    have sc3 := HBF.out.cell 3 _ rfl
    have sc4 := HBF.out.cell 4 _ rfl
    have sc5 := HBF.out.cell 5 _ rfl
    refine bodyPost_ret (v := .tuple #[.agg #[.int .i64 0, .int .i64 0, .slice none 0 0, .int .i64 0, .slice none 0 0, .slice none 0 0], .int .i64 E]) (by simp [sc0, sc1, sc2, sc3, sc4, sc5, HE0.out, results, Tryz.results9, go_sem]) rfl ?_
    refine ⟨[.int .i64 0, .int .i64 0, .slice none 0 0, .int .i64 0, .slice none 0 0, .slice none 0 0], rfl, fun e => ?_, fun e => ?_, (HC6.out.trans (hcf.more (fun b _ e => .inr (by omega)))).below (Nat.le_refl _) (fun b e => e.elim (fun e => by have := HLK.out; omega) id)⟩
    · exact absurd e HE0.out
    · exact zero_rd tDatabase Wf _
end Go.Proofs.YtfppjpmflpaffaaGreat
