/-
  The reference's decoder: commands. Printed by gen_ct.py.
-/
import Derived.Test.YtfppjpmflpaffaaGreatCsI
import Derived.Deep.RegionHeld3
namespace Go.Proofs.YtfppjpmflpaffaaGreat
open Go.RowKit
set_option linter.unusedVariables false
set_option linter.unusedSimpArgs false

theorem info_t_Edit : (Tryz.prog.info? 113).map (fun i => (i.zero, i.size, i.bytes)) = some (some ((.agg #[.int .i64 0, .string ⟨#[]⟩, .slice none 0 0, .int .i64 0, .int .i64 0, .slice none 0 0, .int .i64 0, .slice none 0 0, .string ⟨#[]⟩, .slice none 0 0, .slice none 0 0, .slice none 0 0, .slice none 0 0, .int .i64 0, .string ⟨#[]⟩, .int .i64 0])), 16, 264) := by kernel_rfl

set_option maxRecDepth 100000 in
set_option maxHeartbeats 8000000 in
theorem rf_DecodeCommand (w : World) (v : Value) (B : List UInt8) (hd : Dat w v B) (hmax : B.length ≤ 1073741824) (hmod : Mod tCommand (.ok B)) (x : Ty.T tCommand) (sn : St) (hx : dec tCommand (.ok B) = (x, sn)) :
    Calls Tryz.prog 44 #[v] w fun e w' => ∃ cs : List Value, e = .returned (.tuple #[goV cs, .int .i64 (endE sn)]) ∧ (endE sn = 0 → (Ty.rd tCommand).rd w' (w.heap.size ≤ ·) cs x) ∧ (endE sn ≠ 0 → (Ty.rd tCommand).rd w' (w.heap.size ≤ ·) cs (zeroT tCommand)) ∧ Below w.heap.size w w' := by
  obtain ⟨va, vn, vc, rfl⟩ : ∃ a n c, v = .slice a n c := by obtain ⟨a, c, e⟩ := hd.len; exact ⟨a, _, c, e⟩
  obtain ⟨E, hE⟩ : ∃ E, E = endE sn := ⟨_, rfl⟩
  rw [← hE]
  obtain ⟨s, hs⟩ : ∃ s : St, s = .ok B := ⟨_, rfl⟩
  rw [← hs] at hx hmod
  obtain ⟨Wa, hWa⟩ : ∃ Wa, Wa = w.alloc (.cells #[.int .i64 0, .int .i64 0, .slice none 0 0, .int .i64 0, .int .i64 0, .int .i64 0, .string ⟨#[]⟩, .int .i64 0, .int .i64 0, .int .i64 0] 47) := ⟨_, rfl⟩
  obtain ⟨W0, hW0⟩ : ∃ W0, W0 = Wa.alloc (.cells #[.slice va vn vc, .int .i64 0, .int .i64 0] 177) := ⟨_, rfl⟩
  obtain ⟨rb, hrb⟩ : ∃ rb, rb = w.heap.size + 1 := ⟨_, rfl⟩
  obtain ⟨bs, hbs⟩ : ∃ b, b = w.heap.size := ⟨_, rfl⟩
  have hza : Wa.heap.size = w.heap.size + 1 := by rw [hWa]; simp
  have hba : Below w.heap.size w Wa := by rw [hWa]; exact (Below.refl _ _).alloc (Nat.le_refl _) _
  have hb1 : Below Wa.heap.size Wa W0 := by rw [hW0]; exact (Below.refl _ _).alloc (Nat.le_refl _) _
  have hb0 : Below w.heap.size w W0 := hba.trans (hb1.mono hba.size)
  have HO0 := Lib.hid (show bs = w.heap.size ∧ rb = bs + 1 ∧ W0.heap.size = w.heap.size + 2 from ⟨hbs, by omega, by rw [hW0]; simp; omega⟩)
  have HB0 := Lib.hid (show Blk W0 w.heap.size [.int .i64 0, .int .i64 0, .slice none 0 0, .int .i64 0, .int .i64 0, .int .i64 0, .string ⟨#[]⟩, .int .i64 0, .int .i64 0, .int .i64 0] from Blk.chg (F := fun _ => False) (by rw [hWa]; exact Blk.new w _ _) (Chg.of_below hb1) id)
  have hbk : Blk W0 rb [.slice va vn vc, .int .i64 0, .int .i64 0] := by rw [hW0, show rb = Wa.heap.size by omega]; exact Blk.new Wa _ _
  have HR0 := Lib.hid (show RefR W0 rb B s from ⟨0, 0, ⟨hbk.lt, hbk.free, ⟨.slice va vn vc, hbk.cell 0 _ rfl, hd.keep hb0, fun y m c e hm => by
      rcases hd.1.2 with ⟨h0, a', c', e'⟩ | ⟨g, o, c', e', _, hg, _⟩
      · rw [e] at e'; simp only [Value.slice.injEq] at e'; omega
      · rw [e] at e'; simp only [Value.slice.injEq, Option.some.injEq] at e'; rw [e'.1]; show g < rb; omega⟩, hbk.cell 1 _ rfl, hbk.cell 2 _ rfl, Nat.zero_le _, hmax⟩, fun r e => (by rw [hs] at e; cases e; exact ⟨rfl, rfl⟩), fun e he => (by rw [hs] at he; cases he)⟩)
  have HC0 := Lib.hid (show Chg (fun b => b = rb ∨ bs ≤ b) w W0 from Chg.of_below hb0)
  have HWA := Lib.hid hWa
  have HRB := Lib.hid hrb
  have HW0 := Lib.hid hW0
  obtain ⟨px0, ps1, phd0⟩ : ∃ x s', dec .num s = (x, s') := ⟨_, _, rfl⟩
  obtain ⟨px1, ps2, phd1⟩ : ∃ x s', dec .num ps1 = (x, s') := ⟨_, _, rfl⟩
  obtain ⟨px2, ps3, phd2⟩ : ∃ x s', dec (.list tEdit) ps2 = (x, s') := ⟨_, _, rfl⟩
  obtain ⟨px3, ps4, phd3⟩ : ∃ x s', dec tRequest ps3 = (x, s') := ⟨_, _, rfl⟩
  obtain ⟨px4, ps5, phd4⟩ : ∃ x s', dec tHold ps4 = (x, s') := ⟨_, _, rfl⟩
  obtain ⟨phm0, phm1, phm2, phm3, phm4⟩ := hmod
  simp only [phd0] at phm1
  simp only [phd0, phd1] at phm2
  simp only [phd0, phd1, phd2] at phm3
  simp only [phd0, phd1, phd2, phd3] at phm4
  have pHM0 := Lib.hid phm0
  have pHM1 := Lib.hid phm1
  have pHM2 := Lib.hid phm2
  have pHM3 := Lib.hid phm3
  have pHM4 := Lib.hid phm4
  have pHD0 := Lib.hid phd0
  have pHD1 := Lib.hid phd1
  have pHD2 := Lib.hid phd2
  have pHD3 := Lib.hid phd3
  have pHD4 := Lib.hid phd4
  have hdec : dec tCommand s = ((px0, (px1, (px2, (px3, px4)))), ps5) := by
    show dec (.pair .num (.pair .num (.pair (.list tEdit) (.pair tRequest tHold)))) s = _
    simp only [dec_pair, phd0, phd1, phd2, phd3, phd4]
  have HXX := Lib.hid (show x = (px0, (px1, (px2, (px3, px4)))) from congrArg Prod.fst (hx.symm.trans hdec))
  have HEE := Lib.hid (show E = endE ps5 from by rw [hE]; exact congrArg (fun p => endE p.2) (hx.symm.trans hdec))
  clear hdec hx hE hs hmax hd hWa hW0 hrb hbs hza hba hb1 hb0 hbk phd0 phd1 phd2 phd3 phd4 phm0 phm1 phm2 phm3 phm4
  go_enter Tryz.func44, Tryz.ntmps44
  go_wp2_with fail
  rw [← HWA.out, ← HRB.out, ← HW0.out]
  refine (rget_int W0 rb B s HR0.out pHM0.out).mono ?_
  rintro e w2 ⟨cs, rfl, hr, hs, hc⟩
  rw [pHD0.out] at hr hs
  dsimp only at hr hs
  obtain ⟨q1_0, rfl⟩ : ∃ z : Int, cs = [.int .i64 z] := ⟨_, hr.1⟩
  have hg : goV [.int .i64 q1_0] = .int .i64 q1_0 := rfl
  rw [hg]
  clear hg
  obtain ⟨k2, hk⟩ : ∃ k, k = w2.heap.size := ⟨_, rfl⟩
  obtain ⟨X2, hX⟩ : ∃ X, X = w2.alloc (.cells #[.int .i64 q1_0, .int .i64 0, .slice none 0 0, .int .i64 0, .int .i64 0, .int .i64 0, .string ⟨#[]⟩, .int .i64 0, .int .i64 0, .int .i64 0] 47) := ⟨_, rfl⟩
  have hbx : Below w2.heap.size w2 X2 := by rw [hX]; exact (Below.refl _ _).alloc (Nat.le_refl _) _
  have HO2 := Lib.hid (show rb < k2 ∧ w.heap.size < k2 ∧ bs ≤ k2 ∧ k2 < X2.heap.size from by
    have h1 := HC0.out.size; have h2 := hc.size; have h3 : X2.heap.size = w2.heap.size + 1 := by rw [hX]; simp
    have o0 := HO0.out
    omega)
  have HR2 := Lib.hid (hs.below hbx)
  have hstep : Chg (fun b => b = rb) W0 X2 := hc.trans ((Chg.of_below hbx))
  have HT2 := Lib.hid hstep
  have HB3_z := Lib.hid (show Blk X2 w.heap.size [.int .i64 0, .int .i64 0, .slice none 0 0, .int .i64 0, .int .i64 0, .int .i64 0, .string ⟨#[]⟩, .int .i64 0, .int .i64 0, .int .i64 0] from HB0.out.chg HT2.out (by have o0 := HO0.out; have o1 := HO2.out; omega))
  have HC3 := Lib.hid (show Chg (fun b => b = rb ∨ bs ≤ b) w X2 from HC0.out.trans (Chg.more HT2.out (fun b _ e => by have o0 := HO0.out; have o1 := HO2.out; omega)))
  have HV2 := Lib.hid (show (Ty.rd .num).rd X2 (fun b => bs ≤ b ∧ b ≠ w.heap.size ∧ b ≠ rb ∧ b ≠ k2) [.int .i64 q1_0] px0 from rd_chg .num (K := fun _ => False) (Chg.of_below hbx) (fun b hb hl => ⟨id, by have hb : W0.heap.size ≤ b := hb; have h1 := HC0.out.size; have o0 := HO0.out; have o1 := HO2.out; omega⟩) hr)
  have HB2 := Lib.hid (show Blk X2 k2 [.int .i64 q1_0, .int .i64 0, .slice none 0 0, .int .i64 0, .int .i64 0, .int .i64 0, .string ⟨#[]⟩, .int .i64 0, .int .i64 0, .int .i64 0] from by rw [hX, hk]; exact Blk.new w2 _ _)
  have HK2 := Lib.hid hk
  have HX2 := Lib.hid hX
  clear hr hs hc hk hX hbx hstep
  go_wp2_with fail
  rw [← HK2.out, ← HX2.out]
  refine (rget_int X2 rb B ps1 HR2.out pHM1.out).mono ?_
  rintro e w5 ⟨cs, rfl, hr, hs, hc⟩
  rw [pHD1.out] at hr hs
  dsimp only at hr hs
  obtain ⟨q4_0, rfl⟩ : ∃ z : Int, cs = [.int .i64 z] := ⟨_, hr.1⟩
  have hg : goV [.int .i64 q4_0] = .int .i64 q4_0 := rfl
  rw [hg]
  clear hg
  have hb' := HB2.out.chg hc (by have o0 := HO0.out; have o1 := HO2.out; omega)
  have t0 := hb'.cell 1 _ rfl
  have z0 := hb'.free 1
  obtain ⟨X5, hX⟩ : ∃ X, X = (w5.setCell ⟨k2, 1, none⟩ (.int .i64 q4_0)) := ⟨_, rfl⟩
  have hcx : Chg (fun b => b = k2) w5 X5 := by
    have g : ∀ (u : World) (j : Nat) (v : Value), Chg (fun b => b = k2) u (u.setCell ⟨k2, j, none⟩ v) := fun u j v => Chg.setCell _ _ rfl
    rw [hX]
    exact (g _ _ _)
  have HB5 := Lib.hid (show Blk X5 k2 [.int .i64 q1_0, .int .i64 q4_0, .slice none 0 0, .int .i64 0, .int .i64 0, .int .i64 0, .string ⟨#[]⟩, .int .i64 0, .int .i64 0, .int .i64 0] from by rw [hX]; exact (hb'.set 1 (.int .i64 q4_0) (by simp)))
  have HR5 := Lib.hid (hs.keep (hcx.more (fun b _ e => by have o0 := HO0.out; have o1 := HO2.out; omega)))
  have HT5 := Lib.hid (show Chg (fun b => b = rb ∨ b = k2) X2 X5 from (hc.more (fun b _ e => .inl e)).trans (hcx.more (fun b _ e => .inr e)))
  have HB6_z := Lib.hid (show Blk X5 w.heap.size [.int .i64 0, .int .i64 0, .slice none 0 0, .int .i64 0, .int .i64 0, .int .i64 0, .string ⟨#[]⟩, .int .i64 0, .int .i64 0, .int .i64 0] from HB3_z.out.chg HT5.out (by have o0 := HO0.out; have o1 := HO2.out; omega))
  have HV6_0 := Lib.hid (show (Ty.rd .num).rd X5 (fun b => bs ≤ b ∧ b ≠ w.heap.size ∧ b ≠ rb ∧ b ≠ k2) [.int .i64 q1_0] px0 from rd_chg .num HT5.out (fun b hb hl => ⟨fun e => by have o0 := HO0.out; have o1 := HO2.out; omega, hb⟩) HV2.out)
  have HC6 := Lib.hid (show Chg (fun b => b = rb ∨ bs ≤ b) w X5 from HC3.out.trans (Chg.more HT5.out (fun b _ e => by have o0 := HO0.out; have o1 := HO2.out; omega)))
  have HV5 := Lib.hid (show (Ty.rd .num).rd X5 (fun b => bs ≤ b ∧ b ≠ w.heap.size ∧ b ≠ rb ∧ b ≠ k2) [.int .i64 q4_0] px1 from rd_chg .num hcx (fun b hb hl => by have hb : X2.heap.size ≤ b := hb; have h1 := HC3.out.size; have h2 := HB2.out.lt; have o0 := HO0.out; have o1 := HO2.out; (try dsimp only); omega) hr)
  have HX5 := Lib.hid hX
  clear hr hs hc hb' hcx hX
  obtain ⟨n7, z7, hn⟩ : ∃ n s', dsize ps2 = (n, s') := ⟨_, _, rfl⟩
  have HN7 := Lib.hid hn
  have HLS7 := Lib.hid (show dmany (dec tEdit) n7 z7 = (px2, ps3) from by
    have h := pHD2.out
    replace h : dmany (dec tEdit) (dsize ps2).1 (dsize ps2).2 = _ := h
    rw [hn] at h; exact h)
  obtain ⟨hm1, hm2⟩ := pHM2.out
  rw [hn] at hm1 hm2
  replace hm1 : n7 ≤ 1073741824 := hm1
  have HMM7 := Lib.hid hm2
  have HM1_7 := Lib.hid hm1
  have hn0_7 : 0 ≤ (n7 : Int) ∧ (n7 : Int) ≤ 1073741824 := by omega
  have hsz := rcd_length HR5.out
  rw [hn] at hsz
  have HSZ7 := Lib.hid hsz
  clear hsz hn hm1 hm2
  go_wp2_with fail
  rw [← HX5.out]
  refine HSZ7.out.mono ?_
  rintro e w7 ⟨rfl, hr, hc⟩
  have HR7 := Lib.hid (show RefR w7 rb B z7 from hr)
  have HT7 := Lib.hid hc
  clear hr hc
  have HB8_z := Lib.hid (show Blk w7 w.heap.size [.int .i64 0, .int .i64 0, .slice none 0 0, .int .i64 0, .int .i64 0, .int .i64 0, .string ⟨#[]⟩, .int .i64 0, .int .i64 0, .int .i64 0] from HB6_z.out.chg HT7.out (by have o0 := HO0.out; have o1 := HO2.out; omega))
  have HB8_2 := Lib.hid (show Blk w7 k2 [.int .i64 q1_0, .int .i64 q4_0, .slice none 0 0, .int .i64 0, .int .i64 0, .int .i64 0, .string ⟨#[]⟩, .int .i64 0, .int .i64 0, .int .i64 0] from HB5.out.chg HT7.out (by have o0 := HO0.out; have o1 := HO2.out; omega))
  have HV8_0 := Lib.hid (show (Ty.rd .num).rd w7 (fun b => bs ≤ b ∧ b ≠ w.heap.size ∧ b ≠ rb ∧ b ≠ k2) [.int .i64 q1_0] px0 from rd_chg .num HT7.out (fun b hb hl => ⟨fun e => by have o0 := HO0.out; have o1 := HO2.out; omega, hb⟩) HV6_0.out)
  have HV8_1 := Lib.hid (show (Ty.rd .num).rd w7 (fun b => bs ≤ b ∧ b ≠ w.heap.size ∧ b ≠ rb ∧ b ≠ k2) [.int .i64 q4_0] px1 from rd_chg .num HT7.out (fun b hb hl => ⟨fun e => by have o0 := HO0.out; have o1 := HO2.out; omega, hb⟩) HV5.out)
  have HC8 := Lib.hid (show Chg (fun b => b = rb ∨ bs ≤ b) w w7 from HC6.out.trans (Chg.more HT7.out (fun b _ e => by have o0 := HO0.out; have o1 := HO2.out; omega)))
  obtain ⟨B7, hBL⟩ : ∃ b, b = w7.heap.size := ⟨_, rfl⟩
  have HO7 := Lib.hid (show B7 = w7.heap.size ∧ bs ≤ B7 ∧ k2 < B7 from ⟨hBL, by have h := HC8.out.size; have o0 := HO0.out; have o1 := HO2.out; omega, by rw [hBL]; exact HB8_2.out.lt⟩)
  clear hBL
  have HLA7 := Lib.hid (show LoopAt tEdit 113 16 B7 rb B k2 [.int .i64 q1_0, .int .i64 q4_0, .slice none 0 0, .int .i64 0, .int .i64 0, .int .i64 0, .string ⟨#[]⟩, .int .i64 0, .int .i64 0, .int .i64 0] 2 w7 w7 z7 [] [] (.slice none 0 0) from LoopAt.start HR7.out HB8_2.out rfl (by simp) (by have o0 := HO0.out; have o1 := HO2.out; have o2 := HO7.out; omega) (by have o0 := HO0.out; have o1 := HO2.out; have o2 := HO7.out; omega))
  go_upto_block 0 with fail
  go_cut [7] (fun t7 wx => ∃ (a : Option Addr) (nn c : Nat), RefR wx rb B ps3 ∧ Blk wx k2 [.int .i64 q1_0, .int .i64 q4_0, .slice a nn c, .int .i64 0, .int .i64 0, .int .i64 0, .string ⟨#[]⟩, .int .i64 0, .int .i64 0, .int .i64 0] ∧ (Ty.rd (.list tEdit)).rd wx (B7 ≤ ·) [.slice a nn c] px2 ∧ Chg (fun b => b = rb ∨ b = k2 ∨ B7 ≤ b) w7 wx)
  case first =>
    go_wp2_with fail
    go_loopg [7] n7 (fun gk t7 wr => ∃ (q k : Nat) (sc : St) (l : List (Ty.T tEdit)) (xs : List Value) (v : Value), gk = k ∧ q + k = n7 ∧ t7 = .int .i64 (q : Int) ∧ LoopAt tEdit 113 16 B7 rb B k2 [.int .i64 q1_0, .int .i64 q4_0, .slice none 0 0, .int .i64 0, .int .i64 0, .int .i64 0, .string ⟨#[]⟩, .int .i64 0, .int .i64 0, .int .i64 0] 2 w7 wr sc l xs v ∧ ModMany (Mod tEdit) (dec tEdit) k sc ∧ l.length + k ≤ n7 ∧ l ++ (dmany (dec tEdit) k sc).1 = px2 ∧ (dmany (dec tEdit) k sc).2 = ps3)
    case atStart =>
      exact ⟨0, n7, z7, [], [], .slice none 0 0, rfl, by omega, rfl, HLA7.out, HMM7.out, by simp, by rw [HLS7.out]; rfl, by rw [HLS7.out]⟩
    case round =>
      generalize gk = gk7 at *
      generalize wr = wr7 at *
      obtain ⟨j7, kk, sc7, l7, xs7, v7, rfl, hqk, rfl, hla, hm, hle, hL, hS⟩ := hrel
      have HQ7 := Lib.hid hqk
      have HA7 := Lib.hid hla
      have HMK7 := Lib.hid hm
      have HLE7 := Lib.hid hle
      have HLL7 := Lib.hid hL
      have HSS7 := Lib.hid hS
      have hq0_7 : 0 ≤ (j7 : Int) ∧ (j7 : Int) ≤ 1073741824 := by have := HM1_7.out; omega
      obtain ⟨ii, err7, hp, hst⟩ := hla.r.at_
      have c2_7 := hp.c2
      have HST7 := Lib.hid hst
      clear hqk hla hm hle hL hS hp hst
      by_cases hk7 : gk7 = 0
      · have hqn : j7 = n7 := by have := HQ7.out; omega
        have hd1 : decide ((j7 : Int) < (n7 : Int)) = false := decide_eq_false (by omega)
        have hd1' : ¬ (j7 : Int) < (n7 : Int) := by omega
        clear hqn
        subst hk7
        have HE1 := Lib.hid (show l7 = px2 from by have := HLL7.out; simpa [dmany] using this)
        have HE2 := Lib.hid (show sc7 = ps3 from by have := HSS7.out; exact this)
        obtain ⟨a, nn, c, rfl, hfl⟩ := HA7.out.list
        have HFL := Lib.hid hfl
        clear hfl
        go_wp2
        go_meet
        exact ⟨a, nn, c, by rw [← HE2.out]; exact HA7.out.r, HA7.out.blk, by rw [← HE1.out]; exact HFL.out, HA7.out.chg⟩
      · have hd1 : decide ((j7 : Int) < (n7 : Int)) = true := decide_eq_true (by have := HQ7.out; omega)
        have hd1' : (j7 : Int) < (n7 : Int) := by have := HQ7.out; omega
        cases sc7 with
        | error e =>
          obtain ⟨he1, he⟩ := HST7.out.2 e rfl
          have g0 : (err7 == 0) = false := by rw [he1]; rcases he with rfl | rfl <;> rfl
          have HE1 := Lib.hid (show l7 = px2 from by have := HLL7.out; rw [dmany_error] at this; simpa using this)
          have HE2 := Lib.hid (show (.error e : St) = ps3 from by have := HSS7.out; rw [dmany_error] at this; exact this)
          clear he he1
          obtain ⟨a, nn, c, rfl, hfl⟩ := HA7.out.list
          have HFL := Lib.hid hfl
          clear hfl
          go_wp2
          go_meet
          exact ⟨a, nn, c, by rw [← HE2.out]; exact HA7.out.r, HA7.out.blk, by rw [← HE1.out]; exact HFL.out, HA7.out.chg⟩
        | ok r7 =>
          obtain ⟨rfl, -⟩ := HST7.out.1 r7 rfl
          obtain ⟨k', rfl⟩ : ∃ k', gk7 = k' + 1 := ⟨gk7 - 1, by omega⟩
          obtain ⟨rr7, hrr⟩ : ∃ s : St, s = .ok r7 := ⟨_, rfl⟩
          obtain ⟨y7, y2_7, hd⟩ : ∃ x s', dec tEdit rr7 = (x, s') := ⟨_, _, rfl⟩
          have HL2_7 := Lib.hid (show (l7 ++ [y7]) ++ (dmany (dec tEdit) k' y2_7).1 = px2 ∧ (dmany (dec tEdit) k' y2_7).2 = ps3 from by
            have h1 := HLL7.out; have h2 := HSS7.out
            rw [dmany, ← hrr] at h1 h2
            simp only [hd] at h1 h2
            exact ⟨by simpa using h1, h2⟩)
          have hM2 : Mod tEdit rr7 ∧ ModMany (Mod tEdit) (dec tEdit) k' y2_7 := by
            have h1 := HMK7.out
            rw [ModMany, ← hrr] at h1
            simp only [hd] at h1
            exact h1
          have HMK2_7 := Lib.hid hM2.2
          have HRR7 := Lib.hid (show RefR wr7 rb B rr7 from by rw [hrr]; exact HA7.out.r)
          have HDY7 := Lib.hid hd
          have hmy := hM2.1
          clear hd hM2 hrr
          obtain ⟨i0_7, hi0, hz0, hz1, hz2⟩ := info_parts info_t_Edit
          have HI7 := Lib.hid (And.intro hi0 (And.intro hz0 (And.intro hz1 hz2)))
          clear hi0 hz0 hz1 hz2
          have HMY7 := Lib.hid hmy
          clear hmy
          have HAD7 := Lib.hid HA7.out.drew
          have HRD7 := Lib.hid (HRR7.out.below (Below.refl _ _).drew)
          have HS0_7 := Lib.hid (show wr7.drew.cell? ⟨k2, 2, none⟩ = some v7 ∧ wr7.drew.frozen? ⟨k2, 2, none⟩ = false from ⟨HAD7.out.blk.cell 2 _ rfl, HAD7.out.blk.free 2⟩)
          go_wp2_with fail
          obtain ⟨qc0, qf0⟩ := HS0_7.out
          go_region_law (first | (refine step_append_o rfl (.tmp 32) (.tmp 35) 39 rfl B7 113 i0_7 _ 16 264 Tryz.underlying39 HI7.out.1 HI7.out.2.1 HI7.out.2.2.1 HI7.out.2.2.2 rfl (by decide) v7 l7.length xs7 (by simp [Act.eval]) HA3.out.rows.row _ 1 [.int .i64 q7_0, .string q7_1, .slice q7_a2 q7_n2 q7_c2, .int .i64 q7_3, .int .i64 q7_4, .slice q7_a5 q7_n5 q7_c5, .int .i64 q7_6, .slice q7_a7 q7_n7 q7_c7, .string q7_8, .slice q7_a9 q7_n9 q7_c9, .slice q7_a10 q7_n10 q7_c10, .slice q7_a11 q7_n11 q7_c11, .slice q7_a12 q7_n12 q7_c12, .int .i64 q7_13, .string q7_14, .int .i64 q7_15] (by first | (simp [Act.eval]; done) | (simp [Act.eval]; rfl)) (sl_cells1 wq _ _ rfl) (fun c h => by cases h) (by simp [Value.oneCell']) (by have := HLE7.out; have := HM1_7.out; unfold maxLen; omega) (by have := HLE7.out; have := HM1_7.out; omega) HA3.out.ord.2.2.1 ?_; intro v' w4 h1 h2 h3; obtain ⟨va, vn, vc, rfl⟩ := ownk_shape h1; obtain ⟨qc3, qf3⟩ := And.intro ((HA3.out.app h2).cell 2 _ rfl) ((HA3.out.app h2).free 2)) | (go_simp; go_at_call 83; refine (rget_Edit wr7.drew rb B rr7 HRD7.out HMY7.out).mono ?_; rintro e wq ⟨cs, rfl, hr, hs, hc⟩; rw [HDY7.out] at hr hs; dsimp only at hr hs; obtain ⟨q7_0, q7_1, q7_a2, q7_n2, q7_c2, q7_3, q7_4, q7_a5, q7_n5, q7_c5, q7_6, q7_a7, q7_n7, q7_c7, q7_8, q7_a9, q7_n9, q7_c9, q7_a10, q7_n10, q7_c10, q7_a11, q7_n11, q7_c11, q7_a12, q7_n12, q7_c12, q7_13, q7_14, q7_15, rfl⟩ := shape_Edit hr; have hg : goV [.int .i64 q7_0, .string q7_1, .slice q7_a2 q7_n2 q7_c2, .int .i64 q7_3, .int .i64 q7_4, .slice q7_a5 q7_n5 q7_c5, .int .i64 q7_6, .slice q7_a7 q7_n7 q7_c7, .string q7_8, .slice q7_a9 q7_n9 q7_c9, .slice q7_a10 q7_n10 q7_c10, .slice q7_a11 q7_n11 q7_c11, .slice q7_a12 q7_n12 q7_c12, .int .i64 q7_13, .string q7_14, .int .i64 q7_15] = .agg #[.int .i64 q7_0, .string q7_1, .slice q7_a2 q7_n2 q7_c2, .int .i64 q7_3, .int .i64 q7_4, .slice q7_a5 q7_n5 q7_c5, .int .i64 q7_6, .slice q7_a7 q7_n7 q7_c7, .string q7_8, .slice q7_a9 q7_n9 q7_c9, .slice q7_a10 q7_n10 q7_c10, .slice q7_a11 q7_n11 q7_c11, .slice q7_a12 q7_n12 q7_c12, .int .i64 q7_13, .string q7_14, .int .i64 q7_15] := rfl; rw [hg]; clear hg; have HRQ := Lib.hid hs; have HVQ := Lib.hid hr; have HCQ := Lib.hid hc; have HAQ := Lib.hid (HAD7.out.turn hc hs); clear hr hs hc; have HB3 := Lib.hid (show Below wq.heap.size wq (wq.alloc (.cells #[.int .i64 q7_0, .string q7_1, .slice q7_a2 q7_n2 q7_c2, .int .i64 q7_3, .int .i64 q7_4, .slice q7_a5 q7_n5 q7_c5, .int .i64 q7_6, .slice q7_a7 q7_n7 q7_c7, .string q7_8, .slice q7_a9 q7_n9 q7_c9, .slice q7_a10 q7_n10 q7_c10, .slice q7_a11 q7_n11 q7_c11, .slice q7_a12 q7_n12 q7_c12, .int .i64 q7_13, .string q7_14, .int .i64 q7_15] 113)) from (Below.refl _ _).alloc (Nat.le_refl _) _); have HA3 := Lib.hid (HAQ.out.below HB3.out); obtain ⟨qc1, qf1⟩ := And.intro (HAQ.out.blk.cell 2 _ rfl) (HAQ.out.blk.free 2); obtain ⟨qc2, qf2⟩ := And.intro (HA3.out.blk.cell 2 _ rfl) (HA3.out.blk.free 2)) | fail)
          all_goals
            have HST4 := Lib.hid (HAD7.out.step HCQ.out HRQ.out HVQ.out HB3.out h1 h2 h3)
            clear h1 h2 h3 qc0 qf0 qc1 qf1 qc2 qf2 qc3 qf3
            go_wp2
            go_roundg k'
            case rel => exact ⟨j7 + 1, k', y2_7, l7 ++ [y7], _, _, rfl, by have := HQ7.out; omega, by go_num, HST4.out, HMK2_7.out, by have := HLE7.out; simp; omega, HL2_7.out.1, HL2_7.out.2⟩
            case measure => omega
  case rest =>
    generalize wc = X7 at *
    obtain ⟨la7, ln7, lc7, hr, hb, hl, hc⟩ := hcut
    have HRl7 := Lib.hid hr
    have HBl7 := Lib.hid hb
    have HTl7 := Lib.hid hc
    have HB9_z := Lib.hid (show Blk X7 w.heap.size [.int .i64 0, .int .i64 0, .slice none 0 0, .int .i64 0, .int .i64 0, .int .i64 0, .string ⟨#[]⟩, .int .i64 0, .int .i64 0, .int .i64 0] from HB8_z.out.chg HTl7.out (by have o0 := HO0.out; have o1 := HO2.out; have o2 := HO7.out; omega))
    have HV9_0 := Lib.hid (show (Ty.rd .num).rd X7 (fun b => bs ≤ b ∧ b ≠ w.heap.size ∧ b ≠ rb ∧ b ≠ k2) [.int .i64 q1_0] px0 from rd_chg .num HTl7.out (fun b hb hl => ⟨fun e => by have o0 := HO0.out; have o1 := HO2.out; have o2 := HO7.out; omega, hb⟩) HV8_0.out)
    have HV9_1 := Lib.hid (show (Ty.rd .num).rd X7 (fun b => bs ≤ b ∧ b ≠ w.heap.size ∧ b ≠ rb ∧ b ≠ k2) [.int .i64 q4_0] px1 from rd_chg .num HTl7.out (fun b hb hl => ⟨fun e => by have o0 := HO0.out; have o1 := HO2.out; have o2 := HO7.out; omega, hb⟩) HV8_1.out)
    have HC9 := Lib.hid (show Chg (fun b => b = rb ∨ bs ≤ b) w X7 from HC8.out.trans (Chg.more HTl7.out (fun b _ e => by have o0 := HO0.out; have o1 := HO2.out; have o2 := HO7.out; omega)))
    have HVl7 := Lib.hid (show (Ty.rd (.list tEdit)).rd X7 (fun b => bs ≤ b ∧ b ≠ w.heap.size ∧ b ≠ rb ∧ b ≠ k2) [.slice la7 ln7 lc7] px2 from Rd.more _ (fun b hb => by have hb : B7 ≤ b := hb; have o0 := HO0.out; have o1 := HO2.out; have o2 := HO7.out; (try dsimp only); omega) hl)
    clear hr hb hl hc
    go_wp2_with fail
    refine (rget_Request X7 rb B ps3 HRl7.out pHM3.out).mono ?_
    rintro e w11 ⟨cs, rfl, hr, hs, hc⟩
    rw [pHD3.out] at hr hs
    dsimp only at hr hs
    obtain ⟨q10_0, q10_1, q10_2, q10_3, rfl⟩ := shape_Request hr
    have hg : goV [.int .i64 q10_0, .int .i64 q10_1, .int .i64 q10_2, .string q10_3] = .agg #[.int .i64 q10_0, .int .i64 q10_1, .int .i64 q10_2, .string q10_3] := rfl
    rw [hg]
    clear hg
    have hb' := HBl7.out.chg hc (by have o0 := HO0.out; have o1 := HO2.out; have o2 := HO7.out; omega)
    have t0 := hb'.cell 3 _ rfl
    have z0 := hb'.free 3
    have t1 := hb'.cell 4 _ rfl
    have z1 := hb'.free 4
    have t2 := hb'.cell 5 _ rfl
    have z2 := hb'.free 5
    have t3 := hb'.cell 6 _ rfl
    have z3 := hb'.free 6
    obtain ⟨X11, hX⟩ : ∃ X, X = ((((w11.setCell ⟨k2, 3, none⟩ (.int .i64 q10_0)).setCell ⟨k2, 4, none⟩ (.int .i64 q10_1)).setCell ⟨k2, 5, none⟩ (.int .i64 q10_2)).setCell ⟨k2, 6, none⟩ (.string q10_3)) := ⟨_, rfl⟩
    have hcx : Chg (fun b => b = k2) w11 X11 := by
      have g : ∀ (u : World) (j : Nat) (v : Value), Chg (fun b => b = k2) u (u.setCell ⟨k2, j, none⟩ v) := fun u j v => Chg.setCell _ _ rfl
      rw [hX]
      exact (Chg.trans (Chg.trans (Chg.trans (g _ _ _) (g _ _ _)) (g _ _ _)) (g _ _ _))
    have HB11 := Lib.hid (show Blk X11 k2 [.int .i64 q1_0, .int .i64 q4_0, .slice la7 ln7 lc7, .int .i64 q10_0, .int .i64 q10_1, .int .i64 q10_2, .string q10_3, .int .i64 0, .int .i64 0, .int .i64 0] from by rw [hX]; exact ((((hb'.set 3 (.int .i64 q10_0) (by simp)).set 4 (.int .i64 q10_1) (by simp)).set 5 (.int .i64 q10_2) (by simp)).set 6 (.string q10_3) (by simp)))
    have HR11 := Lib.hid (hs.keep (hcx.more (fun b _ e => by have o0 := HO0.out; have o1 := HO2.out; have o2 := HO7.out; omega)))
    have HT11 := Lib.hid (show Chg (fun b => b = rb ∨ b = k2) X7 X11 from (hc.more (fun b _ e => .inl e)).trans (hcx.more (fun b _ e => .inr e)))
    have HB12_z := Lib.hid (show Blk X11 w.heap.size [.int .i64 0, .int .i64 0, .slice none 0 0, .int .i64 0, .int .i64 0, .int .i64 0, .string ⟨#[]⟩, .int .i64 0, .int .i64 0, .int .i64 0] from HB9_z.out.chg HT11.out (by have o0 := HO0.out; have o1 := HO2.out; have o2 := HO7.out; omega))
    have HV12_0 := Lib.hid (show (Ty.rd .num).rd X11 (fun b => bs ≤ b ∧ b ≠ w.heap.size ∧ b ≠ rb ∧ b ≠ k2) [.int .i64 q1_0] px0 from rd_chg .num HT11.out (fun b hb hl => ⟨fun e => by have o0 := HO0.out; have o1 := HO2.out; have o2 := HO7.out; omega, hb⟩) HV9_0.out)
    have HV12_1 := Lib.hid (show (Ty.rd .num).rd X11 (fun b => bs ≤ b ∧ b ≠ w.heap.size ∧ b ≠ rb ∧ b ≠ k2) [.int .i64 q4_0] px1 from rd_chg .num HT11.out (fun b hb hl => ⟨fun e => by have o0 := HO0.out; have o1 := HO2.out; have o2 := HO7.out; omega, hb⟩) HV9_1.out)
    have HV12_2 := Lib.hid (show (Ty.rd (.list tEdit)).rd X11 (fun b => bs ≤ b ∧ b ≠ w.heap.size ∧ b ≠ rb ∧ b ≠ k2) [.slice la7 ln7 lc7] px2 from rd_chg (.list tEdit) HT11.out (fun b hb hl => ⟨fun e => by have o0 := HO0.out; have o1 := HO2.out; have o2 := HO7.out; omega, hb⟩) HVl7.out)
    have HC12 := Lib.hid (show Chg (fun b => b = rb ∨ bs ≤ b) w X11 from HC9.out.trans (Chg.more HT11.out (fun b _ e => by have o0 := HO0.out; have o1 := HO2.out; have o2 := HO7.out; omega)))
    have HV11 := Lib.hid (show (Ty.rd tRequest).rd X11 (fun b => bs ≤ b ∧ b ≠ w.heap.size ∧ b ≠ rb ∧ b ≠ k2) [.int .i64 q10_0, .int .i64 q10_1, .int .i64 q10_2, .string q10_3] px3 from rd_chg tRequest hcx (fun b hb hl => by have hb : X7.heap.size ≤ b := hb; have h1 := HC9.out.size; have h2 := HBl7.out.lt; have o0 := HO0.out; have o1 := HO2.out; have o2 := HO7.out; (try dsimp only); omega) hr)
    have HX11 := Lib.hid hX
    clear hr hs hc hb' hcx hX
    go_wp2_with fail
    rw [← HX11.out]
    refine (rget_Hold X11 rb B ps4 HR11.out pHM4.out).mono ?_
    rintro e w14 ⟨cs, rfl, hr, hs, hc⟩
    rw [pHD4.out] at hr hs
    dsimp only at hr hs
    obtain ⟨q13_0, q13_1, q13_2, rfl⟩ := shape_Hold hr
    have hg : goV [.int .i64 q13_0, .int .i64 q13_1, .int .i64 q13_2] = .agg #[.int .i64 q13_0, .int .i64 q13_1, .int .i64 q13_2] := rfl
    rw [hg]
    clear hg
    have hb' := HB11.out.chg hc (by have o0 := HO0.out; have o1 := HO2.out; have o2 := HO7.out; omega)
    have t0 := hb'.cell 7 _ rfl
    have z0 := hb'.free 7
    have t1 := hb'.cell 8 _ rfl
    have z1 := hb'.free 8
    have t2 := hb'.cell 9 _ rfl
    have z2 := hb'.free 9
    obtain ⟨X14, hX⟩ : ∃ X, X = (((w14.setCell ⟨k2, 7, none⟩ (.int .i64 q13_0)).setCell ⟨k2, 8, none⟩ (.int .i64 q13_1)).setCell ⟨k2, 9, none⟩ (.int .i64 q13_2)) := ⟨_, rfl⟩
    have hcx : Chg (fun b => b = k2) w14 X14 := by
      have g : ∀ (u : World) (j : Nat) (v : Value), Chg (fun b => b = k2) u (u.setCell ⟨k2, j, none⟩ v) := fun u j v => Chg.setCell _ _ rfl
      rw [hX]
      exact (Chg.trans (Chg.trans (g _ _ _) (g _ _ _)) (g _ _ _))
    have HB14 := Lib.hid (show Blk X14 k2 [.int .i64 q1_0, .int .i64 q4_0, .slice la7 ln7 lc7, .int .i64 q10_0, .int .i64 q10_1, .int .i64 q10_2, .string q10_3, .int .i64 q13_0, .int .i64 q13_1, .int .i64 q13_2] from by rw [hX]; exact (((hb'.set 7 (.int .i64 q13_0) (by simp)).set 8 (.int .i64 q13_1) (by simp)).set 9 (.int .i64 q13_2) (by simp)))
    have HR14 := Lib.hid (hs.keep (hcx.more (fun b _ e => by have o0 := HO0.out; have o1 := HO2.out; have o2 := HO7.out; omega)))
    have HT14 := Lib.hid (show Chg (fun b => b = rb ∨ b = k2) X11 X14 from (hc.more (fun b _ e => .inl e)).trans (hcx.more (fun b _ e => .inr e)))
    have HB15_z := Lib.hid (show Blk X14 w.heap.size [.int .i64 0, .int .i64 0, .slice none 0 0, .int .i64 0, .int .i64 0, .int .i64 0, .string ⟨#[]⟩, .int .i64 0, .int .i64 0, .int .i64 0] from HB12_z.out.chg HT14.out (by have o0 := HO0.out; have o1 := HO2.out; have o2 := HO7.out; omega))
    have HV15_0 := Lib.hid (show (Ty.rd .num).rd X14 (fun b => bs ≤ b ∧ b ≠ w.heap.size ∧ b ≠ rb ∧ b ≠ k2) [.int .i64 q1_0] px0 from rd_chg .num HT14.out (fun b hb hl => ⟨fun e => by have o0 := HO0.out; have o1 := HO2.out; have o2 := HO7.out; omega, hb⟩) HV12_0.out)
    have HV15_1 := Lib.hid (show (Ty.rd .num).rd X14 (fun b => bs ≤ b ∧ b ≠ w.heap.size ∧ b ≠ rb ∧ b ≠ k2) [.int .i64 q4_0] px1 from rd_chg .num HT14.out (fun b hb hl => ⟨fun e => by have o0 := HO0.out; have o1 := HO2.out; have o2 := HO7.out; omega, hb⟩) HV12_1.out)
    have HV15_2 := Lib.hid (show (Ty.rd (.list tEdit)).rd X14 (fun b => bs ≤ b ∧ b ≠ w.heap.size ∧ b ≠ rb ∧ b ≠ k2) [.slice la7 ln7 lc7] px2 from rd_chg (.list tEdit) HT14.out (fun b hb hl => ⟨fun e => by have o0 := HO0.out; have o1 := HO2.out; have o2 := HO7.out; omega, hb⟩) HV12_2.out)
    have HV15_3 := Lib.hid (show (Ty.rd tRequest).rd X14 (fun b => bs ≤ b ∧ b ≠ w.heap.size ∧ b ≠ rb ∧ b ≠ k2) [.int .i64 q10_0, .int .i64 q10_1, .int .i64 q10_2, .string q10_3] px3 from rd_chg tRequest HT14.out (fun b hb hl => ⟨fun e => by have o0 := HO0.out; have o1 := HO2.out; have o2 := HO7.out; omega, hb⟩) HV11.out)
    have HC15 := Lib.hid (show Chg (fun b => b = rb ∨ bs ≤ b) w X14 from HC12.out.trans (Chg.more HT14.out (fun b _ e => by have o0 := HO0.out; have o1 := HO2.out; have o2 := HO7.out; omega)))
    have HV14 := Lib.hid (show (Ty.rd tHold).rd X14 (fun b => bs ≤ b ∧ b ≠ w.heap.size ∧ b ≠ rb ∧ b ≠ k2) [.int .i64 q13_0, .int .i64 q13_1, .int .i64 q13_2] px4 from rd_chg tHold hcx (fun b hb hl => by have hb : X11.heap.size ≤ b := hb; have h1 := HC12.out.size; have h2 := HB11.out.lt; have o0 := HO0.out; have o1 := HO2.out; have o2 := HO7.out; (try dsimp only); omega) hr)
    have HX14 := Lib.hid hX
    clear hr hs hc hb' hcx hX
    have hend := rcd_end HR14.out
    rw [← HEE.out] at hend
    have HEND := Lib.hid hend
    clear hend
    go_wp2_with fail
    rw [← HX14.out]
    refine HEND.out.mono ?_
    rintro e wE ⟨rfl, ⟨ie, hp⟩, hc⟩
    have HP := Lib.hid hp
    have c2 := hp.c2
    have HTE := Lib.hid hc
    clear hp hc
    have HB16_z := Lib.hid (show Blk wE w.heap.size [.int .i64 0, .int .i64 0, .slice none 0 0, .int .i64 0, .int .i64 0, .int .i64 0, .string ⟨#[]⟩, .int .i64 0, .int .i64 0, .int .i64 0] from HB15_z.out.chg HTE.out (by have o0 := HO0.out; have o1 := HO2.out; have o2 := HO7.out; omega))
    have HB16_2 := Lib.hid (show Blk wE k2 [.int .i64 q1_0, .int .i64 q4_0, .slice la7 ln7 lc7, .int .i64 q10_0, .int .i64 q10_1, .int .i64 q10_2, .string q10_3, .int .i64 q13_0, .int .i64 q13_1, .int .i64 q13_2] from HB14.out.chg HTE.out (by have o0 := HO0.out; have o1 := HO2.out; have o2 := HO7.out; omega))
    have HV16_0 := Lib.hid (show (Ty.rd .num).rd wE (fun b => bs ≤ b ∧ b ≠ w.heap.size ∧ b ≠ rb ∧ b ≠ k2) [.int .i64 q1_0] px0 from rd_chg .num HTE.out (fun b hb hl => ⟨fun e => by have o0 := HO0.out; have o1 := HO2.out; have o2 := HO7.out; omega, hb⟩) HV15_0.out)
    have HV16_1 := Lib.hid (show (Ty.rd .num).rd wE (fun b => bs ≤ b ∧ b ≠ w.heap.size ∧ b ≠ rb ∧ b ≠ k2) [.int .i64 q4_0] px1 from rd_chg .num HTE.out (fun b hb hl => ⟨fun e => by have o0 := HO0.out; have o1 := HO2.out; have o2 := HO7.out; omega, hb⟩) HV15_1.out)
    have HV16_2 := Lib.hid (show (Ty.rd (.list tEdit)).rd wE (fun b => bs ≤ b ∧ b ≠ w.heap.size ∧ b ≠ rb ∧ b ≠ k2) [.slice la7 ln7 lc7] px2 from rd_chg (.list tEdit) HTE.out (fun b hb hl => ⟨fun e => by have o0 := HO0.out; have o1 := HO2.out; have o2 := HO7.out; omega, hb⟩) HV15_2.out)
    have HV16_3 := Lib.hid (show (Ty.rd tRequest).rd wE (fun b => bs ≤ b ∧ b ≠ w.heap.size ∧ b ≠ rb ∧ b ≠ k2) [.int .i64 q10_0, .int .i64 q10_1, .int .i64 q10_2, .string q10_3] px3 from rd_chg tRequest HTE.out (fun b hb hl => ⟨fun e => by have o0 := HO0.out; have o1 := HO2.out; have o2 := HO7.out; omega, hb⟩) HV15_3.out)
    have HV16_4 := Lib.hid (show (Ty.rd tHold).rd wE (fun b => bs ≤ b ∧ b ≠ w.heap.size ∧ b ≠ rb ∧ b ≠ k2) [.int .i64 q13_0, .int .i64 q13_1, .int .i64 q13_2] px4 from rd_chg tHold HTE.out (fun b hb hl => ⟨fun e => by have o0 := HO0.out; have o1 := HO2.out; have o2 := HO7.out; omega, hb⟩) HV14.out)
    have HC16 := Lib.hid (show Chg (fun b => b = rb ∨ bs ≤ b) w wE from HC15.out.trans (Chg.more HTE.out (fun b _ e => by have o0 := HO0.out; have o1 := HO2.out; have o2 := HO7.out; omega)))
    have HDW := Lib.hid (show Chg (fun _ => False) wE wE.drew from Chg.of_below (Below.refl _ _).drew)
    by_cases hE0 : E = 0
    · have g0 : (E == 0) = true := beq_iff_eq.2 hE0
      have HE0 := Lib.hid hE0
      clear hE0
      have zc0 := HB16_z.out.cell 0 _ rfl
      have zf0 := HB16_z.out.free 0
      have q0 := HB16_2.out.cell 0 _ rfl
      have zc1 := HB16_z.out.cell 1 _ rfl
      have zf1 := HB16_z.out.free 1
      have q1 := HB16_2.out.cell 1 _ rfl
      have zc2 := HB16_z.out.cell 2 _ rfl
      have zf2 := HB16_z.out.free 2
      have q2 := HB16_2.out.cell 2 _ rfl
      have zc3 := HB16_z.out.cell 3 _ rfl
      have zf3 := HB16_z.out.free 3
      have q3 := HB16_2.out.cell 3 _ rfl
      have zc4 := HB16_z.out.cell 4 _ rfl
      have zf4 := HB16_z.out.free 4
      have q4 := HB16_2.out.cell 4 _ rfl
      have zc5 := HB16_z.out.cell 5 _ rfl
      have zf5 := HB16_z.out.free 5
      have q5 := HB16_2.out.cell 5 _ rfl
      have zc6 := HB16_z.out.cell 6 _ rfl
      have zf6 := HB16_z.out.free 6
      have q6 := HB16_2.out.cell 6 _ rfl
      have zc7 := HB16_z.out.cell 7 _ rfl
      have zf7 := HB16_z.out.free 7
      have q7 := HB16_2.out.cell 7 _ rfl
      have zc8 := HB16_z.out.cell 8 _ rfl
      have zf8 := HB16_z.out.free 8
      have q8 := HB16_2.out.cell 8 _ rfl
      have zc9 := HB16_z.out.cell 9 _ rfl
      have zf9 := HB16_z.out.free 9
      have q9 := HB16_2.out.cell 9 _ rfl
      go_wp2
      obtain ⟨Wf, hWf⟩ : ∃ Wf, Wf = ((((((((((wE.setCell ⟨w.heap.size, 0, none⟩ (.int .i64 q1_0)).setCell ⟨w.heap.size, 1, none⟩ (.int .i64 q4_0)).setCell ⟨w.heap.size, 2, none⟩ (.slice la7 ln7 lc7)).setCell ⟨w.heap.size, 3, none⟩ (.int .i64 q10_0)).setCell ⟨w.heap.size, 4, none⟩ (.int .i64 q10_1)).setCell ⟨w.heap.size, 5, none⟩ (.int .i64 q10_2)).setCell ⟨w.heap.size, 6, none⟩ (.string q10_3)).setCell ⟨w.heap.size, 7, none⟩ (.int .i64 q13_0)).setCell ⟨w.heap.size, 8, none⟩ (.int .i64 q13_1)).setCell ⟨w.heap.size, 9, none⟩ (.int .i64 q13_2)) := ⟨_, rfl⟩
      rw [← hWf]
      have hcf : Chg (fun b => b = w.heap.size) wE Wf := by
        have g : ∀ (u : World) (j : Nat) (v : Value), Chg (fun b => b = w.heap.size) u (u.setCell ⟨w.heap.size, j, none⟩ v) := fun u j v => Chg.setCell _ _ rfl
        rw [hWf]
        exact (Chg.trans (Chg.trans (Chg.trans (Chg.trans (Chg.trans (Chg.trans (Chg.trans (Chg.trans (Chg.trans (g _ _ _) (g _ _ _)) (g _ _ _)) (g _ _ _)) (g _ _ _)) (g _ _ _)) (g _ _ _)) (g _ _ _)) (g _ _ _)) (g _ _ _))
      have HBF := Lib.hid (show Blk Wf w.heap.size [.int .i64 q1_0, .int .i64 q4_0, .slice la7 ln7 lc7, .int .i64 q10_0, .int .i64 q10_1, .int .i64 q10_2, .string q10_3, .int .i64 q13_0, .int .i64 q13_1, .int .i64 q13_2] from by rw [hWf]; exact ((((((((((HB16_z.out.set 0 (.int .i64 q1_0) (by simp)).set 1 (.int .i64 q4_0) (by simp)).set 2 (.slice la7 ln7 lc7) (by simp)).set 3 (.int .i64 q10_0) (by simp)).set 4 (.int .i64 q10_1) (by simp)).set 5 (.int .i64 q10_2) (by simp)).set 6 (.string q10_3) (by simp)).set 7 (.int .i64 q13_0) (by simp)).set 8 (.int .i64 q13_1) (by simp)).set 9 (.int .i64 q13_2) (by simp)))
      clear hWf zc0 zf0 zc1 zf1 zc2 zf2 zc3 zf3 zc4 zf4 zc5 zf5 zc6 zf6 zc7 zf7 zc8 zf8 zc9 zf9
      clear q0 q1 q2 q3 q4 q5 q6 q7 q8 q9
      have sc0 := HBF.out.cell 0 _ rfl
      have sc1 := HBF.out.cell 1 _ rfl
      have sc2 := HBF.out.cell 2 _ rfl
      have sc3 := HBF.out.cell 3 _ rfl
      have sc4 := HBF.out.cell 4 _ rfl
      have sc5 := HBF.out.cell 5 _ rfl
      have sc6 := HBF.out.cell 6 _ rfl
      have sc7 := HBF.out.cell 7 _ rfl
      have sc8 := HBF.out.cell 8 _ rfl
      have sc9 := HBF.out.cell 9 _ rfl
      refine bodyPost_ret (v := .tuple #[.agg #[.int .i64 q1_0, .int .i64 q4_0, .slice la7 ln7 lc7, .int .i64 q10_0, .int .i64 q10_1, .int .i64 q10_2, .string q10_3, .int .i64 q13_0, .int .i64 q13_1, .int .i64 q13_2], .int .i64 E]) (by simp [sc0, sc1, sc2, sc3, sc4, sc5, sc6, sc7, sc8, sc9, HE0.out, results, Tryz.results44, go_sem]) rfl ?_
      have HCF := Lib.hid (show Chg (fun b => b = rb ∨ bs ≤ b) w Wf from HC16.out.trans (hcf.more (fun b _ e => by have o0 := HO0.out; omega)))
      refine ⟨[.int .i64 q1_0, .int .i64 q4_0, .slice la7 ln7 lc7, .int .i64 q10_0, .int .i64 q10_1, .int .i64 q10_2, .string q10_3, .int .i64 q13_0, .int .i64 q13_1, .int .i64 q13_2], rfl, fun e => ?_, fun e => ?_, HCF.out.below (Nat.le_refl _) (fun b e => by have o0 := HO0.out; omega)⟩
      · rw [HXX.out]
        have h0 : (Ty.rd .num).rd Wf (w.heap.size ≤ ·) _ _ := rd_chg .num hcf (fun b hb hl => by have o0 := HO0.out; (try dsimp only at hb ⊢); omega) HV16_0.out
        have h1 : (Ty.rd .num).rd Wf (w.heap.size ≤ ·) _ _ := rd_chg .num hcf (fun b hb hl => by have o0 := HO0.out; (try dsimp only at hb ⊢); omega) HV16_1.out
        have h2 : (Ty.rd (.list tEdit)).rd Wf (w.heap.size ≤ ·) _ _ := rd_chg (.list tEdit) hcf (fun b hb hl => by have o0 := HO0.out; (try dsimp only at hb ⊢); omega) HV16_2.out
        have h3 : (Ty.rd tRequest).rd Wf (w.heap.size ≤ ·) _ _ := rd_chg tRequest hcf (fun b hb hl => by have o0 := HO0.out; (try dsimp only at hb ⊢); omega) HV16_3.out
        have h4 : (Ty.rd tHold).rd Wf (w.heap.size ≤ ·) _ _ := rd_chg tHold hcf (fun b hb hl => by have o0 := HO0.out; (try dsimp only at hb ⊢); omega) HV16_4.out
        exact ⟨_, _, rfl, h0, _, _, rfl, h1, _, _, rfl, h2, _, _, rfl, h3, h4⟩
      · exact absurd HE0.out e
    
    · have g0 : (E == 0) = false := beq_eq_false_iff_ne.2 hE0
      have HE0 := Lib.hid hE0
      clear hE0
      go_upto_region 13 with fail
      clear c2
      have HS0 := Lib.hid (show wE.cell? ⟨rb, 2, none⟩ = some (.int .i64 E) from HP.out.c2)
      have HG := Lib.hid (show ∀ (u : World) (j : Nat) (v : Value), Chg (fun b => b = w.heap.size) u (u.setCell ⟨w.heap.size, j, none⟩ v) from fun u j v => Chg.setCell _ _ rfl)
      have zc0 := HB16_z.out.cell 0 _ rfl
      have zf0 := HB16_z.out.free 0
      have zc1 := HB16_z.out.cell 1 _ rfl
      have zf1 := HB16_z.out.free 1
      have zc2 := HB16_z.out.cell 2 _ rfl
      have zf2 := HB16_z.out.free 2
      have zc3 := HB16_z.out.cell 3 _ rfl
      have zf3 := HB16_z.out.free 3
      have zc4 := HB16_z.out.cell 4 _ rfl
      have zf4 := HB16_z.out.free 4
      have zc5 := HB16_z.out.cell 5 _ rfl
      have zf5 := HB16_z.out.free 5
      have zc6 := HB16_z.out.cell 6 _ rfl
      have zf6 := HB16_z.out.free 6
      have zc7 := HB16_z.out.cell 7 _ rfl
      have zf7 := HB16_z.out.free 7
      have zc8 := HB16_z.out.cell 8 _ rfl
      have zf8 := HB16_z.out.free 8
      have zc9 := HB16_z.out.cell 9 _ rfl
      have zf9 := HB16_z.out.free 9
      have hS0' : wE.drew.cell? ⟨rb, 2, none⟩ = some (.int .i64 E) := HS0.out
      refine wp_region_noPanic ?_
      refine wp_region_held_drew (S := fun W => W.cell? ⟨rb, 2, none⟩ = some (.int .i64 E)) (by kernel_rfl) hS0' ?_
      intro hS0
      clear hS0'
      refine wpAnyH_take (i := 0) (v := .agg #[.int .i64 0, .int .i64 0, .slice none 0 0, .int .i64 0, .int .i64 0, .int .i64 0, .string ⟨#[]⟩, .int .i64 0, .int .i64 0, .int .i64 0]) (by simp only [List.getElem?_toArray, List.getElem?_cons_succ, List.getElem?_cons_zero] <;> rfl) (by kernel_rfl) (by kernel_rfl) (by kernel_rfl) (fun _ _ _ h => h) (Or.inl ⟨by rfl, ?_⟩) (by assumption) ?_
      · intro w hSw
        (try dsimp only at hSw)
        go_simp
        (try with_reducible rfl)
      (try simp only [Act.put, List.setIfInBounds_toArray, List.set_cons_zero, List.set_cons_succ])
      refine wpAnyH_take (i := 1) (v := .pointer (some ⟨rb, 0, none⟩)) (by simp only [List.getElem?_toArray, List.getElem?_cons_succ, List.getElem?_cons_zero] <;> rfl) (by kernel_rfl) (by kernel_rfl) (by kernel_rfl) (fun _ _ _ h => h) (Or.inl ⟨by rfl, ?_⟩) (by assumption) ?_
      · intro w hSw
        (try dsimp only at hSw)
        go_simp
        (try with_reducible rfl)
      (try simp only [Act.put, List.setIfInBounds_toArray, List.set_cons_zero, List.set_cons_succ])
      refine wpAnyH_take (i := 2) (v := .pointer (some ⟨rb, 0, none⟩)) (by simp only [List.getElem?_toArray, List.getElem?_cons_succ, List.getElem?_cons_zero] <;> rfl) (by kernel_rfl) (by kernel_rfl) (by kernel_rfl) (fun _ _ _ h => h) (Or.inl ⟨by rfl, ?_⟩) (by assumption) ?_
      · intro w hSw
        (try dsimp only at hSw)
        go_simp
        (try with_reducible rfl)
      (try simp only [Act.put, List.setIfInBounds_toArray, List.set_cons_zero, List.set_cons_succ])
      refine wpAnyH_take (i := 3) (v := .pointer (some ⟨rb, 2, none⟩)) (by simp only [List.getElem?_toArray, List.getElem?_cons_succ, List.getElem?_cons_zero] <;> rfl) (by kernel_rfl) (by kernel_rfl) (by kernel_rfl) (fun _ _ _ h => h) (Or.inl ⟨by rfl, ?_⟩) (by assumption) ?_
      · intro w hSw
        (try dsimp only at hSw)
        go_simp
        (try with_reducible rfl)
      (try simp only [Act.put, List.setIfInBounds_toArray, List.set_cons_zero, List.set_cons_succ])
      refine wpAnyH_take (i := 4) (v := .int .i64 E) (by simp only [List.getElem?_toArray, List.getElem?_cons_succ, List.getElem?_cons_zero] <;> rfl) (by kernel_rfl) (by kernel_rfl) (by kernel_rfl) (fun _ _ _ h => h) (Or.inl ⟨by rfl, ?_⟩) (by assumption) ?_
      · intro w hSw
        (try dsimp only at hSw)
        go_simp
        (try with_reducible rfl)
      (try simp only [Act.put, List.setIfInBounds_toArray, List.set_cons_zero, List.set_cons_succ])
      refine wpAnyH_ready (rs := [5]) (by kernel_rfl) (by simp) ?_
      refine AllReadyH.cons (by simp only [List.getElem?_toArray, List.getElem?_cons_succ, List.getElem?_cons_zero] <;> rfl) (fun K hK => ?_) AllReadyH.nil
      rw [if_pos (by kernel_rfl)]
      go_wp2
      clear hS0
      have HS9 := Lib.hid (show ∀ (W : World) (j : Nat) (u : Value), W.cell? ⟨rb, 2, none⟩ = some (.int .i64 E) → (W.setCell ⟨w.heap.size, j, none⟩ u).cell? ⟨rb, 2, none⟩ = some (.int .i64 E) from fun W j u h => (World.cell?_setCell_other _ _ _ _ (by have o0 := HO0.out; first | (simp; done) | (simp; omega))).trans h)
      refine hK.out _ _ ?_ ?_
      · refine (show ∀ W : World, W.cell? ⟨rb, 2, none⟩ = some (.int .i64 E) → W.drew.cell? ⟨rb, 2, none⟩ = some (.int .i64 E) from fun W h => h) _ ?_
        repeat (with_reducible refine HS9.out _ _ _ ?_)
        exact HS0.out
      intro hS1
      clear hK
      (try simp only [Act.put, List.setIfInBounds_toArray, List.set_cons_zero, List.set_cons_succ])
      refine wpAnyH_take (i := 6) (v := ?_) (by simp only [List.getElem?_toArray, List.getElem?_cons_succ, List.getElem?_cons_zero] <;> rfl) (by kernel_rfl) (by kernel_rfl) (by kernel_rfl) (fun _ _ _ h => h) (Or.inl ⟨by rfl, ?_⟩) (by assumption) ?_
      rotate_left
      · intro w hSw
        (try dsimp only at hSw)
        go_simp
        (try with_reducible rfl)
      (try simp only [Act.put, List.setIfInBounds_toArray, List.set_cons_zero, List.set_cons_succ])
      refine wpAnyH_done (by kernel_rfl) ?_ _
      refine NoPanic.normal ?_
      go_wp2
      obtain ⟨Wf, hWf⟩ : ∃ Wf, Wf = ((((((((((wE.setCell ⟨w.heap.size, 0, none⟩ (.int .i64 0)).setCell ⟨w.heap.size, 1, none⟩ (.int .i64 0)).setCell ⟨w.heap.size, 2, none⟩ (.slice none 0 0)).setCell ⟨w.heap.size, 3, none⟩ (.int .i64 0)).setCell ⟨w.heap.size, 4, none⟩ (.int .i64 0)).setCell ⟨w.heap.size, 5, none⟩ (.int .i64 0)).setCell ⟨w.heap.size, 6, none⟩ (.string ⟨#[]⟩)).setCell ⟨w.heap.size, 7, none⟩ (.int .i64 0)).setCell ⟨w.heap.size, 8, none⟩ (.int .i64 0)).setCell ⟨w.heap.size, 9, none⟩ (.int .i64 0)).drew := ⟨_, rfl⟩
      rw [← hWf]
      have hcf : Chg (fun b => b = w.heap.size) wE Wf := by
        have g : ∀ (u : World) (j : Nat) (v : Value), Chg (fun b => b = w.heap.size) u (u.setCell ⟨w.heap.size, j, none⟩ v) := fun u j v => Chg.setCell _ _ rfl
        rw [hWf]
        exact (fun (W' : World) (h : Chg (fun b => b = w.heap.size) wE W') => (⟨h.os, h.tape, h.output, h.size, h.block⟩ : Chg (fun b => b = w.heap.size) wE W'.drew)) _ (Chg.trans (Chg.trans (Chg.trans (Chg.trans (Chg.trans (Chg.trans (Chg.trans (Chg.trans (Chg.trans (g _ _ _) (g _ _ _)) (g _ _ _)) (g _ _ _)) (g _ _ _)) (g _ _ _)) (g _ _ _)) (g _ _ _)) (g _ _ _)) (g _ _ _))
      have HBF := Lib.hid (show Blk Wf w.heap.size [.int .i64 0, .int .i64 0, .slice none 0 0, .int .i64 0, .int .i64 0, .int .i64 0, .string ⟨#[]⟩, .int .i64 0, .int .i64 0, .int .i64 0] from by rw [hWf]; exact (fun (W' : World) (h : Blk W' _ _) => (⟨h.lt, h.free, h.cell⟩ : Blk W'.drew _ _)) _ ((((((((((HB16_z.out.set 0 (.int .i64 0) (by simp)).set 1 (.int .i64 0) (by simp)).set 2 (.slice none 0 0) (by simp)).set 3 (.int .i64 0) (by simp)).set 4 (.int .i64 0) (by simp)).set 5 (.int .i64 0) (by simp)).set 6 (.string ⟨#[]⟩) (by simp)).set 7 (.int .i64 0) (by simp)).set 8 (.int .i64 0) (by simp)).set 9 (.int .i64 0) (by simp)))
      clear hWf zc0 zf0 zc1 zf1 zc2 zf2 zc3 zf3 zc4 zf4 zc5 zf5 zc6 zf6 zc7 zf7 zc8 zf8 zc9 zf9
      have sc0 := HBF.out.cell 0 _ rfl
      have sc1 := HBF.out.cell 1 _ rfl
      have sc2 := HBF.out.cell 2 _ rfl
      have sc3 := HBF.out.cell 3 _ rfl
      have sc4 := HBF.out.cell 4 _ rfl
      have sc5 := HBF.out.cell 5 _ rfl
      have sc6 := HBF.out.cell 6 _ rfl
      have sc7 := HBF.out.cell 7 _ rfl
      have sc8 := HBF.out.cell 8 _ rfl
      have sc9 := HBF.out.cell 9 _ rfl
      refine bodyPost_ret (v := .tuple #[.agg #[.int .i64 0, .int .i64 0, .slice none 0 0, .int .i64 0, .int .i64 0, .int .i64 0, .string ⟨#[]⟩, .int .i64 0, .int .i64 0, .int .i64 0], .int .i64 E]) (by simp [sc0, sc1, sc2, sc3, sc4, sc5, sc6, sc7, sc8, sc9, HE0.out, results, Tryz.results44, go_sem]) rfl ?_
      have HCF := Lib.hid (show Chg (fun b => b = rb ∨ bs ≤ b) w Wf from HC16.out.trans (hcf.more (fun b _ e => by have o0 := HO0.out; omega)))
      refine ⟨[.int .i64 0, .int .i64 0, .slice none 0 0, .int .i64 0, .int .i64 0, .int .i64 0, .string ⟨#[]⟩, .int .i64 0, .int .i64 0, .int .i64 0], rfl, fun e => ?_, fun e => ?_, HCF.out.below (Nat.le_refl _) (fun b e => by have o0 := HO0.out; omega)⟩
      · exact absurd e HE0.out
      · exact zero_rd tCommand Wf _
end Go.Proofs.YtfppjpmflpaffaaGreat
