/-
  The reference's decoder: databases. Printed by gen_ct.py.
-/
import Derived.Test.YtfppjpmflpaffaaGreatCsJ
namespace Go.Proofs.YtfppjpmflpaffaaGreat
open Go.RowKit
set_option linter.unusedVariables false
set_option linter.unusedSimpArgs false

theorem info_t_Table : (Tryz.prog.info? 72).map (fun i => (i.zero, i.size, i.bytes)) = some (some ((.agg #[.string ⟨#[]⟩, .slice none 0 0, .slice none 0 0, .slice none 0 0, .slice none 0 0, .slice none 0 0])), 6, 136) := by kernel_rfl

theorem info_t_Version : (Tryz.prog.info? 99).map (fun i => (i.zero, i.size, i.bytes)) = some (some ((.agg #[.int .i64 0, .slice none 0 0, .int .i64 0, .int .i64 0, .int .i64 0, .int .i64 0])), 6, 64) := by kernel_rfl

theorem info_t_Hold : (Tryz.prog.info? 45).map (fun i => (i.zero, i.size, i.bytes)) = some (some ((.agg #[.int .i64 0, .int .i64 0, .int .i64 0])), 3, 24) := by kernel_rfl

theorem info_t_Citation : (Tryz.prog.info? 79).map (fun i => (i.zero, i.size, i.bytes)) = some (some ((.agg #[.int .i64 0, .int .i64 0, .int .i64 0, .int .i64 0, .string ⟨#[]⟩, .slice none 0 0])), 6, 72) := by kernel_rfl

theorem info_t_Row : (Tryz.prog.info? 106).map (fun i => (i.zero, i.size, i.bytes)) = some (some ((.agg #[.slice none 0 0, .slice none 0 0])), 2, 48) := by kernel_rfl

set_option maxRecDepth 100000 in
set_option maxHeartbeats 8000000 in
theorem rf_DecodeDatabase (w : World) (v : Value) (B : List UInt8) (hd : Dat w v B) (hmax : B.length ≤ 1073741824) (hmod : Mod tDatabase (.ok B)) (x : Ty.T tDatabase) (sn : St) (hx : dec tDatabase (.ok B) = (x, sn)) :
    Calls Tryz.prog 45 #[v] w fun e w' => ∃ cs : List Value, e = .returned (.tuple #[goV cs, .int .i64 (endE sn)]) ∧ (endE sn = 0 → (Ty.rd tDatabase).rd w' (w.heap.size ≤ ·) cs x) ∧ (endE sn ≠ 0 → (Ty.rd tDatabase).rd w' (w.heap.size ≤ ·) cs (zeroT tDatabase)) ∧ Below w.heap.size w w' := by
  obtain ⟨va, vn, vc, rfl⟩ : ∃ a n c, v = .slice a n c := by obtain ⟨a, c, e⟩ := hd.len; exact ⟨a, _, c, e⟩
  obtain ⟨E, hE⟩ : ∃ E, E = endE sn := ⟨_, rfl⟩
  rw [← hE]
  obtain ⟨s, hs⟩ : ∃ s : St, s = .ok B := ⟨_, rfl⟩
  rw [← hs] at hx hmod
  obtain ⟨Wa, hWa⟩ : ∃ Wa, Wa = w.alloc (.cells #[.int .i64 0, .int .i64 0, .slice none 0 0, .int .i64 0, .slice none 0 0, .slice none 0 0] 29) := ⟨_, rfl⟩
  obtain ⟨W0, hW0⟩ : ∃ W0, W0 = Wa.alloc (.cells #[.slice va vn vc, .int .i64 0, .int .i64 0] 177) := ⟨_, rfl⟩
  obtain ⟨rb, hrb⟩ : ∃ rb, rb = w.heap.size + 1 := ⟨_, rfl⟩
  obtain ⟨bs, hbs⟩ : ∃ b, b = w.heap.size := ⟨_, rfl⟩
  have hza : Wa.heap.size = w.heap.size + 1 := by rw [hWa]; simp
  have hba : Below w.heap.size w Wa := by rw [hWa]; exact (Below.refl _ _).alloc (Nat.le_refl _) _
  have hb1 : Below Wa.heap.size Wa W0 := by rw [hW0]; exact (Below.refl _ _).alloc (Nat.le_refl _) _
  have hb0 : Below w.heap.size w W0 := hba.trans (hb1.mono hba.size)
  have HO0 := Lib.hid (show bs = w.heap.size ∧ rb = bs + 1 ∧ W0.heap.size = w.heap.size + 2 from ⟨hbs, by omega, by rw [hW0]; simp; omega⟩)
  have HB0 := Lib.hid (show Blk W0 w.heap.size [.int .i64 0, .int .i64 0, .slice none 0 0, .int .i64 0, .slice none 0 0, .slice none 0 0] from Blk.chg (F := fun _ => False) (by rw [hWa]; exact Blk.new w _ _) (Chg.of_below hb1) id)
  have hbk : Blk W0 rb [.slice va vn vc, .int .i64 0, .int .i64 0] := by rw [hW0, show rb = Wa.heap.size by omega]; exact Blk.new Wa _ _
  have HR0 := Lib.hid (show RefR W0 rb B s from ⟨0, 0, ⟨hbk.lt, hbk.free, ⟨.slice va vn vc, hbk.cell 0 _ rfl, hd.keep hb0, fun y m c e hm => by
      rcases hd.1.2 with ⟨h0, a', c', e'⟩ | ⟨g, o, c', e', _, hg, _⟩
      · rw [e] at e'; simp only [Value.slice.injEq] at e'; omega
      · rw [e] at e'; simp only [Value.slice.injEq, Option.some.injEq] at e'; rw [e'.1]; show g < rb; omega⟩, hbk.cell 1 _ rfl, hbk.cell 2 _ rfl, Nat.zero_le _, hmax⟩, fun r e => (by rw [hs] at e; cases e; exact ⟨rfl, rfl⟩), fun e he => (by rw [hs] at he; cases he)⟩)
  have HC0 := Lib.hid (show Chg (fun b => b = rb ∨ bs ≤ b) w W0 from Chg.of_below hb0)
  have HWA := Lib.hid hWa
  have HRB := Lib.hid hrb
  have HW0 := Lib.hid hW0
  obtain ⟨px0, ps1, phd0⟩ : ∃ x s', dec .num s = (x, s') := ⟨_, _, rfl⟩
  obtain ⟨px1, ps2, phd1⟩ : ∃ x s', dec .num ps1 = (x, s') := ⟨_, _, rfl⟩
  obtain ⟨px2, ps3, phd2⟩ : ∃ x s', dec (.list tTable) ps2 = (x, s') := ⟨_, _, rfl⟩
  obtain ⟨px3, ps4, phd3⟩ : ∃ x s', dec .num ps3 = (x, s') := ⟨_, _, rfl⟩
  obtain ⟨px4, ps5, phd4⟩ : ∃ x s', dec (.list tHold) ps4 = (x, s') := ⟨_, _, rfl⟩
  obtain ⟨px5, ps6, phd5⟩ : ∃ x s', dec (.list tCitation) ps5 = (x, s') := ⟨_, _, rfl⟩
  obtain ⟨phm0, phm1, phm2, phm3, phm4, phm5⟩ := hmod
  simp only [phd0] at phm1
  simp only [phd0, phd1] at phm2
  simp only [phd0, phd1, phd2] at phm3
  simp only [phd0, phd1, phd2, phd3] at phm4
  simp only [phd0, phd1, phd2, phd3, phd4] at phm5
  have pHM0 := Lib.hid phm0
  have pHM1 := Lib.hid phm1
  have pHM2 := Lib.hid phm2
  have pHM3 := Lib.hid phm3
  have pHM4 := Lib.hid phm4
  have pHM5 := Lib.hid phm5
  have pHD0 := Lib.hid phd0
  have pHD1 := Lib.hid phd1
  have pHD2 := Lib.hid phd2
  have pHD3 := Lib.hid phd3
  have pHD4 := Lib.hid phd4
  have pHD5 := Lib.hid phd5
  have hdec : dec tDatabase s = ((px0, (px1, (px2, (px3, (px4, px5))))), ps6) := by
    show dec (.pair .num (.pair .num (.pair (.list tTable) (.pair .num (.pair (.list tHold) (.list tCitation)))))) s = _
    simp only [dec_pair, phd0, phd1, phd2, phd3, phd4, phd5]
  have HXX := Lib.hid (show x = (px0, (px1, (px2, (px3, (px4, px5))))) from congrArg Prod.fst (hx.symm.trans hdec))
  have HEE := Lib.hid (show E = endE ps6 from by rw [hE]; exact congrArg (fun p => endE p.2) (hx.symm.trans hdec))
  clear hdec hx hE hs hmax hd hWa hW0 hrb hbs hza hba hb1 hb0 hbk phd0 phd1 phd2 phd3 phd4 phd5 phm0 phm1 phm2 phm3 phm4 phm5
  go_enter Tryz.func45, Tryz.ntmps45
  go_wp2_with fail
  rw [← HWA.out, ← HRB.out, ← HW0.out]
  refine (rget_int W0 rb B s HR0.out pHM0.out).mono ?_
  rintro e w2 ⟨cs, rfl, hr, hs, hc⟩
  rw [pHD0.out] at hr hs
  dsimp only at hr hs
  obtain ⟨q1_0, rfl⟩ : ∃ z : Int, cs = [.int .i64 z] := ⟨_, hr.1⟩
  have hg : goV [.int .i64 q1_0] = .int .i64 q1_0 := rfl
  rw [hg]
  clear hg
  obtain ⟨k2, hk⟩ : ∃ k, k = w2.heap.size := ⟨_, rfl⟩
  obtain ⟨X2, hX⟩ : ∃ X, X = w2.alloc (.cells #[.int .i64 q1_0, .int .i64 0, .slice none 0 0, .int .i64 0, .slice none 0 0, .slice none 0 0] 29) := ⟨_, rfl⟩
  have hbx : Below w2.heap.size w2 X2 := by rw [hX]; exact (Below.refl _ _).alloc (Nat.le_refl _) _
  have HO2 := Lib.hid (show rb < k2 ∧ w.heap.size < k2 ∧ bs ≤ k2 ∧ k2 < X2.heap.size from by
    have h1 := HC0.out.size; have h2 := hc.size; have h3 : X2.heap.size = w2.heap.size + 1 := by rw [hX]; simp
    have o0 := HO0.out
    omega)
  have HR2 := Lib.hid (hs.below hbx)
  have hstep : Chg (fun b => b = rb) W0 X2 := hc.trans ((Chg.of_below hbx))
  have HT2 := Lib.hid hstep
  have HB3_z := Lib.hid (show Blk X2 w.heap.size [.int .i64 0, .int .i64 0, .slice none 0 0, .int .i64 0, .slice none 0 0, .slice none 0 0] from HB0.out.chg HT2.out (by have o0 := HO0.out; have o1 := HO2.out; omega))
  have HC3 := Lib.hid (show Chg (fun b => b = rb ∨ bs ≤ b) w X2 from HC0.out.trans (Chg.more HT2.out (fun b _ e => by have o0 := HO0.out; have o1 := HO2.out; omega)))
  have HV2 := Lib.hid (show (Ty.rd .num).rd X2 (fun b => bs ≤ b ∧ b ≠ w.heap.size ∧ b ≠ rb ∧ b ≠ k2) [.int .i64 q1_0] px0 from rd_chg .num (K := fun _ => False) (Chg.of_below hbx) (fun b hb hl => ⟨id, by have hb : W0.heap.size ≤ b := hb; have h1 := HC0.out.size; have o0 := HO0.out; have o1 := HO2.out; omega⟩) hr)
  have HB2 := Lib.hid (show Blk X2 k2 [.int .i64 q1_0, .int .i64 0, .slice none 0 0, .int .i64 0, .slice none 0 0, .slice none 0 0] from by rw [hX, hk]; exact Blk.new w2 _ _)
  have HK2 := Lib.hid hk
  have HX2 := Lib.hid hX
  clear hr hs hc hk hX hbx hstep
  go_wp2_with fail
  rw [← HK2.out, ← HX2.out]
  refine (rget_int X2 rb B ps1 HR2.out pHM1.out).mono ?_
  rintro e w5 ⟨cs, rfl, hr, hs, hc⟩
  rw [pHD1.out] at hr hs
  dsimp only at hr hs
  obtain ⟨q4_0, rfl⟩ : ∃ z : Int, cs = [.int .i64 z] := ⟨_, hr.1⟩
  have hg : goV [.int .i64 q4_0] = .int .i64 q4_0 := rfl
  rw [hg]
  clear hg
  have hb' := HB2.out.chg hc (by have o0 := HO0.out; have o1 := HO2.out; omega)
  have t0 := hb'.cell 1 _ rfl
  have z0 := hb'.free 1
  obtain ⟨X5, hX⟩ : ∃ X, X = (w5.setCell ⟨k2, 1, none⟩ (.int .i64 q4_0)) := ⟨_, rfl⟩
  have hcx : Chg (fun b => b = k2) w5 X5 := by
    have g : ∀ (u : World) (j : Nat) (v : Value), Chg (fun b => b = k2) u (u.setCell ⟨k2, j, none⟩ v) := fun u j v => Chg.setCell _ _ rfl
    rw [hX]
    exact (g _ _ _)
  have HB5 := Lib.hid (show Blk X5 k2 [.int .i64 q1_0, .int .i64 q4_0, .slice none 0 0, .int .i64 0, .slice none 0 0, .slice none 0 0] from by rw [hX]; exact (hb'.set 1 (.int .i64 q4_0) (by simp)))
  have HR5 := Lib.hid (hs.keep (hcx.more (fun b _ e => by have o0 := HO0.out; have o1 := HO2.out; omega)))
  have HT5 := Lib.hid (show Chg (fun b => b = rb ∨ b = k2) X2 X5 from (hc.more (fun b _ e => .inl e)).trans (hcx.more (fun b _ e => .inr e)))
  have HB6_z := Lib.hid (show Blk X5 w.heap.size [.int .i64 0, .int .i64 0, .slice none 0 0, .int .i64 0, .slice none 0 0, .slice none 0 0] from HB3_z.out.chg HT5.out (by have o0 := HO0.out; have o1 := HO2.out; omega))
  have HV6_0 := Lib.hid (show (Ty.rd .num).rd X5 (fun b => bs ≤ b ∧ b ≠ w.heap.size ∧ b ≠ rb ∧ b ≠ k2) [.int .i64 q1_0] px0 from rd_chg .num HT5.out (fun b hb hl => ⟨fun e => by have o0 := HO0.out; have o1 := HO2.out; omega, hb⟩) HV2.out)
  have HC6 := Lib.hid (show Chg (fun b => b = rb ∨ bs ≤ b) w X5 from HC3.out.trans (Chg.more HT5.out (fun b _ e => by have o0 := HO0.out; have o1 := HO2.out; omega)))
  have HV5 := Lib.hid (show (Ty.rd .num).rd X5 (fun b => bs ≤ b ∧ b ≠ w.heap.size ∧ b ≠ rb ∧ b ≠ k2) [.int .i64 q4_0] px1 from rd_chg .num hcx (fun b hb hl => by have hb : X2.heap.size ≤ b := hb; have h1 := HC3.out.size; have h2 := HB2.out.lt; have o0 := HO0.out; have o1 := HO2.out; (try dsimp only); omega) hr)
  have HX5 := Lib.hid hX
  clear hr hs hc hb' hcx hX
  obtain ⟨n7, z7, hn⟩ : ∃ n s', dsize ps2 = (n, s') := ⟨_, _, rfl⟩
  have HN7 := Lib.hid hn
  have HLS7 := Lib.hid (show dmany (dec tTable) n7 z7 = (px2, ps3) from by
    have h := pHD2.out
    replace h : dmany (dec tTable) (dsize ps2).1 (dsize ps2).2 = _ := h
    rw [hn] at h; exact h)
  obtain ⟨hm1, hm2⟩ := pHM2.out
  rw [hn] at hm1 hm2
  replace hm1 : n7 ≤ 1073741824 := hm1
  have HMM7 := Lib.hid hm2
  have HM1_7 := Lib.hid hm1
  have hn0_7 : 0 ≤ (n7 : Int) ∧ (n7 : Int) ≤ 1073741824 := by omega
  have hsz := rcd_length HR5.out
  rw [hn] at hsz
  have HSZ7 := Lib.hid hsz
  clear hsz hn hm1 hm2
  go_wp2_with fail
  rw [← HX5.out]
  refine HSZ7.out.mono ?_
  rintro e w7 ⟨rfl, hr, hc⟩
  have HR7 := Lib.hid (show RefR w7 rb B z7 from hr)
  have HT7 := Lib.hid hc
  clear hr hc
  have HB8_z := Lib.hid (show Blk w7 w.heap.size [.int .i64 0, .int .i64 0, .slice none 0 0, .int .i64 0, .slice none 0 0, .slice none 0 0] from HB6_z.out.chg HT7.out (by have o0 := HO0.out; have o1 := HO2.out; omega))
  have HB8_2 := Lib.hid (show Blk w7 k2 [.int .i64 q1_0, .int .i64 q4_0, .slice none 0 0, .int .i64 0, .slice none 0 0, .slice none 0 0] from HB5.out.chg HT7.out (by have o0 := HO0.out; have o1 := HO2.out; omega))
  have HV8_0 := Lib.hid (show (Ty.rd .num).rd w7 (fun b => bs ≤ b ∧ b ≠ w.heap.size ∧ b ≠ rb ∧ b ≠ k2) [.int .i64 q1_0] px0 from rd_chg .num HT7.out (fun b hb hl => ⟨fun e => by have o0 := HO0.out; have o1 := HO2.out; omega, hb⟩) HV6_0.out)
  have HV8_1 := Lib.hid (show (Ty.rd .num).rd w7 (fun b => bs ≤ b ∧ b ≠ w.heap.size ∧ b ≠ rb ∧ b ≠ k2) [.int .i64 q4_0] px1 from rd_chg .num HT7.out (fun b hb hl => ⟨fun e => by have o0 := HO0.out; have o1 := HO2.out; omega, hb⟩) HV5.out)
  have HC8 := Lib.hid (show Chg (fun b => b = rb ∨ bs ≤ b) w w7 from HC6.out.trans (Chg.more HT7.out (fun b _ e => by have o0 := HO0.out; have o1 := HO2.out; omega)))
  obtain ⟨B7, hBL⟩ : ∃ b, b = w7.heap.size := ⟨_, rfl⟩
  have HO7 := Lib.hid (show B7 = w7.heap.size ∧ bs ≤ B7 ∧ k2 < B7 from ⟨hBL, by have h := HC8.out.size; have o0 := HO0.out; have o1 := HO2.out; omega, by rw [hBL]; exact HB8_2.out.lt⟩)
  clear hBL
  have HLA7 := Lib.hid (show LoopAt tTable 72 6 B7 rb B k2 [.int .i64 q1_0, .int .i64 q4_0, .slice none 0 0, .int .i64 0, .slice none 0 0, .slice none 0 0] 2 w7 w7 z7 [] [] (.slice none 0 0) from LoopAt.start HR7.out HB8_2.out rfl (by simp) (by have o0 := HO0.out; have o1 := HO2.out; have o2 := HO7.out; omega) (by have o0 := HO0.out; have o1 := HO2.out; have o2 := HO7.out; omega))
  go_upto_block 0 with fail
  go_cut [7] (fun t7 wx => ∃ (a : Option Addr) (nn c : Nat), RefR wx rb B ps3 ∧ Blk wx k2 [.int .i64 q1_0, .int .i64 q4_0, .slice a nn c, .int .i64 0, .slice none 0 0, .slice none 0 0] ∧ (Ty.rd (.list tTable)).rd wx (B7 ≤ ·) [.slice a nn c] px2 ∧ Chg (fun b => b = rb ∨ b = k2 ∨ B7 ≤ b) w7 wx)
  case first =>
    go_wp2_with fail
    go_loopg [7] n7 (fun gk t7 wr => ∃ (q k : Nat) (sc : St) (l : List (Ty.T tTable)) (xs : List Value) (v : Value), gk = k ∧ q + k = n7 ∧ t7 = .int .i64 (q : Int) ∧ LoopAt tTable 72 6 B7 rb B k2 [.int .i64 q1_0, .int .i64 q4_0, .slice none 0 0, .int .i64 0, .slice none 0 0, .slice none 0 0] 2 w7 wr sc l xs v ∧ ModMany (Mod tTable) (dec tTable) k sc ∧ l.length + k ≤ n7 ∧ l ++ (dmany (dec tTable) k sc).1 = px2 ∧ (dmany (dec tTable) k sc).2 = ps3)
    case atStart =>
      exact ⟨0, n7, z7, [], [], .slice none 0 0, rfl, by omega, rfl, HLA7.out, HMM7.out, by simp, by rw [HLS7.out]; rfl, by rw [HLS7.out]⟩
    case round =>
      generalize gk = gk7 at *
      generalize wr = wr7 at *
      obtain ⟨j7, kk, sc7, l7, xs7, v7, rfl, hqk, rfl, hla, hm, hle, hL, hS⟩ := hrel
      have HQ7 := Lib.hid hqk
      have HA7 := Lib.hid hla
      have HMK7 := Lib.hid hm
      have HLE7 := Lib.hid hle
      have HLL7 := Lib.hid hL
      have HSS7 := Lib.hid hS
      have hq0_7 : 0 ≤ (j7 : Int) ∧ (j7 : Int) ≤ 1073741824 := by have := HM1_7.out; omega
      obtain ⟨ii, err7, hp, hst⟩ := hla.r.at_
      have c2_7 := hp.c2
      have HST7 := Lib.hid hst
      clear hqk hla hm hle hL hS hp hst
      by_cases hk7 : gk7 = 0
      · have hqn : j7 = n7 := by have := HQ7.out; omega
        have hd1 : decide ((j7 : Int) < (n7 : Int)) = false := decide_eq_false (by omega)
        have hd1' : ¬ (j7 : Int) < (n7 : Int) := by omega
        clear hqn
        subst hk7
        have HE1 := Lib.hid (show l7 = px2 from by have := HLL7.out; simpa [dmany] using this)
        have HE2 := Lib.hid (show sc7 = ps3 from by have := HSS7.out; exact this)
        obtain ⟨a, nn, c, rfl, hfl⟩ := HA7.out.list
        have HFL := Lib.hid hfl
        clear hfl
        go_wp2
        go_meet
        exact ⟨a, nn, c, by rw [← HE2.out]; exact HA7.out.r, HA7.out.blk, by rw [← HE1.out]; exact HFL.out, HA7.out.chg⟩
      · have hd1 : decide ((j7 : Int) < (n7 : Int)) = true := decide_eq_true (by have := HQ7.out; omega)
        have hd1' : (j7 : Int) < (n7 : Int) := by have := HQ7.out; omega
        cases sc7 with
        | error e =>
          obtain ⟨he1, he⟩ := HST7.out.2 e rfl
          have g0 : (err7 == 0) = false := by rw [he1]; rcases he with rfl | rfl <;> rfl
          have HE1 := Lib.hid (show l7 = px2 from by have := HLL7.out; rw [dmany_error] at this; simpa using this)
          have HE2 := Lib.hid (show (.error e : St) = ps3 from by have := HSS7.out; rw [dmany_error] at this; exact this)
          clear he he1
          obtain ⟨a, nn, c, rfl, hfl⟩ := HA7.out.list
          have HFL := Lib.hid hfl
          clear hfl
          go_wp2
          go_meet
          exact ⟨a, nn, c, by rw [← HE2.out]; exact HA7.out.r, HA7.out.blk, by rw [← HE1.out]; exact HFL.out, HA7.out.chg⟩
        | ok r7 =>
          obtain ⟨rfl, -⟩ := HST7.out.1 r7 rfl
          obtain ⟨k', rfl⟩ : ∃ k', gk7 = k' + 1 := ⟨gk7 - 1, by omega⟩
          obtain ⟨rr7, hrr⟩ : ∃ s : St, s = .ok r7 := ⟨_, rfl⟩
          obtain ⟨y7, y2_7, hd⟩ : ∃ x s', dec tTable rr7 = (x, s') := ⟨_, _, rfl⟩
          have HL2_7 := Lib.hid (show (l7 ++ [y7]) ++ (dmany (dec tTable) k' y2_7).1 = px2 ∧ (dmany (dec tTable) k' y2_7).2 = ps3 from by
            have h1 := HLL7.out; have h2 := HSS7.out
            rw [dmany, ← hrr] at h1 h2
            simp only [hd] at h1 h2
            exact ⟨by simpa using h1, h2⟩)
          have hM2 : Mod tTable rr7 ∧ ModMany (Mod tTable) (dec tTable) k' y2_7 := by
            have h1 := HMK7.out
            rw [ModMany, ← hrr] at h1
            simp only [hd] at h1
            exact h1
          have HMK2_7 := Lib.hid hM2.2
          have HRR7 := Lib.hid (show RefR wr7 rb B rr7 from by rw [hrr]; exact HA7.out.r)
          have HDY7 := Lib.hid hd
          have hmy := hM2.1
          clear hd hM2 hrr
          obtain ⟨i0_7, hi0, hz0, hz1, hz2⟩ := info_parts info_t_Table
          have HI7 := Lib.hid (And.intro hi0 (And.intro hz0 (And.intro hz1 hz2)))
          clear hi0 hz0 hz1 hz2
          obtain ⟨b7, hbs⟩ : ∃ b, b = wr7.heap.size := ⟨_, rfl⟩
          have HOb7 := Lib.hid (show b7 = wr7.heap.size ∧ B7 ≤ b7 ∧ k2 < b7 from ⟨hbs, by rw [hbs]; exact HA7.out.ord.2.2.1, by have := HA7.out.ord; omega⟩)
          have HC0_7 := Lib.hid (show Chg (fun b => b = rb ∨ b7 ≤ b) wr7 wr7 from Chg.refl _ _)
          clear hbs
          obtain ⟨e7x0, e7s1, e7hd0⟩ : ∃ x s', dec tSchema rr7 = (x, s') := ⟨_, _, rfl⟩
          obtain ⟨e7x1, e7s2, e7hd1⟩ : ∃ x s', dec (.list tVersion) e7s1 = (x, s') := ⟨_, _, rfl⟩
          obtain ⟨e7hm0, e7hm1⟩ := hmy
          simp only [e7hd0] at e7hm1
          have e7HM0 := Lib.hid e7hm0
          have e7HM1 := Lib.hid e7hm1
          have e7HD0 := Lib.hid e7hd0
          have e7HD1 := Lib.hid e7hd1
          have e7DEC := Lib.hid (show y7 = (e7x0, e7x1) ∧ y2_7 = e7s2 from by
            have h := HDY7.out
            replace h : dec (.pair tSchema (.list tVersion)) rr7 = _ := h
            simp only [dec_pair, e7hd0, e7hd1] at h
            cases h; exact ⟨rfl, rfl⟩)
          clear e7hd0 e7hd1 e7hm0 e7hm1
          go_wp2_with fail
          refine (rget_Schema wr7 rb B rr7 HRR7.out e7HM0.out).mono ?_
          rintro e w10 ⟨cs, rfl, hr, hs, hc⟩
          rw [e7HD0.out] at hr hs
          dsimp only at hr hs
          obtain ⟨q9_0, q9_a1, q9_n1, q9_c1, q9_a2, q9_n2, q9_c2, q9_a3, q9_n3, q9_c3, q9_a4, q9_n4, q9_c4, rfl⟩ := shape_Schema hr
          have hg : goV [.string q9_0, .slice q9_a1 q9_n1 q9_c1, .slice q9_a2 q9_n2 q9_c2, .slice q9_a3 q9_n3 q9_c3, .slice q9_a4 q9_n4 q9_c4] = .agg #[.string q9_0, .slice q9_a1 q9_n1 q9_c1, .slice q9_a2 q9_n2 q9_c2, .slice q9_a3 q9_n3 q9_c3, .slice q9_a4 q9_n4 q9_c4] := rfl
          rw [hg]
          clear hg
          obtain ⟨k10, hk⟩ : ∃ k, k = w10.heap.size := ⟨_, rfl⟩
          obtain ⟨X10, hX⟩ : ∃ X, X = w10.alloc (.cells #[.string q9_0, .slice q9_a1 q9_n1 q9_c1, .slice q9_a2 q9_n2 q9_c2, .slice q9_a3 q9_n3 q9_c3, .slice q9_a4 q9_n4 q9_c4, .slice none 0 0] 72) := ⟨_, rfl⟩
          have hbx : Below w10.heap.size w10 X10 := by rw [hX]; exact (Below.refl _ _).alloc (Nat.le_refl _) _
          have HO10 := Lib.hid (show k2 < k10 ∧ b7 ≤ k10 ∧ k10 < X10.heap.size from by
            have h1 := HC0_7.out.size; have h2 := hc.size; have h3 : X10.heap.size = w10.heap.size + 1 := by rw [hX]; simp
            have o0 := HO0.out; have o1 := HO2.out; have o2 := HO7.out; have o3 := HOb7.out
            omega)
          have HR10 := Lib.hid (hs.below hbx)
          have hstep : Chg (fun b => b = rb) wr7 X10 := hc.trans ((Chg.of_below hbx))
          have HT10 := Lib.hid hstep
          have HC11 := Lib.hid (show Chg (fun b => b = rb ∨ b7 ≤ b) wr7 X10 from HC0_7.out.trans (Chg.more HT10.out (fun b _ e => by have o0 := HO0.out; have o1 := HO2.out; have o2 := HO7.out; have o3 := HOb7.out; have o4 := HO10.out; omega)))
          have HV10 := Lib.hid (show (Ty.rd tSchema).rd X10 (fun b => b7 ≤ b ∧ b ≠ k10) [.string q9_0, .slice q9_a1 q9_n1 q9_c1, .slice q9_a2 q9_n2 q9_c2, .slice q9_a3 q9_n3 q9_c3, .slice q9_a4 q9_n4 q9_c4] e7x0 from rd_chg tSchema (K := fun _ => False) (Chg.of_below hbx) (fun b hb hl => ⟨id, by have hb : wr7.heap.size ≤ b := hb; have h1 := HC0_7.out.size; have o0 := HO0.out; have o1 := HO2.out; have o2 := HO7.out; have o3 := HOb7.out; have o4 := HO10.out; omega⟩) hr)
          have HB10 := Lib.hid (show Blk X10 k10 [.string q9_0, .slice q9_a1 q9_n1 q9_c1, .slice q9_a2 q9_n2 q9_c2, .slice q9_a3 q9_n3 q9_c3, .slice q9_a4 q9_n4 q9_c4, .slice none 0 0] from by rw [hX, hk]; exact Blk.new w10 _ _)
          have HK10 := Lib.hid hk
          have HX10 := Lib.hid hX
          clear hr hs hc hk hX hbx hstep
          obtain ⟨n12, z12, hn⟩ : ∃ n s', dsize e7s1 = (n, s') := ⟨_, _, rfl⟩
          have HN12 := Lib.hid hn
          have HLS12 := Lib.hid (show dmany (dec tVersion) n12 z12 = (e7x1, e7s2) from by
            have h := e7HD1.out
            replace h : dmany (dec tVersion) (dsize e7s1).1 (dsize e7s1).2 = _ := h
            rw [hn] at h; exact h)
          obtain ⟨hm1, hm2⟩ := e7HM1.out
          rw [hn] at hm1 hm2
          replace hm1 : n12 ≤ 1073741824 := hm1
          have HMM12 := Lib.hid hm2
          have HM1_12 := Lib.hid hm1
          have hn0_12 : 0 ≤ (n12 : Int) ∧ (n12 : Int) ≤ 1073741824 := by omega
          have hsz := rcd_length HR10.out
          rw [hn] at hsz
          have HSZ12 := Lib.hid hsz
          clear hsz hn hm1 hm2
          go_wp2_with fail
          rw [← HK10.out, ← HX10.out]
          refine HSZ12.out.mono ?_
          rintro e w12 ⟨rfl, hr, hc⟩
          have HR12 := Lib.hid (show RefR w12 rb B z12 from hr)
          have HT12 := Lib.hid hc
          clear hr hc
          have HB13_10 := Lib.hid (show Blk w12 k10 [.string q9_0, .slice q9_a1 q9_n1 q9_c1, .slice q9_a2 q9_n2 q9_c2, .slice q9_a3 q9_n3 q9_c3, .slice q9_a4 q9_n4 q9_c4, .slice none 0 0] from HB10.out.chg HT12.out (by have o0 := HO0.out; have o1 := HO2.out; have o2 := HO7.out; have o3 := HOb7.out; have o4 := HO10.out; omega))
          have HV13_0 := Lib.hid (show (Ty.rd tSchema).rd w12 (fun b => b7 ≤ b ∧ b ≠ k10) [.string q9_0, .slice q9_a1 q9_n1 q9_c1, .slice q9_a2 q9_n2 q9_c2, .slice q9_a3 q9_n3 q9_c3, .slice q9_a4 q9_n4 q9_c4] e7x0 from rd_chg tSchema HT12.out (fun b hb hl => ⟨fun e => by have o0 := HO0.out; have o1 := HO2.out; have o2 := HO7.out; have o3 := HOb7.out; have o4 := HO10.out; omega, hb⟩) HV10.out)
          have HC13 := Lib.hid (show Chg (fun b => b = rb ∨ b7 ≤ b) wr7 w12 from HC11.out.trans (Chg.more HT12.out (fun b _ e => by have o0 := HO0.out; have o1 := HO2.out; have o2 := HO7.out; have o3 := HOb7.out; have o4 := HO10.out; omega)))
          obtain ⟨B12, hBL⟩ : ∃ b, b = w12.heap.size := ⟨_, rfl⟩
          have HO12 := Lib.hid (show B12 = w12.heap.size ∧ b7 ≤ B12 ∧ k10 < B12 from ⟨hBL, by have h := HC13.out.size; have o0 := HO0.out; have o1 := HO2.out; have o2 := HO7.out; have o3 := HOb7.out; have o4 := HO10.out; omega, by rw [hBL]; exact HB13_10.out.lt⟩)
          clear hBL
          have HLA12 := Lib.hid (show LoopAt tVersion 99 6 B12 rb B k10 [.string q9_0, .slice q9_a1 q9_n1 q9_c1, .slice q9_a2 q9_n2 q9_c2, .slice q9_a3 q9_n3 q9_c3, .slice q9_a4 q9_n4 q9_c4, .slice none 0 0] 5 w12 w12 z12 [] [] (.slice none 0 0) from LoopAt.start HR12.out HB13_10.out rfl (by simp) (by have o0 := HO0.out; have o1 := HO2.out; have o2 := HO7.out; have o3 := HOb7.out; have o4 := HO10.out; have o5 := HO12.out; omega) (by have o0 := HO0.out; have o1 := HO2.out; have o2 := HO7.out; have o3 := HOb7.out; have o4 := HO10.out; have o5 := HO12.out; omega))
          go_upto_block 2 with fail
          go_cut [10] (fun t10 wx => ∃ (a : Option Addr) (nn c : Nat), RefR wx rb B e7s2 ∧ Blk wx k10 [.string q9_0, .slice q9_a1 q9_n1 q9_c1, .slice q9_a2 q9_n2 q9_c2, .slice q9_a3 q9_n3 q9_c3, .slice q9_a4 q9_n4 q9_c4, .slice a nn c] ∧ (Ty.rd (.list tVersion)).rd wx (B12 ≤ ·) [.slice a nn c] e7x1 ∧ Chg (fun b => b = rb ∨ b = k10 ∨ B12 ≤ b) w12 wx)
          case first =>
            go_wp2_with fail
            go_loopg [10] n12 (fun gk t10 wr => ∃ (q k : Nat) (sc : St) (l : List (Ty.T tVersion)) (xs : List Value) (v : Value), gk = k ∧ q + k = n12 ∧ t10 = .int .i64 (q : Int) ∧ LoopAt tVersion 99 6 B12 rb B k10 [.string q9_0, .slice q9_a1 q9_n1 q9_c1, .slice q9_a2 q9_n2 q9_c2, .slice q9_a3 q9_n3 q9_c3, .slice q9_a4 q9_n4 q9_c4, .slice none 0 0] 5 w12 wr sc l xs v ∧ ModMany (Mod tVersion) (dec tVersion) k sc ∧ l.length + k ≤ n12 ∧ l ++ (dmany (dec tVersion) k sc).1 = e7x1 ∧ (dmany (dec tVersion) k sc).2 = e7s2)
            case atStart =>
              exact ⟨0, n12, z12, [], [], .slice none 0 0, rfl, by omega, rfl, HLA12.out, HMM12.out, by simp, by rw [HLS12.out]; rfl, by rw [HLS12.out]⟩
            case round =>
              generalize gk = gk12 at *
              generalize wr = wr12 at *
              obtain ⟨j12, kk, sc12, l12, xs12, v12, rfl, hqk, rfl, hla, hm, hle, hL, hS⟩ := hrel
              have HQ12 := Lib.hid hqk
              have HA12 := Lib.hid hla
              have HMK12 := Lib.hid hm
              have HLE12 := Lib.hid hle
              have HLL12 := Lib.hid hL
              have HSS12 := Lib.hid hS
              have hq0_12 : 0 ≤ (j12 : Int) ∧ (j12 : Int) ≤ 1073741824 := by have := HM1_12.out; omega
              obtain ⟨ii, err12, hp, hst⟩ := hla.r.at_
              have c2_12 := hp.c2
              have HST12 := Lib.hid hst
              clear hqk hla hm hle hL hS hp hst
              by_cases hk12 : gk12 = 0
              · have hqn : j12 = n12 := by have := HQ12.out; omega
                have hd1 : decide ((j12 : Int) < (n12 : Int)) = false := decide_eq_false (by omega)
                have hd1' : ¬ (j12 : Int) < (n12 : Int) := by omega
                clear hqn
                subst hk12
                have HE1 := Lib.hid (show l12 = e7x1 from by have := HLL12.out; simpa [dmany] using this)
                have HE2 := Lib.hid (show sc12 = e7s2 from by have := HSS12.out; exact this)
                obtain ⟨a, nn, c, rfl, hfl⟩ := HA12.out.list
                have HFL := Lib.hid hfl
                clear hfl
                go_wp2
                go_meet
                exact ⟨a, nn, c, by rw [← HE2.out]; exact HA12.out.r, HA12.out.blk, by rw [← HE1.out]; exact HFL.out, HA12.out.chg⟩
              · have hd1 : decide ((j12 : Int) < (n12 : Int)) = true := decide_eq_true (by have := HQ12.out; omega)
                have hd1' : (j12 : Int) < (n12 : Int) := by have := HQ12.out; omega
                cases sc12 with
                | error e =>
                  obtain ⟨he1, he⟩ := HST12.out.2 e rfl
                  have g0 : (err12 == 0) = false := by rw [he1]; rcases he with rfl | rfl <;> rfl
                  have HE1 := Lib.hid (show l12 = e7x1 from by have := HLL12.out; rw [dmany_error] at this; simpa using this)
                  have HE2 := Lib.hid (show (.error e : St) = e7s2 from by have := HSS12.out; rw [dmany_error] at this; exact this)
                  clear he he1
                  obtain ⟨a, nn, c, rfl, hfl⟩ := HA12.out.list
                  have HFL := Lib.hid hfl
                  clear hfl
                  go_wp2
                  go_meet
                  exact ⟨a, nn, c, by rw [← HE2.out]; exact HA12.out.r, HA12.out.blk, by rw [← HE1.out]; exact HFL.out, HA12.out.chg⟩
                | ok r12 =>
                  obtain ⟨rfl, -⟩ := HST12.out.1 r12 rfl
                  obtain ⟨k', rfl⟩ : ∃ k', gk12 = k' + 1 := ⟨gk12 - 1, by omega⟩
                  obtain ⟨rr12, hrr⟩ : ∃ s : St, s = .ok r12 := ⟨_, rfl⟩
                  obtain ⟨y12, y2_12, hd⟩ : ∃ x s', dec tVersion rr12 = (x, s') := ⟨_, _, rfl⟩
                  have HL2_12 := Lib.hid (show (l12 ++ [y12]) ++ (dmany (dec tVersion) k' y2_12).1 = e7x1 ∧ (dmany (dec tVersion) k' y2_12).2 = e7s2 from by
                    have h1 := HLL12.out; have h2 := HSS12.out
                    rw [dmany, ← hrr] at h1 h2
                    simp only [hd] at h1 h2
                    exact ⟨by simpa using h1, h2⟩)
                  have hM2 : Mod tVersion rr12 ∧ ModMany (Mod tVersion) (dec tVersion) k' y2_12 := by
                    have h1 := HMK12.out
                    rw [ModMany, ← hrr] at h1
                    simp only [hd] at h1
                    exact h1
                  have HMK2_12 := Lib.hid hM2.2
                  have HRR12 := Lib.hid (show RefR wr12 rb B rr12 from by rw [hrr]; exact HA12.out.r)
                  have HDY12 := Lib.hid hd
                  have hmy := hM2.1
                  clear hd hM2 hrr
                  obtain ⟨i0_12, hi0, hz0, hz1, hz2⟩ := info_parts info_t_Version
                  have HI12 := Lib.hid (And.intro hi0 (And.intro hz0 (And.intro hz1 hz2)))
                  clear hi0 hz0 hz1 hz2
                  obtain ⟨b12, hbs⟩ : ∃ b, b = wr12.heap.size := ⟨_, rfl⟩
                  have HOb12 := Lib.hid (show b12 = wr12.heap.size ∧ B12 ≤ b12 ∧ k10 < b12 from ⟨hbs, by rw [hbs]; exact HA12.out.ord.2.2.1, by have := HA12.out.ord; omega⟩)
                  have HC0_12 := Lib.hid (show Chg (fun b => b = rb ∨ b12 ≤ b) wr12 wr12 from Chg.refl _ _)
                  clear hbs
                  obtain ⟨e12x0, e12s1, e12hd0⟩ : ∃ x s', dec .num rr12 = (x, s') := ⟨_, _, rfl⟩
                  obtain ⟨e12x1, e12s2, e12hd1⟩ : ∃ x s', dec (.list tValue) e12s1 = (x, s') := ⟨_, _, rfl⟩
                  obtain ⟨e12x2, e12s3, e12hd2⟩ : ∃ x s', dec tPeriod e12s2 = (x, s') := ⟨_, _, rfl⟩
                  obtain ⟨e12x3, e12s4, e12hd3⟩ : ∃ x s', dec tPeriod e12s3 = (x, s') := ⟨_, _, rfl⟩
                  obtain ⟨e12hm0, e12hm1, e12hm2, e12hm3⟩ := hmy
                  simp only [e12hd0] at e12hm1
                  simp only [e12hd0, e12hd1] at e12hm2
                  simp only [e12hd0, e12hd1, e12hd2] at e12hm3
                  have e12HM0 := Lib.hid e12hm0
                  have e12HM1 := Lib.hid e12hm1
                  have e12HM2 := Lib.hid e12hm2
                  have e12HM3 := Lib.hid e12hm3
                  have e12HD0 := Lib.hid e12hd0
                  have e12HD1 := Lib.hid e12hd1
                  have e12HD2 := Lib.hid e12hd2
                  have e12HD3 := Lib.hid e12hd3
                  have e12DEC := Lib.hid (show y12 = (e12x0, (e12x1, (e12x2, e12x3))) ∧ y2_12 = e12s4 from by
                    have h := HDY12.out
                    replace h : dec (.pair .num (.pair (.list tValue) (.pair tPeriod tPeriod))) rr12 = _ := h
                    simp only [dec_pair, e12hd0, e12hd1, e12hd2, e12hd3] at h
                    cases h; exact ⟨rfl, rfl⟩)
                  clear e12hd0 e12hd1 e12hd2 e12hd3 e12hm0 e12hm1 e12hm2 e12hm3
                  go_wp2_with fail
                  refine (rget_int wr12 rb B rr12 HRR12.out e12HM0.out).mono ?_
                  rintro e w15 ⟨cs, rfl, hr, hs, hc⟩
                  rw [e12HD0.out] at hr hs
                  dsimp only at hr hs
                  obtain ⟨q14_0, rfl⟩ : ∃ z : Int, cs = [.int .i64 z] := ⟨_, hr.1⟩
                  have hg : goV [.int .i64 q14_0] = .int .i64 q14_0 := rfl
                  rw [hg]
                  clear hg
                  obtain ⟨k15, hk⟩ : ∃ k, k = w15.heap.size := ⟨_, rfl⟩
                  obtain ⟨X15, hX⟩ : ∃ X, X = w15.alloc (.cells #[.int .i64 q14_0, .slice none 0 0, .int .i64 0, .int .i64 0, .int .i64 0, .int .i64 0] 99) := ⟨_, rfl⟩
                  have hbx : Below w15.heap.size w15 X15 := by rw [hX]; exact (Below.refl _ _).alloc (Nat.le_refl _) _
                  have HO15 := Lib.hid (show k10 < k15 ∧ b12 ≤ k15 ∧ k15 < X15.heap.size from by
                    have h1 := HC0_12.out.size; have h2 := hc.size; have h3 : X15.heap.size = w15.heap.size + 1 := by rw [hX]; simp
                    have o0 := HO0.out; have o1 := HO2.out; have o2 := HO7.out; have o3 := HOb7.out; have o4 := HO10.out; have o5 := HO12.out; have o6 := HOb12.out
                    omega)
                  have HR15 := Lib.hid (hs.below hbx)
                  have hstep : Chg (fun b => b = rb) wr12 X15 := hc.trans ((Chg.of_below hbx))
                  have HT15 := Lib.hid hstep
                  have HC16 := Lib.hid (show Chg (fun b => b = rb ∨ b12 ≤ b) wr12 X15 from HC0_12.out.trans (Chg.more HT15.out (fun b _ e => by have o0 := HO0.out; have o1 := HO2.out; have o2 := HO7.out; have o3 := HOb7.out; have o4 := HO10.out; have o5 := HO12.out; have o6 := HOb12.out; have o7 := HO15.out; omega)))
                  have HV15 := Lib.hid (show (Ty.rd .num).rd X15 (fun b => b12 ≤ b ∧ b ≠ k15) [.int .i64 q14_0] e12x0 from rd_chg .num (K := fun _ => False) (Chg.of_below hbx) (fun b hb hl => ⟨id, by have hb : wr12.heap.size ≤ b := hb; have h1 := HC0_12.out.size; have o0 := HO0.out; have o1 := HO2.out; have o2 := HO7.out; have o3 := HOb7.out; have o4 := HO10.out; have o5 := HO12.out; have o6 := HOb12.out; have o7 := HO15.out; omega⟩) hr)
                  have HB15 := Lib.hid (show Blk X15 k15 [.int .i64 q14_0, .slice none 0 0, .int .i64 0, .int .i64 0, .int .i64 0, .int .i64 0] from by rw [hX, hk]; exact Blk.new w15 _ _)
                  have HK15 := Lib.hid hk
                  have HX15 := Lib.hid hX
                  clear hr hs hc hk hX hbx hstep
                  go_wp2_with fail
                  rw [← HK15.out, ← HX15.out]
                  refine (rget_Values X15 rb B e12s1 HR15.out e12HM1.out).mono ?_
                  rintro e w18 ⟨cs, rfl, hr, hs, hc⟩
                  rw [e12HD1.out] at hr hs
                  dsimp only at hr hs
                  obtain ⟨q17_a0, q17_n0, q17_c0, rfl⟩ : ∃ a n c, cs = [.slice a n c] := by obtain ⟨a, n, c, e, _⟩ := id hr; exact ⟨a, n, c, e⟩
                  have hg : goV [.slice q17_a0 q17_n0 q17_c0] = .slice q17_a0 q17_n0 q17_c0 := rfl
                  rw [hg]
                  clear hg
                  have hb' := HB15.out.chg hc (by have o0 := HO0.out; have o1 := HO2.out; have o2 := HO7.out; have o3 := HOb7.out; have o4 := HO10.out; have o5 := HO12.out; have o6 := HOb12.out; have o7 := HO15.out; omega)
                  have t0 := hb'.cell 1 _ rfl
                  have z0 := hb'.free 1
                  obtain ⟨X18, hX⟩ : ∃ X, X = (w18.setCell ⟨k15, 1, none⟩ (.slice q17_a0 q17_n0 q17_c0)) := ⟨_, rfl⟩
                  have hcx : Chg (fun b => b = k15) w18 X18 := by
                    have g : ∀ (u : World) (j : Nat) (v : Value), Chg (fun b => b = k15) u (u.setCell ⟨k15, j, none⟩ v) := fun u j v => Chg.setCell _ _ rfl
                    rw [hX]
                    exact (g _ _ _)
                  have HB18 := Lib.hid (show Blk X18 k15 [.int .i64 q14_0, .slice q17_a0 q17_n0 q17_c0, .int .i64 0, .int .i64 0, .int .i64 0, .int .i64 0] from by rw [hX]; exact (hb'.set 1 (.slice q17_a0 q17_n0 q17_c0) (by simp)))
                  have HR18 := Lib.hid (hs.keep (hcx.more (fun b _ e => by have o0 := HO0.out; have o1 := HO2.out; have o2 := HO7.out; have o3 := HOb7.out; have o4 := HO10.out; have o5 := HO12.out; have o6 := HOb12.out; have o7 := HO15.out; omega)))
                  have HT18 := Lib.hid (show Chg (fun b => b = rb ∨ b = k15) X15 X18 from (hc.more (fun b _ e => .inl e)).trans (hcx.more (fun b _ e => .inr e)))
                  have HV19_0 := Lib.hid (show (Ty.rd .num).rd X18 (fun b => b12 ≤ b ∧ b ≠ k15) [.int .i64 q14_0] e12x0 from rd_chg .num HT18.out (fun b hb hl => ⟨fun e => by have o0 := HO0.out; have o1 := HO2.out; have o2 := HO7.out; have o3 := HOb7.out; have o4 := HO10.out; have o5 := HO12.out; have o6 := HOb12.out; have o7 := HO15.out; omega, hb⟩) HV15.out)
                  have HC19 := Lib.hid (show Chg (fun b => b = rb ∨ b12 ≤ b) wr12 X18 from HC16.out.trans (Chg.more HT18.out (fun b _ e => by have o0 := HO0.out; have o1 := HO2.out; have o2 := HO7.out; have o3 := HOb7.out; have o4 := HO10.out; have o5 := HO12.out; have o6 := HOb12.out; have o7 := HO15.out; omega)))
                  have HV18 := Lib.hid (show (Ty.rd (.list tValue)).rd X18 (fun b => b12 ≤ b ∧ b ≠ k15) [.slice q17_a0 q17_n0 q17_c0] e12x1 from rd_chg (.list tValue) hcx (fun b hb hl => by have hb : X15.heap.size ≤ b := hb; have h1 := HC16.out.size; have h2 := HB15.out.lt; have o0 := HO0.out; have o1 := HO2.out; have o2 := HO7.out; have o3 := HOb7.out; have o4 := HO10.out; have o5 := HO12.out; have o6 := HOb12.out; have o7 := HO15.out; (try dsimp only); omega) hr)
                  have HX18 := Lib.hid hX
                  clear hr hs hc hb' hcx hX
                  go_wp2_with fail
                  rw [← HX18.out]
                  refine (rget_Period X18 rb B e12s2 HR18.out e12HM2.out).mono ?_
                  rintro e w21 ⟨cs, rfl, hr, hs, hc⟩
                  rw [e12HD2.out] at hr hs
                  dsimp only at hr hs
                  obtain ⟨q20_0, q20_1, rfl⟩ := shape_Period hr
                  have hg : goV [.int .i64 q20_0, .int .i64 q20_1] = .agg #[.int .i64 q20_0, .int .i64 q20_1] := rfl
                  rw [hg]
                  clear hg
                  have hb' := HB18.out.chg hc (by have o0 := HO0.out; have o1 := HO2.out; have o2 := HO7.out; have o3 := HOb7.out; have o4 := HO10.out; have o5 := HO12.out; have o6 := HOb12.out; have o7 := HO15.out; omega)
                  have t0 := hb'.cell 2 _ rfl
                  have z0 := hb'.free 2
                  have t1 := hb'.cell 3 _ rfl
                  have z1 := hb'.free 3
                  obtain ⟨X21, hX⟩ : ∃ X, X = ((w21.setCell ⟨k15, 2, none⟩ (.int .i64 q20_0)).setCell ⟨k15, 3, none⟩ (.int .i64 q20_1)) := ⟨_, rfl⟩
                  have hcx : Chg (fun b => b = k15) w21 X21 := by
                    have g : ∀ (u : World) (j : Nat) (v : Value), Chg (fun b => b = k15) u (u.setCell ⟨k15, j, none⟩ v) := fun u j v => Chg.setCell _ _ rfl
                    rw [hX]
                    exact (Chg.trans (g _ _ _) (g _ _ _))
                  have HB21 := Lib.hid (show Blk X21 k15 [.int .i64 q14_0, .slice q17_a0 q17_n0 q17_c0, .int .i64 q20_0, .int .i64 q20_1, .int .i64 0, .int .i64 0] from by rw [hX]; exact ((hb'.set 2 (.int .i64 q20_0) (by simp)).set 3 (.int .i64 q20_1) (by simp)))
                  have HR21 := Lib.hid (hs.keep (hcx.more (fun b _ e => by have o0 := HO0.out; have o1 := HO2.out; have o2 := HO7.out; have o3 := HOb7.out; have o4 := HO10.out; have o5 := HO12.out; have o6 := HOb12.out; have o7 := HO15.out; omega)))
                  have HT21 := Lib.hid (show Chg (fun b => b = rb ∨ b = k15) X18 X21 from (hc.more (fun b _ e => .inl e)).trans (hcx.more (fun b _ e => .inr e)))
                  have HV22_0 := Lib.hid (show (Ty.rd .num).rd X21 (fun b => b12 ≤ b ∧ b ≠ k15) [.int .i64 q14_0] e12x0 from rd_chg .num HT21.out (fun b hb hl => ⟨fun e => by have o0 := HO0.out; have o1 := HO2.out; have o2 := HO7.out; have o3 := HOb7.out; have o4 := HO10.out; have o5 := HO12.out; have o6 := HOb12.out; have o7 := HO15.out; omega, hb⟩) HV19_0.out)
                  have HV22_1 := Lib.hid (show (Ty.rd (.list tValue)).rd X21 (fun b => b12 ≤ b ∧ b ≠ k15) [.slice q17_a0 q17_n0 q17_c0] e12x1 from rd_chg (.list tValue) HT21.out (fun b hb hl => ⟨fun e => by have o0 := HO0.out; have o1 := HO2.out; have o2 := HO7.out; have o3 := HOb7.out; have o4 := HO10.out; have o5 := HO12.out; have o6 := HOb12.out; have o7 := HO15.out; omega, hb⟩) HV18.out)
                  have HC22 := Lib.hid (show Chg (fun b => b = rb ∨ b12 ≤ b) wr12 X21 from HC19.out.trans (Chg.more HT21.out (fun b _ e => by have o0 := HO0.out; have o1 := HO2.out; have o2 := HO7.out; have o3 := HOb7.out; have o4 := HO10.out; have o5 := HO12.out; have o6 := HOb12.out; have o7 := HO15.out; omega)))
                  have HV21 := Lib.hid (show (Ty.rd tPeriod).rd X21 (fun b => b12 ≤ b ∧ b ≠ k15) [.int .i64 q20_0, .int .i64 q20_1] e12x2 from rd_chg tPeriod hcx (fun b hb hl => by have hb : X18.heap.size ≤ b := hb; have h1 := HC19.out.size; have h2 := HB18.out.lt; have o0 := HO0.out; have o1 := HO2.out; have o2 := HO7.out; have o3 := HOb7.out; have o4 := HO10.out; have o5 := HO12.out; have o6 := HOb12.out; have o7 := HO15.out; (try dsimp only); omega) hr)
                  have HX21 := Lib.hid hX
                  clear hr hs hc hb' hcx hX
                  go_wp2_with fail
                  rw [← HX21.out]
                  refine (rget_Period X21 rb B e12s3 HR21.out e12HM3.out).mono ?_
                  rintro e w24 ⟨cs, rfl, hr, hs, hc⟩
                  rw [e12HD3.out] at hr hs
                  dsimp only at hr hs
                  obtain ⟨q23_0, q23_1, rfl⟩ := shape_Period hr
                  have hg : goV [.int .i64 q23_0, .int .i64 q23_1] = .agg #[.int .i64 q23_0, .int .i64 q23_1] := rfl
                  rw [hg]
                  clear hg
                  have hb' := HB21.out.chg hc (by have o0 := HO0.out; have o1 := HO2.out; have o2 := HO7.out; have o3 := HOb7.out; have o4 := HO10.out; have o5 := HO12.out; have o6 := HOb12.out; have o7 := HO15.out; omega)
                  have t0 := hb'.cell 4 _ rfl
                  have z0 := hb'.free 4
                  have t1 := hb'.cell 5 _ rfl
                  have z1 := hb'.free 5
                  obtain ⟨X24, hX⟩ : ∃ X, X = ((w24.setCell ⟨k15, 4, none⟩ (.int .i64 q23_0)).setCell ⟨k15, 5, none⟩ (.int .i64 q23_1)) := ⟨_, rfl⟩
                  have hcx : Chg (fun b => b = k15) w24 X24 := by
                    have g : ∀ (u : World) (j : Nat) (v : Value), Chg (fun b => b = k15) u (u.setCell ⟨k15, j, none⟩ v) := fun u j v => Chg.setCell _ _ rfl
                    rw [hX]
                    exact (Chg.trans (g _ _ _) (g _ _ _))
                  have HB24 := Lib.hid (show Blk X24 k15 [.int .i64 q14_0, .slice q17_a0 q17_n0 q17_c0, .int .i64 q20_0, .int .i64 q20_1, .int .i64 q23_0, .int .i64 q23_1] from by rw [hX]; exact ((hb'.set 4 (.int .i64 q23_0) (by simp)).set 5 (.int .i64 q23_1) (by simp)))
                  have HR24 := Lib.hid (hs.keep (hcx.more (fun b _ e => by have o0 := HO0.out; have o1 := HO2.out; have o2 := HO7.out; have o3 := HOb7.out; have o4 := HO10.out; have o5 := HO12.out; have o6 := HOb12.out; have o7 := HO15.out; omega)))
                  have HT24 := Lib.hid (show Chg (fun b => b = rb ∨ b = k15) X21 X24 from (hc.more (fun b _ e => .inl e)).trans (hcx.more (fun b _ e => .inr e)))
                  have HV25_0 := Lib.hid (show (Ty.rd .num).rd X24 (fun b => b12 ≤ b ∧ b ≠ k15) [.int .i64 q14_0] e12x0 from rd_chg .num HT24.out (fun b hb hl => ⟨fun e => by have o0 := HO0.out; have o1 := HO2.out; have o2 := HO7.out; have o3 := HOb7.out; have o4 := HO10.out; have o5 := HO12.out; have o6 := HOb12.out; have o7 := HO15.out; omega, hb⟩) HV22_0.out)
                  have HV25_1 := Lib.hid (show (Ty.rd (.list tValue)).rd X24 (fun b => b12 ≤ b ∧ b ≠ k15) [.slice q17_a0 q17_n0 q17_c0] e12x1 from rd_chg (.list tValue) HT24.out (fun b hb hl => ⟨fun e => by have o0 := HO0.out; have o1 := HO2.out; have o2 := HO7.out; have o3 := HOb7.out; have o4 := HO10.out; have o5 := HO12.out; have o6 := HOb12.out; have o7 := HO15.out; omega, hb⟩) HV22_1.out)
                  have HV25_2 := Lib.hid (show (Ty.rd tPeriod).rd X24 (fun b => b12 ≤ b ∧ b ≠ k15) [.int .i64 q20_0, .int .i64 q20_1] e12x2 from rd_chg tPeriod HT24.out (fun b hb hl => ⟨fun e => by have o0 := HO0.out; have o1 := HO2.out; have o2 := HO7.out; have o3 := HOb7.out; have o4 := HO10.out; have o5 := HO12.out; have o6 := HOb12.out; have o7 := HO15.out; omega, hb⟩) HV21.out)
                  have HC25 := Lib.hid (show Chg (fun b => b = rb ∨ b12 ≤ b) wr12 X24 from HC22.out.trans (Chg.more HT24.out (fun b _ e => by have o0 := HO0.out; have o1 := HO2.out; have o2 := HO7.out; have o3 := HOb7.out; have o4 := HO10.out; have o5 := HO12.out; have o6 := HOb12.out; have o7 := HO15.out; omega)))
                  have HV24 := Lib.hid (show (Ty.rd tPeriod).rd X24 (fun b => b12 ≤ b ∧ b ≠ k15) [.int .i64 q23_0, .int .i64 q23_1] e12x3 from rd_chg tPeriod hcx (fun b hb hl => by have hb : X21.heap.size ≤ b := hb; have h1 := HC22.out.size; have h2 := HB21.out.lt; have o0 := HO0.out; have o1 := HO2.out; have o2 := HO7.out; have o3 := HOb7.out; have o4 := HO10.out; have o5 := HO12.out; have o6 := HOb12.out; have o7 := HO15.out; (try dsimp only); omega) hr)
                  have HX24 := Lib.hid hX
                  clear hr hs hc hb' hcx hX
                  go_upto_region 17 with fail
                  rw [← HX24.out]
                  have HCX12 := Lib.hid (show Chg (fun b => b = rb) wr12 X24 from Chg.more HC25.out (fun b hb e => by have o0 := HO0.out; have o1 := HO2.out; have o2 := HO7.out; have o3 := HOb7.out; have o4 := HO10.out; have o5 := HO12.out; have o6 := HOb12.out; have o7 := HO15.out; omega))
                  have HX12 := Lib.hid (show (Ty.rd tVersion).rd X24 (wr12.heap.size ≤ ·) [.int .i64 q14_0, .slice q17_a0 q17_n0 q17_c0, .int .i64 q20_0, .int .i64 q20_1, .int .i64 q23_0, .int .i64 q23_1] y12 from by
                    rw [e12DEC.out.1]
                    have h0 := Rd.more (F := (fun b => b12 ≤ b ∧ b ≠ k15)) (G := (wr12.heap.size ≤ ·)) (Ty.rd .num) (fun b hb => by have := HOb12.out; (try dsimp only at hb ⊢); omega) HV25_0.out
                    have h1 := Rd.more (F := (fun b => b12 ≤ b ∧ b ≠ k15)) (G := (wr12.heap.size ≤ ·)) (Ty.rd (.list tValue)) (fun b hb => by have := HOb12.out; (try dsimp only at hb ⊢); omega) HV25_1.out
                    have h2 := Rd.more (F := (fun b => b12 ≤ b ∧ b ≠ k15)) (G := (wr12.heap.size ≤ ·)) (Ty.rd tPeriod) (fun b hb => by have := HOb12.out; (try dsimp only at hb ⊢); omega) HV25_2.out
                    have h3 := Rd.more (F := (fun b => b12 ≤ b ∧ b ≠ k15)) (G := (wr12.heap.size ≤ ·)) (Ty.rd tPeriod) (fun b hb => by have := HOb12.out; (try dsimp only at hb ⊢); omega) HV24.out
                    exact ⟨_, _, rfl, h0, _, _, rfl, h1, _, _, rfl, h2, h3⟩)
                  have HRX12 := Lib.hid (show RefR X24 rb B y2_12 from by rw [e12DEC.out.2]; exact HR24.out)
                  have HAX12 := Lib.hid (HA12.out.turn HCX12.out HRX12.out)
                  have HB3_12 := Lib.hid (show Below X24.heap.size X24 (X24.alloc (.cells #[.int .i64 q14_0, .slice q17_a0 q17_n0 q17_c0, .int .i64 q20_0, .int .i64 q20_1, .int .i64 q23_0, .int .i64 q23_1] 99)) from (Below.refl _ _).alloc (Nat.le_refl _) _)
                  have HA3_12 := Lib.hid (HAX12.out.below HB3_12.out)
                  have qb12_0 := HB24.out.cell 0 _ rfl
                  have qb12_1 := HB24.out.cell 1 _ rfl
                  have qb12_2 := HB24.out.cell 2 _ rfl
                  have qb12_3 := HB24.out.cell 3 _ rfl
                  have qb12_4 := HB24.out.cell 4 _ rfl
                  have qb12_5 := HB24.out.cell 5 _ rfl
                  have qv12 : X24.cell? ⟨k10, 5, none⟩ = some v12 := HAX12.out.blk.cell 5 _ rfl
                  go_wp2_with (at_builtin; refine wpList_append_o rfl _ _ 70 rfl B12 99 i0_12 _ 6 64 Tryz.underlying70 HI12.out.1 HI12.out.2.1 HI12.out.2.2.1 HI12.out.2.2.2 rfl (by decide) v12 l12.length xs12 rfl HA3_12.out.rows.row _ 1 [.int .i64 q14_0, .slice q17_a0 q17_n0 q17_c0, .int .i64 q20_0, .int .i64 q20_1, .int .i64 q23_0, .int .i64 q23_1] rfl (sl_cells1 X24 _ _ rfl) (fun _ _ h => by cases h) (by simp [Value.oneCell']) (by have := HLE12.out; have := HM1_12.out; unfold maxLen; omega) (by have := HLE12.out; have := HM1_12.out; omega) HA3_12.out.ord.2.2.1 ?_)
                  intro v' w4 h1 h2 h3
                  obtain ⟨va, vn, vc, rfl⟩ := ownk_shape h1
                  have hbk := HA3_12.out.app h2
                  have tb := hbk.cell 5 _ rfl
                  have zb := hbk.free 5
                  have HST4 := Lib.hid (HA12.out.step HCX12.out HRX12.out HX12.out HB3_12.out h1 h2 (by rw [World.size_alloc]; exact h3))
                  clear h1 h2 h3 hbk
                  go_wp2
                  go_roundg k'
                  case rel => exact ⟨j12 + 1, k', y2_12, l12 ++ [y12], _, _, rfl, by have := HQ12.out; omega, by go_num, HST4.out, HMK2_12.out, by have := HLE12.out; simp; omega, HL2_12.out.1, HL2_12.out.2⟩
                  case measure => omega
          case rest =>
            generalize wc = X12 at *
            obtain ⟨la12, ln12, lc12, hr, hb, hl, hc⟩ := hcut
            have HRl12 := Lib.hid hr
            have HBl12 := Lib.hid hb
            have HTl12 := Lib.hid hc
            have HV26_0 := Lib.hid (show (Ty.rd tSchema).rd X12 (fun b => b7 ≤ b ∧ b ≠ k10) [.string q9_0, .slice q9_a1 q9_n1 q9_c1, .slice q9_a2 q9_n2 q9_c2, .slice q9_a3 q9_n3 q9_c3, .slice q9_a4 q9_n4 q9_c4] e7x0 from rd_chg tSchema HTl12.out (fun b hb hl => ⟨fun e => by have o0 := HO0.out; have o1 := HO2.out; have o2 := HO7.out; have o3 := HOb7.out; have o4 := HO10.out; have o5 := HO12.out; omega, hb⟩) HV13_0.out)
            have HC26 := Lib.hid (show Chg (fun b => b = rb ∨ b7 ≤ b) wr7 X12 from HC13.out.trans (Chg.more HTl12.out (fun b _ e => by have o0 := HO0.out; have o1 := HO2.out; have o2 := HO7.out; have o3 := HOb7.out; have o4 := HO10.out; have o5 := HO12.out; omega)))
            have HVl12 := Lib.hid (show (Ty.rd (.list tVersion)).rd X12 (fun b => b7 ≤ b ∧ b ≠ k10) [.slice la12 ln12 lc12] e7x1 from Rd.more _ (fun b hb => by have hb : B12 ≤ b := hb; have o0 := HO0.out; have o1 := HO2.out; have o2 := HO7.out; have o3 := HOb7.out; have o4 := HO10.out; have o5 := HO12.out; (try dsimp only); omega) hl)
            clear hr hb hl hc
            have HCX7 := Lib.hid (show Chg (fun b => b = rb) wr7 X12 from Chg.more HC26.out (fun b hb e => by have o0 := HO0.out; have o1 := HO2.out; have o2 := HO7.out; have o3 := HOb7.out; have o4 := HO10.out; have o5 := HO12.out; omega))
            have HX7 := Lib.hid (show (Ty.rd tTable).rd X12 (wr7.heap.size ≤ ·) [.string q9_0, .slice q9_a1 q9_n1 q9_c1, .slice q9_a2 q9_n2 q9_c2, .slice q9_a3 q9_n3 q9_c3, .slice q9_a4 q9_n4 q9_c4, .slice la12 ln12 lc12] y7 from by
              rw [e7DEC.out.1]
              have h0 := Rd.more (F := (fun b => b7 ≤ b ∧ b ≠ k10)) (G := (wr7.heap.size ≤ ·)) (Ty.rd tSchema) (fun b hb => by have := HOb7.out; (try dsimp only at hb ⊢); omega) HV26_0.out
              have h1 := Rd.more (F := (fun b => b7 ≤ b ∧ b ≠ k10)) (G := (wr7.heap.size ≤ ·)) (Ty.rd (.list tVersion)) (fun b hb => by have := HOb7.out; (try dsimp only at hb ⊢); omega) HVl12.out
              exact ⟨_, _, rfl, h0, h1⟩)
            have HRX7 := Lib.hid (show RefR X12 rb B y2_7 from by rw [e7DEC.out.2]; exact HRl12.out)
            have HAX7 := Lib.hid (HA7.out.turn HCX7.out HRX7.out)
            have HB3_7 := Lib.hid (show Below X12.heap.size X12 (X12.alloc (.cells #[.string q9_0, .slice q9_a1 q9_n1 q9_c1, .slice q9_a2 q9_n2 q9_c2, .slice q9_a3 q9_n3 q9_c3, .slice q9_a4 q9_n4 q9_c4, .slice la12 ln12 lc12] 72)) from (Below.refl _ _).alloc (Nat.le_refl _) _)
            have HA3_7 := Lib.hid (HAX7.out.below HB3_7.out)
            have qb7_0 := HBl12.out.cell 0 _ rfl
            have qb7_1 := HBl12.out.cell 1 _ rfl
            have qb7_2 := HBl12.out.cell 2 _ rfl
            have qb7_3 := HBl12.out.cell 3 _ rfl
            have qb7_4 := HBl12.out.cell 4 _ rfl
            have qb7_5 := HBl12.out.cell 5 _ rfl
            have qv7 : X12.cell? ⟨k2, 2, none⟩ = some v7 := HAX7.out.blk.cell 2 _ rfl
            go_wp2_with (at_builtin; refine wpList_append_o rfl _ _ 25 rfl B7 72 i0_7 _ 6 136 Tryz.underlying25 HI7.out.1 HI7.out.2.1 HI7.out.2.2.1 HI7.out.2.2.2 rfl (by decide) v7 l7.length xs7 rfl HA3_7.out.rows.row _ 1 [.string q9_0, .slice q9_a1 q9_n1 q9_c1, .slice q9_a2 q9_n2 q9_c2, .slice q9_a3 q9_n3 q9_c3, .slice q9_a4 q9_n4 q9_c4, .slice la12 ln12 lc12] rfl (sl_cells1 X12 _ _ rfl) (fun _ _ h => by cases h) (by simp [Value.oneCell']) (by have := HLE7.out; have := HM1_7.out; unfold maxLen; omega) (by have := HLE7.out; have := HM1_7.out; omega) HA3_7.out.ord.2.2.1 ?_)
            intro v' w4 h1 h2 h3
            obtain ⟨va, vn, vc, rfl⟩ := ownk_shape h1
            have hbk := HA3_7.out.app h2
            have tb := hbk.cell 2 _ rfl
            have zb := hbk.free 2
            have HST4 := Lib.hid (HA7.out.step HCX7.out HRX7.out HX7.out HB3_7.out h1 h2 (by rw [World.size_alloc]; exact h3))
            clear h1 h2 h3 hbk
            go_wp2
            go_roundg k'
            case rel => exact ⟨j7 + 1, k', y2_7, l7 ++ [y7], _, _, rfl, by have := HQ7.out; omega, by go_num, HST4.out, HMK2_7.out, by have := HLE7.out; simp; omega, HL2_7.out.1, HL2_7.out.2⟩
            case measure => omega
  case rest =>
    generalize wc = X7 at *
    obtain ⟨la7, ln7, lc7, hr, hb, hl, hc⟩ := hcut
    have HRl7 := Lib.hid hr
    have HBl7 := Lib.hid hb
    have HTl7 := Lib.hid hc
    have HB27_z := Lib.hid (show Blk X7 w.heap.size [.int .i64 0, .int .i64 0, .slice none 0 0, .int .i64 0, .slice none 0 0, .slice none 0 0] from HB8_z.out.chg HTl7.out (by have o0 := HO0.out; have o1 := HO2.out; have o2 := HO7.out; omega))
    have HV27_0 := Lib.hid (show (Ty.rd .num).rd X7 (fun b => bs ≤ b ∧ b ≠ w.heap.size ∧ b ≠ rb ∧ b ≠ k2) [.int .i64 q1_0] px0 from rd_chg .num HTl7.out (fun b hb hl => ⟨fun e => by have o0 := HO0.out; have o1 := HO2.out; have o2 := HO7.out; omega, hb⟩) HV8_0.out)
    have HV27_1 := Lib.hid (show (Ty.rd .num).rd X7 (fun b => bs ≤ b ∧ b ≠ w.heap.size ∧ b ≠ rb ∧ b ≠ k2) [.int .i64 q4_0] px1 from rd_chg .num HTl7.out (fun b hb hl => ⟨fun e => by have o0 := HO0.out; have o1 := HO2.out; have o2 := HO7.out; omega, hb⟩) HV8_1.out)
    have HC27 := Lib.hid (show Chg (fun b => b = rb ∨ bs ≤ b) w X7 from HC8.out.trans (Chg.more HTl7.out (fun b _ e => by have o0 := HO0.out; have o1 := HO2.out; have o2 := HO7.out; omega)))
    have HVl7 := Lib.hid (show (Ty.rd (.list tTable)).rd X7 (fun b => bs ≤ b ∧ b ≠ w.heap.size ∧ b ≠ rb ∧ b ≠ k2) [.slice la7 ln7 lc7] px2 from Rd.more _ (fun b hb => by have hb : B7 ≤ b := hb; have o0 := HO0.out; have o1 := HO2.out; have o2 := HO7.out; (try dsimp only); omega) hl)
    clear hr hb hl hc
    go_wp2_with fail
    refine (rget_int X7 rb B ps3 HRl7.out pHM3.out).mono ?_
    rintro e w29 ⟨cs, rfl, hr, hs, hc⟩
    rw [pHD3.out] at hr hs
    dsimp only at hr hs
    obtain ⟨q28_0, rfl⟩ : ∃ z : Int, cs = [.int .i64 z] := ⟨_, hr.1⟩
    have hg : goV [.int .i64 q28_0] = .int .i64 q28_0 := rfl
    rw [hg]
    clear hg
    have hb' := HBl7.out.chg hc (by have o0 := HO0.out; have o1 := HO2.out; have o2 := HO7.out; omega)
    have t0 := hb'.cell 3 _ rfl
    have z0 := hb'.free 3
    obtain ⟨X29, hX⟩ : ∃ X, X = (w29.setCell ⟨k2, 3, none⟩ (.int .i64 q28_0)) := ⟨_, rfl⟩
    have hcx : Chg (fun b => b = k2) w29 X29 := by
      have g : ∀ (u : World) (j : Nat) (v : Value), Chg (fun b => b = k2) u (u.setCell ⟨k2, j, none⟩ v) := fun u j v => Chg.setCell _ _ rfl
      rw [hX]
      exact (g _ _ _)
    have HB29 := Lib.hid (show Blk X29 k2 [.int .i64 q1_0, .int .i64 q4_0, .slice la7 ln7 lc7, .int .i64 q28_0, .slice none 0 0, .slice none 0 0] from by rw [hX]; exact (hb'.set 3 (.int .i64 q28_0) (by simp)))
    have HR29 := Lib.hid (hs.keep (hcx.more (fun b _ e => by have o0 := HO0.out; have o1 := HO2.out; have o2 := HO7.out; omega)))
    have HT29 := Lib.hid (show Chg (fun b => b = rb ∨ b = k2) X7 X29 from (hc.more (fun b _ e => .inl e)).trans (hcx.more (fun b _ e => .inr e)))
    have HB30_z := Lib.hid (show Blk X29 w.heap.size [.int .i64 0, .int .i64 0, .slice none 0 0, .int .i64 0, .slice none 0 0, .slice none 0 0] from HB27_z.out.chg HT29.out (by have o0 := HO0.out; have o1 := HO2.out; have o2 := HO7.out; omega))
    have HV30_0 := Lib.hid (show (Ty.rd .num).rd X29 (fun b => bs ≤ b ∧ b ≠ w.heap.size ∧ b ≠ rb ∧ b ≠ k2) [.int .i64 q1_0] px0 from rd_chg .num HT29.out (fun b hb hl => ⟨fun e => by have o0 := HO0.out; have o1 := HO2.out; have o2 := HO7.out; omega, hb⟩) HV27_0.out)
    have HV30_1 := Lib.hid (show (Ty.rd .num).rd X29 (fun b => bs ≤ b ∧ b ≠ w.heap.size ∧ b ≠ rb ∧ b ≠ k2) [.int .i64 q4_0] px1 from rd_chg .num HT29.out (fun b hb hl => ⟨fun e => by have o0 := HO0.out; have o1 := HO2.out; have o2 := HO7.out; omega, hb⟩) HV27_1.out)
    have HV30_2 := Lib.hid (show (Ty.rd (.list tTable)).rd X29 (fun b => bs ≤ b ∧ b ≠ w.heap.size ∧ b ≠ rb ∧ b ≠ k2) [.slice la7 ln7 lc7] px2 from rd_chg (.list tTable) HT29.out (fun b hb hl => ⟨fun e => by have o0 := HO0.out; have o1 := HO2.out; have o2 := HO7.out; omega, hb⟩) HVl7.out)
    have HC30 := Lib.hid (show Chg (fun b => b = rb ∨ bs ≤ b) w X29 from HC27.out.trans (Chg.more HT29.out (fun b _ e => by have o0 := HO0.out; have o1 := HO2.out; have o2 := HO7.out; omega)))
    have HV29 := Lib.hid (show (Ty.rd .num).rd X29 (fun b => bs ≤ b ∧ b ≠ w.heap.size ∧ b ≠ rb ∧ b ≠ k2) [.int .i64 q28_0] px3 from rd_chg .num hcx (fun b hb hl => by have hb : X7.heap.size ≤ b := hb; have h1 := HC27.out.size; have h2 := HBl7.out.lt; have o0 := HO0.out; have o1 := HO2.out; have o2 := HO7.out; (try dsimp only); omega) hr)
    have HX29 := Lib.hid hX
    clear hr hs hc hb' hcx hX
    obtain ⟨n31, z31, hn⟩ : ∃ n s', dsize ps4 = (n, s') := ⟨_, _, rfl⟩
    have HN31 := Lib.hid hn
    have HLS31 := Lib.hid (show dmany (dec tHold) n31 z31 = (px4, ps5) from by
      have h := pHD4.out
      replace h : dmany (dec tHold) (dsize ps4).1 (dsize ps4).2 = _ := h
      rw [hn] at h; exact h)
    obtain ⟨hm1, hm2⟩ := pHM4.out
    rw [hn] at hm1 hm2
    replace hm1 : n31 ≤ 1073741824 := hm1
    have HMM31 := Lib.hid hm2
    have HM1_31 := Lib.hid hm1
    have hn0_31 : 0 ≤ (n31 : Int) ∧ (n31 : Int) ≤ 1073741824 := by omega
    have hsz := rcd_length HR29.out
    rw [hn] at hsz
    have HSZ31 := Lib.hid hsz
    clear hsz hn hm1 hm2
    go_wp2_with fail
    rw [← HX29.out]
    refine HSZ31.out.mono ?_
    rintro e w31 ⟨rfl, hr, hc⟩
    have HR31 := Lib.hid (show RefR w31 rb B z31 from hr)
    have HT31 := Lib.hid hc
    clear hr hc
    have HB32_z := Lib.hid (show Blk w31 w.heap.size [.int .i64 0, .int .i64 0, .slice none 0 0, .int .i64 0, .slice none 0 0, .slice none 0 0] from HB30_z.out.chg HT31.out (by have o0 := HO0.out; have o1 := HO2.out; have o2 := HO7.out; omega))
    have HB32_2 := Lib.hid (show Blk w31 k2 [.int .i64 q1_0, .int .i64 q4_0, .slice la7 ln7 lc7, .int .i64 q28_0, .slice none 0 0, .slice none 0 0] from HB29.out.chg HT31.out (by have o0 := HO0.out; have o1 := HO2.out; have o2 := HO7.out; omega))
    have HV32_0 := Lib.hid (show (Ty.rd .num).rd w31 (fun b => bs ≤ b ∧ b ≠ w.heap.size ∧ b ≠ rb ∧ b ≠ k2) [.int .i64 q1_0] px0 from rd_chg .num HT31.out (fun b hb hl => ⟨fun e => by have o0 := HO0.out; have o1 := HO2.out; have o2 := HO7.out; omega, hb⟩) HV30_0.out)
    have HV32_1 := Lib.hid (show (Ty.rd .num).rd w31 (fun b => bs ≤ b ∧ b ≠ w.heap.size ∧ b ≠ rb ∧ b ≠ k2) [.int .i64 q4_0] px1 from rd_chg .num HT31.out (fun b hb hl => ⟨fun e => by have o0 := HO0.out; have o1 := HO2.out; have o2 := HO7.out; omega, hb⟩) HV30_1.out)
    have HV32_2 := Lib.hid (show (Ty.rd (.list tTable)).rd w31 (fun b => bs ≤ b ∧ b ≠ w.heap.size ∧ b ≠ rb ∧ b ≠ k2) [.slice la7 ln7 lc7] px2 from rd_chg (.list tTable) HT31.out (fun b hb hl => ⟨fun e => by have o0 := HO0.out; have o1 := HO2.out; have o2 := HO7.out; omega, hb⟩) HV30_2.out)
    have HV32_3 := Lib.hid (show (Ty.rd .num).rd w31 (fun b => bs ≤ b ∧ b ≠ w.heap.size ∧ b ≠ rb ∧ b ≠ k2) [.int .i64 q28_0] px3 from rd_chg .num HT31.out (fun b hb hl => ⟨fun e => by have o0 := HO0.out; have o1 := HO2.out; have o2 := HO7.out; omega, hb⟩) HV29.out)
    have HC32 := Lib.hid (show Chg (fun b => b = rb ∨ bs ≤ b) w w31 from HC30.out.trans (Chg.more HT31.out (fun b _ e => by have o0 := HO0.out; have o1 := HO2.out; have o2 := HO7.out; omega)))
    obtain ⟨B31, hBL⟩ : ∃ b, b = w31.heap.size := ⟨_, rfl⟩
    have HO31 := Lib.hid (show B31 = w31.heap.size ∧ bs ≤ B31 ∧ k2 < B31 from ⟨hBL, by have h := HC32.out.size; have o0 := HO0.out; have o1 := HO2.out; have o2 := HO7.out; omega, by rw [hBL]; exact HB32_2.out.lt⟩)
    clear hBL
    have HLA31 := Lib.hid (show LoopAt tHold 45 3 B31 rb B k2 [.int .i64 q1_0, .int .i64 q4_0, .slice la7 ln7 lc7, .int .i64 q28_0, .slice none 0 0, .slice none 0 0] 4 w31 w31 z31 [] [] (.slice none 0 0) from LoopAt.start HR31.out HB32_2.out rfl (by simp) (by have o0 := HO0.out; have o1 := HO2.out; have o2 := HO7.out; have o3 := HO31.out; omega) (by have o0 := HO0.out; have o1 := HO2.out; have o2 := HO7.out; have o3 := HO31.out; omega))
    go_upto_block 4 with fail
    go_cut [12] (fun t12 wx => ∃ (a : Option Addr) (nn c : Nat), RefR wx rb B ps5 ∧ Blk wx k2 [.int .i64 q1_0, .int .i64 q4_0, .slice la7 ln7 lc7, .int .i64 q28_0, .slice a nn c, .slice none 0 0] ∧ (Ty.rd (.list tHold)).rd wx (B31 ≤ ·) [.slice a nn c] px4 ∧ Chg (fun b => b = rb ∨ b = k2 ∨ B31 ≤ b) w31 wx)
    case first =>
      go_wp2_with fail
      go_loopg [12] n31 (fun gk t12 wr => ∃ (q k : Nat) (sc : St) (l : List (Ty.T tHold)) (xs : List Value) (v : Value), gk = k ∧ q + k = n31 ∧ t12 = .int .i64 (q : Int) ∧ LoopAt tHold 45 3 B31 rb B k2 [.int .i64 q1_0, .int .i64 q4_0, .slice la7 ln7 lc7, .int .i64 q28_0, .slice none 0 0, .slice none 0 0] 4 w31 wr sc l xs v ∧ ModMany (Mod tHold) (dec tHold) k sc ∧ l.length + k ≤ n31 ∧ l ++ (dmany (dec tHold) k sc).1 = px4 ∧ (dmany (dec tHold) k sc).2 = ps5)
      case atStart =>
        exact ⟨0, n31, z31, [], [], .slice none 0 0, rfl, by omega, rfl, HLA31.out, HMM31.out, by simp, by rw [HLS31.out]; rfl, by rw [HLS31.out]⟩
      case round =>
        generalize gk = gk31 at *
        generalize wr = wr31 at *
        obtain ⟨j31, kk, sc31, l31, xs31, v31, rfl, hqk, rfl, hla, hm, hle, hL, hS⟩ := hrel
        have HQ31 := Lib.hid hqk
        have HA31 := Lib.hid hla
        have HMK31 := Lib.hid hm
        have HLE31 := Lib.hid hle
        have HLL31 := Lib.hid hL
        have HSS31 := Lib.hid hS
        have hq0_31 : 0 ≤ (j31 : Int) ∧ (j31 : Int) ≤ 1073741824 := by have := HM1_31.out; omega
        obtain ⟨ii, err31, hp, hst⟩ := hla.r.at_
        have c2_31 := hp.c2
        have HST31 := Lib.hid hst
        clear hqk hla hm hle hL hS hp hst
        by_cases hk31 : gk31 = 0
        · have hqn : j31 = n31 := by have := HQ31.out; omega
          have hd1 : decide ((j31 : Int) < (n31 : Int)) = false := decide_eq_false (by omega)
          have hd1' : ¬ (j31 : Int) < (n31 : Int) := by omega
          clear hqn
          subst hk31
          have HE1 := Lib.hid (show l31 = px4 from by have := HLL31.out; simpa [dmany] using this)
          have HE2 := Lib.hid (show sc31 = ps5 from by have := HSS31.out; exact this)
          obtain ⟨a, nn, c, rfl, hfl⟩ := HA31.out.list
          have HFL := Lib.hid hfl
          clear hfl
          go_wp2
          go_meet
          exact ⟨a, nn, c, by rw [← HE2.out]; exact HA31.out.r, HA31.out.blk, by rw [← HE1.out]; exact HFL.out, HA31.out.chg⟩
        · have hd1 : decide ((j31 : Int) < (n31 : Int)) = true := decide_eq_true (by have := HQ31.out; omega)
          have hd1' : (j31 : Int) < (n31 : Int) := by have := HQ31.out; omega
          cases sc31 with
          | error e =>
            obtain ⟨he1, he⟩ := HST31.out.2 e rfl
            have g0 : (err31 == 0) = false := by rw [he1]; rcases he with rfl | rfl <;> rfl
            have HE1 := Lib.hid (show l31 = px4 from by have := HLL31.out; rw [dmany_error] at this; simpa using this)
            have HE2 := Lib.hid (show (.error e : St) = ps5 from by have := HSS31.out; rw [dmany_error] at this; exact this)
            clear he he1
            obtain ⟨a, nn, c, rfl, hfl⟩ := HA31.out.list
            have HFL := Lib.hid hfl
            clear hfl
            go_wp2
            go_meet
            exact ⟨a, nn, c, by rw [← HE2.out]; exact HA31.out.r, HA31.out.blk, by rw [← HE1.out]; exact HFL.out, HA31.out.chg⟩
          | ok r31 =>
            obtain ⟨rfl, -⟩ := HST31.out.1 r31 rfl
            obtain ⟨k', rfl⟩ : ∃ k', gk31 = k' + 1 := ⟨gk31 - 1, by omega⟩
            obtain ⟨rr31, hrr⟩ : ∃ s : St, s = .ok r31 := ⟨_, rfl⟩
            obtain ⟨y31, y2_31, hd⟩ : ∃ x s', dec tHold rr31 = (x, s') := ⟨_, _, rfl⟩
            have HL2_31 := Lib.hid (show (l31 ++ [y31]) ++ (dmany (dec tHold) k' y2_31).1 = px4 ∧ (dmany (dec tHold) k' y2_31).2 = ps5 from by
              have h1 := HLL31.out; have h2 := HSS31.out
              rw [dmany, ← hrr] at h1 h2
              simp only [hd] at h1 h2
              exact ⟨by simpa using h1, h2⟩)
            have hM2 : Mod tHold rr31 ∧ ModMany (Mod tHold) (dec tHold) k' y2_31 := by
              have h1 := HMK31.out
              rw [ModMany, ← hrr] at h1
              simp only [hd] at h1
              exact h1
            have HMK2_31 := Lib.hid hM2.2
            have HRR31 := Lib.hid (show RefR wr31 rb B rr31 from by rw [hrr]; exact HA31.out.r)
            have HDY31 := Lib.hid hd
            have hmy := hM2.1
            clear hd hM2 hrr
            obtain ⟨i0_31, hi0, hz0, hz1, hz2⟩ := info_parts info_t_Hold
            have HI31 := Lib.hid (And.intro hi0 (And.intro hz0 (And.intro hz1 hz2)))
            clear hi0 hz0 hz1 hz2
            have HMY31 := Lib.hid hmy
            clear hmy
            have HAD31 := Lib.hid HA31.out.drew
            have HRD31 := Lib.hid (HRR31.out.below (Below.refl _ _).drew)
            have HS0_31 := Lib.hid (show wr31.drew.cell? ⟨k2, 4, none⟩ = some v31 ∧ wr31.drew.frozen? ⟨k2, 4, none⟩ = false from ⟨HAD31.out.blk.cell 4 _ rfl, HAD31.out.blk.free 4⟩)
            go_wp2_with fail
            obtain ⟨qc0, qf0⟩ := HS0_31.out
            go_region_law (first | (refine step_append_o rfl (.tmp 100) (.tmp 103) 26 rfl B31 45 i0_31 _ 3 24 Tryz.underlying26 HI31.out.1 HI31.out.2.1 HI31.out.2.2.1 HI31.out.2.2.2 rfl (by decide) v31 l31.length xs31 (by simp [Act.eval]) HA3.out.rows.row _ 1 [.int .i64 q31_0, .int .i64 q31_1, .int .i64 q31_2] (by first | (simp [Act.eval]; done) | (simp [Act.eval]; rfl)) (sl_cells1 wq _ _ rfl) (fun c h => by cases h) (by simp [Value.oneCell']) (by have := HLE31.out; have := HM1_31.out; unfold maxLen; omega) (by have := HLE31.out; have := HM1_31.out; omega) HA3.out.ord.2.2.1 ?_; intro v' w4 h1 h2 h3; obtain ⟨va, vn, vc, rfl⟩ := ownk_shape h1; obtain ⟨qc3, qf3⟩ := And.intro ((HA3.out.app h2).cell 4 _ rfl) ((HA3.out.app h2).free 4)) | (go_simp; go_at_call 85; refine (rget_Hold wr31.drew rb B rr31 HRD31.out HMY31.out).mono ?_; rintro e wq ⟨cs, rfl, hr, hs, hc⟩; rw [HDY31.out] at hr hs; dsimp only at hr hs; obtain ⟨q31_0, q31_1, q31_2, rfl⟩ := shape_Hold hr; have hg : goV [.int .i64 q31_0, .int .i64 q31_1, .int .i64 q31_2] = .agg #[.int .i64 q31_0, .int .i64 q31_1, .int .i64 q31_2] := rfl; rw [hg]; clear hg; have HRQ := Lib.hid hs; have HVQ := Lib.hid hr; have HCQ := Lib.hid hc; have HAQ := Lib.hid (HAD31.out.turn hc hs); clear hr hs hc; have HB3 := Lib.hid (show Below wq.heap.size wq (wq.alloc (.cells #[.int .i64 q31_0, .int .i64 q31_1, .int .i64 q31_2] 45)) from (Below.refl _ _).alloc (Nat.le_refl _) _); have HA3 := Lib.hid (HAQ.out.below HB3.out); obtain ⟨qc1, qf1⟩ := And.intro (HAQ.out.blk.cell 4 _ rfl) (HAQ.out.blk.free 4); obtain ⟨qc2, qf2⟩ := And.intro (HA3.out.blk.cell 4 _ rfl) (HA3.out.blk.free 4)) | fail)
            all_goals
              have HST4 := Lib.hid (HAD31.out.step HCQ.out HRQ.out HVQ.out HB3.out h1 h2 h3)
              clear h1 h2 h3 qc0 qf0 qc1 qf1 qc2 qf2 qc3 qf3
              go_wp2
              go_roundg k'
              case rel => exact ⟨j31 + 1, k', y2_31, l31 ++ [y31], _, _, rfl, by have := HQ31.out; omega, by go_num, HST4.out, HMK2_31.out, by have := HLE31.out; simp; omega, HL2_31.out.1, HL2_31.out.2⟩
              case measure => omega
    case rest =>
      generalize wc = X31 at *
      obtain ⟨la31, ln31, lc31, hr, hb, hl, hc⟩ := hcut
      have HRl31 := Lib.hid hr
      have HBl31 := Lib.hid hb
      have HTl31 := Lib.hid hc
      have HB33_z := Lib.hid (show Blk X31 w.heap.size [.int .i64 0, .int .i64 0, .slice none 0 0, .int .i64 0, .slice none 0 0, .slice none 0 0] from HB32_z.out.chg HTl31.out (by have o0 := HO0.out; have o1 := HO2.out; have o2 := HO7.out; have o3 := HO31.out; omega))
      have HV33_0 := Lib.hid (show (Ty.rd .num).rd X31 (fun b => bs ≤ b ∧ b ≠ w.heap.size ∧ b ≠ rb ∧ b ≠ k2) [.int .i64 q1_0] px0 from rd_chg .num HTl31.out (fun b hb hl => ⟨fun e => by have o0 := HO0.out; have o1 := HO2.out; have o2 := HO7.out; have o3 := HO31.out; omega, hb⟩) HV32_0.out)
      have HV33_1 := Lib.hid (show (Ty.rd .num).rd X31 (fun b => bs ≤ b ∧ b ≠ w.heap.size ∧ b ≠ rb ∧ b ≠ k2) [.int .i64 q4_0] px1 from rd_chg .num HTl31.out (fun b hb hl => ⟨fun e => by have o0 := HO0.out; have o1 := HO2.out; have o2 := HO7.out; have o3 := HO31.out; omega, hb⟩) HV32_1.out)
      have HV33_2 := Lib.hid (show (Ty.rd (.list tTable)).rd X31 (fun b => bs ≤ b ∧ b ≠ w.heap.size ∧ b ≠ rb ∧ b ≠ k2) [.slice la7 ln7 lc7] px2 from rd_chg (.list tTable) HTl31.out (fun b hb hl => ⟨fun e => by have o0 := HO0.out; have o1 := HO2.out; have o2 := HO7.out; have o3 := HO31.out; omega, hb⟩) HV32_2.out)
      have HV33_3 := Lib.hid (show (Ty.rd .num).rd X31 (fun b => bs ≤ b ∧ b ≠ w.heap.size ∧ b ≠ rb ∧ b ≠ k2) [.int .i64 q28_0] px3 from rd_chg .num HTl31.out (fun b hb hl => ⟨fun e => by have o0 := HO0.out; have o1 := HO2.out; have o2 := HO7.out; have o3 := HO31.out; omega, hb⟩) HV32_3.out)
      have HC33 := Lib.hid (show Chg (fun b => b = rb ∨ bs ≤ b) w X31 from HC32.out.trans (Chg.more HTl31.out (fun b _ e => by have o0 := HO0.out; have o1 := HO2.out; have o2 := HO7.out; have o3 := HO31.out; omega)))
      have HVl31 := Lib.hid (show (Ty.rd (.list tHold)).rd X31 (fun b => bs ≤ b ∧ b ≠ w.heap.size ∧ b ≠ rb ∧ b ≠ k2) [.slice la31 ln31 lc31] px4 from Rd.more _ (fun b hb => by have hb : B31 ≤ b := hb; have o0 := HO0.out; have o1 := HO2.out; have o2 := HO7.out; have o3 := HO31.out; (try dsimp only); omega) hl)
      clear hr hb hl hc
      obtain ⟨n34, z34, hn⟩ : ∃ n s', dsize ps5 = (n, s') := ⟨_, _, rfl⟩
      have HN34 := Lib.hid hn
      have HLS34 := Lib.hid (show dmany (dec tCitation) n34 z34 = (px5, ps6) from by
        have h := pHD5.out
        replace h : dmany (dec tCitation) (dsize ps5).1 (dsize ps5).2 = _ := h
        rw [hn] at h; exact h)
      obtain ⟨hm1, hm2⟩ := pHM5.out
      rw [hn] at hm1 hm2
      replace hm1 : n34 ≤ 1073741824 := hm1
      have HMM34 := Lib.hid hm2
      have HM1_34 := Lib.hid hm1
      have hn0_34 : 0 ≤ (n34 : Int) ∧ (n34 : Int) ≤ 1073741824 := by omega
      have hsz := rcd_length HRl31.out
      rw [hn] at hsz
      have HSZ34 := Lib.hid hsz
      clear hsz hn hm1 hm2
      go_wp2_with fail
      refine HSZ34.out.mono ?_
      rintro e w34 ⟨rfl, hr, hc⟩
      have HR34 := Lib.hid (show RefR w34 rb B z34 from hr)
      have HT34 := Lib.hid hc
      clear hr hc
      have HB35_z := Lib.hid (show Blk w34 w.heap.size [.int .i64 0, .int .i64 0, .slice none 0 0, .int .i64 0, .slice none 0 0, .slice none 0 0] from HB33_z.out.chg HT34.out (by have o0 := HO0.out; have o1 := HO2.out; have o2 := HO7.out; have o3 := HO31.out; omega))
      have HB35_2 := Lib.hid (show Blk w34 k2 [.int .i64 q1_0, .int .i64 q4_0, .slice la7 ln7 lc7, .int .i64 q28_0, .slice la31 ln31 lc31, .slice none 0 0] from HBl31.out.chg HT34.out (by have o0 := HO0.out; have o1 := HO2.out; have o2 := HO7.out; have o3 := HO31.out; omega))
      have HV35_0 := Lib.hid (show (Ty.rd .num).rd w34 (fun b => bs ≤ b ∧ b ≠ w.heap.size ∧ b ≠ rb ∧ b ≠ k2) [.int .i64 q1_0] px0 from rd_chg .num HT34.out (fun b hb hl => ⟨fun e => by have o0 := HO0.out; have o1 := HO2.out; have o2 := HO7.out; have o3 := HO31.out; omega, hb⟩) HV33_0.out)
      have HV35_1 := Lib.hid (show (Ty.rd .num).rd w34 (fun b => bs ≤ b ∧ b ≠ w.heap.size ∧ b ≠ rb ∧ b ≠ k2) [.int .i64 q4_0] px1 from rd_chg .num HT34.out (fun b hb hl => ⟨fun e => by have o0 := HO0.out; have o1 := HO2.out; have o2 := HO7.out; have o3 := HO31.out; omega, hb⟩) HV33_1.out)
      have HV35_2 := Lib.hid (show (Ty.rd (.list tTable)).rd w34 (fun b => bs ≤ b ∧ b ≠ w.heap.size ∧ b ≠ rb ∧ b ≠ k2) [.slice la7 ln7 lc7] px2 from rd_chg (.list tTable) HT34.out (fun b hb hl => ⟨fun e => by have o0 := HO0.out; have o1 := HO2.out; have o2 := HO7.out; have o3 := HO31.out; omega, hb⟩) HV33_2.out)
      have HV35_3 := Lib.hid (show (Ty.rd .num).rd w34 (fun b => bs ≤ b ∧ b ≠ w.heap.size ∧ b ≠ rb ∧ b ≠ k2) [.int .i64 q28_0] px3 from rd_chg .num HT34.out (fun b hb hl => ⟨fun e => by have o0 := HO0.out; have o1 := HO2.out; have o2 := HO7.out; have o3 := HO31.out; omega, hb⟩) HV33_3.out)
      have HV35_4 := Lib.hid (show (Ty.rd (.list tHold)).rd w34 (fun b => bs ≤ b ∧ b ≠ w.heap.size ∧ b ≠ rb ∧ b ≠ k2) [.slice la31 ln31 lc31] px4 from rd_chg (.list tHold) HT34.out (fun b hb hl => ⟨fun e => by have o0 := HO0.out; have o1 := HO2.out; have o2 := HO7.out; have o3 := HO31.out; omega, hb⟩) HVl31.out)
      have HC35 := Lib.hid (show Chg (fun b => b = rb ∨ bs ≤ b) w w34 from HC33.out.trans (Chg.more HT34.out (fun b _ e => by have o0 := HO0.out; have o1 := HO2.out; have o2 := HO7.out; have o3 := HO31.out; omega)))
      obtain ⟨B34, hBL⟩ : ∃ b, b = w34.heap.size := ⟨_, rfl⟩
      have HO34 := Lib.hid (show B34 = w34.heap.size ∧ bs ≤ B34 ∧ k2 < B34 from ⟨hBL, by have h := HC35.out.size; have o0 := HO0.out; have o1 := HO2.out; have o2 := HO7.out; have o3 := HO31.out; omega, by rw [hBL]; exact HB35_2.out.lt⟩)
      clear hBL
      have HLA34 := Lib.hid (show LoopAt tCitation 79 6 B34 rb B k2 [.int .i64 q1_0, .int .i64 q4_0, .slice la7 ln7 lc7, .int .i64 q28_0, .slice la31 ln31 lc31, .slice none 0 0] 5 w34 w34 z34 [] [] (.slice none 0 0) from LoopAt.start HR34.out HB35_2.out rfl (by simp) (by have o0 := HO0.out; have o1 := HO2.out; have o2 := HO7.out; have o3 := HO31.out; have o4 := HO34.out; omega) (by have o0 := HO0.out; have o1 := HO2.out; have o2 := HO7.out; have o3 := HO31.out; have o4 := HO34.out; omega))
      go_upto_block 6 with fail
      go_cut [13] (fun t13 wx => ∃ (a : Option Addr) (nn c : Nat), RefR wx rb B ps6 ∧ Blk wx k2 [.int .i64 q1_0, .int .i64 q4_0, .slice la7 ln7 lc7, .int .i64 q28_0, .slice la31 ln31 lc31, .slice a nn c] ∧ (Ty.rd (.list tCitation)).rd wx (B34 ≤ ·) [.slice a nn c] px5 ∧ Chg (fun b => b = rb ∨ b = k2 ∨ B34 ≤ b) w34 wx)
      case first =>
        go_wp2_with fail
        go_loopg [13] n34 (fun gk t13 wr => ∃ (q k : Nat) (sc : St) (l : List (Ty.T tCitation)) (xs : List Value) (v : Value), gk = k ∧ q + k = n34 ∧ t13 = .int .i64 (q : Int) ∧ LoopAt tCitation 79 6 B34 rb B k2 [.int .i64 q1_0, .int .i64 q4_0, .slice la7 ln7 lc7, .int .i64 q28_0, .slice la31 ln31 lc31, .slice none 0 0] 5 w34 wr sc l xs v ∧ ModMany (Mod tCitation) (dec tCitation) k sc ∧ l.length + k ≤ n34 ∧ l ++ (dmany (dec tCitation) k sc).1 = px5 ∧ (dmany (dec tCitation) k sc).2 = ps6)
        case atStart =>
          exact ⟨0, n34, z34, [], [], .slice none 0 0, rfl, by omega, rfl, HLA34.out, HMM34.out, by simp, by rw [HLS34.out]; rfl, by rw [HLS34.out]⟩
        case round =>
          generalize gk = gk34 at *
          generalize wr = wr34 at *
          obtain ⟨j34, kk, sc34, l34, xs34, v34, rfl, hqk, rfl, hla, hm, hle, hL, hS⟩ := hrel
          have HQ34 := Lib.hid hqk
          have HA34 := Lib.hid hla
          have HMK34 := Lib.hid hm
          have HLE34 := Lib.hid hle
          have HLL34 := Lib.hid hL
          have HSS34 := Lib.hid hS
          have hq0_34 : 0 ≤ (j34 : Int) ∧ (j34 : Int) ≤ 1073741824 := by have := HM1_34.out; omega
          obtain ⟨ii, err34, hp, hst⟩ := hla.r.at_
          have c2_34 := hp.c2
          have HST34 := Lib.hid hst
          clear hqk hla hm hle hL hS hp hst
          by_cases hk34 : gk34 = 0
          · have hqn : j34 = n34 := by have := HQ34.out; omega
            have hd1 : decide ((j34 : Int) < (n34 : Int)) = false := decide_eq_false (by omega)
            have hd1' : ¬ (j34 : Int) < (n34 : Int) := by omega
            clear hqn
            subst hk34
            have HE1 := Lib.hid (show l34 = px5 from by have := HLL34.out; simpa [dmany] using this)
            have HE2 := Lib.hid (show sc34 = ps6 from by have := HSS34.out; exact this)
            obtain ⟨a, nn, c, rfl, hfl⟩ := HA34.out.list
            have HFL := Lib.hid hfl
            clear hfl
            go_wp2
            go_meet
            exact ⟨a, nn, c, by rw [← HE2.out]; exact HA34.out.r, HA34.out.blk, by rw [← HE1.out]; exact HFL.out, HA34.out.chg⟩
          · have hd1 : decide ((j34 : Int) < (n34 : Int)) = true := decide_eq_true (by have := HQ34.out; omega)
            have hd1' : (j34 : Int) < (n34 : Int) := by have := HQ34.out; omega
            cases sc34 with
            | error e =>
              obtain ⟨he1, he⟩ := HST34.out.2 e rfl
              have g0 : (err34 == 0) = false := by rw [he1]; rcases he with rfl | rfl <;> rfl
              have HE1 := Lib.hid (show l34 = px5 from by have := HLL34.out; rw [dmany_error] at this; simpa using this)
              have HE2 := Lib.hid (show (.error e : St) = ps6 from by have := HSS34.out; rw [dmany_error] at this; exact this)
              clear he he1
              obtain ⟨a, nn, c, rfl, hfl⟩ := HA34.out.list
              have HFL := Lib.hid hfl
              clear hfl
              go_wp2
              go_meet
              exact ⟨a, nn, c, by rw [← HE2.out]; exact HA34.out.r, HA34.out.blk, by rw [← HE1.out]; exact HFL.out, HA34.out.chg⟩
            | ok r34 =>
              obtain ⟨rfl, -⟩ := HST34.out.1 r34 rfl
              obtain ⟨k', rfl⟩ : ∃ k', gk34 = k' + 1 := ⟨gk34 - 1, by omega⟩
              obtain ⟨rr34, hrr⟩ : ∃ s : St, s = .ok r34 := ⟨_, rfl⟩
              obtain ⟨y34, y2_34, hd⟩ : ∃ x s', dec tCitation rr34 = (x, s') := ⟨_, _, rfl⟩
              have HL2_34 := Lib.hid (show (l34 ++ [y34]) ++ (dmany (dec tCitation) k' y2_34).1 = px5 ∧ (dmany (dec tCitation) k' y2_34).2 = ps6 from by
                have h1 := HLL34.out; have h2 := HSS34.out
                rw [dmany, ← hrr] at h1 h2
                simp only [hd] at h1 h2
                exact ⟨by simpa using h1, h2⟩)
              have hM2 : Mod tCitation rr34 ∧ ModMany (Mod tCitation) (dec tCitation) k' y2_34 := by
                have h1 := HMK34.out
                rw [ModMany, ← hrr] at h1
                simp only [hd] at h1
                exact h1
              have HMK2_34 := Lib.hid hM2.2
              have HRR34 := Lib.hid (show RefR wr34 rb B rr34 from by rw [hrr]; exact HA34.out.r)
              have HDY34 := Lib.hid hd
              have hmy := hM2.1
              clear hd hM2 hrr
              obtain ⟨i0_34, hi0, hz0, hz1, hz2⟩ := info_parts info_t_Citation
              have HI34 := Lib.hid (And.intro hi0 (And.intro hz0 (And.intro hz1 hz2)))
              clear hi0 hz0 hz1 hz2
              obtain ⟨b34, hbs⟩ : ∃ b, b = wr34.heap.size := ⟨_, rfl⟩
              have HOb34 := Lib.hid (show b34 = wr34.heap.size ∧ B34 ≤ b34 ∧ k2 < b34 from ⟨hbs, by rw [hbs]; exact HA34.out.ord.2.2.1, by have := HA34.out.ord; omega⟩)
              have HC0_34 := Lib.hid (show Chg (fun b => b = rb ∨ b34 ≤ b) wr34 wr34 from Chg.refl _ _)
              clear hbs
              obtain ⟨e34x0, e34s1, e34hd0⟩ : ∃ x s', dec .num rr34 = (x, s') := ⟨_, _, rfl⟩
              obtain ⟨e34x1, e34s2, e34hd1⟩ : ∃ x s', dec tRequest e34s1 = (x, s') := ⟨_, _, rfl⟩
              obtain ⟨e34x2, e34s3, e34hd2⟩ : ∃ x s', dec (.list tRow) e34s2 = (x, s') := ⟨_, _, rfl⟩
              obtain ⟨e34hm0, e34hm1, e34hm2⟩ := hmy
              simp only [e34hd0] at e34hm1
              simp only [e34hd0, e34hd1] at e34hm2
              have e34HM0 := Lib.hid e34hm0
              have e34HM1 := Lib.hid e34hm1
              have e34HM2 := Lib.hid e34hm2
              have e34HD0 := Lib.hid e34hd0
              have e34HD1 := Lib.hid e34hd1
              have e34HD2 := Lib.hid e34hd2
              have e34DEC := Lib.hid (show y34 = (e34x0, (e34x1, e34x2)) ∧ y2_34 = e34s3 from by
                have h := HDY34.out
                replace h : dec (.pair .num (.pair tRequest (.list tRow))) rr34 = _ := h
                simp only [dec_pair, e34hd0, e34hd1, e34hd2] at h
                cases h; exact ⟨rfl, rfl⟩)
              clear e34hd0 e34hd1 e34hd2 e34hm0 e34hm1 e34hm2
              go_wp2_with fail
              refine (rget_int wr34 rb B rr34 HRR34.out e34HM0.out).mono ?_
              rintro e w37 ⟨cs, rfl, hr, hs, hc⟩
              rw [e34HD0.out] at hr hs
              dsimp only at hr hs
              obtain ⟨q36_0, rfl⟩ : ∃ z : Int, cs = [.int .i64 z] := ⟨_, hr.1⟩
              have hg : goV [.int .i64 q36_0] = .int .i64 q36_0 := rfl
              rw [hg]
              clear hg
              obtain ⟨k37, hk⟩ : ∃ k, k = w37.heap.size := ⟨_, rfl⟩
              obtain ⟨X37, hX⟩ : ∃ X, X = w37.alloc (.cells #[.int .i64 q36_0, .int .i64 0, .int .i64 0, .int .i64 0, .string ⟨#[]⟩, .slice none 0 0] 79) := ⟨_, rfl⟩
              have hbx : Below w37.heap.size w37 X37 := by rw [hX]; exact (Below.refl _ _).alloc (Nat.le_refl _) _
              have HO37 := Lib.hid (show k2 < k37 ∧ b34 ≤ k37 ∧ k37 < X37.heap.size from by
                have h1 := HC0_34.out.size; have h2 := hc.size; have h3 : X37.heap.size = w37.heap.size + 1 := by rw [hX]; simp
                have o0 := HO0.out; have o1 := HO2.out; have o2 := HO7.out; have o3 := HO31.out; have o4 := HO34.out; have o5 := HOb34.out
                omega)
              have HR37 := Lib.hid (hs.below hbx)
              have hstep : Chg (fun b => b = rb) wr34 X37 := hc.trans ((Chg.of_below hbx))
              have HT37 := Lib.hid hstep
              have HC38 := Lib.hid (show Chg (fun b => b = rb ∨ b34 ≤ b) wr34 X37 from HC0_34.out.trans (Chg.more HT37.out (fun b _ e => by have o0 := HO0.out; have o1 := HO2.out; have o2 := HO7.out; have o3 := HO31.out; have o4 := HO34.out; have o5 := HOb34.out; have o6 := HO37.out; omega)))
              have HV37 := Lib.hid (show (Ty.rd .num).rd X37 (fun b => b34 ≤ b ∧ b ≠ k37) [.int .i64 q36_0] e34x0 from rd_chg .num (K := fun _ => False) (Chg.of_below hbx) (fun b hb hl => ⟨id, by have hb : wr34.heap.size ≤ b := hb; have h1 := HC0_34.out.size; have o0 := HO0.out; have o1 := HO2.out; have o2 := HO7.out; have o3 := HO31.out; have o4 := HO34.out; have o5 := HOb34.out; have o6 := HO37.out; omega⟩) hr)
              have HB37 := Lib.hid (show Blk X37 k37 [.int .i64 q36_0, .int .i64 0, .int .i64 0, .int .i64 0, .string ⟨#[]⟩, .slice none 0 0] from by rw [hX, hk]; exact Blk.new w37 _ _)
              have HK37 := Lib.hid hk
              have HX37 := Lib.hid hX
              clear hr hs hc hk hX hbx hstep
              go_wp2_with fail
              rw [← HK37.out, ← HX37.out]
              refine (rget_Request X37 rb B e34s1 HR37.out e34HM1.out).mono ?_
              rintro e w40 ⟨cs, rfl, hr, hs, hc⟩
              rw [e34HD1.out] at hr hs
              dsimp only at hr hs
              obtain ⟨q39_0, q39_1, q39_2, q39_3, rfl⟩ := shape_Request hr
              have hg : goV [.int .i64 q39_0, .int .i64 q39_1, .int .i64 q39_2, .string q39_3] = .agg #[.int .i64 q39_0, .int .i64 q39_1, .int .i64 q39_2, .string q39_3] := rfl
              rw [hg]
              clear hg
              have hb' := HB37.out.chg hc (by have o0 := HO0.out; have o1 := HO2.out; have o2 := HO7.out; have o3 := HO31.out; have o4 := HO34.out; have o5 := HOb34.out; have o6 := HO37.out; omega)
              have t0 := hb'.cell 1 _ rfl
              have z0 := hb'.free 1
              have t1 := hb'.cell 2 _ rfl
              have z1 := hb'.free 2
              have t2 := hb'.cell 3 _ rfl
              have z2 := hb'.free 3
              have t3 := hb'.cell 4 _ rfl
              have z3 := hb'.free 4
              obtain ⟨X40, hX⟩ : ∃ X, X = ((((w40.setCell ⟨k37, 1, none⟩ (.int .i64 q39_0)).setCell ⟨k37, 2, none⟩ (.int .i64 q39_1)).setCell ⟨k37, 3, none⟩ (.int .i64 q39_2)).setCell ⟨k37, 4, none⟩ (.string q39_3)) := ⟨_, rfl⟩
              have hcx : Chg (fun b => b = k37) w40 X40 := by
                have g : ∀ (u : World) (j : Nat) (v : Value), Chg (fun b => b = k37) u (u.setCell ⟨k37, j, none⟩ v) := fun u j v => Chg.setCell _ _ rfl
                rw [hX]
                exact (Chg.trans (Chg.trans (Chg.trans (g _ _ _) (g _ _ _)) (g _ _ _)) (g _ _ _))
              have HB40 := Lib.hid (show Blk X40 k37 [.int .i64 q36_0, .int .i64 q39_0, .int .i64 q39_1, .int .i64 q39_2, .string q39_3, .slice none 0 0] from by rw [hX]; exact ((((hb'.set 1 (.int .i64 q39_0) (by simp)).set 2 (.int .i64 q39_1) (by simp)).set 3 (.int .i64 q39_2) (by simp)).set 4 (.string q39_3) (by simp)))
              have HR40 := Lib.hid (hs.keep (hcx.more (fun b _ e => by have o0 := HO0.out; have o1 := HO2.out; have o2 := HO7.out; have o3 := HO31.out; have o4 := HO34.out; have o5 := HOb34.out; have o6 := HO37.out; omega)))
              have HT40 := Lib.hid (show Chg (fun b => b = rb ∨ b = k37) X37 X40 from (hc.more (fun b _ e => .inl e)).trans (hcx.more (fun b _ e => .inr e)))
              have HV41_0 := Lib.hid (show (Ty.rd .num).rd X40 (fun b => b34 ≤ b ∧ b ≠ k37) [.int .i64 q36_0] e34x0 from rd_chg .num HT40.out (fun b hb hl => ⟨fun e => by have o0 := HO0.out; have o1 := HO2.out; have o2 := HO7.out; have o3 := HO31.out; have o4 := HO34.out; have o5 := HOb34.out; have o6 := HO37.out; omega, hb⟩) HV37.out)
              have HC41 := Lib.hid (show Chg (fun b => b = rb ∨ b34 ≤ b) wr34 X40 from HC38.out.trans (Chg.more HT40.out (fun b _ e => by have o0 := HO0.out; have o1 := HO2.out; have o2 := HO7.out; have o3 := HO31.out; have o4 := HO34.out; have o5 := HOb34.out; have o6 := HO37.out; omega)))
              have HV40 := Lib.hid (show (Ty.rd tRequest).rd X40 (fun b => b34 ≤ b ∧ b ≠ k37) [.int .i64 q39_0, .int .i64 q39_1, .int .i64 q39_2, .string q39_3] e34x1 from rd_chg tRequest hcx (fun b hb hl => by have hb : X37.heap.size ≤ b := hb; have h1 := HC38.out.size; have h2 := HB37.out.lt; have o0 := HO0.out; have o1 := HO2.out; have o2 := HO7.out; have o3 := HO31.out; have o4 := HO34.out; have o5 := HOb34.out; have o6 := HO37.out; (try dsimp only); omega) hr)
              have HX40 := Lib.hid hX
              clear hr hs hc hb' hcx hX
              obtain ⟨n42, z42, hn⟩ : ∃ n s', dsize e34s2 = (n, s') := ⟨_, _, rfl⟩
              have HN42 := Lib.hid hn
              have HLS42 := Lib.hid (show dmany (dec tRow) n42 z42 = (e34x2, e34s3) from by
                have h := e34HD2.out
                replace h : dmany (dec tRow) (dsize e34s2).1 (dsize e34s2).2 = _ := h
                rw [hn] at h; exact h)
              obtain ⟨hm1, hm2⟩ := e34HM2.out
              rw [hn] at hm1 hm2
              replace hm1 : n42 ≤ 1073741824 := hm1
              have HMM42 := Lib.hid hm2
              have HM1_42 := Lib.hid hm1
              have hn0_42 : 0 ≤ (n42 : Int) ∧ (n42 : Int) ≤ 1073741824 := by omega
              have hsz := rcd_length HR40.out
              rw [hn] at hsz
              have HSZ42 := Lib.hid hsz
              clear hsz hn hm1 hm2
              go_wp2_with fail
              rw [← HX40.out]
              refine HSZ42.out.mono ?_
              rintro e w42 ⟨rfl, hr, hc⟩
              have HR42 := Lib.hid (show RefR w42 rb B z42 from hr)
              have HT42 := Lib.hid hc
              clear hr hc
              have HB43_37 := Lib.hid (show Blk w42 k37 [.int .i64 q36_0, .int .i64 q39_0, .int .i64 q39_1, .int .i64 q39_2, .string q39_3, .slice none 0 0] from HB40.out.chg HT42.out (by have o0 := HO0.out; have o1 := HO2.out; have o2 := HO7.out; have o3 := HO31.out; have o4 := HO34.out; have o5 := HOb34.out; have o6 := HO37.out; omega))
              have HV43_0 := Lib.hid (show (Ty.rd .num).rd w42 (fun b => b34 ≤ b ∧ b ≠ k37) [.int .i64 q36_0] e34x0 from rd_chg .num HT42.out (fun b hb hl => ⟨fun e => by have o0 := HO0.out; have o1 := HO2.out; have o2 := HO7.out; have o3 := HO31.out; have o4 := HO34.out; have o5 := HOb34.out; have o6 := HO37.out; omega, hb⟩) HV41_0.out)
              have HV43_1 := Lib.hid (show (Ty.rd tRequest).rd w42 (fun b => b34 ≤ b ∧ b ≠ k37) [.int .i64 q39_0, .int .i64 q39_1, .int .i64 q39_2, .string q39_3] e34x1 from rd_chg tRequest HT42.out (fun b hb hl => ⟨fun e => by have o0 := HO0.out; have o1 := HO2.out; have o2 := HO7.out; have o3 := HO31.out; have o4 := HO34.out; have o5 := HOb34.out; have o6 := HO37.out; omega, hb⟩) HV40.out)
              have HC43 := Lib.hid (show Chg (fun b => b = rb ∨ b34 ≤ b) wr34 w42 from HC41.out.trans (Chg.more HT42.out (fun b _ e => by have o0 := HO0.out; have o1 := HO2.out; have o2 := HO7.out; have o3 := HO31.out; have o4 := HO34.out; have o5 := HOb34.out; have o6 := HO37.out; omega)))
              obtain ⟨B42, hBL⟩ : ∃ b, b = w42.heap.size := ⟨_, rfl⟩
              have HO42 := Lib.hid (show B42 = w42.heap.size ∧ b34 ≤ B42 ∧ k37 < B42 from ⟨hBL, by have h := HC43.out.size; have o0 := HO0.out; have o1 := HO2.out; have o2 := HO7.out; have o3 := HO31.out; have o4 := HO34.out; have o5 := HOb34.out; have o6 := HO37.out; omega, by rw [hBL]; exact HB43_37.out.lt⟩)
              clear hBL
              have HLA42 := Lib.hid (show LoopAt tRow 106 2 B42 rb B k37 [.int .i64 q36_0, .int .i64 q39_0, .int .i64 q39_1, .int .i64 q39_2, .string q39_3, .slice none 0 0] 5 w42 w42 z42 [] [] (.slice none 0 0) from LoopAt.start HR42.out HB43_37.out rfl (by simp) (by have o0 := HO0.out; have o1 := HO2.out; have o2 := HO7.out; have o3 := HO31.out; have o4 := HO34.out; have o5 := HOb34.out; have o6 := HO37.out; have o7 := HO42.out; omega) (by have o0 := HO0.out; have o1 := HO2.out; have o2 := HO7.out; have o3 := HO31.out; have o4 := HO34.out; have o5 := HOb34.out; have o6 := HO37.out; have o7 := HO42.out; omega))
              go_upto_block 8 with fail
              go_cut [16] (fun t16 wx => ∃ (a : Option Addr) (nn c : Nat), RefR wx rb B e34s3 ∧ Blk wx k37 [.int .i64 q36_0, .int .i64 q39_0, .int .i64 q39_1, .int .i64 q39_2, .string q39_3, .slice a nn c] ∧ (Ty.rd (.list tRow)).rd wx (B42 ≤ ·) [.slice a nn c] e34x2 ∧ Chg (fun b => b = rb ∨ b = k37 ∨ B42 ≤ b) w42 wx)
              case first =>
                go_wp2_with fail
                go_loopg [16] n42 (fun gk t16 wr => ∃ (q k : Nat) (sc : St) (l : List (Ty.T tRow)) (xs : List Value) (v : Value), gk = k ∧ q + k = n42 ∧ t16 = .int .i64 (q : Int) ∧ LoopAt tRow 106 2 B42 rb B k37 [.int .i64 q36_0, .int .i64 q39_0, .int .i64 q39_1, .int .i64 q39_2, .string q39_3, .slice none 0 0] 5 w42 wr sc l xs v ∧ ModMany (Mod tRow) (dec tRow) k sc ∧ l.length + k ≤ n42 ∧ l ++ (dmany (dec tRow) k sc).1 = e34x2 ∧ (dmany (dec tRow) k sc).2 = e34s3)
                case atStart =>
                  exact ⟨0, n42, z42, [], [], .slice none 0 0, rfl, by omega, rfl, HLA42.out, HMM42.out, by simp, by rw [HLS42.out]; rfl, by rw [HLS42.out]⟩
                case round =>
                  generalize gk = gk42 at *
                  generalize wr = wr42 at *
                  obtain ⟨j42, kk, sc42, l42, xs42, v42, rfl, hqk, rfl, hla, hm, hle, hL, hS⟩ := hrel
                  have HQ42 := Lib.hid hqk
                  have HA42 := Lib.hid hla
                  have HMK42 := Lib.hid hm
                  have HLE42 := Lib.hid hle
                  have HLL42 := Lib.hid hL
                  have HSS42 := Lib.hid hS
                  have hq0_42 : 0 ≤ (j42 : Int) ∧ (j42 : Int) ≤ 1073741824 := by have := HM1_42.out; omega
                  obtain ⟨ii, err42, hp, hst⟩ := hla.r.at_
                  have c2_42 := hp.c2
                  have HST42 := Lib.hid hst
                  clear hqk hla hm hle hL hS hp hst
                  by_cases hk42 : gk42 = 0
                  · have hqn : j42 = n42 := by have := HQ42.out; omega
                    have hd1 : decide ((j42 : Int) < (n42 : Int)) = false := decide_eq_false (by omega)
                    have hd1' : ¬ (j42 : Int) < (n42 : Int) := by omega
                    clear hqn
                    subst hk42
                    have HE1 := Lib.hid (show l42 = e34x2 from by have := HLL42.out; simpa [dmany] using this)
                    have HE2 := Lib.hid (show sc42 = e34s3 from by have := HSS42.out; exact this)
                    obtain ⟨a, nn, c, rfl, hfl⟩ := HA42.out.list
                    have HFL := Lib.hid hfl
                    clear hfl
                    go_wp2
                    go_meet
                    exact ⟨a, nn, c, by rw [← HE2.out]; exact HA42.out.r, HA42.out.blk, by rw [← HE1.out]; exact HFL.out, HA42.out.chg⟩
                  · have hd1 : decide ((j42 : Int) < (n42 : Int)) = true := decide_eq_true (by have := HQ42.out; omega)
                    have hd1' : (j42 : Int) < (n42 : Int) := by have := HQ42.out; omega
                    cases sc42 with
                    | error e =>
                      obtain ⟨he1, he⟩ := HST42.out.2 e rfl
                      have g0 : (err42 == 0) = false := by rw [he1]; rcases he with rfl | rfl <;> rfl
                      have HE1 := Lib.hid (show l42 = e34x2 from by have := HLL42.out; rw [dmany_error] at this; simpa using this)
                      have HE2 := Lib.hid (show (.error e : St) = e34s3 from by have := HSS42.out; rw [dmany_error] at this; exact this)
                      clear he he1
                      obtain ⟨a, nn, c, rfl, hfl⟩ := HA42.out.list
                      have HFL := Lib.hid hfl
                      clear hfl
                      go_wp2
                      go_meet
                      exact ⟨a, nn, c, by rw [← HE2.out]; exact HA42.out.r, HA42.out.blk, by rw [← HE1.out]; exact HFL.out, HA42.out.chg⟩
                    | ok r42 =>
                      obtain ⟨rfl, -⟩ := HST42.out.1 r42 rfl
                      obtain ⟨k', rfl⟩ : ∃ k', gk42 = k' + 1 := ⟨gk42 - 1, by omega⟩
                      obtain ⟨rr42, hrr⟩ : ∃ s : St, s = .ok r42 := ⟨_, rfl⟩
                      obtain ⟨y42, y2_42, hd⟩ : ∃ x s', dec tRow rr42 = (x, s') := ⟨_, _, rfl⟩
                      have HL2_42 := Lib.hid (show (l42 ++ [y42]) ++ (dmany (dec tRow) k' y2_42).1 = e34x2 ∧ (dmany (dec tRow) k' y2_42).2 = e34s3 from by
                        have h1 := HLL42.out; have h2 := HSS42.out
                        rw [dmany, ← hrr] at h1 h2
                        simp only [hd] at h1 h2
                        exact ⟨by simpa using h1, h2⟩)
                      have hM2 : Mod tRow rr42 ∧ ModMany (Mod tRow) (dec tRow) k' y2_42 := by
                        have h1 := HMK42.out
                        rw [ModMany, ← hrr] at h1
                        simp only [hd] at h1
                        exact h1
                      have HMK2_42 := Lib.hid hM2.2
                      have HRR42 := Lib.hid (show RefR wr42 rb B rr42 from by rw [hrr]; exact HA42.out.r)
                      have HDY42 := Lib.hid hd
                      have hmy := hM2.1
                      clear hd hM2 hrr
                      obtain ⟨i0_42, hi0, hz0, hz1, hz2⟩ := info_parts info_t_Row
                      have HI42 := Lib.hid (And.intro hi0 (And.intro hz0 (And.intro hz1 hz2)))
                      clear hi0 hz0 hz1 hz2
                      obtain ⟨b42, hbs⟩ : ∃ b, b = wr42.heap.size := ⟨_, rfl⟩
                      have HOb42 := Lib.hid (show b42 = wr42.heap.size ∧ B42 ≤ b42 ∧ k37 < b42 from ⟨hbs, by rw [hbs]; exact HA42.out.ord.2.2.1, by have := HA42.out.ord; omega⟩)
                      have HC0_42 := Lib.hid (show Chg (fun b => b = rb ∨ b42 ≤ b) wr42 wr42 from Chg.refl _ _)
                      clear hbs
                      obtain ⟨e42x0, e42s1, e42hd0⟩ : ∃ x s', dec (.list tValue) rr42 = (x, s') := ⟨_, _, rfl⟩
                      obtain ⟨e42x1, e42s2, e42hd1⟩ : ∃ x s', dec (.list .num) e42s1 = (x, s') := ⟨_, _, rfl⟩
                      obtain ⟨e42hm0, e42hm1⟩ := hmy
                      simp only [e42hd0] at e42hm1
                      have e42HM0 := Lib.hid e42hm0
                      have e42HM1 := Lib.hid e42hm1
                      have e42HD0 := Lib.hid e42hd0
                      have e42HD1 := Lib.hid e42hd1
                      have e42DEC := Lib.hid (show y42 = (e42x0, e42x1) ∧ y2_42 = e42s2 from by
                        have h := HDY42.out
                        replace h : dec (.pair (.list tValue) (.list .num)) rr42 = _ := h
                        simp only [dec_pair, e42hd0, e42hd1] at h
                        cases h; exact ⟨rfl, rfl⟩)
                      clear e42hd0 e42hd1 e42hm0 e42hm1
                      go_wp2_with fail
                      refine (rget_Values wr42 rb B rr42 HRR42.out e42HM0.out).mono ?_
                      rintro e w45 ⟨cs, rfl, hr, hs, hc⟩
                      rw [e42HD0.out] at hr hs
                      dsimp only at hr hs
                      obtain ⟨q44_a0, q44_n0, q44_c0, rfl⟩ : ∃ a n c, cs = [.slice a n c] := by obtain ⟨a, n, c, e, _⟩ := id hr; exact ⟨a, n, c, e⟩
                      have hg : goV [.slice q44_a0 q44_n0 q44_c0] = .slice q44_a0 q44_n0 q44_c0 := rfl
                      rw [hg]
                      clear hg
                      obtain ⟨k45, hk⟩ : ∃ k, k = w45.heap.size := ⟨_, rfl⟩
                      obtain ⟨X45, hX⟩ : ∃ X, X = w45.alloc (.cells #[.slice q44_a0 q44_n0 q44_c0, .slice none 0 0] 106) := ⟨_, rfl⟩
                      have hbx : Below w45.heap.size w45 X45 := by rw [hX]; exact (Below.refl _ _).alloc (Nat.le_refl _) _
                      have HO45 := Lib.hid (show k37 < k45 ∧ b42 ≤ k45 ∧ k45 < X45.heap.size from by
                        have h1 := HC0_42.out.size; have h2 := hc.size; have h3 : X45.heap.size = w45.heap.size + 1 := by rw [hX]; simp
                        have o0 := HO0.out; have o1 := HO2.out; have o2 := HO7.out; have o3 := HO31.out; have o4 := HO34.out; have o5 := HOb34.out; have o6 := HO37.out; have o7 := HO42.out; have o8 := HOb42.out
                        omega)
                      have HR45 := Lib.hid (hs.below hbx)
                      have hstep : Chg (fun b => b = rb) wr42 X45 := hc.trans ((Chg.of_below hbx))
                      have HT45 := Lib.hid hstep
                      have HC46 := Lib.hid (show Chg (fun b => b = rb ∨ b42 ≤ b) wr42 X45 from HC0_42.out.trans (Chg.more HT45.out (fun b _ e => by have o0 := HO0.out; have o1 := HO2.out; have o2 := HO7.out; have o3 := HO31.out; have o4 := HO34.out; have o5 := HOb34.out; have o6 := HO37.out; have o7 := HO42.out; have o8 := HOb42.out; have o9 := HO45.out; omega)))
                      have HV45 := Lib.hid (show (Ty.rd (.list tValue)).rd X45 (fun b => b42 ≤ b ∧ b ≠ k45) [.slice q44_a0 q44_n0 q44_c0] e42x0 from rd_chg (.list tValue) (K := fun _ => False) (Chg.of_below hbx) (fun b hb hl => ⟨id, by have hb : wr42.heap.size ≤ b := hb; have h1 := HC0_42.out.size; have o0 := HO0.out; have o1 := HO2.out; have o2 := HO7.out; have o3 := HO31.out; have o4 := HO34.out; have o5 := HOb34.out; have o6 := HO37.out; have o7 := HO42.out; have o8 := HOb42.out; have o9 := HO45.out; omega⟩) hr)
                      have HB45 := Lib.hid (show Blk X45 k45 [.slice q44_a0 q44_n0 q44_c0, .slice none 0 0] from by rw [hX, hk]; exact Blk.new w45 _ _)
                      have HK45 := Lib.hid hk
                      have HX45 := Lib.hid hX
                      clear hr hs hc hk hX hbx hstep
                      go_wp2_with fail
                      rw [← HK45.out, ← HX45.out]
                      refine (rget_ints X45 rb B e42s1 HR45.out e42HM1.out).mono ?_
                      rintro e w48 ⟨cs, rfl, hr, hs, hc⟩
                      rw [e42HD1.out] at hr hs
                      dsimp only at hr hs
                      obtain ⟨q47_a0, q47_n0, q47_c0, rfl⟩ : ∃ a n c, cs = [.slice a n c] := by obtain ⟨a, n, c, e, _⟩ := id hr; exact ⟨a, n, c, e⟩
                      have hg : goV [.slice q47_a0 q47_n0 q47_c0] = .slice q47_a0 q47_n0 q47_c0 := rfl
                      rw [hg]
                      clear hg
                      have hb' := HB45.out.chg hc (by have o0 := HO0.out; have o1 := HO2.out; have o2 := HO7.out; have o3 := HO31.out; have o4 := HO34.out; have o5 := HOb34.out; have o6 := HO37.out; have o7 := HO42.out; have o8 := HOb42.out; have o9 := HO45.out; omega)
                      have t0 := hb'.cell 1 _ rfl
                      have z0 := hb'.free 1
                      obtain ⟨X48, hX⟩ : ∃ X, X = (w48.setCell ⟨k45, 1, none⟩ (.slice q47_a0 q47_n0 q47_c0)) := ⟨_, rfl⟩
                      have hcx : Chg (fun b => b = k45) w48 X48 := by
                        have g : ∀ (u : World) (j : Nat) (v : Value), Chg (fun b => b = k45) u (u.setCell ⟨k45, j, none⟩ v) := fun u j v => Chg.setCell _ _ rfl
                        rw [hX]
                        exact (g _ _ _)
                      have HB48 := Lib.hid (show Blk X48 k45 [.slice q44_a0 q44_n0 q44_c0, .slice q47_a0 q47_n0 q47_c0] from by rw [hX]; exact (hb'.set 1 (.slice q47_a0 q47_n0 q47_c0) (by simp)))
                      have HR48 := Lib.hid (hs.keep (hcx.more (fun b _ e => by have o0 := HO0.out; have o1 := HO2.out; have o2 := HO7.out; have o3 := HO31.out; have o4 := HO34.out; have o5 := HOb34.out; have o6 := HO37.out; have o7 := HO42.out; have o8 := HOb42.out; have o9 := HO45.out; omega)))
                      have HT48 := Lib.hid (show Chg (fun b => b = rb ∨ b = k45) X45 X48 from (hc.more (fun b _ e => .inl e)).trans (hcx.more (fun b _ e => .inr e)))
                      have HV49_0 := Lib.hid (show (Ty.rd (.list tValue)).rd X48 (fun b => b42 ≤ b ∧ b ≠ k45) [.slice q44_a0 q44_n0 q44_c0] e42x0 from rd_chg (.list tValue) HT48.out (fun b hb hl => ⟨fun e => by have o0 := HO0.out; have o1 := HO2.out; have o2 := HO7.out; have o3 := HO31.out; have o4 := HO34.out; have o5 := HOb34.out; have o6 := HO37.out; have o7 := HO42.out; have o8 := HOb42.out; have o9 := HO45.out; omega, hb⟩) HV45.out)
                      have HC49 := Lib.hid (show Chg (fun b => b = rb ∨ b42 ≤ b) wr42 X48 from HC46.out.trans (Chg.more HT48.out (fun b _ e => by have o0 := HO0.out; have o1 := HO2.out; have o2 := HO7.out; have o3 := HO31.out; have o4 := HO34.out; have o5 := HOb34.out; have o6 := HO37.out; have o7 := HO42.out; have o8 := HOb42.out; have o9 := HO45.out; omega)))
                      have HV48 := Lib.hid (show (Ty.rd (.list .num)).rd X48 (fun b => b42 ≤ b ∧ b ≠ k45) [.slice q47_a0 q47_n0 q47_c0] e42x1 from rd_chg (.list .num) hcx (fun b hb hl => by have hb : X45.heap.size ≤ b := hb; have h1 := HC46.out.size; have h2 := HB45.out.lt; have o0 := HO0.out; have o1 := HO2.out; have o2 := HO7.out; have o3 := HO31.out; have o4 := HO34.out; have o5 := HOb34.out; have o6 := HO37.out; have o7 := HO42.out; have o8 := HOb42.out; have o9 := HO45.out; (try dsimp only); omega) hr)
                      have HX48 := Lib.hid hX
                      clear hr hs hc hb' hcx hX
                      go_upto_region 37 with fail
                      rw [← HX48.out]
                      have HCX42 := Lib.hid (show Chg (fun b => b = rb) wr42 X48 from Chg.more HC49.out (fun b hb e => by have o0 := HO0.out; have o1 := HO2.out; have o2 := HO7.out; have o3 := HO31.out; have o4 := HO34.out; have o5 := HOb34.out; have o6 := HO37.out; have o7 := HO42.out; have o8 := HOb42.out; have o9 := HO45.out; omega))
                      have HX42 := Lib.hid (show (Ty.rd tRow).rd X48 (wr42.heap.size ≤ ·) [.slice q44_a0 q44_n0 q44_c0, .slice q47_a0 q47_n0 q47_c0] y42 from by
                        rw [e42DEC.out.1]
                        have h0 := Rd.more (F := (fun b => b42 ≤ b ∧ b ≠ k45)) (G := (wr42.heap.size ≤ ·)) (Ty.rd (.list tValue)) (fun b hb => by have := HOb42.out; (try dsimp only at hb ⊢); omega) HV49_0.out
                        have h1 := Rd.more (F := (fun b => b42 ≤ b ∧ b ≠ k45)) (G := (wr42.heap.size ≤ ·)) (Ty.rd (.list .num)) (fun b hb => by have := HOb42.out; (try dsimp only at hb ⊢); omega) HV48.out
                        exact ⟨_, _, rfl, h0, h1⟩)
                      have HRX42 := Lib.hid (show RefR X48 rb B y2_42 from by rw [e42DEC.out.2]; exact HR48.out)
                      have HAX42 := Lib.hid (HA42.out.turn HCX42.out HRX42.out)
                      have HB3_42 := Lib.hid (show Below X48.heap.size X48 (X48.alloc (.cells #[.slice q44_a0 q44_n0 q44_c0, .slice q47_a0 q47_n0 q47_c0] 106)) from (Below.refl _ _).alloc (Nat.le_refl _) _)
                      have HA3_42 := Lib.hid (HAX42.out.below HB3_42.out)
                      have qb42_0 := HB48.out.cell 0 _ rfl
                      have qb42_1 := HB48.out.cell 1 _ rfl
                      have qv42 : X48.cell? ⟨k37, 5, none⟩ = some v42 := HAX42.out.blk.cell 5 _ rfl
                      go_wp2_with (at_builtin; refine wpList_append_o rfl _ _ 77 rfl B42 106 i0_42 _ 2 48 Tryz.underlying77 HI42.out.1 HI42.out.2.1 HI42.out.2.2.1 HI42.out.2.2.2 rfl (by decide) v42 l42.length xs42 rfl HA3_42.out.rows.row _ 1 [.slice q44_a0 q44_n0 q44_c0, .slice q47_a0 q47_n0 q47_c0] rfl (sl_cells1 X48 _ _ rfl) (fun _ _ h => by cases h) (by simp [Value.oneCell']) (by have := HLE42.out; have := HM1_42.out; unfold maxLen; omega) (by have := HLE42.out; have := HM1_42.out; omega) HA3_42.out.ord.2.2.1 ?_)
                      intro v' w4 h1 h2 h3
                      obtain ⟨va, vn, vc, rfl⟩ := ownk_shape h1
                      have hbk := HA3_42.out.app h2
                      have tb := hbk.cell 5 _ rfl
                      have zb := hbk.free 5
                      have HST4 := Lib.hid (HA42.out.step HCX42.out HRX42.out HX42.out HB3_42.out h1 h2 (by rw [World.size_alloc]; exact h3))
                      clear h1 h2 h3 hbk
                      go_wp2
                      go_roundg k'
                      case rel => exact ⟨j42 + 1, k', y2_42, l42 ++ [y42], _, _, rfl, by have := HQ42.out; omega, by go_num, HST4.out, HMK2_42.out, by have := HLE42.out; simp; omega, HL2_42.out.1, HL2_42.out.2⟩
                      case measure => omega
              case rest =>
                generalize wc = X42 at *
                obtain ⟨la42, ln42, lc42, hr, hb, hl, hc⟩ := hcut
                have HRl42 := Lib.hid hr
                have HBl42 := Lib.hid hb
                have HTl42 := Lib.hid hc
                have HV50_0 := Lib.hid (show (Ty.rd .num).rd X42 (fun b => b34 ≤ b ∧ b ≠ k37) [.int .i64 q36_0] e34x0 from rd_chg .num HTl42.out (fun b hb hl => ⟨fun e => by have o0 := HO0.out; have o1 := HO2.out; have o2 := HO7.out; have o3 := HO31.out; have o4 := HO34.out; have o5 := HOb34.out; have o6 := HO37.out; have o7 := HO42.out; omega, hb⟩) HV43_0.out)
                have HV50_1 := Lib.hid (show (Ty.rd tRequest).rd X42 (fun b => b34 ≤ b ∧ b ≠ k37) [.int .i64 q39_0, .int .i64 q39_1, .int .i64 q39_2, .string q39_3] e34x1 from rd_chg tRequest HTl42.out (fun b hb hl => ⟨fun e => by have o0 := HO0.out; have o1 := HO2.out; have o2 := HO7.out; have o3 := HO31.out; have o4 := HO34.out; have o5 := HOb34.out; have o6 := HO37.out; have o7 := HO42.out; omega, hb⟩) HV43_1.out)
                have HC50 := Lib.hid (show Chg (fun b => b = rb ∨ b34 ≤ b) wr34 X42 from HC43.out.trans (Chg.more HTl42.out (fun b _ e => by have o0 := HO0.out; have o1 := HO2.out; have o2 := HO7.out; have o3 := HO31.out; have o4 := HO34.out; have o5 := HOb34.out; have o6 := HO37.out; have o7 := HO42.out; omega)))
                have HVl42 := Lib.hid (show (Ty.rd (.list tRow)).rd X42 (fun b => b34 ≤ b ∧ b ≠ k37) [.slice la42 ln42 lc42] e34x2 from Rd.more _ (fun b hb => by have hb : B42 ≤ b := hb; have o0 := HO0.out; have o1 := HO2.out; have o2 := HO7.out; have o3 := HO31.out; have o4 := HO34.out; have o5 := HOb34.out; have o6 := HO37.out; have o7 := HO42.out; (try dsimp only); omega) hl)
                clear hr hb hl hc
                have HCX34 := Lib.hid (show Chg (fun b => b = rb) wr34 X42 from Chg.more HC50.out (fun b hb e => by have o0 := HO0.out; have o1 := HO2.out; have o2 := HO7.out; have o3 := HO31.out; have o4 := HO34.out; have o5 := HOb34.out; have o6 := HO37.out; have o7 := HO42.out; omega))
                have HX34 := Lib.hid (show (Ty.rd tCitation).rd X42 (wr34.heap.size ≤ ·) [.int .i64 q36_0, .int .i64 q39_0, .int .i64 q39_1, .int .i64 q39_2, .string q39_3, .slice la42 ln42 lc42] y34 from by
                  rw [e34DEC.out.1]
                  have h0 := Rd.more (F := (fun b => b34 ≤ b ∧ b ≠ k37)) (G := (wr34.heap.size ≤ ·)) (Ty.rd .num) (fun b hb => by have := HOb34.out; (try dsimp only at hb ⊢); omega) HV50_0.out
                  have h1 := Rd.more (F := (fun b => b34 ≤ b ∧ b ≠ k37)) (G := (wr34.heap.size ≤ ·)) (Ty.rd tRequest) (fun b hb => by have := HOb34.out; (try dsimp only at hb ⊢); omega) HV50_1.out
                  have h2 := Rd.more (F := (fun b => b34 ≤ b ∧ b ≠ k37)) (G := (wr34.heap.size ≤ ·)) (Ty.rd (.list tRow)) (fun b hb => by have := HOb34.out; (try dsimp only at hb ⊢); omega) HVl42.out
                  exact ⟨_, _, rfl, h0, _, _, rfl, h1, h2⟩)
                have HRX34 := Lib.hid (show RefR X42 rb B y2_34 from by rw [e34DEC.out.2]; exact HRl42.out)
                have HAX34 := Lib.hid (HA34.out.turn HCX34.out HRX34.out)
                have HB3_34 := Lib.hid (show Below X42.heap.size X42 (X42.alloc (.cells #[.int .i64 q36_0, .int .i64 q39_0, .int .i64 q39_1, .int .i64 q39_2, .string q39_3, .slice la42 ln42 lc42] 79)) from (Below.refl _ _).alloc (Nat.le_refl _) _)
                have HA3_34 := Lib.hid (HAX34.out.below HB3_34.out)
                have qb34_0 := HBl42.out.cell 0 _ rfl
                have qb34_1 := HBl42.out.cell 1 _ rfl
                have qb34_2 := HBl42.out.cell 2 _ rfl
                have qb34_3 := HBl42.out.cell 3 _ rfl
                have qb34_4 := HBl42.out.cell 4 _ rfl
                have qb34_5 := HBl42.out.cell 5 _ rfl
                have qv34 : X42.cell? ⟨k2, 5, none⟩ = some v34 := HAX34.out.blk.cell 5 _ rfl
                go_wp2_with (at_builtin; refine wpList_append_o rfl _ _ 27 rfl B34 79 i0_34 _ 6 72 Tryz.underlying27 HI34.out.1 HI34.out.2.1 HI34.out.2.2.1 HI34.out.2.2.2 rfl (by decide) v34 l34.length xs34 rfl HA3_34.out.rows.row _ 1 [.int .i64 q36_0, .int .i64 q39_0, .int .i64 q39_1, .int .i64 q39_2, .string q39_3, .slice la42 ln42 lc42] rfl (sl_cells1 X42 _ _ rfl) (fun _ _ h => by cases h) (by simp [Value.oneCell']) (by have := HLE34.out; have := HM1_34.out; unfold maxLen; omega) (by have := HLE34.out; have := HM1_34.out; omega) HA3_34.out.ord.2.2.1 ?_)
                intro v' w4 h1 h2 h3
                obtain ⟨va, vn, vc, rfl⟩ := ownk_shape h1
                have hbk := HA3_34.out.app h2
                have tb := hbk.cell 5 _ rfl
                have zb := hbk.free 5
                have HST4 := Lib.hid (HA34.out.step HCX34.out HRX34.out HX34.out HB3_34.out h1 h2 (by rw [World.size_alloc]; exact h3))
                clear h1 h2 h3 hbk
                go_wp2
                go_roundg k'
                case rel => exact ⟨j34 + 1, k', y2_34, l34 ++ [y34], _, _, rfl, by have := HQ34.out; omega, by go_num, HST4.out, HMK2_34.out, by have := HLE34.out; simp; omega, HL2_34.out.1, HL2_34.out.2⟩
                case measure => omega
      case rest =>
        generalize wc = X34 at *
        obtain ⟨la34, ln34, lc34, hr, hb, hl, hc⟩ := hcut
        have HRl34 := Lib.hid hr
        have HBl34 := Lib.hid hb
        have HTl34 := Lib.hid hc
        have HB51_z := Lib.hid (show Blk X34 w.heap.size [.int .i64 0, .int .i64 0, .slice none 0 0, .int .i64 0, .slice none 0 0, .slice none 0 0] from HB35_z.out.chg HTl34.out (by have o0 := HO0.out; have o1 := HO2.out; have o2 := HO7.out; have o3 := HO31.out; have o4 := HO34.out; omega))
        have HV51_0 := Lib.hid (show (Ty.rd .num).rd X34 (fun b => bs ≤ b ∧ b ≠ w.heap.size ∧ b ≠ rb ∧ b ≠ k2) [.int .i64 q1_0] px0 from rd_chg .num HTl34.out (fun b hb hl => ⟨fun e => by have o0 := HO0.out; have o1 := HO2.out; have o2 := HO7.out; have o3 := HO31.out; have o4 := HO34.out; omega, hb⟩) HV35_0.out)
        have HV51_1 := Lib.hid (show (Ty.rd .num).rd X34 (fun b => bs ≤ b ∧ b ≠ w.heap.size ∧ b ≠ rb ∧ b ≠ k2) [.int .i64 q4_0] px1 from rd_chg .num HTl34.out (fun b hb hl => ⟨fun e => by have o0 := HO0.out; have o1 := HO2.out; have o2 := HO7.out; have o3 := HO31.out; have o4 := HO34.out; omega, hb⟩) HV35_1.out)
        have HV51_2 := Lib.hid (show (Ty.rd (.list tTable)).rd X34 (fun b => bs ≤ b ∧ b ≠ w.heap.size ∧ b ≠ rb ∧ b ≠ k2) [.slice la7 ln7 lc7] px2 from rd_chg (.list tTable) HTl34.out (fun b hb hl => ⟨fun e => by have o0 := HO0.out; have o1 := HO2.out; have o2 := HO7.out; have o3 := HO31.out; have o4 := HO34.out; omega, hb⟩) HV35_2.out)
        have HV51_3 := Lib.hid (show (Ty.rd .num).rd X34 (fun b => bs ≤ b ∧ b ≠ w.heap.size ∧ b ≠ rb ∧ b ≠ k2) [.int .i64 q28_0] px3 from rd_chg .num HTl34.out (fun b hb hl => ⟨fun e => by have o0 := HO0.out; have o1 := HO2.out; have o2 := HO7.out; have o3 := HO31.out; have o4 := HO34.out; omega, hb⟩) HV35_3.out)
        have HV51_4 := Lib.hid (show (Ty.rd (.list tHold)).rd X34 (fun b => bs ≤ b ∧ b ≠ w.heap.size ∧ b ≠ rb ∧ b ≠ k2) [.slice la31 ln31 lc31] px4 from rd_chg (.list tHold) HTl34.out (fun b hb hl => ⟨fun e => by have o0 := HO0.out; have o1 := HO2.out; have o2 := HO7.out; have o3 := HO31.out; have o4 := HO34.out; omega, hb⟩) HV35_4.out)
        have HC51 := Lib.hid (show Chg (fun b => b = rb ∨ bs ≤ b) w X34 from HC35.out.trans (Chg.more HTl34.out (fun b _ e => by have o0 := HO0.out; have o1 := HO2.out; have o2 := HO7.out; have o3 := HO31.out; have o4 := HO34.out; omega)))
        have HVl34 := Lib.hid (show (Ty.rd (.list tCitation)).rd X34 (fun b => bs ≤ b ∧ b ≠ w.heap.size ∧ b ≠ rb ∧ b ≠ k2) [.slice la34 ln34 lc34] px5 from Rd.more _ (fun b hb => by have hb : B34 ≤ b := hb; have o0 := HO0.out; have o1 := HO2.out; have o2 := HO7.out; have o3 := HO31.out; have o4 := HO34.out; (try dsimp only); omega) hl)
        clear hr hb hl hc
        have hend := rcd_end HRl34.out
        rw [← HEE.out] at hend
        have HEND := Lib.hid hend
        clear hend
        go_wp2_with fail
        refine HEND.out.mono ?_
        rintro e wE ⟨rfl, ⟨ie, hp⟩, hc⟩
        have HP := Lib.hid hp
        have c2 := hp.c2
        have HTE := Lib.hid hc
        clear hp hc
        have HB52_z := Lib.hid (show Blk wE w.heap.size [.int .i64 0, .int .i64 0, .slice none 0 0, .int .i64 0, .slice none 0 0, .slice none 0 0] from HB51_z.out.chg HTE.out (by have o0 := HO0.out; have o1 := HO2.out; have o2 := HO7.out; have o3 := HO31.out; have o4 := HO34.out; omega))
        have HB52_2 := Lib.hid (show Blk wE k2 [.int .i64 q1_0, .int .i64 q4_0, .slice la7 ln7 lc7, .int .i64 q28_0, .slice la31 ln31 lc31, .slice la34 ln34 lc34] from HBl34.out.chg HTE.out (by have o0 := HO0.out; have o1 := HO2.out; have o2 := HO7.out; have o3 := HO31.out; have o4 := HO34.out; omega))
        have HV52_0 := Lib.hid (show (Ty.rd .num).rd wE (fun b => bs ≤ b ∧ b ≠ w.heap.size ∧ b ≠ rb ∧ b ≠ k2) [.int .i64 q1_0] px0 from rd_chg .num HTE.out (fun b hb hl => ⟨fun e => by have o0 := HO0.out; have o1 := HO2.out; have o2 := HO7.out; have o3 := HO31.out; have o4 := HO34.out; omega, hb⟩) HV51_0.out)
        have HV52_1 := Lib.hid (show (Ty.rd .num).rd wE (fun b => bs ≤ b ∧ b ≠ w.heap.size ∧ b ≠ rb ∧ b ≠ k2) [.int .i64 q4_0] px1 from rd_chg .num HTE.out (fun b hb hl => ⟨fun e => by have o0 := HO0.out; have o1 := HO2.out; have o2 := HO7.out; have o3 := HO31.out; have o4 := HO34.out; omega, hb⟩) HV51_1.out)
        have HV52_2 := Lib.hid (show (Ty.rd (.list tTable)).rd wE (fun b => bs ≤ b ∧ b ≠ w.heap.size ∧ b ≠ rb ∧ b ≠ k2) [.slice la7 ln7 lc7] px2 from rd_chg (.list tTable) HTE.out (fun b hb hl => ⟨fun e => by have o0 := HO0.out; have o1 := HO2.out; have o2 := HO7.out; have o3 := HO31.out; have o4 := HO34.out; omega, hb⟩) HV51_2.out)
        have HV52_3 := Lib.hid (show (Ty.rd .num).rd wE (fun b => bs ≤ b ∧ b ≠ w.heap.size ∧ b ≠ rb ∧ b ≠ k2) [.int .i64 q28_0] px3 from rd_chg .num HTE.out (fun b hb hl => ⟨fun e => by have o0 := HO0.out; have o1 := HO2.out; have o2 := HO7.out; have o3 := HO31.out; have o4 := HO34.out; omega, hb⟩) HV51_3.out)
        have HV52_4 := Lib.hid (show (Ty.rd (.list tHold)).rd wE (fun b => bs ≤ b ∧ b ≠ w.heap.size ∧ b ≠ rb ∧ b ≠ k2) [.slice la31 ln31 lc31] px4 from rd_chg (.list tHold) HTE.out (fun b hb hl => ⟨fun e => by have o0 := HO0.out; have o1 := HO2.out; have o2 := HO7.out; have o3 := HO31.out; have o4 := HO34.out; omega, hb⟩) HV51_4.out)
        have HV52_5 := Lib.hid (show (Ty.rd (.list tCitation)).rd wE (fun b => bs ≤ b ∧ b ≠ w.heap.size ∧ b ≠ rb ∧ b ≠ k2) [.slice la34 ln34 lc34] px5 from rd_chg (.list tCitation) HTE.out (fun b hb hl => ⟨fun e => by have o0 := HO0.out; have o1 := HO2.out; have o2 := HO7.out; have o3 := HO31.out; have o4 := HO34.out; omega, hb⟩) HVl34.out)
        have HC52 := Lib.hid (show Chg (fun b => b = rb ∨ bs ≤ b) w wE from HC51.out.trans (Chg.more HTE.out (fun b _ e => by have o0 := HO0.out; have o1 := HO2.out; have o2 := HO7.out; have o3 := HO31.out; have o4 := HO34.out; omega)))
        have HDW := Lib.hid (show Chg (fun _ => False) wE wE.drew from Chg.of_below (Below.refl _ _).drew)
        by_cases hE0 : E = 0
        · have g0 : (E == 0) = true := beq_iff_eq.2 hE0
          have HE0 := Lib.hid hE0
          clear hE0
          have zc0 := HB52_z.out.cell 0 _ rfl
          have zf0 := HB52_z.out.free 0
          have q0 := HB52_2.out.cell 0 _ rfl
          have zc1 := HB52_z.out.cell 1 _ rfl
          have zf1 := HB52_z.out.free 1
          have q1 := HB52_2.out.cell 1 _ rfl
          have zc2 := HB52_z.out.cell 2 _ rfl
          have zf2 := HB52_z.out.free 2
          have q2 := HB52_2.out.cell 2 _ rfl
          have zc3 := HB52_z.out.cell 3 _ rfl
          have zf3 := HB52_z.out.free 3
          have q3 := HB52_2.out.cell 3 _ rfl
          have zc4 := HB52_z.out.cell 4 _ rfl
          have zf4 := HB52_z.out.free 4
          have q4 := HB52_2.out.cell 4 _ rfl
          have zc5 := HB52_z.out.cell 5 _ rfl
          have zf5 := HB52_z.out.free 5
          have q5 := HB52_2.out.cell 5 _ rfl
          go_wp2
          obtain ⟨Wf, hWf⟩ : ∃ Wf, Wf = ((((((wE.setCell ⟨w.heap.size, 0, none⟩ (.int .i64 q1_0)).setCell ⟨w.heap.size, 1, none⟩ (.int .i64 q4_0)).setCell ⟨w.heap.size, 2, none⟩ (.slice la7 ln7 lc7)).setCell ⟨w.heap.size, 3, none⟩ (.int .i64 q28_0)).setCell ⟨w.heap.size, 4, none⟩ (.slice la31 ln31 lc31)).setCell ⟨w.heap.size, 5, none⟩ (.slice la34 ln34 lc34)) := ⟨_, rfl⟩
          rw [← hWf]
          have hcf : Chg (fun b => b = w.heap.size) wE Wf := by
            have g : ∀ (u : World) (j : Nat) (v : Value), Chg (fun b => b = w.heap.size) u (u.setCell ⟨w.heap.size, j, none⟩ v) := fun u j v => Chg.setCell _ _ rfl
            rw [hWf]
            exact (Chg.trans (Chg.trans (Chg.trans (Chg.trans (Chg.trans (g _ _ _) (g _ _ _)) (g _ _ _)) (g _ _ _)) (g _ _ _)) (g _ _ _))
          have HBF := Lib.hid (show Blk Wf w.heap.size [.int .i64 q1_0, .int .i64 q4_0, .slice la7 ln7 lc7, .int .i64 q28_0, .slice la31 ln31 lc31, .slice la34 ln34 lc34] from by rw [hWf]; exact ((((((HB52_z.out.set 0 (.int .i64 q1_0) (by simp)).set 1 (.int .i64 q4_0) (by simp)).set 2 (.slice la7 ln7 lc7) (by simp)).set 3 (.int .i64 q28_0) (by simp)).set 4 (.slice la31 ln31 lc31) (by simp)).set 5 (.slice la34 ln34 lc34) (by simp)))
          clear hWf zc0 zf0 zc1 zf1 zc2 zf2 zc3 zf3 zc4 zf4 zc5 zf5
          clear q0 q1 q2 q3 q4 q5
          have sc0 := HBF.out.cell 0 _ rfl
          have sc1 := HBF.out.cell 1 _ rfl
          have sc2 := HBF.out.cell 2 _ rfl
          have sc3 := HBF.out.cell 3 _ rfl
          have sc4 := HBF.out.cell 4 _ rfl
          have sc5 := HBF.out.cell 5 _ rfl
          refine bodyPost_ret (v := .tuple #[.agg #[.int .i64 q1_0, .int .i64 q4_0, .slice la7 ln7 lc7, .int .i64 q28_0, .slice la31 ln31 lc31, .slice la34 ln34 lc34], .int .i64 E]) (by simp [sc0, sc1, sc2, sc3, sc4, sc5, HE0.out, results, Tryz.results45, go_sem]) rfl ?_
          have HCF := Lib.hid (show Chg (fun b => b = rb ∨ bs ≤ b) w Wf from HC52.out.trans (hcf.more (fun b _ e => by have o0 := HO0.out; omega)))
          refine ⟨[.int .i64 q1_0, .int .i64 q4_0, .slice la7 ln7 lc7, .int .i64 q28_0, .slice la31 ln31 lc31, .slice la34 ln34 lc34], rfl, fun e => ?_, fun e => ?_, HCF.out.below (Nat.le_refl _) (fun b e => by have o0 := HO0.out; omega)⟩
          · rw [HXX.out]
            have h0 : (Ty.rd .num).rd Wf (w.heap.size ≤ ·) _ _ := rd_chg .num hcf (fun b hb hl => by have o0 := HO0.out; (try dsimp only at hb ⊢); omega) HV52_0.out
            have h1 : (Ty.rd .num).rd Wf (w.heap.size ≤ ·) _ _ := rd_chg .num hcf (fun b hb hl => by have o0 := HO0.out; (try dsimp only at hb ⊢); omega) HV52_1.out
            have h2 : (Ty.rd (.list tTable)).rd Wf (w.heap.size ≤ ·) _ _ := rd_chg (.list tTable) hcf (fun b hb hl => by have o0 := HO0.out; (try dsimp only at hb ⊢); omega) HV52_2.out
            have h3 : (Ty.rd .num).rd Wf (w.heap.size ≤ ·) _ _ := rd_chg .num hcf (fun b hb hl => by have o0 := HO0.out; (try dsimp only at hb ⊢); omega) HV52_3.out
            have h4 : (Ty.rd (.list tHold)).rd Wf (w.heap.size ≤ ·) _ _ := rd_chg (.list tHold) hcf (fun b hb hl => by have o0 := HO0.out; (try dsimp only at hb ⊢); omega) HV52_4.out
            have h5 : (Ty.rd (.list tCitation)).rd Wf (w.heap.size ≤ ·) _ _ := rd_chg (.list tCitation) hcf (fun b hb hl => by have o0 := HO0.out; (try dsimp only at hb ⊢); omega) HV52_5.out
            exact ⟨_, _, rfl, h0, _, _, rfl, h1, _, _, rfl, h2, _, _, rfl, h3, _, _, rfl, h4, h5⟩
          · exact absurd HE0.out e
        
        · have g0 : (E == 0) = false := beq_eq_false_iff_ne.2 hE0
          have HE0 := Lib.hid hE0
          clear hE0
          go_upto_region 41 with fail
          clear c2
          have HS0 := Lib.hid (show wE.cell? ⟨rb, 2, none⟩ = some (.int .i64 E) from HP.out.c2)
          have HG := Lib.hid (show ∀ (u : World) (j : Nat) (v : Value), Chg (fun b => b = w.heap.size) u (u.setCell ⟨w.heap.size, j, none⟩ v) from fun u j v => Chg.setCell _ _ rfl)
          have zc0 := HB52_z.out.cell 0 _ rfl
          have zf0 := HB52_z.out.free 0
          have zc1 := HB52_z.out.cell 1 _ rfl
          have zf1 := HB52_z.out.free 1
          have zc2 := HB52_z.out.cell 2 _ rfl
          have zf2 := HB52_z.out.free 2
          have zc3 := HB52_z.out.cell 3 _ rfl
          have zf3 := HB52_z.out.free 3
          have zc4 := HB52_z.out.cell 4 _ rfl
          have zf4 := HB52_z.out.free 4
          have zc5 := HB52_z.out.cell 5 _ rfl
          have zf5 := HB52_z.out.free 5
          have hS0' : wE.drew.cell? ⟨rb, 2, none⟩ = some (.int .i64 E) := HS0.out
          refine wp_region_noPanic ?_
          refine wp_region_held_drew (S := fun W => W.cell? ⟨rb, 2, none⟩ = some (.int .i64 E)) (by kernel_rfl) hS0' ?_
          intro hS0
          clear hS0'
          refine wpAnyH_take (i := 0) (v := .agg #[.int .i64 0, .int .i64 0, .slice none 0 0, .int .i64 0, .slice none 0 0, .slice none 0 0]) (by simp only [List.getElem?_toArray, List.getElem?_cons_succ, List.getElem?_cons_zero] <;> rfl) (by kernel_rfl) (by kernel_rfl) (by kernel_rfl) (fun _ _ _ h => h) (Or.inl ⟨by rfl, ?_⟩) (by assumption) ?_
          · intro w hSw
            (try dsimp only at hSw)
            go_simp
            (try with_reducible rfl)
          (try simp only [Act.put, List.setIfInBounds_toArray, List.set_cons_zero, List.set_cons_succ])
          refine wpAnyH_take (i := 1) (v := .pointer (some ⟨rb, 0, none⟩)) (by simp only [List.getElem?_toArray, List.getElem?_cons_succ, List.getElem?_cons_zero] <;> rfl) (by kernel_rfl) (by kernel_rfl) (by kernel_rfl) (fun _ _ _ h => h) (Or.inl ⟨by rfl, ?_⟩) (by assumption) ?_
          · intro w hSw
            (try dsimp only at hSw)
            go_simp
            (try with_reducible rfl)
          (try simp only [Act.put, List.setIfInBounds_toArray, List.set_cons_zero, List.set_cons_succ])
          refine wpAnyH_take (i := 2) (v := .pointer (some ⟨rb, 0, none⟩)) (by simp only [List.getElem?_toArray, List.getElem?_cons_succ, List.getElem?_cons_zero] <;> rfl) (by kernel_rfl) (by kernel_rfl) (by kernel_rfl) (fun _ _ _ h => h) (Or.inl ⟨by rfl, ?_⟩) (by assumption) ?_
          · intro w hSw
            (try dsimp only at hSw)
            go_simp
            (try with_reducible rfl)
          (try simp only [Act.put, List.setIfInBounds_toArray, List.set_cons_zero, List.set_cons_succ])
          refine wpAnyH_take (i := 3) (v := .pointer (some ⟨rb, 2, none⟩)) (by simp only [List.getElem?_toArray, List.getElem?_cons_succ, List.getElem?_cons_zero] <;> rfl) (by kernel_rfl) (by kernel_rfl) (by kernel_rfl) (fun _ _ _ h => h) (Or.inl ⟨by rfl, ?_⟩) (by assumption) ?_
          · intro w hSw
            (try dsimp only at hSw)
            go_simp
            (try with_reducible rfl)
          (try simp only [Act.put, List.setIfInBounds_toArray, List.set_cons_zero, List.set_cons_succ])
          refine wpAnyH_take (i := 4) (v := .int .i64 E) (by simp only [List.getElem?_toArray, List.getElem?_cons_succ, List.getElem?_cons_zero] <;> rfl) (by kernel_rfl) (by kernel_rfl) (by kernel_rfl) (fun _ _ _ h => h) (Or.inl ⟨by rfl, ?_⟩) (by assumption) ?_
          · intro w hSw
            (try dsimp only at hSw)
            go_simp
            (try with_reducible rfl)
          (try simp only [Act.put, List.setIfInBounds_toArray, List.set_cons_zero, List.set_cons_succ])
          refine wpAnyH_ready (rs := [5]) (by kernel_rfl) (by simp) ?_
          refine AllReadyH.cons (by simp only [List.getElem?_toArray, List.getElem?_cons_succ, List.getElem?_cons_zero] <;> rfl) (fun K hK => ?_) AllReadyH.nil
          rw [if_pos (by kernel_rfl)]
          go_wp2
          clear hS0
          have HS9 := Lib.hid (show ∀ (W : World) (j : Nat) (u : Value), W.cell? ⟨rb, 2, none⟩ = some (.int .i64 E) → (W.setCell ⟨w.heap.size, j, none⟩ u).cell? ⟨rb, 2, none⟩ = some (.int .i64 E) from fun W j u h => (World.cell?_setCell_other _ _ _ _ (by have o0 := HO0.out; first | (simp; done) | (simp; omega))).trans h)
          refine hK.out _ _ ?_ ?_
          · refine (show ∀ W : World, W.cell? ⟨rb, 2, none⟩ = some (.int .i64 E) → W.drew.cell? ⟨rb, 2, none⟩ = some (.int .i64 E) from fun W h => h) _ ?_
            repeat (with_reducible refine HS9.out _ _ _ ?_)
            exact HS0.out
          intro hS1
          clear hK
          (try simp only [Act.put, List.setIfInBounds_toArray, List.set_cons_zero, List.set_cons_succ])
          refine wpAnyH_take (i := 6) (v := ?_) (by simp only [List.getElem?_toArray, List.getElem?_cons_succ, List.getElem?_cons_zero] <;> rfl) (by kernel_rfl) (by kernel_rfl) (by kernel_rfl) (fun _ _ _ h => h) (Or.inl ⟨by rfl, ?_⟩) (by assumption) ?_
          rotate_left
          · intro w hSw
            (try dsimp only at hSw)
            go_simp
            (try with_reducible rfl)
          (try simp only [Act.put, List.setIfInBounds_toArray, List.set_cons_zero, List.set_cons_succ])
          refine wpAnyH_done (by kernel_rfl) ?_ _
          refine NoPanic.normal ?_
          go_wp2
          obtain ⟨Wf, hWf⟩ : ∃ Wf, Wf = ((((((wE.setCell ⟨w.heap.size, 0, none⟩ (.int .i64 0)).setCell ⟨w.heap.size, 1, none⟩ (.int .i64 0)).setCell ⟨w.heap.size, 2, none⟩ (.slice none 0 0)).setCell ⟨w.heap.size, 3, none⟩ (.int .i64 0)).setCell ⟨w.heap.size, 4, none⟩ (.slice none 0 0)).setCell ⟨w.heap.size, 5, none⟩ (.slice none 0 0)).drew := ⟨_, rfl⟩
          rw [← hWf]
          have hcf : Chg (fun b => b = w.heap.size) wE Wf := by
            have g : ∀ (u : World) (j : Nat) (v : Value), Chg (fun b => b = w.heap.size) u (u.setCell ⟨w.heap.size, j, none⟩ v) := fun u j v => Chg.setCell _ _ rfl
            rw [hWf]
            exact (fun (W' : World) (h : Chg (fun b => b = w.heap.size) wE W') => (⟨h.os, h.tape, h.output, h.size, h.block⟩ : Chg (fun b => b = w.heap.size) wE W'.drew)) _ (Chg.trans (Chg.trans (Chg.trans (Chg.trans (Chg.trans (g _ _ _) (g _ _ _)) (g _ _ _)) (g _ _ _)) (g _ _ _)) (g _ _ _))
          have HBF := Lib.hid (show Blk Wf w.heap.size [.int .i64 0, .int .i64 0, .slice none 0 0, .int .i64 0, .slice none 0 0, .slice none 0 0] from by rw [hWf]; exact (fun (W' : World) (h : Blk W' _ _) => (⟨h.lt, h.free, h.cell⟩ : Blk W'.drew _ _)) _ ((((((HB52_z.out.set 0 (.int .i64 0) (by simp)).set 1 (.int .i64 0) (by simp)).set 2 (.slice none 0 0) (by simp)).set 3 (.int .i64 0) (by simp)).set 4 (.slice none 0 0) (by simp)).set 5 (.slice none 0 0) (by simp)))
          clear hWf zc0 zf0 zc1 zf1 zc2 zf2 zc3 zf3 zc4 zf4 zc5 zf5
          have sc0 := HBF.out.cell 0 _ rfl
          have sc1 := HBF.out.cell 1 _ rfl
          have sc2 := HBF.out.cell 2 _ rfl
          have sc3 := HBF.out.cell 3 _ rfl
          have sc4 := HBF.out.cell 4 _ rfl
          have sc5 := HBF.out.cell 5 _ rfl
          refine bodyPost_ret (v := .tuple #[.agg #[.int .i64 0, .int .i64 0, .slice none 0 0, .int .i64 0, .slice none 0 0, .slice none 0 0], .int .i64 E]) (by simp [sc0, sc1, sc2, sc3, sc4, sc5, HE0.out, results, Tryz.results45, go_sem]) rfl ?_
          have HCF := Lib.hid (show Chg (fun b => b = rb ∨ bs ≤ b) w Wf from HC52.out.trans (hcf.more (fun b _ e => by have o0 := HO0.out; omega)))
          refine ⟨[.int .i64 0, .int .i64 0, .slice none 0 0, .int .i64 0, .slice none 0 0, .slice none 0 0], rfl, fun e => ?_, fun e => ?_, HCF.out.below (Nat.le_refl _) (fun b e => by have o0 := HO0.out; omega)⟩
          · exact absurd e HE0.out
          · exact zero_rd tDatabase Wf _
end Go.Proofs.YtfppjpmflpaffaaGreat
