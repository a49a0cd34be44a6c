/-
  The reference's decoder: schemas. Printed by gen_ct.py.
-/
import Derived.Test.YtfppjpmflpaffaaGreatCsG
import Derived.Deep.CutBlock
import Derived.Deep.DeepCutAuto
import Derived.Deep.RegionLaw
namespace Go.Proofs.YtfppjpmflpaffaaGreat
open Go.RowKit
set_option linter.unusedVariables false
set_option linter.unusedSimpArgs false

theorem info_t_SchemaVersion : (Tryz.prog.info? 151).map (fun i => (i.zero, i.size, i.bytes)) = some (some ((.agg #[.int .i64 0, .int .i64 0, .slice none 0 0])), 3, 40) := by kernel_rfl

theorem info_t_Column : (Tryz.prog.info? 111).map (fun i => (i.zero, i.size, i.bytes)) = some (some ((.agg #[.int .i64 0, .string ⟨#[]⟩, .int .i64 0])), 3, 32) := by kernel_rfl

theorem info_t_ForeignKey : (Tryz.prog.info? 154).map (fun i => (i.zero, i.size, i.bytes)) = some (some ((.agg #[.slice none 0 0, .string ⟨#[]⟩, .slice none 0 0])), 3, 64) := by kernel_rfl

theorem info_t_Constraint : (Tryz.prog.info? 156).map (fun i => (i.zero, i.size, i.bytes)) = some (some ((.agg #[.int .i64 0, .slice none 0 0])), 2, 32) := by kernel_rfl

set_option maxRecDepth 100000 in
set_option maxHeartbeats 8000000 in
theorem rget_Schema : RGetC 87 tSchema := by
  intro w rb B s h hmod
  obtain ⟨W0, hW0⟩ : ∃ W0, W0 = w.alloc (.cells #[.string ⟨#[]⟩, .slice none 0 0, .slice none 0 0, .slice none 0 0, .slice none 0 0] 69) := ⟨_, rfl⟩
  have hb0 : Below w.heap.size w W0 := by rw [hW0]; exact (Below.refl _ _).alloc (Nat.le_refl _) _
  obtain ⟨bs, hbs⟩ : ∃ b, b = w.heap.size := ⟨_, rfl⟩
  have HO0 := Lib.hid (show bs = w.heap.size ∧ rb < bs ∧ W0.heap.size = w.heap.size + 1 from ⟨hbs, by rw [hbs]; exact h.lt, by rw [hW0]; simp⟩)
  have HB0 := Lib.hid (show Blk W0 w.heap.size [.string ⟨#[]⟩, .slice none 0 0, .slice none 0 0, .slice none 0 0, .slice none 0 0] from by rw [hW0]; exact Blk.new w _ _)
  have HR0 := Lib.hid (h.below hb0)
  have HC0 := Lib.hid (show Chg (fun b => b = rb ∨ bs ≤ b) w W0 from Chg.of_below hb0)
  have HW0 := Lib.hid hW0
  obtain ⟨px0, ps1, phd0⟩ : ∃ x s', dec .str s = (x, s') := ⟨_, _, rfl⟩
  obtain ⟨px1, ps2, phd1⟩ : ∃ x s', dec (.list tSchemaVersion) ps1 = (x, s') := ⟨_, _, rfl⟩
  obtain ⟨px2, ps3, phd2⟩ : ∃ x s', dec (.list .num) ps2 = (x, s') := ⟨_, _, rfl⟩
  obtain ⟨px3, ps4, phd3⟩ : ∃ x s', dec (.list tForeignKey) ps3 = (x, s') := ⟨_, _, rfl⟩
  obtain ⟨px4, ps5, phd4⟩ : ∃ x s', dec (.list tConstraint) ps4 = (x, s') := ⟨_, _, rfl⟩
  obtain ⟨phm0, phm1, phm2, phm3, phm4⟩ := hmod
  simp only [phd0] at phm1
  simp only [phd0, phd1] at phm2
  simp only [phd0, phd1, phd2] at phm3
  simp only [phd0, phd1, phd2, phd3] at phm4
  have pHM0 := Lib.hid phm0
  have pHM1 := Lib.hid phm1
  have pHM2 := Lib.hid phm2
  have pHM3 := Lib.hid phm3
  have pHM4 := Lib.hid phm4
  have pHD0 := Lib.hid phd0
  have pHD1 := Lib.hid phd1
  have pHD2 := Lib.hid phd2
  have pHD3 := Lib.hid phd3
  have pHD4 := Lib.hid phd4
  have HDEC := Lib.hid (show dec tSchema s = ((px0, (px1, (px2, (px3, px4)))), ps5) from by
    show dec (.pair .str (.pair (.list tSchemaVersion) (.pair (.list .num) (.pair (.list tForeignKey) (.list tConstraint))))) s = _
    simp only [dec_pair, phd0, phd1, phd2, phd3, phd4])
  clear phd0 phd1 phd2 phd3 phd4 phm0 phm1 phm2 phm3 phm4 h hb0 hW0 hbs
  go_enter Tryz.func87, Tryz.ntmps87
  go_wp2_with fail
  rw [← HW0.out]
  refine (rget_str W0 rb B s HR0.out pHM0.out).mono ?_
  rintro e w2 ⟨cs, rfl, hr, hs, hc⟩
  rw [pHD0.out] at hr hs
  dsimp only at hr hs
  obtain ⟨q1_0, rfl⟩ : ∃ z : ByteArray, cs = [.string z] := ⟨_, hr.1⟩
  have hg : goV [.string q1_0] = .string q1_0 := rfl
  rw [hg]
  clear hg
  obtain ⟨k2, hk⟩ : ∃ k, k = w2.heap.size := ⟨_, rfl⟩
  obtain ⟨X2, hX⟩ : ∃ X, X = w2.alloc (.cells #[.string q1_0, .slice none 0 0, .slice none 0 0, .slice none 0 0, .slice none 0 0] 69) := ⟨_, rfl⟩
  have hbx : Below w2.heap.size w2 X2 := by rw [hX]; exact (Below.refl _ _).alloc (Nat.le_refl _) _
  have HO2 := Lib.hid (show rb < k2 ∧ w.heap.size < k2 ∧ bs ≤ k2 ∧ k2 < X2.heap.size from by
    have h1 := HC0.out.size; have h2 := hc.size; have h3 : X2.heap.size = w2.heap.size + 1 := by rw [hX]; simp
    have o0 := HO0.out
    omega)
  have HR2 := Lib.hid (hs.below hbx)
  have hstep : Chg (fun b => b = rb) W0 X2 := hc.trans ((Chg.of_below hbx))
  have HT2 := Lib.hid hstep
  have HB3_z := Lib.hid (show Blk X2 w.heap.size [.string ⟨#[]⟩, .slice none 0 0, .slice none 0 0, .slice none 0 0, .slice none 0 0] from HB0.out.chg HT2.out (by have o0 := HO0.out; have o1 := HO2.out; omega))
  have HC3 := Lib.hid (show Chg (fun b => b = rb ∨ bs ≤ b) w X2 from HC0.out.trans (Chg.more HT2.out (fun b _ e => by have o0 := HO0.out; have o1 := HO2.out; omega)))
  have HV2 := Lib.hid (show (Ty.rd .str).rd X2 (fun b => bs ≤ b ∧ b ≠ w.heap.size ∧ b ≠ rb ∧ b ≠ k2) [.string q1_0] px0 from rd_chg .str (K := fun _ => False) (Chg.of_below hbx) (fun b hb hl => ⟨id, by have hb : W0.heap.size ≤ b := hb; have h1 := HC0.out.size; have o0 := HO0.out; have o1 := HO2.out; omega⟩) hr)
  have HB2 := Lib.hid (show Blk X2 k2 [.string q1_0, .slice none 0 0, .slice none 0 0, .slice none 0 0, .slice none 0 0] from by rw [hX, hk]; exact Blk.new w2 _ _)
  have HK2 := Lib.hid hk
  have HX2 := Lib.hid hX
  clear hr hs hc hk hX hbx hstep
  obtain ⟨n4, z4, hn⟩ : ∃ n s', dsize ps1 = (n, s') := ⟨_, _, rfl⟩
  have HN4 := Lib.hid hn
  have HLS4 := Lib.hid (show dmany (dec tSchemaVersion) n4 z4 = (px1, ps2) from by
    have h := pHD1.out
    replace h : dmany (dec tSchemaVersion) (dsize ps1).1 (dsize ps1).2 = _ := h
    rw [hn] at h; exact h)
  obtain ⟨hm1, hm2⟩ := pHM1.out
  rw [hn] at hm1 hm2
  replace hm1 : n4 ≤ 1073741824 := hm1
  have HMM4 := Lib.hid hm2
  have HM1_4 := Lib.hid hm1
  have hn0_4 : 0 ≤ (n4 : Int) ∧ (n4 : Int) ≤ 1073741824 := by omega
  have hsz := rcd_length HR2.out
  rw [hn] at hsz
  have HSZ4 := Lib.hid hsz
  clear hsz hn hm1 hm2
  go_wp2_with fail
  rw [← HK2.out, ← HX2.out]
  refine HSZ4.out.mono ?_
  rintro e w4 ⟨rfl, hr, hc⟩
  have HR4 := Lib.hid (show RefR w4 rb B z4 from hr)
  have HT4 := Lib.hid hc
  clear hr hc
  have HB5_z := Lib.hid (show Blk w4 w.heap.size [.string ⟨#[]⟩, .slice none 0 0, .slice none 0 0, .slice none 0 0, .slice none 0 0] from HB3_z.out.chg HT4.out (by have o0 := HO0.out; have o1 := HO2.out; omega))
  have HB5_2 := Lib.hid (show Blk w4 k2 [.string q1_0, .slice none 0 0, .slice none 0 0, .slice none 0 0, .slice none 0 0] from HB2.out.chg HT4.out (by have o0 := HO0.out; have o1 := HO2.out; omega))
  have HV5_0 := Lib.hid (show (Ty.rd .str).rd w4 (fun b => bs ≤ b ∧ b ≠ w.heap.size ∧ b ≠ rb ∧ b ≠ k2) [.string q1_0] px0 from rd_chg .str HT4.out (fun b hb hl => ⟨fun e => by have o0 := HO0.out; have o1 := HO2.out; omega, hb⟩) HV2.out)
  have HC5 := Lib.hid (show Chg (fun b => b = rb ∨ bs ≤ b) w w4 from HC3.out.trans (Chg.more HT4.out (fun b _ e => by have o0 := HO0.out; have o1 := HO2.out; omega)))
  obtain ⟨B4, hBL⟩ : ∃ b, b = w4.heap.size := ⟨_, rfl⟩
  have HO4 := Lib.hid (show B4 = w4.heap.size ∧ bs ≤ B4 ∧ k2 < B4 from ⟨hBL, by have h := HC5.out.size; have o0 := HO0.out; have o1 := HO2.out; omega, by rw [hBL]; exact HB5_2.out.lt⟩)
  clear hBL
  have HLA4 := Lib.hid (show LoopAt tSchemaVersion 151 3 B4 rb B k2 [.string q1_0, .slice none 0 0, .slice none 0 0, .slice none 0 0, .slice none 0 0] 1 w4 w4 z4 [] [] (.slice none 0 0) from LoopAt.start HR4.out HB5_2.out rfl (by simp) (by have o0 := HO0.out; have o1 := HO2.out; have o2 := HO4.out; omega) (by have o0 := HO0.out; have o1 := HO2.out; have o2 := HO4.out; omega))
  go_upto_block 0 with fail
  go_cut [5] (fun t5 wx => ∃ (a : Option Addr) (nn c : Nat), RefR wx rb B ps2 ∧ Blk wx k2 [.string q1_0, .slice a nn c, .slice none 0 0, .slice none 0 0, .slice none 0 0] ∧ (Ty.rd (.list tSchemaVersion)).rd wx (B4 ≤ ·) [.slice a nn c] px1 ∧ Chg (fun b => b = rb ∨ b = k2 ∨ B4 ≤ b) w4 wx)
  case first =>
    go_wp2_with fail
    go_loopg [5] n4 (fun gk t5 wr => ∃ (q k : Nat) (sc : St) (l : List (Ty.T tSchemaVersion)) (xs : List Value) (v : Value), gk = k ∧ q + k = n4 ∧ t5 = .int .i64 (q : Int) ∧ LoopAt tSchemaVersion 151 3 B4 rb B k2 [.string q1_0, .slice none 0 0, .slice none 0 0, .slice none 0 0, .slice none 0 0] 1 w4 wr sc l xs v ∧ ModMany (Mod tSchemaVersion) (dec tSchemaVersion) k sc ∧ l.length + k ≤ n4 ∧ l ++ (dmany (dec tSchemaVersion) k sc).1 = px1 ∧ (dmany (dec tSchemaVersion) k sc).2 = ps2)
    case atStart =>
      exact ⟨0, n4, z4, [], [], .slice none 0 0, rfl, by omega, rfl, HLA4.out, HMM4.out, by simp, by rw [HLS4.out]; rfl, by rw [HLS4.out]⟩
    case round =>
      generalize gk = gk4 at *
      generalize wr = wr4 at *
      obtain ⟨j4, kk, sc4, l4, xs4, v4, rfl, hqk, rfl, hla, hm, hle, hL, hS⟩ := hrel
      have HQ4 := Lib.hid hqk
      have HA4 := Lib.hid hla
      have HMK4 := Lib.hid hm
      have HLE4 := Lib.hid hle
      have HLL4 := Lib.hid hL
      have HSS4 := Lib.hid hS
      have hq0_4 : 0 ≤ (j4 : Int) ∧ (j4 : Int) ≤ 1073741824 := by have := HM1_4.out; omega
      obtain ⟨ii, err4, hp, hst⟩ := hla.r.at_
      have c2_4 := hp.c2
      have HST4 := Lib.hid hst
      clear hqk hla hm hle hL hS hp hst
      by_cases hk4 : gk4 = 0
      · have hqn : j4 = n4 := by have := HQ4.out; omega
        have hd1 : decide ((j4 : Int) < (n4 : Int)) = false := decide_eq_false (by omega)
        have hd1' : ¬ (j4 : Int) < (n4 : Int) := by omega
        clear hqn
        subst hk4
        have HE1 := Lib.hid (show l4 = px1 from by have := HLL4.out; simpa [dmany] using this)
        have HE2 := Lib.hid (show sc4 = ps2 from by have := HSS4.out; exact this)
        obtain ⟨a, nn, c, rfl, hfl⟩ := HA4.out.list
        have HFL := Lib.hid hfl
        clear hfl
        go_wp2
        go_meet
        exact ⟨a, nn, c, by rw [← HE2.out]; exact HA4.out.r, HA4.out.blk, by rw [← HE1.out]; exact HFL.out, HA4.out.chg⟩
      · have hd1 : decide ((j4 : Int) < (n4 : Int)) = true := decide_eq_true (by have := HQ4.out; omega)
        have hd1' : (j4 : Int) < (n4 : Int) := by have := HQ4.out; omega
        cases sc4 with
        | error e =>
          obtain ⟨he1, he⟩ := HST4.out.2 e rfl
          have g0 : (err4 == 0) = false := by rw [he1]; rcases he with rfl | rfl <;> rfl
          have HE1 := Lib.hid (show l4 = px1 from by have := HLL4.out; rw [dmany_error] at this; simpa using this)
          have HE2 := Lib.hid (show (.error e : St) = ps2 from by have := HSS4.out; rw [dmany_error] at this; exact this)
          clear he he1
          obtain ⟨a, nn, c, rfl, hfl⟩ := HA4.out.list
          have HFL := Lib.hid hfl
          clear hfl
          go_wp2
          go_meet
          exact ⟨a, nn, c, by rw [← HE2.out]; exact HA4.out.r, HA4.out.blk, by rw [← HE1.out]; exact HFL.out, HA4.out.chg⟩
        | ok r4 =>
          obtain ⟨rfl, -⟩ := HST4.out.1 r4 rfl
          obtain ⟨k', rfl⟩ : ∃ k', gk4 = k' + 1 := ⟨gk4 - 1, by omega⟩
          obtain ⟨rr4, hrr⟩ : ∃ s : St, s = .ok r4 := ⟨_, rfl⟩
          obtain ⟨y4, y2_4, hd⟩ : ∃ x s', dec tSchemaVersion rr4 = (x, s') := ⟨_, _, rfl⟩
          have HL2_4 := Lib.hid (show (l4 ++ [y4]) ++ (dmany (dec tSchemaVersion) k' y2_4).1 = px1 ∧ (dmany (dec tSchemaVersion) k' y2_4).2 = ps2 from by
            have h1 := HLL4.out; have h2 := HSS4.out
            rw [dmany, ← hrr] at h1 h2
            simp only [hd] at h1 h2
            exact ⟨by simpa using h1, h2⟩)
          have hM2 : Mod tSchemaVersion rr4 ∧ ModMany (Mod tSchemaVersion) (dec tSchemaVersion) k' y2_4 := by
            have h1 := HMK4.out
            rw [ModMany, ← hrr] at h1
            simp only [hd] at h1
            exact h1
          have HMK2_4 := Lib.hid hM2.2
          have HRR4 := Lib.hid (show RefR wr4 rb B rr4 from by rw [hrr]; exact HA4.out.r)
          have HDY4 := Lib.hid hd
          have hmy := hM2.1
          clear hd hM2 hrr
          obtain ⟨i0_4, hi0, hz0, hz1, hz2⟩ := info_parts info_t_SchemaVersion
          have HI4 := Lib.hid (And.intro hi0 (And.intro hz0 (And.intro hz1 hz2)))
          clear hi0 hz0 hz1 hz2
          obtain ⟨b4, hbs⟩ : ∃ b, b = wr4.heap.size := ⟨_, rfl⟩
          have HOb4 := Lib.hid (show b4 = wr4.heap.size ∧ B4 ≤ b4 ∧ k2 < b4 from ⟨hbs, by rw [hbs]; exact HA4.out.ord.2.2.1, by have := HA4.out.ord; omega⟩)
          have HC0_4 := Lib.hid (show Chg (fun b => b = rb ∨ b4 ≤ b) wr4 wr4 from Chg.refl _ _)
          clear hbs
          obtain ⟨e4x0, e4s1, e4hd0⟩ : ∃ x s', dec tPeriod rr4 = (x, s') := ⟨_, _, rfl⟩
          obtain ⟨e4x1, e4s2, e4hd1⟩ : ∃ x s', dec (.list tColumn) e4s1 = (x, s') := ⟨_, _, rfl⟩
          obtain ⟨e4hm0, e4hm1⟩ := hmy
          simp only [e4hd0] at e4hm1
          have e4HM0 := Lib.hid e4hm0
          have e4HM1 := Lib.hid e4hm1
          have e4HD0 := Lib.hid e4hd0
          have e4HD1 := Lib.hid e4hd1
          have e4DEC := Lib.hid (show y4 = (e4x0, e4x1) ∧ y2_4 = e4s2 from by
            have h := HDY4.out
            replace h : dec (.pair tPeriod (.list tColumn)) rr4 = _ := h
            simp only [dec_pair, e4hd0, e4hd1] at h
            cases h; exact ⟨rfl, rfl⟩)
          clear e4hd0 e4hd1 e4hm0 e4hm1
          go_wp2_with fail
          refine (rget_Period wr4 rb B rr4 HRR4.out e4HM0.out).mono ?_
          rintro e w7 ⟨cs, rfl, hr, hs, hc⟩
          rw [e4HD0.out] at hr hs
          dsimp only at hr hs
          obtain ⟨q6_0, q6_1, rfl⟩ := shape_Period hr
          have hg : goV [.int .i64 q6_0, .int .i64 q6_1] = .agg #[.int .i64 q6_0, .int .i64 q6_1] := rfl
          rw [hg]
          clear hg
          obtain ⟨k7, hk⟩ : ∃ k, k = w7.heap.size := ⟨_, rfl⟩
          obtain ⟨X7, hX⟩ : ∃ X, X = w7.alloc (.cells #[.int .i64 q6_0, .int .i64 q6_1, .slice none 0 0] 151) := ⟨_, rfl⟩
          have hbx : Below w7.heap.size w7 X7 := by rw [hX]; exact (Below.refl _ _).alloc (Nat.le_refl _) _
          have HO7 := Lib.hid (show k2 < k7 ∧ b4 ≤ k7 ∧ k7 < X7.heap.size from by
            have h1 := HC0_4.out.size; have h2 := hc.size; have h3 : X7.heap.size = w7.heap.size + 1 := by rw [hX]; simp
            have o0 := HO0.out; have o1 := HO2.out; have o2 := HO4.out; have o3 := HOb4.out
            omega)
          have HR7 := Lib.hid (hs.below hbx)
          have hstep : Chg (fun b => b = rb) wr4 X7 := hc.trans ((Chg.of_below hbx))
          have HT7 := Lib.hid hstep
          have HC8 := Lib.hid (show Chg (fun b => b = rb ∨ b4 ≤ b) wr4 X7 from HC0_4.out.trans (Chg.more HT7.out (fun b _ e => by have o0 := HO0.out; have o1 := HO2.out; have o2 := HO4.out; have o3 := HOb4.out; have o4 := HO7.out; omega)))
          have HV7 := Lib.hid (show (Ty.rd tPeriod).rd X7 (fun b => b4 ≤ b ∧ b ≠ k7) [.int .i64 q6_0, .int .i64 q6_1] e4x0 from rd_chg tPeriod (K := fun _ => False) (Chg.of_below hbx) (fun b hb hl => ⟨id, by have hb : wr4.heap.size ≤ b := hb; have h1 := HC0_4.out.size; have o0 := HO0.out; have o1 := HO2.out; have o2 := HO4.out; have o3 := HOb4.out; have o4 := HO7.out; omega⟩) hr)
          have HB7 := Lib.hid (show Blk X7 k7 [.int .i64 q6_0, .int .i64 q6_1, .slice none 0 0] from by rw [hX, hk]; exact Blk.new w7 _ _)
          have HK7 := Lib.hid hk
          have HX7 := Lib.hid hX
          clear hr hs hc hk hX hbx hstep
          obtain ⟨n9, z9, hn⟩ : ∃ n s', dsize e4s1 = (n, s') := ⟨_, _, rfl⟩
          have HN9 := Lib.hid hn
          have HLS9 := Lib.hid (show dmany (dec tColumn) n9 z9 = (e4x1, e4s2) from by
            have h := e4HD1.out
            replace h : dmany (dec tColumn) (dsize e4s1).1 (dsize e4s1).2 = _ := h
            rw [hn] at h; exact h)
          obtain ⟨hm1, hm2⟩ := e4HM1.out
          rw [hn] at hm1 hm2
          replace hm1 : n9 ≤ 1073741824 := hm1
          have HMM9 := Lib.hid hm2
          have HM1_9 := Lib.hid hm1
          have hn0_9 : 0 ≤ (n9 : Int) ∧ (n9 : Int) ≤ 1073741824 := by omega
          have hsz := rcd_length HR7.out
          rw [hn] at hsz
          have HSZ9 := Lib.hid hsz
          clear hsz hn hm1 hm2
          go_wp2_with fail
          rw [← HK7.out, ← HX7.out]
          refine HSZ9.out.mono ?_
          rintro e w9 ⟨rfl, hr, hc⟩
          have HR9 := Lib.hid (show RefR w9 rb B z9 from hr)
          have HT9 := Lib.hid hc
          clear hr hc
          have HB10_7 := Lib.hid (show Blk w9 k7 [.int .i64 q6_0, .int .i64 q6_1, .slice none 0 0] from HB7.out.chg HT9.out (by have o0 := HO0.out; have o1 := HO2.out; have o2 := HO4.out; have o3 := HOb4.out; have o4 := HO7.out; omega))
          have HV10_0 := Lib.hid (show (Ty.rd tPeriod).rd w9 (fun b => b4 ≤ b ∧ b ≠ k7) [.int .i64 q6_0, .int .i64 q6_1] e4x0 from rd_chg tPeriod HT9.out (fun b hb hl => ⟨fun e => by have o0 := HO0.out; have o1 := HO2.out; have o2 := HO4.out; have o3 := HOb4.out; have o4 := HO7.out; omega, hb⟩) HV7.out)
          have HC10 := Lib.hid (show Chg (fun b => b = rb ∨ b4 ≤ b) wr4 w9 from HC8.out.trans (Chg.more HT9.out (fun b _ e => by have o0 := HO0.out; have o1 := HO2.out; have o2 := HO4.out; have o3 := HOb4.out; have o4 := HO7.out; omega)))
          obtain ⟨B9, hBL⟩ : ∃ b, b = w9.heap.size := ⟨_, rfl⟩
          have HO9 := Lib.hid (show B9 = w9.heap.size ∧ b4 ≤ B9 ∧ k7 < B9 from ⟨hBL, by have h := HC10.out.size; have o0 := HO0.out; have o1 := HO2.out; have o2 := HO4.out; have o3 := HOb4.out; have o4 := HO7.out; omega, by rw [hBL]; exact HB10_7.out.lt⟩)
          clear hBL
          have HLA9 := Lib.hid (show LoopAt tColumn 111 3 B9 rb B k7 [.int .i64 q6_0, .int .i64 q6_1, .slice none 0 0] 2 w9 w9 z9 [] [] (.slice none 0 0) from LoopAt.start HR9.out HB10_7.out rfl (by simp) (by have o0 := HO0.out; have o1 := HO2.out; have o2 := HO4.out; have o3 := HOb4.out; have o4 := HO7.out; have o5 := HO9.out; omega) (by have o0 := HO0.out; have o1 := HO2.out; have o2 := HO4.out; have o3 := HOb4.out; have o4 := HO7.out; have o5 := HO9.out; omega))
          go_upto_block 2 with fail
          go_cut [8] (fun t8 wx => ∃ (a : Option Addr) (nn c : Nat), RefR wx rb B e4s2 ∧ Blk wx k7 [.int .i64 q6_0, .int .i64 q6_1, .slice a nn c] ∧ (Ty.rd (.list tColumn)).rd wx (B9 ≤ ·) [.slice a nn c] e4x1 ∧ Chg (fun b => b = rb ∨ b = k7 ∨ B9 ≤ b) w9 wx)
          case first =>
            go_wp2_with fail
            go_loopg [8] n9 (fun gk t8 wr => ∃ (q k : Nat) (sc : St) (l : List (Ty.T tColumn)) (xs : List Value) (v : Value), gk = k ∧ q + k = n9 ∧ t8 = .int .i64 (q : Int) ∧ LoopAt tColumn 111 3 B9 rb B k7 [.int .i64 q6_0, .int .i64 q6_1, .slice none 0 0] 2 w9 wr sc l xs v ∧ ModMany (Mod tColumn) (dec tColumn) k sc ∧ l.length + k ≤ n9 ∧ l ++ (dmany (dec tColumn) k sc).1 = e4x1 ∧ (dmany (dec tColumn) k sc).2 = e4s2)
            case atStart =>
              exact ⟨0, n9, z9, [], [], .slice none 0 0, rfl, by omega, rfl, HLA9.out, HMM9.out, by simp, by rw [HLS9.out]; rfl, by rw [HLS9.out]⟩
            case round =>
              generalize gk = gk9 at *
              generalize wr = wr9 at *
              obtain ⟨j9, kk, sc9, l9, xs9, v9, rfl, hqk, rfl, hla, hm, hle, hL, hS⟩ := hrel
              have HQ9 := Lib.hid hqk
              have HA9 := Lib.hid hla
              have HMK9 := Lib.hid hm
              have HLE9 := Lib.hid hle
              have HLL9 := Lib.hid hL
              have HSS9 := Lib.hid hS
              have hq0_9 : 0 ≤ (j9 : Int) ∧ (j9 : Int) ≤ 1073741824 := by have := HM1_9.out; omega
              obtain ⟨ii, err9, hp, hst⟩ := hla.r.at_
              have c2_9 := hp.c2
              have HST9 := Lib.hid hst
              clear hqk hla hm hle hL hS hp hst
              by_cases hk9 : gk9 = 0
              · have hqn : j9 = n9 := by have := HQ9.out; omega
                have hd1 : decide ((j9 : Int) < (n9 : Int)) = false := decide_eq_false (by omega)
                have hd1' : ¬ (j9 : Int) < (n9 : Int) := by omega
                clear hqn
                subst hk9
                have HE1 := Lib.hid (show l9 = e4x1 from by have := HLL9.out; simpa [dmany] using this)
                have HE2 := Lib.hid (show sc9 = e4s2 from by have := HSS9.out; exact this)
                obtain ⟨a, nn, c, rfl, hfl⟩ := HA9.out.list
                have HFL := Lib.hid hfl
                clear hfl
                go_wp2
                go_meet
                exact ⟨a, nn, c, by rw [← HE2.out]; exact HA9.out.r, HA9.out.blk, by rw [← HE1.out]; exact HFL.out, HA9.out.chg⟩
              · have hd1 : decide ((j9 : Int) < (n9 : Int)) = true := decide_eq_true (by have := HQ9.out; omega)
                have hd1' : (j9 : Int) < (n9 : Int) := by have := HQ9.out; omega
                cases sc9 with
                | error e =>
                  obtain ⟨he1, he⟩ := HST9.out.2 e rfl
                  have g0 : (err9 == 0) = false := by rw [he1]; rcases he with rfl | rfl <;> rfl
                  have HE1 := Lib.hid (show l9 = e4x1 from by have := HLL9.out; rw [dmany_error] at this; simpa using this)
                  have HE2 := Lib.hid (show (.error e : St) = e4s2 from by have := HSS9.out; rw [dmany_error] at this; exact this)
                  clear he he1
                  obtain ⟨a, nn, c, rfl, hfl⟩ := HA9.out.list
                  have HFL := Lib.hid hfl
                  clear hfl
                  go_wp2
                  go_meet
                  exact ⟨a, nn, c, by rw [← HE2.out]; exact HA9.out.r, HA9.out.blk, by rw [← HE1.out]; exact HFL.out, HA9.out.chg⟩
                | ok r9 =>
                  obtain ⟨rfl, -⟩ := HST9.out.1 r9 rfl
                  obtain ⟨k', rfl⟩ : ∃ k', gk9 = k' + 1 := ⟨gk9 - 1, by omega⟩
                  obtain ⟨rr9, hrr⟩ : ∃ s : St, s = .ok r9 := ⟨_, rfl⟩
                  obtain ⟨y9, y2_9, hd⟩ : ∃ x s', dec tColumn rr9 = (x, s') := ⟨_, _, rfl⟩
                  have HL2_9 := Lib.hid (show (l9 ++ [y9]) ++ (dmany (dec tColumn) k' y2_9).1 = e4x1 ∧ (dmany (dec tColumn) k' y2_9).2 = e4s2 from by
                    have h1 := HLL9.out; have h2 := HSS9.out
                    rw [dmany, ← hrr] at h1 h2
                    simp only [hd] at h1 h2
                    exact ⟨by simpa using h1, h2⟩)
                  have hM2 : Mod tColumn rr9 ∧ ModMany (Mod tColumn) (dec tColumn) k' y2_9 := by
                    have h1 := HMK9.out
                    rw [ModMany, ← hrr] at h1
                    simp only [hd] at h1
                    exact h1
                  have HMK2_9 := Lib.hid hM2.2
                  have HRR9 := Lib.hid (show RefR wr9 rb B rr9 from by rw [hrr]; exact HA9.out.r)
                  have HDY9 := Lib.hid hd
                  have hmy := hM2.1
                  clear hd hM2 hrr
                  obtain ⟨i0_9, hi0, hz0, hz1, hz2⟩ := info_parts info_t_Column
                  have HI9 := Lib.hid (And.intro hi0 (And.intro hz0 (And.intro hz1 hz2)))
                  clear hi0 hz0 hz1 hz2
                  have HMY9 := Lib.hid hmy
                  clear hmy
                  have HAD9 := Lib.hid HA9.out.drew
                  have HRD9 := Lib.hid (HRR9.out.below (Below.refl _ _).drew)
                  have HS0_9 := Lib.hid (show wr9.drew.cell? ⟨k7, 2, none⟩ = some v9 ∧ wr9.drew.frozen? ⟨k7, 2, none⟩ = false from ⟨HAD9.out.blk.cell 2 _ rfl, HAD9.out.blk.free 2⟩)
                  go_wp2_with fail
                  obtain ⟨qc0, qf0⟩ := HS0_9.out
                  go_region_law (first | (refine step_append_o rfl (.tmp 48) (.tmp 51) 149 rfl B9 111 i0_9 _ 3 32 Tryz.underlying149 HI9.out.1 HI9.out.2.1 HI9.out.2.2.1 HI9.out.2.2.2 rfl (by decide) v9 l9.length xs9 (by simp [Act.eval]) HA3.out.rows.row _ 1 [.int .i64 q9_0, .string q9_1, .int .i64 q9_2] (by first | (simp [Act.eval]; done) | (simp [Act.eval]; rfl)) (sl_cells1 wq _ _ rfl) (fun c h => by cases h) (by simp [Value.oneCell']) (by have := HLE9.out; have := HM1_9.out; unfold maxLen; omega) (by have := HLE9.out; have := HM1_9.out; omega) HA3.out.ord.2.2.1 ?_; intro v' w4 h1 h2 h3; obtain ⟨va, vn, vc, rfl⟩ := ownk_shape h1; obtain ⟨qc3, qf3⟩ := And.intro ((HA3.out.app h2).cell 2 _ rfl) ((HA3.out.app h2).free 2)) | (go_simp; go_at_call 126; refine (rget_Column wr9.drew rb B rr9 HRD9.out HMY9.out).mono ?_; rintro e wq ⟨cs, rfl, hr, hs, hc⟩; rw [HDY9.out] at hr hs; dsimp only at hr hs; obtain ⟨q9_0, q9_1, q9_2, rfl⟩ := shape_Column hr; have hg : goV [.int .i64 q9_0, .string q9_1, .int .i64 q9_2] = .agg #[.int .i64 q9_0, .string q9_1, .int .i64 q9_2] := rfl; rw [hg]; clear hg; have HRQ := Lib.hid hs; have HVQ := Lib.hid hr; have HCQ := Lib.hid hc; have HAQ := Lib.hid (HAD9.out.turn hc hs); clear hr hs hc; have HB3 := Lib.hid (show Below wq.heap.size wq (wq.alloc (.cells #[.int .i64 q9_0, .string q9_1, .int .i64 q9_2] 111)) from (Below.refl _ _).alloc (Nat.le_refl _) _); have HA3 := Lib.hid (HAQ.out.below HB3.out); obtain ⟨qc1, qf1⟩ := And.intro (HAQ.out.blk.cell 2 _ rfl) (HAQ.out.blk.free 2); obtain ⟨qc2, qf2⟩ := And.intro (HA3.out.blk.cell 2 _ rfl) (HA3.out.blk.free 2)) | fail)
                  all_goals
                    have HST4 := Lib.hid (HAD9.out.step HCQ.out HRQ.out HVQ.out HB3.out h1 h2 h3)
                    clear h1 h2 h3 qc0 qf0 qc1 qf1 qc2 qf2 qc3 qf3
                    go_wp2
                    go_roundg k'
                    case rel => exact ⟨j9 + 1, k', y2_9, l9 ++ [y9], _, _, rfl, by have := HQ9.out; omega, by go_num, HST4.out, HMK2_9.out, by have := HLE9.out; simp; omega, HL2_9.out.1, HL2_9.out.2⟩
                    case measure => omega
          case rest =>
            generalize wc = X9 at *
            obtain ⟨la9, ln9, lc9, hr, hb, hl, hc⟩ := hcut
            have HRl9 := Lib.hid hr
            have HBl9 := Lib.hid hb
            have HTl9 := Lib.hid hc
            have HV11_0 := Lib.hid (show (Ty.rd tPeriod).rd X9 (fun b => b4 ≤ b ∧ b ≠ k7) [.int .i64 q6_0, .int .i64 q6_1] e4x0 from rd_chg tPeriod HTl9.out (fun b hb hl => ⟨fun e => by have o0 := HO0.out; have o1 := HO2.out; have o2 := HO4.out; have o3 := HOb4.out; have o4 := HO7.out; have o5 := HO9.out; omega, hb⟩) HV10_0.out)
            have HC11 := Lib.hid (show Chg (fun b => b = rb ∨ b4 ≤ b) wr4 X9 from HC10.out.trans (Chg.more HTl9.out (fun b _ e => by have o0 := HO0.out; have o1 := HO2.out; have o2 := HO4.out; have o3 := HOb4.out; have o4 := HO7.out; have o5 := HO9.out; omega)))
            have HVl9 := Lib.hid (show (Ty.rd (.list tColumn)).rd X9 (fun b => b4 ≤ b ∧ b ≠ k7) [.slice la9 ln9 lc9] e4x1 from Rd.more _ (fun b hb => by have hb : B9 ≤ b := hb; have o0 := HO0.out; have o1 := HO2.out; have o2 := HO4.out; have o3 := HOb4.out; have o4 := HO7.out; have o5 := HO9.out; (try dsimp only); omega) hl)
            clear hr hb hl hc
            have HCX4 := Lib.hid (show Chg (fun b => b = rb) wr4 X9 from Chg.more HC11.out (fun b hb e => by have o0 := HO0.out; have o1 := HO2.out; have o2 := HO4.out; have o3 := HOb4.out; have o4 := HO7.out; have o5 := HO9.out; omega))
            have HX4 := Lib.hid (show (Ty.rd tSchemaVersion).rd X9 (wr4.heap.size ≤ ·) [.int .i64 q6_0, .int .i64 q6_1, .slice la9 ln9 lc9] y4 from by
              rw [e4DEC.out.1]
              have h0 := Rd.more (F := (fun b => b4 ≤ b ∧ b ≠ k7)) (G := (wr4.heap.size ≤ ·)) (Ty.rd tPeriod) (fun b hb => by have := HOb4.out; (try dsimp only at hb ⊢); omega) HV11_0.out
              have h1 := Rd.more (F := (fun b => b4 ≤ b ∧ b ≠ k7)) (G := (wr4.heap.size ≤ ·)) (Ty.rd (.list tColumn)) (fun b hb => by have := HOb4.out; (try dsimp only at hb ⊢); omega) HVl9.out
              exact ⟨_, _, rfl, h0, h1⟩)
            have HRX4 := Lib.hid (show RefR X9 rb B y2_4 from by rw [e4DEC.out.2]; exact HRl9.out)
            have HAX4 := Lib.hid (HA4.out.turn HCX4.out HRX4.out)
            have HB3_4 := Lib.hid (show Below X9.heap.size X9 (X9.alloc (.cells #[.int .i64 q6_0, .int .i64 q6_1, .slice la9 ln9 lc9] 151)) from (Below.refl _ _).alloc (Nat.le_refl _) _)
            have HA3_4 := Lib.hid (HAX4.out.below HB3_4.out)
            have qb4_0 := HBl9.out.cell 0 _ rfl
            have qb4_1 := HBl9.out.cell 1 _ rfl
            have qb4_2 := HBl9.out.cell 2 _ rfl
            have qv4 : X9.cell? ⟨k2, 1, none⟩ = some v4 := HAX4.out.blk.cell 1 _ rfl
            go_wp2_with (at_builtin; refine wpList_append_o rfl _ _ 64 rfl B4 151 i0_4 _ 3 40 Tryz.underlying64 HI4.out.1 HI4.out.2.1 HI4.out.2.2.1 HI4.out.2.2.2 rfl (by decide) v4 l4.length xs4 rfl HA3_4.out.rows.row _ 1 [.int .i64 q6_0, .int .i64 q6_1, .slice la9 ln9 lc9] rfl (sl_cells1 X9 _ _ rfl) (fun _ _ h => by cases h) (by simp [Value.oneCell']) (by have := HLE4.out; have := HM1_4.out; unfold maxLen; omega) (by have := HLE4.out; have := HM1_4.out; omega) HA3_4.out.ord.2.2.1 ?_)
            intro v' w4 h1 h2 h3
            obtain ⟨va, vn, vc, rfl⟩ := ownk_shape h1
            have hbk := HA3_4.out.app h2
            have tb := hbk.cell 1 _ rfl
            have zb := hbk.free 1
            have HST4 := Lib.hid (HA4.out.step HCX4.out HRX4.out HX4.out HB3_4.out h1 h2 (by rw [World.size_alloc]; exact h3))
            clear h1 h2 h3 hbk
            go_wp2
            go_roundg k'
            case rel => exact ⟨j4 + 1, k', y2_4, l4 ++ [y4], _, _, rfl, by have := HQ4.out; omega, by go_num, HST4.out, HMK2_4.out, by have := HLE4.out; simp; omega, HL2_4.out.1, HL2_4.out.2⟩
            case measure => omega
  case rest =>
    generalize wc = X4 at *
    obtain ⟨la4, ln4, lc4, hr, hb, hl, hc⟩ := hcut
    have HRl4 := Lib.hid hr
    have HBl4 := Lib.hid hb
    have HTl4 := Lib.hid hc
    have HB12_z := Lib.hid (show Blk X4 w.heap.size [.string ⟨#[]⟩, .slice none 0 0, .slice none 0 0, .slice none 0 0, .slice none 0 0] from HB5_z.out.chg HTl4.out (by have o0 := HO0.out; have o1 := HO2.out; have o2 := HO4.out; omega))
    have HV12_0 := Lib.hid (show (Ty.rd .str).rd X4 (fun b => bs ≤ b ∧ b ≠ w.heap.size ∧ b ≠ rb ∧ b ≠ k2) [.string q1_0] px0 from rd_chg .str HTl4.out (fun b hb hl => ⟨fun e => by have o0 := HO0.out; have o1 := HO2.out; have o2 := HO4.out; omega, hb⟩) HV5_0.out)
    have HC12 := Lib.hid (show Chg (fun b => b = rb ∨ bs ≤ b) w X4 from HC5.out.trans (Chg.more HTl4.out (fun b _ e => by have o0 := HO0.out; have o1 := HO2.out; have o2 := HO4.out; omega)))
    have HVl4 := Lib.hid (show (Ty.rd (.list tSchemaVersion)).rd X4 (fun b => bs ≤ b ∧ b ≠ w.heap.size ∧ b ≠ rb ∧ b ≠ k2) [.slice la4 ln4 lc4] px1 from Rd.more _ (fun b hb => by have hb : B4 ≤ b := hb; have o0 := HO0.out; have o1 := HO2.out; have o2 := HO4.out; (try dsimp only); omega) hl)
    clear hr hb hl hc
    go_wp2_with fail
    refine (rget_ints X4 rb B ps2 HRl4.out pHM2.out).mono ?_
    rintro e w14 ⟨cs, rfl, hr, hs, hc⟩
    rw [pHD2.out] at hr hs
    dsimp only at hr hs
    obtain ⟨q13_a0, q13_n0, q13_c0, rfl⟩ : ∃ a n c, cs = [.slice a n c] := by obtain ⟨a, n, c, e, _⟩ := id hr; exact ⟨a, n, c, e⟩
    have hg : goV [.slice q13_a0 q13_n0 q13_c0] = .slice q13_a0 q13_n0 q13_c0 := rfl
    rw [hg]
    clear hg
    have hb' := HBl4.out.chg hc (by have o0 := HO0.out; have o1 := HO2.out; have o2 := HO4.out; omega)
    have t0 := hb'.cell 2 _ rfl
    have z0 := hb'.free 2
    obtain ⟨X14, hX⟩ : ∃ X, X = (w14.setCell ⟨k2, 2, none⟩ (.slice q13_a0 q13_n0 q13_c0)) := ⟨_, rfl⟩
    have hcx : Chg (fun b => b = k2) w14 X14 := by
      have g : ∀ (u : World) (j : Nat) (v : Value), Chg (fun b => b = k2) u (u.setCell ⟨k2, j, none⟩ v) := fun u j v => Chg.setCell _ _ rfl
      rw [hX]
      exact (g _ _ _)
    have HB14 := Lib.hid (show Blk X14 k2 [.string q1_0, .slice la4 ln4 lc4, .slice q13_a0 q13_n0 q13_c0, .slice none 0 0, .slice none 0 0] from by rw [hX]; exact (hb'.set 2 (.slice q13_a0 q13_n0 q13_c0) (by simp)))
    have HR14 := Lib.hid (hs.keep (hcx.more (fun b _ e => by have o0 := HO0.out; have o1 := HO2.out; have o2 := HO4.out; omega)))
    have HT14 := Lib.hid (show Chg (fun b => b = rb ∨ b = k2) X4 X14 from (hc.more (fun b _ e => .inl e)).trans (hcx.more (fun b _ e => .inr e)))
    have HB15_z := Lib.hid (show Blk X14 w.heap.size [.string ⟨#[]⟩, .slice none 0 0, .slice none 0 0, .slice none 0 0, .slice none 0 0] from HB12_z.out.chg HT14.out (by have o0 := HO0.out; have o1 := HO2.out; have o2 := HO4.out; omega))
    have HV15_0 := Lib.hid (show (Ty.rd .str).rd X14 (fun b => bs ≤ b ∧ b ≠ w.heap.size ∧ b ≠ rb ∧ b ≠ k2) [.string q1_0] px0 from rd_chg .str HT14.out (fun b hb hl => ⟨fun e => by have o0 := HO0.out; have o1 := HO2.out; have o2 := HO4.out; omega, hb⟩) HV12_0.out)
    have HV15_1 := Lib.hid (show (Ty.rd (.list tSchemaVersion)).rd X14 (fun b => bs ≤ b ∧ b ≠ w.heap.size ∧ b ≠ rb ∧ b ≠ k2) [.slice la4 ln4 lc4] px1 from rd_chg (.list tSchemaVersion) HT14.out (fun b hb hl => ⟨fun e => by have o0 := HO0.out; have o1 := HO2.out; have o2 := HO4.out; omega, hb⟩) HVl4.out)
    have HC15 := Lib.hid (show Chg (fun b => b = rb ∨ bs ≤ b) w X14 from HC12.out.trans (Chg.more HT14.out (fun b _ e => by have o0 := HO0.out; have o1 := HO2.out; have o2 := HO4.out; omega)))
    have HV14 := Lib.hid (show (Ty.rd (.list .num)).rd X14 (fun b => bs ≤ b ∧ b ≠ w.heap.size ∧ b ≠ rb ∧ b ≠ k2) [.slice q13_a0 q13_n0 q13_c0] px2 from rd_chg (.list .num) hcx (fun b hb hl => by have hb : X4.heap.size ≤ b := hb; have h1 := HC12.out.size; have h2 := HBl4.out.lt; have o0 := HO0.out; have o1 := HO2.out; have o2 := HO4.out; (try dsimp only); omega) hr)
    have HX14 := Lib.hid hX
    clear hr hs hc hb' hcx hX
    obtain ⟨n16, z16, hn⟩ : ∃ n s', dsize ps3 = (n, s') := ⟨_, _, rfl⟩
    have HN16 := Lib.hid hn
    have HLS16 := Lib.hid (show dmany (dec tForeignKey) n16 z16 = (px3, ps4) from by
      have h := pHD3.out
      replace h : dmany (dec tForeignKey) (dsize ps3).1 (dsize ps3).2 = _ := h
      rw [hn] at h; exact h)
    obtain ⟨hm1, hm2⟩ := pHM3.out
    rw [hn] at hm1 hm2
    replace hm1 : n16 ≤ 1073741824 := hm1
    have HMM16 := Lib.hid hm2
    have HM1_16 := Lib.hid hm1
    have hn0_16 : 0 ≤ (n16 : Int) ∧ (n16 : Int) ≤ 1073741824 := by omega
    have hsz := rcd_length HR14.out
    rw [hn] at hsz
    have HSZ16 := Lib.hid hsz
    clear hsz hn hm1 hm2
    go_wp2_with fail
    rw [← HX14.out]
    refine HSZ16.out.mono ?_
    rintro e w16 ⟨rfl, hr, hc⟩
    have HR16 := Lib.hid (show RefR w16 rb B z16 from hr)
    have HT16 := Lib.hid hc
    clear hr hc
    have HB17_z := Lib.hid (show Blk w16 w.heap.size [.string ⟨#[]⟩, .slice none 0 0, .slice none 0 0, .slice none 0 0, .slice none 0 0] from HB15_z.out.chg HT16.out (by have o0 := HO0.out; have o1 := HO2.out; have o2 := HO4.out; omega))
    have HB17_2 := Lib.hid (show Blk w16 k2 [.string q1_0, .slice la4 ln4 lc4, .slice q13_a0 q13_n0 q13_c0, .slice none 0 0, .slice none 0 0] from HB14.out.chg HT16.out (by have o0 := HO0.out; have o1 := HO2.out; have o2 := HO4.out; omega))
    have HV17_0 := Lib.hid (show (Ty.rd .str).rd w16 (fun b => bs ≤ b ∧ b ≠ w.heap.size ∧ b ≠ rb ∧ b ≠ k2) [.string q1_0] px0 from rd_chg .str HT16.out (fun b hb hl => ⟨fun e => by have o0 := HO0.out; have o1 := HO2.out; have o2 := HO4.out; omega, hb⟩) HV15_0.out)
    have HV17_1 := Lib.hid (show (Ty.rd (.list tSchemaVersion)).rd w16 (fun b => bs ≤ b ∧ b ≠ w.heap.size ∧ b ≠ rb ∧ b ≠ k2) [.slice la4 ln4 lc4] px1 from rd_chg (.list tSchemaVersion) HT16.out (fun b hb hl => ⟨fun e => by have o0 := HO0.out; have o1 := HO2.out; have o2 := HO4.out; omega, hb⟩) HV15_1.out)
    have HV17_2 := Lib.hid (show (Ty.rd (.list .num)).rd w16 (fun b => bs ≤ b ∧ b ≠ w.heap.size ∧ b ≠ rb ∧ b ≠ k2) [.slice q13_a0 q13_n0 q13_c0] px2 from rd_chg (.list .num) HT16.out (fun b hb hl => ⟨fun e => by have o0 := HO0.out; have o1 := HO2.out; have o2 := HO4.out; omega, hb⟩) HV14.out)
    have HC17 := Lib.hid (show Chg (fun b => b = rb ∨ bs ≤ b) w w16 from HC15.out.trans (Chg.more HT16.out (fun b _ e => by have o0 := HO0.out; have o1 := HO2.out; have o2 := HO4.out; omega)))
    obtain ⟨B16, hBL⟩ : ∃ b, b = w16.heap.size := ⟨_, rfl⟩
    have HO16 := Lib.hid (show B16 = w16.heap.size ∧ bs ≤ B16 ∧ k2 < B16 from ⟨hBL, by have h := HC17.out.size; have o0 := HO0.out; have o1 := HO2.out; have o2 := HO4.out; omega, by rw [hBL]; exact HB17_2.out.lt⟩)
    clear hBL
    have HLA16 := Lib.hid (show LoopAt tForeignKey 154 3 B16 rb B k2 [.string q1_0, .slice la4 ln4 lc4, .slice q13_a0 q13_n0 q13_c0, .slice none 0 0, .slice none 0 0] 3 w16 w16 z16 [] [] (.slice none 0 0) from LoopAt.start HR16.out HB17_2.out rfl (by simp) (by have o0 := HO0.out; have o1 := HO2.out; have o2 := HO4.out; have o3 := HO16.out; omega) (by have o0 := HO0.out; have o1 := HO2.out; have o2 := HO4.out; have o3 := HO16.out; omega))
    go_upto_block 4 with fail
    go_cut [9] (fun t9 wx => ∃ (a : Option Addr) (nn c : Nat), RefR wx rb B ps4 ∧ Blk wx k2 [.string q1_0, .slice la4 ln4 lc4, .slice q13_a0 q13_n0 q13_c0, .slice a nn c, .slice none 0 0] ∧ (Ty.rd (.list tForeignKey)).rd wx (B16 ≤ ·) [.slice a nn c] px3 ∧ Chg (fun b => b = rb ∨ b = k2 ∨ B16 ≤ b) w16 wx)
    case first =>
      go_wp2_with fail
      go_loopg [9] n16 (fun gk t9 wr => ∃ (q k : Nat) (sc : St) (l : List (Ty.T tForeignKey)) (xs : List Value) (v : Value), gk = k ∧ q + k = n16 ∧ t9 = .int .i64 (q : Int) ∧ LoopAt tForeignKey 154 3 B16 rb B k2 [.string q1_0, .slice la4 ln4 lc4, .slice q13_a0 q13_n0 q13_c0, .slice none 0 0, .slice none 0 0] 3 w16 wr sc l xs v ∧ ModMany (Mod tForeignKey) (dec tForeignKey) k sc ∧ l.length + k ≤ n16 ∧ l ++ (dmany (dec tForeignKey) k sc).1 = px3 ∧ (dmany (dec tForeignKey) k sc).2 = ps4)
      case atStart =>
        exact ⟨0, n16, z16, [], [], .slice none 0 0, rfl, by omega, rfl, HLA16.out, HMM16.out, by simp, by rw [HLS16.out]; rfl, by rw [HLS16.out]⟩
      case round =>
        generalize gk = gk16 at *
        generalize wr = wr16 at *
        obtain ⟨j16, kk, sc16, l16, xs16, v16, rfl, hqk, rfl, hla, hm, hle, hL, hS⟩ := hrel
        have HQ16 := Lib.hid hqk
        have HA16 := Lib.hid hla
        have HMK16 := Lib.hid hm
        have HLE16 := Lib.hid hle
        have HLL16 := Lib.hid hL
        have HSS16 := Lib.hid hS
        have hq0_16 : 0 ≤ (j16 : Int) ∧ (j16 : Int) ≤ 1073741824 := by have := HM1_16.out; omega
        obtain ⟨ii, err16, hp, hst⟩ := hla.r.at_
        have c2_16 := hp.c2
        have HST16 := Lib.hid hst
        clear hqk hla hm hle hL hS hp hst
        by_cases hk16 : gk16 = 0
        · have hqn : j16 = n16 := by have := HQ16.out; omega
          have hd1 : decide ((j16 : Int) < (n16 : Int)) = false := decide_eq_false (by omega)
          have hd1' : ¬ (j16 : Int) < (n16 : Int) := by omega
          clear hqn
          subst hk16
          have HE1 := Lib.hid (show l16 = px3 from by have := HLL16.out; simpa [dmany] using this)
          have HE2 := Lib.hid (show sc16 = ps4 from by have := HSS16.out; exact this)
          obtain ⟨a, nn, c, rfl, hfl⟩ := HA16.out.list
          have HFL := Lib.hid hfl
          clear hfl
          go_wp2
          go_meet
          exact ⟨a, nn, c, by rw [← HE2.out]; exact HA16.out.r, HA16.out.blk, by rw [← HE1.out]; exact HFL.out, HA16.out.chg⟩
        · have hd1 : decide ((j16 : Int) < (n16 : Int)) = true := decide_eq_true (by have := HQ16.out; omega)
          have hd1' : (j16 : Int) < (n16 : Int) := by have := HQ16.out; omega
          cases sc16 with
          | error e =>
            obtain ⟨he1, he⟩ := HST16.out.2 e rfl
            have g0 : (err16 == 0) = false := by rw [he1]; rcases he with rfl | rfl <;> rfl
            have HE1 := Lib.hid (show l16 = px3 from by have := HLL16.out; rw [dmany_error] at this; simpa using this)
            have HE2 := Lib.hid (show (.error e : St) = ps4 from by have := HSS16.out; rw [dmany_error] at this; exact this)
            clear he he1
            obtain ⟨a, nn, c, rfl, hfl⟩ := HA16.out.list
            have HFL := Lib.hid hfl
            clear hfl
            go_wp2
            go_meet
            exact ⟨a, nn, c, by rw [← HE2.out]; exact HA16.out.r, HA16.out.blk, by rw [← HE1.out]; exact HFL.out, HA16.out.chg⟩
          | ok r16 =>
            obtain ⟨rfl, -⟩ := HST16.out.1 r16 rfl
            obtain ⟨k', rfl⟩ : ∃ k', gk16 = k' + 1 := ⟨gk16 - 1, by omega⟩
            obtain ⟨rr16, hrr⟩ : ∃ s : St, s = .ok r16 := ⟨_, rfl⟩
            obtain ⟨y16, y2_16, hd⟩ : ∃ x s', dec tForeignKey rr16 = (x, s') := ⟨_, _, rfl⟩
            have HL2_16 := Lib.hid (show (l16 ++ [y16]) ++ (dmany (dec tForeignKey) k' y2_16).1 = px3 ∧ (dmany (dec tForeignKey) k' y2_16).2 = ps4 from by
              have h1 := HLL16.out; have h2 := HSS16.out
              rw [dmany, ← hrr] at h1 h2
              simp only [hd] at h1 h2
              exact ⟨by simpa using h1, h2⟩)
            have hM2 : Mod tForeignKey rr16 ∧ ModMany (Mod tForeignKey) (dec tForeignKey) k' y2_16 := by
              have h1 := HMK16.out
              rw [ModMany, ← hrr] at h1
              simp only [hd] at h1
              exact h1
            have HMK2_16 := Lib.hid hM2.2
            have HRR16 := Lib.hid (show RefR wr16 rb B rr16 from by rw [hrr]; exact HA16.out.r)
            have HDY16 := Lib.hid hd
            have hmy := hM2.1
            clear hd hM2 hrr
            obtain ⟨i0_16, hi0, hz0, hz1, hz2⟩ := info_parts info_t_ForeignKey
            have HI16 := Lib.hid (And.intro hi0 (And.intro hz0 (And.intro hz1 hz2)))
            clear hi0 hz0 hz1 hz2
            obtain ⟨b16, hbs⟩ : ∃ b, b = wr16.heap.size := ⟨_, rfl⟩
            have HOb16 := Lib.hid (show b16 = wr16.heap.size ∧ B16 ≤ b16 ∧ k2 < b16 from ⟨hbs, by rw [hbs]; exact HA16.out.ord.2.2.1, by have := HA16.out.ord; omega⟩)
            have HC0_16 := Lib.hid (show Chg (fun b => b = rb ∨ b16 ≤ b) wr16 wr16 from Chg.refl _ _)
            clear hbs
            obtain ⟨e16x0, e16s1, e16hd0⟩ : ∃ x s', dec (.list .num) rr16 = (x, s') := ⟨_, _, rfl⟩
            obtain ⟨e16x1, e16s2, e16hd1⟩ : ∃ x s', dec .str e16s1 = (x, s') := ⟨_, _, rfl⟩
            obtain ⟨e16x2, e16s3, e16hd2⟩ : ∃ x s', dec (.list .num) e16s2 = (x, s') := ⟨_, _, rfl⟩
            obtain ⟨e16hm0, e16hm1, e16hm2⟩ := hmy
            simp only [e16hd0] at e16hm1
            simp only [e16hd0, e16hd1] at e16hm2
            have e16HM0 := Lib.hid e16hm0
            have e16HM1 := Lib.hid e16hm1
            have e16HM2 := Lib.hid e16hm2
            have e16HD0 := Lib.hid e16hd0
            have e16HD1 := Lib.hid e16hd1
            have e16HD2 := Lib.hid e16hd2
            have e16DEC := Lib.hid (show y16 = (e16x0, (e16x1, e16x2)) ∧ y2_16 = e16s3 from by
              have h := HDY16.out
              replace h : dec (.pair (.list .num) (.pair .str (.list .num))) rr16 = _ := h
              simp only [dec_pair, e16hd0, e16hd1, e16hd2] at h
              cases h; exact ⟨rfl, rfl⟩)
            clear e16hd0 e16hd1 e16hd2 e16hm0 e16hm1 e16hm2
            go_wp2_with fail
            refine (rget_ints wr16 rb B rr16 HRR16.out e16HM0.out).mono ?_
            rintro e w19 ⟨cs, rfl, hr, hs, hc⟩
            rw [e16HD0.out] at hr hs
            dsimp only at hr hs
            obtain ⟨q18_a0, q18_n0, q18_c0, rfl⟩ : ∃ a n c, cs = [.slice a n c] := by obtain ⟨a, n, c, e, _⟩ := id hr; exact ⟨a, n, c, e⟩
            have hg : goV [.slice q18_a0 q18_n0 q18_c0] = .slice q18_a0 q18_n0 q18_c0 := rfl
            rw [hg]
            clear hg
            obtain ⟨k19, hk⟩ : ∃ k, k = w19.heap.size := ⟨_, rfl⟩
            obtain ⟨X19, hX⟩ : ∃ X, X = w19.alloc (.cells #[.slice q18_a0 q18_n0 q18_c0, .string ⟨#[]⟩, .slice none 0 0] 154) := ⟨_, rfl⟩
            have hbx : Below w19.heap.size w19 X19 := by rw [hX]; exact (Below.refl _ _).alloc (Nat.le_refl _) _
            have HO19 := Lib.hid (show k2 < k19 ∧ b16 ≤ k19 ∧ k19 < X19.heap.size from by
              have h1 := HC0_16.out.size; have h2 := hc.size; have h3 : X19.heap.size = w19.heap.size + 1 := by rw [hX]; simp
              have o0 := HO0.out; have o1 := HO2.out; have o2 := HO4.out; have o3 := HO16.out; have o4 := HOb16.out
              omega)
            have HR19 := Lib.hid (hs.below hbx)
            have hstep : Chg (fun b => b = rb) wr16 X19 := hc.trans ((Chg.of_below hbx))
            have HT19 := Lib.hid hstep
            have HC20 := Lib.hid (show Chg (fun b => b = rb ∨ b16 ≤ b) wr16 X19 from HC0_16.out.trans (Chg.more HT19.out (fun b _ e => by have o0 := HO0.out; have o1 := HO2.out; have o2 := HO4.out; have o3 := HO16.out; have o4 := HOb16.out; have o5 := HO19.out; omega)))
            have HV19 := Lib.hid (show (Ty.rd (.list .num)).rd X19 (fun b => b16 ≤ b ∧ b ≠ k19) [.slice q18_a0 q18_n0 q18_c0] e16x0 from rd_chg (.list .num) (K := fun _ => False) (Chg.of_below hbx) (fun b hb hl => ⟨id, by have hb : wr16.heap.size ≤ b := hb; have h1 := HC0_16.out.size; have o0 := HO0.out; have o1 := HO2.out; have o2 := HO4.out; have o3 := HO16.out; have o4 := HOb16.out; have o5 := HO19.out; omega⟩) hr)
            have HB19 := Lib.hid (show Blk X19 k19 [.slice q18_a0 q18_n0 q18_c0, .string ⟨#[]⟩, .slice none 0 0] from by rw [hX, hk]; exact Blk.new w19 _ _)
            have HK19 := Lib.hid hk
            have HX19 := Lib.hid hX
            clear hr hs hc hk hX hbx hstep
            go_wp2_with fail
            rw [← HK19.out, ← HX19.out]
            refine (rget_str X19 rb B e16s1 HR19.out e16HM1.out).mono ?_
            rintro e w22 ⟨cs, rfl, hr, hs, hc⟩
            rw [e16HD1.out] at hr hs
            dsimp only at hr hs
            obtain ⟨q21_0, rfl⟩ : ∃ z : ByteArray, cs = [.string z] := ⟨_, hr.1⟩
            have hg : goV [.string q21_0] = .string q21_0 := rfl
            rw [hg]
            clear hg
            have hb' := HB19.out.chg hc (by have o0 := HO0.out; have o1 := HO2.out; have o2 := HO4.out; have o3 := HO16.out; have o4 := HOb16.out; have o5 := HO19.out; omega)
            have t0 := hb'.cell 1 _ rfl
            have z0 := hb'.free 1
            obtain ⟨X22, hX⟩ : ∃ X, X = (w22.setCell ⟨k19, 1, none⟩ (.string q21_0)) := ⟨_, rfl⟩
            have hcx : Chg (fun b => b = k19) w22 X22 := by
              have g : ∀ (u : World) (j : Nat) (v : Value), Chg (fun b => b = k19) u (u.setCell ⟨k19, j, none⟩ v) := fun u j v => Chg.setCell _ _ rfl
              rw [hX]
              exact (g _ _ _)
            have HB22 := Lib.hid (show Blk X22 k19 [.slice q18_a0 q18_n0 q18_c0, .string q21_0, .slice none 0 0] from by rw [hX]; exact (hb'.set 1 (.string q21_0) (by simp)))
            have HR22 := Lib.hid (hs.keep (hcx.more (fun b _ e => by have o0 := HO0.out; have o1 := HO2.out; have o2 := HO4.out; have o3 := HO16.out; have o4 := HOb16.out; have o5 := HO19.out; omega)))
            have HT22 := Lib.hid (show Chg (fun b => b = rb ∨ b = k19) X19 X22 from (hc.more (fun b _ e => .inl e)).trans (hcx.more (fun b _ e => .inr e)))
            have HV23_0 := Lib.hid (show (Ty.rd (.list .num)).rd X22 (fun b => b16 ≤ b ∧ b ≠ k19) [.slice q18_a0 q18_n0 q18_c0] e16x0 from rd_chg (.list .num) HT22.out (fun b hb hl => ⟨fun e => by have o0 := HO0.out; have o1 := HO2.out; have o2 := HO4.out; have o3 := HO16.out; have o4 := HOb16.out; have o5 := HO19.out; omega, hb⟩) HV19.out)
            have HC23 := Lib.hid (show Chg (fun b => b = rb ∨ b16 ≤ b) wr16 X22 from HC20.out.trans (Chg.more HT22.out (fun b _ e => by have o0 := HO0.out; have o1 := HO2.out; have o2 := HO4.out; have o3 := HO16.out; have o4 := HOb16.out; have o5 := HO19.out; omega)))
            have HV22 := Lib.hid (show (Ty.rd .str).rd X22 (fun b => b16 ≤ b ∧ b ≠ k19) [.string q21_0] e16x1 from rd_chg .str hcx (fun b hb hl => by have hb : X19.heap.size ≤ b := hb; have h1 := HC20.out.size; have h2 := HB19.out.lt; have o0 := HO0.out; have o1 := HO2.out; have o2 := HO4.out; have o3 := HO16.out; have o4 := HOb16.out; have o5 := HO19.out; (try dsimp only); omega) hr)
            have HX22 := Lib.hid hX
            clear hr hs hc hb' hcx hX
            go_wp2_with fail
            rw [← HX22.out]
            refine (rget_ints X22 rb B e16s2 HR22.out e16HM2.out).mono ?_
            rintro e w25 ⟨cs, rfl, hr, hs, hc⟩
            rw [e16HD2.out] at hr hs
            dsimp only at hr hs
            obtain ⟨q24_a0, q24_n0, q24_c0, rfl⟩ : ∃ a n c, cs = [.slice a n c] := by obtain ⟨a, n, c, e, _⟩ := id hr; exact ⟨a, n, c, e⟩
            have hg : goV [.slice q24_a0 q24_n0 q24_c0] = .slice q24_a0 q24_n0 q24_c0 := rfl
            rw [hg]
            clear hg
            have hb' := HB22.out.chg hc (by have o0 := HO0.out; have o1 := HO2.out; have o2 := HO4.out; have o3 := HO16.out; have o4 := HOb16.out; have o5 := HO19.out; omega)
            have t0 := hb'.cell 2 _ rfl
            have z0 := hb'.free 2
            obtain ⟨X25, hX⟩ : ∃ X, X = (w25.setCell ⟨k19, 2, none⟩ (.slice q24_a0 q24_n0 q24_c0)) := ⟨_, rfl⟩
            have hcx : Chg (fun b => b = k19) w25 X25 := by
              have g : ∀ (u : World) (j : Nat) (v : Value), Chg (fun b => b = k19) u (u.setCell ⟨k19, j, none⟩ v) := fun u j v => Chg.setCell _ _ rfl
              rw [hX]
              exact (g _ _ _)
            have HB25 := Lib.hid (show Blk X25 k19 [.slice q18_a0 q18_n0 q18_c0, .string q21_0, .slice q24_a0 q24_n0 q24_c0] from by rw [hX]; exact (hb'.set 2 (.slice q24_a0 q24_n0 q24_c0) (by simp)))
            have HR25 := Lib.hid (hs.keep (hcx.more (fun b _ e => by have o0 := HO0.out; have o1 := HO2.out; have o2 := HO4.out; have o3 := HO16.out; have o4 := HOb16.out; have o5 := HO19.out; omega)))
            have HT25 := Lib.hid (show Chg (fun b => b = rb ∨ b = k19) X22 X25 from (hc.more (fun b _ e => .inl e)).trans (hcx.more (fun b _ e => .inr e)))
            have HV26_0 := Lib.hid (show (Ty.rd (.list .num)).rd X25 (fun b => b16 ≤ b ∧ b ≠ k19) [.slice q18_a0 q18_n0 q18_c0] e16x0 from rd_chg (.list .num) HT25.out (fun b hb hl => ⟨fun e => by have o0 := HO0.out; have o1 := HO2.out; have o2 := HO4.out; have o3 := HO16.out; have o4 := HOb16.out; have o5 := HO19.out; omega, hb⟩) HV23_0.out)
            have HV26_1 := Lib.hid (show (Ty.rd .str).rd X25 (fun b => b16 ≤ b ∧ b ≠ k19) [.string q21_0] e16x1 from rd_chg .str HT25.out (fun b hb hl => ⟨fun e => by have o0 := HO0.out; have o1 := HO2.out; have o2 := HO4.out; have o3 := HO16.out; have o4 := HOb16.out; have o5 := HO19.out; omega, hb⟩) HV22.out)
            have HC26 := Lib.hid (show Chg (fun b => b = rb ∨ b16 ≤ b) wr16 X25 from HC23.out.trans (Chg.more HT25.out (fun b _ e => by have o0 := HO0.out; have o1 := HO2.out; have o2 := HO4.out; have o3 := HO16.out; have o4 := HOb16.out; have o5 := HO19.out; omega)))
            have HV25 := Lib.hid (show (Ty.rd (.list .num)).rd X25 (fun b => b16 ≤ b ∧ b ≠ k19) [.slice q24_a0 q24_n0 q24_c0] e16x2 from rd_chg (.list .num) hcx (fun b hb hl => by have hb : X22.heap.size ≤ b := hb; have h1 := HC23.out.size; have h2 := HB22.out.lt; have o0 := HO0.out; have o1 := HO2.out; have o2 := HO4.out; have o3 := HO16.out; have o4 := HOb16.out; have o5 := HO19.out; (try dsimp only); omega) hr)
            have HX25 := Lib.hid hX
            clear hr hs hc hb' hcx hX
            go_upto_region 21 with fail
            rw [← HX25.out]
            have HCX16 := Lib.hid (show Chg (fun b => b = rb) wr16 X25 from Chg.more HC26.out (fun b hb e => by have o0 := HO0.out; have o1 := HO2.out; have o2 := HO4.out; have o3 := HO16.out; have o4 := HOb16.out; have o5 := HO19.out; omega))
            have HX16 := Lib.hid (show (Ty.rd tForeignKey).rd X25 (wr16.heap.size ≤ ·) [.slice q18_a0 q18_n0 q18_c0, .string q21_0, .slice q24_a0 q24_n0 q24_c0] y16 from by
              rw [e16DEC.out.1]
              have h0 := Rd.more (F := (fun b => b16 ≤ b ∧ b ≠ k19)) (G := (wr16.heap.size ≤ ·)) (Ty.rd (.list .num)) (fun b hb => by have := HOb16.out; (try dsimp only at hb ⊢); omega) HV26_0.out
              have h1 := Rd.more (F := (fun b => b16 ≤ b ∧ b ≠ k19)) (G := (wr16.heap.size ≤ ·)) (Ty.rd .str) (fun b hb => by have := HOb16.out; (try dsimp only at hb ⊢); omega) HV26_1.out
              have h2 := Rd.more (F := (fun b => b16 ≤ b ∧ b ≠ k19)) (G := (wr16.heap.size ≤ ·)) (Ty.rd (.list .num)) (fun b hb => by have := HOb16.out; (try dsimp only at hb ⊢); omega) HV25.out
              exact ⟨_, _, rfl, h0, _, _, rfl, h1, h2⟩)
            have HRX16 := Lib.hid (show RefR X25 rb B y2_16 from by rw [e16DEC.out.2]; exact HR25.out)
            have HAX16 := Lib.hid (HA16.out.turn HCX16.out HRX16.out)
            have HB3_16 := Lib.hid (show Below X25.heap.size X25 (X25.alloc (.cells #[.slice q18_a0 q18_n0 q18_c0, .string q21_0, .slice q24_a0 q24_n0 q24_c0] 154)) from (Below.refl _ _).alloc (Nat.le_refl _) _)
            have HA3_16 := Lib.hid (HAX16.out.below HB3_16.out)
            have qb16_0 := HB25.out.cell 0 _ rfl
            have qb16_1 := HB25.out.cell 1 _ rfl
            have qb16_2 := HB25.out.cell 2 _ rfl
            have qv16 : X25.cell? ⟨k2, 3, none⟩ = some v16 := HAX16.out.blk.cell 3 _ rfl
            go_wp2_with (at_builtin; refine wpList_append_o rfl _ _ 66 rfl B16 154 i0_16 _ 3 64 Tryz.underlying66 HI16.out.1 HI16.out.2.1 HI16.out.2.2.1 HI16.out.2.2.2 rfl (by decide) v16 l16.length xs16 rfl HA3_16.out.rows.row _ 1 [.slice q18_a0 q18_n0 q18_c0, .string q21_0, .slice q24_a0 q24_n0 q24_c0] rfl (sl_cells1 X25 _ _ rfl) (fun _ _ h => by cases h) (by simp [Value.oneCell']) (by have := HLE16.out; have := HM1_16.out; unfold maxLen; omega) (by have := HLE16.out; have := HM1_16.out; omega) HA3_16.out.ord.2.2.1 ?_)
            intro v' w4 h1 h2 h3
            obtain ⟨va, vn, vc, rfl⟩ := ownk_shape h1
            have hbk := HA3_16.out.app h2
            have tb := hbk.cell 3 _ rfl
            have zb := hbk.free 3
            have HST4 := Lib.hid (HA16.out.step HCX16.out HRX16.out HX16.out HB3_16.out h1 h2 (by rw [World.size_alloc]; exact h3))
            clear h1 h2 h3 hbk
            go_wp2
            go_roundg k'
            case rel => exact ⟨j16 + 1, k', y2_16, l16 ++ [y16], _, _, rfl, by have := HQ16.out; omega, by go_num, HST4.out, HMK2_16.out, by have := HLE16.out; simp; omega, HL2_16.out.1, HL2_16.out.2⟩
            case measure => omega
    case rest =>
      generalize wc = X16 at *
      obtain ⟨la16, ln16, lc16, hr, hb, hl, hc⟩ := hcut
      have HRl16 := Lib.hid hr
      have HBl16 := Lib.hid hb
      have HTl16 := Lib.hid hc
      have HB27_z := Lib.hid (show Blk X16 w.heap.size [.string ⟨#[]⟩, .slice none 0 0, .slice none 0 0, .slice none 0 0, .slice none 0 0] from HB17_z.out.chg HTl16.out (by have o0 := HO0.out; have o1 := HO2.out; have o2 := HO4.out; have o3 := HO16.out; omega))
      have HV27_0 := Lib.hid (show (Ty.rd .str).rd X16 (fun b => bs ≤ b ∧ b ≠ w.heap.size ∧ b ≠ rb ∧ b ≠ k2) [.string q1_0] px0 from rd_chg .str HTl16.out (fun b hb hl => ⟨fun e => by have o0 := HO0.out; have o1 := HO2.out; have o2 := HO4.out; have o3 := HO16.out; omega, hb⟩) HV17_0.out)
      have HV27_1 := Lib.hid (show (Ty.rd (.list tSchemaVersion)).rd X16 (fun b => bs ≤ b ∧ b ≠ w.heap.size ∧ b ≠ rb ∧ b ≠ k2) [.slice la4 ln4 lc4] px1 from rd_chg (.list tSchemaVersion) HTl16.out (fun b hb hl => ⟨fun e => by have o0 := HO0.out; have o1 := HO2.out; have o2 := HO4.out; have o3 := HO16.out; omega, hb⟩) HV17_1.out)
      have HV27_2 := Lib.hid (show (Ty.rd (.list .num)).rd X16 (fun b => bs ≤ b ∧ b ≠ w.heap.size ∧ b ≠ rb ∧ b ≠ k2) [.slice q13_a0 q13_n0 q13_c0] px2 from rd_chg (.list .num) HTl16.out (fun b hb hl => ⟨fun e => by have o0 := HO0.out; have o1 := HO2.out; have o2 := HO4.out; have o3 := HO16.out; omega, hb⟩) HV17_2.out)
      have HC27 := Lib.hid (show Chg (fun b => b = rb ∨ bs ≤ b) w X16 from HC17.out.trans (Chg.more HTl16.out (fun b _ e => by have o0 := HO0.out; have o1 := HO2.out; have o2 := HO4.out; have o3 := HO16.out; omega)))
      have HVl16 := Lib.hid (show (Ty.rd (.list tForeignKey)).rd X16 (fun b => bs ≤ b ∧ b ≠ w.heap.size ∧ b ≠ rb ∧ b ≠ k2) [.slice la16 ln16 lc16] px3 from Rd.more _ (fun b hb => by have hb : B16 ≤ b := hb; have o0 := HO0.out; have o1 := HO2.out; have o2 := HO4.out; have o3 := HO16.out; (try dsimp only); omega) hl)
      clear hr hb hl hc
      obtain ⟨n28, z28, hn⟩ : ∃ n s', dsize ps4 = (n, s') := ⟨_, _, rfl⟩
      have HN28 := Lib.hid hn
      have HLS28 := Lib.hid (show dmany (dec tConstraint) n28 z28 = (px4, ps5) from by
        have h := pHD4.out
        replace h : dmany (dec tConstraint) (dsize ps4).1 (dsize ps4).2 = _ := h
        rw [hn] at h; exact h)
      obtain ⟨hm1, hm2⟩ := pHM4.out
      rw [hn] at hm1 hm2
      replace hm1 : n28 ≤ 1073741824 := hm1
      have HMM28 := Lib.hid hm2
      have HM1_28 := Lib.hid hm1
      have hn0_28 : 0 ≤ (n28 : Int) ∧ (n28 : Int) ≤ 1073741824 := by omega
      have hsz := rcd_length HRl16.out
      rw [hn] at hsz
      have HSZ28 := Lib.hid hsz
      clear hsz hn hm1 hm2
      go_wp2_with fail
      refine HSZ28.out.mono ?_
      rintro e w28 ⟨rfl, hr, hc⟩
      have HR28 := Lib.hid (show RefR w28 rb B z28 from hr)
      have HT28 := Lib.hid hc
      clear hr hc
      have HB29_z := Lib.hid (show Blk w28 w.heap.size [.string ⟨#[]⟩, .slice none 0 0, .slice none 0 0, .slice none 0 0, .slice none 0 0] from HB27_z.out.chg HT28.out (by have o0 := HO0.out; have o1 := HO2.out; have o2 := HO4.out; have o3 := HO16.out; omega))
      have HB29_2 := Lib.hid (show Blk w28 k2 [.string q1_0, .slice la4 ln4 lc4, .slice q13_a0 q13_n0 q13_c0, .slice la16 ln16 lc16, .slice none 0 0] from HBl16.out.chg HT28.out (by have o0 := HO0.out; have o1 := HO2.out; have o2 := HO4.out; have o3 := HO16.out; omega))
      have HV29_0 := Lib.hid (show (Ty.rd .str).rd w28 (fun b => bs ≤ b ∧ b ≠ w.heap.size ∧ b ≠ rb ∧ b ≠ k2) [.string q1_0] px0 from rd_chg .str HT28.out (fun b hb hl => ⟨fun e => by have o0 := HO0.out; have o1 := HO2.out; have o2 := HO4.out; have o3 := HO16.out; omega, hb⟩) HV27_0.out)
      have HV29_1 := Lib.hid (show (Ty.rd (.list tSchemaVersion)).rd w28 (fun b => bs ≤ b ∧ b ≠ w.heap.size ∧ b ≠ rb ∧ b ≠ k2) [.slice la4 ln4 lc4] px1 from rd_chg (.list tSchemaVersion) HT28.out (fun b hb hl => ⟨fun e => by have o0 := HO0.out; have o1 := HO2.out; have o2 := HO4.out; have o3 := HO16.out; omega, hb⟩) HV27_1.out)
      have HV29_2 := Lib.hid (show (Ty.rd (.list .num)).rd w28 (fun b => bs ≤ b ∧ b ≠ w.heap.size ∧ b ≠ rb ∧ b ≠ k2) [.slice q13_a0 q13_n0 q13_c0] px2 from rd_chg (.list .num) HT28.out (fun b hb hl => ⟨fun e => by have o0 := HO0.out; have o1 := HO2.out; have o2 := HO4.out; have o3 := HO16.out; omega, hb⟩) HV27_2.out)
      have HV29_3 := Lib.hid (show (Ty.rd (.list tForeignKey)).rd w28 (fun b => bs ≤ b ∧ b ≠ w.heap.size ∧ b ≠ rb ∧ b ≠ k2) [.slice la16 ln16 lc16] px3 from rd_chg (.list tForeignKey) HT28.out (fun b hb hl => ⟨fun e => by have o0 := HO0.out; have o1 := HO2.out; have o2 := HO4.out; have o3 := HO16.out; omega, hb⟩) HVl16.out)
      have HC29 := Lib.hid (show Chg (fun b => b = rb ∨ bs ≤ b) w w28 from HC27.out.trans (Chg.more HT28.out (fun b _ e => by have o0 := HO0.out; have o1 := HO2.out; have o2 := HO4.out; have o3 := HO16.out; omega)))
      obtain ⟨B28, hBL⟩ : ∃ b, b = w28.heap.size := ⟨_, rfl⟩
      have HO28 := Lib.hid (show B28 = w28.heap.size ∧ bs ≤ B28 ∧ k2 < B28 from ⟨hBL, by have h := HC29.out.size; have o0 := HO0.out; have o1 := HO2.out; have o2 := HO4.out; have o3 := HO16.out; omega, by rw [hBL]; exact HB29_2.out.lt⟩)
      clear hBL
      have HLA28 := Lib.hid (show LoopAt tConstraint 156 2 B28 rb B k2 [.string q1_0, .slice la4 ln4 lc4, .slice q13_a0 q13_n0 q13_c0, .slice la16 ln16 lc16, .slice none 0 0] 4 w28 w28 z28 [] [] (.slice none 0 0) from LoopAt.start HR28.out HB29_2.out rfl (by simp) (by have o0 := HO0.out; have o1 := HO2.out; have o2 := HO4.out; have o3 := HO16.out; have o4 := HO28.out; omega) (by have o0 := HO0.out; have o1 := HO2.out; have o2 := HO4.out; have o3 := HO16.out; have o4 := HO28.out; omega))
      go_upto_block 6 with fail
      go_cut [11] (fun t11 wx => ∃ (a : Option Addr) (nn c : Nat), RefR wx rb B ps5 ∧ Blk wx k2 [.string q1_0, .slice la4 ln4 lc4, .slice q13_a0 q13_n0 q13_c0, .slice la16 ln16 lc16, .slice a nn c] ∧ (Ty.rd (.list tConstraint)).rd wx (B28 ≤ ·) [.slice a nn c] px4 ∧ Chg (fun b => b = rb ∨ b = k2 ∨ B28 ≤ b) w28 wx)
      case first =>
        go_wp2_with fail
        go_loopg [11] n28 (fun gk t11 wr => ∃ (q k : Nat) (sc : St) (l : List (Ty.T tConstraint)) (xs : List Value) (v : Value), gk = k ∧ q + k = n28 ∧ t11 = .int .i64 (q : Int) ∧ LoopAt tConstraint 156 2 B28 rb B k2 [.string q1_0, .slice la4 ln4 lc4, .slice q13_a0 q13_n0 q13_c0, .slice la16 ln16 lc16, .slice none 0 0] 4 w28 wr sc l xs v ∧ ModMany (Mod tConstraint) (dec tConstraint) k sc ∧ l.length + k ≤ n28 ∧ l ++ (dmany (dec tConstraint) k sc).1 = px4 ∧ (dmany (dec tConstraint) k sc).2 = ps5)
        case atStart =>
          exact ⟨0, n28, z28, [], [], .slice none 0 0, rfl, by omega, rfl, HLA28.out, HMM28.out, by simp, by rw [HLS28.out]; rfl, by rw [HLS28.out]⟩
        case round =>
          generalize gk = gk28 at *
          generalize wr = wr28 at *
          obtain ⟨j28, kk, sc28, l28, xs28, v28, rfl, hqk, rfl, hla, hm, hle, hL, hS⟩ := hrel
          have HQ28 := Lib.hid hqk
          have HA28 := Lib.hid hla
          have HMK28 := Lib.hid hm
          have HLE28 := Lib.hid hle
          have HLL28 := Lib.hid hL
          have HSS28 := Lib.hid hS
          have hq0_28 : 0 ≤ (j28 : Int) ∧ (j28 : Int) ≤ 1073741824 := by have := HM1_28.out; omega
          obtain ⟨ii, err28, hp, hst⟩ := hla.r.at_
          have c2_28 := hp.c2
          have HST28 := Lib.hid hst
          clear hqk hla hm hle hL hS hp hst
          by_cases hk28 : gk28 = 0
          · have hqn : j28 = n28 := by have := HQ28.out; omega
            have hd1 : decide ((j28 : Int) < (n28 : Int)) = false := decide_eq_false (by omega)
            have hd1' : ¬ (j28 : Int) < (n28 : Int) := by omega
            clear hqn
            subst hk28
            have HE1 := Lib.hid (show l28 = px4 from by have := HLL28.out; simpa [dmany] using this)
            have HE2 := Lib.hid (show sc28 = ps5 from by have := HSS28.out; exact this)
            obtain ⟨a, nn, c, rfl, hfl⟩ := HA28.out.list
            have HFL := Lib.hid hfl
            clear hfl
            go_wp2
            go_meet
            exact ⟨a, nn, c, by rw [← HE2.out]; exact HA28.out.r, HA28.out.blk, by rw [← HE1.out]; exact HFL.out, HA28.out.chg⟩
          · have hd1 : decide ((j28 : Int) < (n28 : Int)) = true := decide_eq_true (by have := HQ28.out; omega)
            have hd1' : (j28 : Int) < (n28 : Int) := by have := HQ28.out; omega
            cases sc28 with
            | error e =>
              obtain ⟨he1, he⟩ := HST28.out.2 e rfl
              have g0 : (err28 == 0) = false := by rw [he1]; rcases he with rfl | rfl <;> rfl
              have HE1 := Lib.hid (show l28 = px4 from by have := HLL28.out; rw [dmany_error] at this; simpa using this)
              have HE2 := Lib.hid (show (.error e : St) = ps5 from by have := HSS28.out; rw [dmany_error] at this; exact this)
              clear he he1
              obtain ⟨a, nn, c, rfl, hfl⟩ := HA28.out.list
              have HFL := Lib.hid hfl
              clear hfl
              go_wp2
              go_meet
              exact ⟨a, nn, c, by rw [← HE2.out]; exact HA28.out.r, HA28.out.blk, by rw [← HE1.out]; exact HFL.out, HA28.out.chg⟩
            | ok r28 =>
              obtain ⟨rfl, -⟩ := HST28.out.1 r28 rfl
              obtain ⟨k', rfl⟩ : ∃ k', gk28 = k' + 1 := ⟨gk28 - 1, by omega⟩
              obtain ⟨rr28, hrr⟩ : ∃ s : St, s = .ok r28 := ⟨_, rfl⟩
              obtain ⟨y28, y2_28, hd⟩ : ∃ x s', dec tConstraint rr28 = (x, s') := ⟨_, _, rfl⟩
              have HL2_28 := Lib.hid (show (l28 ++ [y28]) ++ (dmany (dec tConstraint) k' y2_28).1 = px4 ∧ (dmany (dec tConstraint) k' y2_28).2 = ps5 from by
                have h1 := HLL28.out; have h2 := HSS28.out
                rw [dmany, ← hrr] at h1 h2
                simp only [hd] at h1 h2
                exact ⟨by simpa using h1, h2⟩)
              have hM2 : Mod tConstraint rr28 ∧ ModMany (Mod tConstraint) (dec tConstraint) k' y2_28 := by
                have h1 := HMK28.out
                rw [ModMany, ← hrr] at h1
                simp only [hd] at h1
                exact h1
              have HMK2_28 := Lib.hid hM2.2
              have HRR28 := Lib.hid (show RefR wr28 rb B rr28 from by rw [hrr]; exact HA28.out.r)
              have HDY28 := Lib.hid hd
              have hmy := hM2.1
              clear hd hM2 hrr
              obtain ⟨i0_28, hi0, hz0, hz1, hz2⟩ := info_parts info_t_Constraint
              have HI28 := Lib.hid (And.intro hi0 (And.intro hz0 (And.intro hz1 hz2)))
              clear hi0 hz0 hz1 hz2
              obtain ⟨b28, hbs⟩ : ∃ b, b = wr28.heap.size := ⟨_, rfl⟩
              have HOb28 := Lib.hid (show b28 = wr28.heap.size ∧ B28 ≤ b28 ∧ k2 < b28 from ⟨hbs, by rw [hbs]; exact HA28.out.ord.2.2.1, by have := HA28.out.ord; omega⟩)
              have HC0_28 := Lib.hid (show Chg (fun b => b = rb ∨ b28 ≤ b) wr28 wr28 from Chg.refl _ _)
              clear hbs
              obtain ⟨e28x0, e28s1, e28hd0⟩ : ∃ x s', dec .num rr28 = (x, s') := ⟨_, _, rfl⟩
              obtain ⟨e28x1, e28s2, e28hd1⟩ : ∃ x s', dec (.list .num) e28s1 = (x, s') := ⟨_, _, rfl⟩
              obtain ⟨e28hm0, e28hm1⟩ := hmy
              simp only [e28hd0] at e28hm1
              have e28HM0 := Lib.hid e28hm0
              have e28HM1 := Lib.hid e28hm1
              have e28HD0 := Lib.hid e28hd0
              have e28HD1 := Lib.hid e28hd1
              have e28DEC := Lib.hid (show y28 = (e28x0, e28x1) ∧ y2_28 = e28s2 from by
                have h := HDY28.out
                replace h : dec (.pair .num (.list .num)) rr28 = _ := h
                simp only [dec_pair, e28hd0, e28hd1] at h
                cases h; exact ⟨rfl, rfl⟩)
              clear e28hd0 e28hd1 e28hm0 e28hm1
              go_wp2_with fail
              refine (rget_int wr28 rb B rr28 HRR28.out e28HM0.out).mono ?_
              rintro e w31 ⟨cs, rfl, hr, hs, hc⟩
              rw [e28HD0.out] at hr hs
              dsimp only at hr hs
              obtain ⟨q30_0, rfl⟩ : ∃ z : Int, cs = [.int .i64 z] := ⟨_, hr.1⟩
              have hg : goV [.int .i64 q30_0] = .int .i64 q30_0 := rfl
              rw [hg]
              clear hg
              obtain ⟨k31, hk⟩ : ∃ k, k = w31.heap.size := ⟨_, rfl⟩
              obtain ⟨X31, hX⟩ : ∃ X, X = w31.alloc (.cells #[.int .i64 q30_0, .slice none 0 0] 156) := ⟨_, rfl⟩
              have hbx : Below w31.heap.size w31 X31 := by rw [hX]; exact (Below.refl _ _).alloc (Nat.le_refl _) _
              have HO31 := Lib.hid (show k2 < k31 ∧ b28 ≤ k31 ∧ k31 < X31.heap.size from by
                have h1 := HC0_28.out.size; have h2 := hc.size; have h3 : X31.heap.size = w31.heap.size + 1 := by rw [hX]; simp
                have o0 := HO0.out; have o1 := HO2.out; have o2 := HO4.out; have o3 := HO16.out; have o4 := HO28.out; have o5 := HOb28.out
                omega)
              have HR31 := Lib.hid (hs.below hbx)
              have hstep : Chg (fun b => b = rb) wr28 X31 := hc.trans ((Chg.of_below hbx))
              have HT31 := Lib.hid hstep
              have HC32 := Lib.hid (show Chg (fun b => b = rb ∨ b28 ≤ b) wr28 X31 from HC0_28.out.trans (Chg.more HT31.out (fun b _ e => by have o0 := HO0.out; have o1 := HO2.out; have o2 := HO4.out; have o3 := HO16.out; have o4 := HO28.out; have o5 := HOb28.out; have o6 := HO31.out; omega)))
              have HV31 := Lib.hid (show (Ty.rd .num).rd X31 (fun b => b28 ≤ b ∧ b ≠ k31) [.int .i64 q30_0] e28x0 from rd_chg .num (K := fun _ => False) (Chg.of_below hbx) (fun b hb hl => ⟨id, by have hb : wr28.heap.size ≤ b := hb; have h1 := HC0_28.out.size; have o0 := HO0.out; have o1 := HO2.out; have o2 := HO4.out; have o3 := HO16.out; have o4 := HO28.out; have o5 := HOb28.out; have o6 := HO31.out; omega⟩) hr)
              have HB31 := Lib.hid (show Blk X31 k31 [.int .i64 q30_0, .slice none 0 0] from by rw [hX, hk]; exact Blk.new w31 _ _)
              have HK31 := Lib.hid hk
              have HX31 := Lib.hid hX
              clear hr hs hc hk hX hbx hstep
              go_wp2_with fail
              rw [← HK31.out, ← HX31.out]
              refine (rget_ints X31 rb B e28s1 HR31.out e28HM1.out).mono ?_
              rintro e w34 ⟨cs, rfl, hr, hs, hc⟩
              rw [e28HD1.out] at hr hs
              dsimp only at hr hs
              obtain ⟨q33_a0, q33_n0, q33_c0, rfl⟩ : ∃ a n c, cs = [.slice a n c] := by obtain ⟨a, n, c, e, _⟩ := id hr; exact ⟨a, n, c, e⟩
              have hg : goV [.slice q33_a0 q33_n0 q33_c0] = .slice q33_a0 q33_n0 q33_c0 := rfl
              rw [hg]
              clear hg
              have hb' := HB31.out.chg hc (by have o0 := HO0.out; have o1 := HO2.out; have o2 := HO4.out; have o3 := HO16.out; have o4 := HO28.out; have o5 := HOb28.out; have o6 := HO31.out; omega)
              have t0 := hb'.cell 1 _ rfl
              have z0 := hb'.free 1
              obtain ⟨X34, hX⟩ : ∃ X, X = (w34.setCell ⟨k31, 1, none⟩ (.slice q33_a0 q33_n0 q33_c0)) := ⟨_, rfl⟩
              have hcx : Chg (fun b => b = k31) w34 X34 := by
                have g : ∀ (u : World) (j : Nat) (v : Value), Chg (fun b => b = k31) u (u.setCell ⟨k31, j, none⟩ v) := fun u j v => Chg.setCell _ _ rfl
                rw [hX]
                exact (g _ _ _)
              have HB34 := Lib.hid (show Blk X34 k31 [.int .i64 q30_0, .slice q33_a0 q33_n0 q33_c0] from by rw [hX]; exact (hb'.set 1 (.slice q33_a0 q33_n0 q33_c0) (by simp)))
              have HR34 := Lib.hid (hs.keep (hcx.more (fun b _ e => by have o0 := HO0.out; have o1 := HO2.out; have o2 := HO4.out; have o3 := HO16.out; have o4 := HO28.out; have o5 := HOb28.out; have o6 := HO31.out; omega)))
              have HT34 := Lib.hid (show Chg (fun b => b = rb ∨ b = k31) X31 X34 from (hc.more (fun b _ e => .inl e)).trans (hcx.more (fun b _ e => .inr e)))
              have HV35_0 := Lib.hid (show (Ty.rd .num).rd X34 (fun b => b28 ≤ b ∧ b ≠ k31) [.int .i64 q30_0] e28x0 from rd_chg .num HT34.out (fun b hb hl => ⟨fun e => by have o0 := HO0.out; have o1 := HO2.out; have o2 := HO4.out; have o3 := HO16.out; have o4 := HO28.out; have o5 := HOb28.out; have o6 := HO31.out; omega, hb⟩) HV31.out)
              have HC35 := Lib.hid (show Chg (fun b => b = rb ∨ b28 ≤ b) wr28 X34 from HC32.out.trans (Chg.more HT34.out (fun b _ e => by have o0 := HO0.out; have o1 := HO2.out; have o2 := HO4.out; have o3 := HO16.out; have o4 := HO28.out; have o5 := HOb28.out; have o6 := HO31.out; omega)))
              have HV34 := Lib.hid (show (Ty.rd (.list .num)).rd X34 (fun b => b28 ≤ b ∧ b ≠ k31) [.slice q33_a0 q33_n0 q33_c0] e28x1 from rd_chg (.list .num) hcx (fun b hb hl => by have hb : X31.heap.size ≤ b := hb; have h1 := HC32.out.size; have h2 := HB31.out.lt; have o0 := HO0.out; have o1 := HO2.out; have o2 := HO4.out; have o3 := HO16.out; have o4 := HO28.out; have o5 := HOb28.out; have o6 := HO31.out; (try dsimp only); omega) hr)
              have HX34 := Lib.hid hX
              clear hr hs hc hb' hcx hX
              go_upto_region 28 with fail
              rw [← HX34.out]
              have HCX28 := Lib.hid (show Chg (fun b => b = rb) wr28 X34 from Chg.more HC35.out (fun b hb e => by have o0 := HO0.out; have o1 := HO2.out; have o2 := HO4.out; have o3 := HO16.out; have o4 := HO28.out; have o5 := HOb28.out; have o6 := HO31.out; omega))
              have HX28 := Lib.hid (show (Ty.rd tConstraint).rd X34 (wr28.heap.size ≤ ·) [.int .i64 q30_0, .slice q33_a0 q33_n0 q33_c0] y28 from by
                rw [e28DEC.out.1]
                have h0 := Rd.more (F := (fun b => b28 ≤ b ∧ b ≠ k31)) (G := (wr28.heap.size ≤ ·)) (Ty.rd .num) (fun b hb => by have := HOb28.out; (try dsimp only at hb ⊢); omega) HV35_0.out
                have h1 := Rd.more (F := (fun b => b28 ≤ b ∧ b ≠ k31)) (G := (wr28.heap.size ≤ ·)) (Ty.rd (.list .num)) (fun b hb => by have := HOb28.out; (try dsimp only at hb ⊢); omega) HV34.out
                exact ⟨_, _, rfl, h0, h1⟩)
              have HRX28 := Lib.hid (show RefR X34 rb B y2_28 from by rw [e28DEC.out.2]; exact HR34.out)
              have HAX28 := Lib.hid (HA28.out.turn HCX28.out HRX28.out)
              have HB3_28 := Lib.hid (show Below X34.heap.size X34 (X34.alloc (.cells #[.int .i64 q30_0, .slice q33_a0 q33_n0 q33_c0] 156)) from (Below.refl _ _).alloc (Nat.le_refl _) _)
              have HA3_28 := Lib.hid (HAX28.out.below HB3_28.out)
              have qb28_0 := HB34.out.cell 0 _ rfl
              have qb28_1 := HB34.out.cell 1 _ rfl
              have qv28 : X34.cell? ⟨k2, 4, none⟩ = some v28 := HAX28.out.blk.cell 4 _ rfl
              go_wp2_with (at_builtin; refine wpList_append_o rfl _ _ 67 rfl B28 156 i0_28 _ 2 32 Tryz.underlying67 HI28.out.1 HI28.out.2.1 HI28.out.2.2.1 HI28.out.2.2.2 rfl (by decide) v28 l28.length xs28 rfl HA3_28.out.rows.row _ 1 [.int .i64 q30_0, .slice q33_a0 q33_n0 q33_c0] rfl (sl_cells1 X34 _ _ rfl) (fun _ _ h => by cases h) (by simp [Value.oneCell']) (by have := HLE28.out; have := HM1_28.out; unfold maxLen; omega) (by have := HLE28.out; have := HM1_28.out; omega) HA3_28.out.ord.2.2.1 ?_)
              intro v' w4 h1 h2 h3
              obtain ⟨va, vn, vc, rfl⟩ := ownk_shape h1
              have hbk := HA3_28.out.app h2
              have tb := hbk.cell 4 _ rfl
              have zb := hbk.free 4
              have HST4 := Lib.hid (HA28.out.step HCX28.out HRX28.out HX28.out HB3_28.out h1 h2 (by rw [World.size_alloc]; exact h3))
              clear h1 h2 h3 hbk
              go_wp2
              go_roundg k'
              case rel => exact ⟨j28 + 1, k', y2_28, l28 ++ [y28], _, _, rfl, by have := HQ28.out; omega, by go_num, HST4.out, HMK2_28.out, by have := HLE28.out; simp; omega, HL2_28.out.1, HL2_28.out.2⟩
              case measure => omega
      case rest =>
        generalize wc = X28 at *
        obtain ⟨la28, ln28, lc28, hr, hb, hl, hc⟩ := hcut
        have HRl28 := Lib.hid hr
        have HBl28 := Lib.hid hb
        have HTl28 := Lib.hid hc
        have HB36_z := Lib.hid (show Blk X28 w.heap.size [.string ⟨#[]⟩, .slice none 0 0, .slice none 0 0, .slice none 0 0, .slice none 0 0] from HB29_z.out.chg HTl28.out (by have o0 := HO0.out; have o1 := HO2.out; have o2 := HO4.out; have o3 := HO16.out; have o4 := HO28.out; omega))
        have HV36_0 := Lib.hid (show (Ty.rd .str).rd X28 (fun b => bs ≤ b ∧ b ≠ w.heap.size ∧ b ≠ rb ∧ b ≠ k2) [.string q1_0] px0 from rd_chg .str HTl28.out (fun b hb hl => ⟨fun e => by have o0 := HO0.out; have o1 := HO2.out; have o2 := HO4.out; have o3 := HO16.out; have o4 := HO28.out; omega, hb⟩) HV29_0.out)
        have HV36_1 := Lib.hid (show (Ty.rd (.list tSchemaVersion)).rd X28 (fun b => bs ≤ b ∧ b ≠ w.heap.size ∧ b ≠ rb ∧ b ≠ k2) [.slice la4 ln4 lc4] px1 from rd_chg (.list tSchemaVersion) HTl28.out (fun b hb hl => ⟨fun e => by have o0 := HO0.out; have o1 := HO2.out; have o2 := HO4.out; have o3 := HO16.out; have o4 := HO28.out; omega, hb⟩) HV29_1.out)
        have HV36_2 := Lib.hid (show (Ty.rd (.list .num)).rd X28 (fun b => bs ≤ b ∧ b ≠ w.heap.size ∧ b ≠ rb ∧ b ≠ k2) [.slice q13_a0 q13_n0 q13_c0] px2 from rd_chg (.list .num) HTl28.out (fun b hb hl => ⟨fun e => by have o0 := HO0.out; have o1 := HO2.out; have o2 := HO4.out; have o3 := HO16.out; have o4 := HO28.out; omega, hb⟩) HV29_2.out)
        have HV36_3 := Lib.hid (show (Ty.rd (.list tForeignKey)).rd X28 (fun b => bs ≤ b ∧ b ≠ w.heap.size ∧ b ≠ rb ∧ b ≠ k2) [.slice la16 ln16 lc16] px3 from rd_chg (.list tForeignKey) HTl28.out (fun b hb hl => ⟨fun e => by have o0 := HO0.out; have o1 := HO2.out; have o2 := HO4.out; have o3 := HO16.out; have o4 := HO28.out; omega, hb⟩) HV29_3.out)
        have HC36 := Lib.hid (show Chg (fun b => b = rb ∨ bs ≤ b) w X28 from HC29.out.trans (Chg.more HTl28.out (fun b _ e => by have o0 := HO0.out; have o1 := HO2.out; have o2 := HO4.out; have o3 := HO16.out; have o4 := HO28.out; omega)))
        have HVl28 := Lib.hid (show (Ty.rd (.list tConstraint)).rd X28 (fun b => bs ≤ b ∧ b ≠ w.heap.size ∧ b ≠ rb ∧ b ≠ k2) [.slice la28 ln28 lc28] px4 from Rd.more _ (fun b hb => by have hb : B28 ≤ b := hb; have o0 := HO0.out; have o1 := HO2.out; have o2 := HO4.out; have o3 := HO16.out; have o4 := HO28.out; (try dsimp only); omega) hl)
        clear hr hb hl hc
        have q0 := HBl28.out.cell 0 _ rfl
        have zc0 := HB36_z.out.cell 0 _ rfl
        have zf0 := HB36_z.out.free 0
        have q1 := HBl28.out.cell 1 _ rfl
        have zc1 := HB36_z.out.cell 1 _ rfl
        have zf1 := HB36_z.out.free 1
        have q2 := HBl28.out.cell 2 _ rfl
        have zc2 := HB36_z.out.cell 2 _ rfl
        have zf2 := HB36_z.out.free 2
        have q3 := HBl28.out.cell 3 _ rfl
        have zc3 := HB36_z.out.cell 3 _ rfl
        have zf3 := HB36_z.out.free 3
        have q4 := HBl28.out.cell 4 _ rfl
        have zc4 := HB36_z.out.cell 4 _ rfl
        have zf4 := HB36_z.out.free 4
        go_wp2
        obtain ⟨Wf, hWf⟩ : ∃ Wf, Wf = (((((X28.setCell ⟨w.heap.size, 0, none⟩ (.string q1_0)).setCell ⟨w.heap.size, 1, none⟩ (.slice la4 ln4 lc4)).setCell ⟨w.heap.size, 2, none⟩ (.slice q13_a0 q13_n0 q13_c0)).setCell ⟨w.heap.size, 3, none⟩ (.slice la16 ln16 lc16)).setCell ⟨w.heap.size, 4, none⟩ (.slice la28 ln28 lc28)) := ⟨_, rfl⟩
        rw [← hWf]
        have hcf : Chg (fun b => b = w.heap.size) X28 Wf := by
          have g : ∀ (u : World) (j : Nat) (v : Value), Chg (fun b => b = w.heap.size) u (u.setCell ⟨w.heap.size, j, none⟩ v) := fun u j v => Chg.setCell _ _ rfl
          rw [hWf]
          exact (Chg.trans (Chg.trans (Chg.trans (Chg.trans (g _ _ _) (g _ _ _)) (g _ _ _)) (g _ _ _)) (g _ _ _))
        have HBF := Lib.hid (show Blk Wf w.heap.size [.string q1_0, .slice la4 ln4 lc4, .slice q13_a0 q13_n0 q13_c0, .slice la16 ln16 lc16, .slice la28 ln28 lc28] from by rw [hWf]; exact (((((HB36_z.out.set 0 (.string q1_0) (by simp)).set 1 (.slice la4 ln4 lc4) (by simp)).set 2 (.slice q13_a0 q13_n0 q13_c0) (by simp)).set 3 (.slice la16 ln16 lc16) (by simp)).set 4 (.slice la28 ln28 lc28) (by simp)))
        clear hWf q0 zc0 zf0 q1 zc1 zf1 q2 zc2 zf2 q3 zc3 zf3 q4 zc4 zf4
        have sc0 := HBF.out.cell 0 _ rfl
        have sc1 := HBF.out.cell 1 _ rfl
        have sc2 := HBF.out.cell 2 _ rfl
        have sc3 := HBF.out.cell 3 _ rfl
        have sc4 := HBF.out.cell 4 _ rfl
        refine bodyPost_ret (v := .agg #[.string q1_0, .slice la4 ln4 lc4, .slice q13_a0 q13_n0 q13_c0, .slice la16 ln16 lc16, .slice la28 ln28 lc28]) (by simp [sc0, sc1, sc2, sc3, sc4, results, Tryz.results87, go_sem]) rfl ?_
        refine ⟨[.string q1_0, .slice la4 ln4 lc4, .slice q13_a0 q13_n0 q13_c0, .slice la16 ln16 lc16, .slice la28 ln28 lc28], rfl, ?_, ?_, ?_⟩
        · rw [HDEC.out]
          have h0 : (Ty.rd .str).rd Wf (w.heap.size ≤ ·) _ _ := rd_chg .str hcf (fun b hb hl => by have o0 := HO0.out; (try dsimp only at hb ⊢); omega) HV36_0.out
          have h1 : (Ty.rd (.list tSchemaVersion)).rd Wf (w.heap.size ≤ ·) _ _ := rd_chg (.list tSchemaVersion) hcf (fun b hb hl => by have o0 := HO0.out; (try dsimp only at hb ⊢); omega) HV36_1.out
          have h2 : (Ty.rd (.list .num)).rd Wf (w.heap.size ≤ ·) _ _ := rd_chg (.list .num) hcf (fun b hb hl => by have o0 := HO0.out; (try dsimp only at hb ⊢); omega) HV36_2.out
          have h3 : (Ty.rd (.list tForeignKey)).rd Wf (w.heap.size ≤ ·) _ _ := rd_chg (.list tForeignKey) hcf (fun b hb hl => by have o0 := HO0.out; (try dsimp only at hb ⊢); omega) HV36_3.out
          have h4 : (Ty.rd (.list tConstraint)).rd Wf (w.heap.size ≤ ·) _ _ := rd_chg (.list tConstraint) hcf (fun b hb hl => by have o0 := HO0.out; (try dsimp only at hb ⊢); omega) HVl28.out
          exact ⟨_, _, rfl, h0, _, _, rfl, h1, _, _, rfl, h2, _, _, rfl, h3, h4⟩
        · rw [HDEC.out]; exact HRl28.out.keep (hcf.more (fun b _ e => by have o0 := HO0.out; omega))
        · exact (HC36.out.trans (hcf.more (fun b _ e => .inr (by have o0 := HO0.out; omega)))).more (fun b hb e => e.elim id (fun e => by have o0 := HO0.out; omega))
end Go.Proofs.YtfppjpmflpaffaaGreat
