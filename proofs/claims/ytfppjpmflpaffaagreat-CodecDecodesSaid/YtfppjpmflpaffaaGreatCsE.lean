/-
  The reference's decoder: what has no loops but ints and values. Printed by gen_cs.py.
-/
import Derived.Test.YtfppjpmflpaffaaGreatCsD
import Derived.Test.YtfppjpmflpaffaaGreatCdJ
namespace Go.Proofs.YtfppjpmflpaffaaGreat
open Go.RowKit
set_option linter.unusedVariables false
set_option linter.unusedSimpArgs false

theorem info_rget_ints : (Tryz.prog.info? 3).map (fun i => (i.zero, i.size, i.bytes)) = some (some (.int .i64 0), 1, 8) := by kernel_rfl

set_option maxRecDepth 100000 in
set_option maxHeartbeats 4000000 in
theorem rget_ints : RGetC 90 (.list .num) := by
  intro w rb B s h hmod
  obtain ⟨i0, hi0, hz0, hz1, hz2⟩ := info_parts info_rget_ints
  obtain ⟨n, s1, hn⟩ : ∃ n s', dsize s = (n, s') := ⟨_, _, rfl⟩
  have hs := rcd_length h
  rw [hn] at hs
  obtain ⟨hm1, hm2⟩ := hmod
  rw [hn] at hm1 hm2
  replace hm1 : n ≤ 1073741824 := hm1
  obtain ⟨L, S', hLS⟩ : ∃ L S', dmany (dec .num) n s1 = (L, S') := ⟨_, _, rfl⟩
  have HDEC := Lib.hid (show dec (.list .num) s = (L, S') from by show dmany (dec .num) (dsize s).1 (dsize s).2 = _; rw [hn]; exact hLS)
  have HSZ := Lib.hid hs
  have HM := Lib.hid hm2
  have HM1 := Lib.hid hm1
  have HLS := Lib.hid hLS
  have HLT := Lib.hid h.lt
  have hn0 : 0 ≤ (n : Int) ∧ (n : Int) ≤ 1073741824 := by omega
  clear h hs hm1 hm2 hn hLS
  go_enter Tryz.func90, Tryz.ntmps90
  go_wp2_with fail
  refine HSZ.out.mono ?_
  rintro e w1 ⟨rfl, hr, hc⟩
  have HR1 := Lib.hid (show RefR w1 rb B s1 from hr)
  have HC1 := Lib.hid hc
  clear hr hc
  go_wp2
  go_loopg [3, 5] n (fun gk t3 t5 wr => ∃ (q k : Nat) (sc : St) (l : List (Ty.T .num)) (xs : List Value), gk = k ∧ q + k = n ∧ t5 = .int .i64 (q : Int) ∧ RefR wr rb B sc ∧ Rows .num 3 1 w.heap.size wr t3 l xs ∧ ModMany (Mod .num) (dec .num) k sc ∧ l.length + k ≤ n ∧ l ++ (dmany (dec .num) k sc).1 = L ∧ (dmany (dec .num) k sc).2 = S' ∧ Chg (fun b => b = rb ∨ w.heap.size ≤ b) w wr)
  case atStart =>
    exact ⟨0, n, s1, [], [], rfl, by omega, rfl, HR1.out, ⟨World.ownsRow_nil _ _ _ _, rarr_nil _ _ _⟩, HM.out, by simp, by rw [HLS.out]; rfl, by rw [HLS.out], HC1.out.more (fun b _ e => .inl e)⟩
  case round =>
    obtain ⟨q, k, sc, l, xs, rfl, hqk, rfl, hr, hrow, hm, hle, hL, hS, hc⟩ := hrel
    have HQ := Lib.hid hqk
    have HR := Lib.hid hr
    have HROW := Lib.hid hrow
    have HMM := Lib.hid hm
    have HLE := Lib.hid hle
    have HL := Lib.hid hL
    have HS := Lib.hid hS
    have HC := Lib.hid hc
    have hq0 : 0 ≤ (q : Int) ∧ (q : Int) ≤ 1073741824 := by have := HM1.out; omega
    obtain ⟨ii, err, hp, hst⟩ := hr.at_
    have c2 := hp.c2
    have HST := Lib.hid hst
    clear hqk hr hrow hm hle hL hS hc hp hst
    by_cases hk : gk = 0
    · have hqn : q = n := by have := HQ.out; omega
      have hd1 : decide ((q : Int) < (n : Int)) = false := decide_eq_false (by omega)
      have hd1' : ¬ (q : Int) < (n : Int) := by omega
      clear hqn
      subst hk
      have HLL := Lib.hid (show l = L from by have := HL.out; simpa [dmany] using this)
      have HSS := Lib.hid (show RefR wr rb B S' from by have := HS.out; rw [← this]; exact HR.out)
      have HFIN := Lib.hid (show (Ty.rd (.list .num)).rd wr (w.heap.size ≤ ·) [_] L from by
        have := rd_own HROW.out.row (Rd.more _ (fun b hb => hb.1) HROW.out.arr) (F := (w.heap.size ≤ ·)) (fun b hb _ => hb)
        rw [HLL.out] at this
        exact this)
      go_wp2
      go_ret
      refine ⟨[_], rfl, ?_, ?_, HC.out.more (fun b hb e => e.elim id (fun e => by omega))⟩
      · rw [HDEC.out]; exact HFIN.out
      · rw [HDEC.out]; exact HSS.out
    · have hd1 : decide ((q : Int) < (n : Int)) = true := decide_eq_true (by have := HQ.out; omega)
      have hd1' : (q : Int) < (n : Int) := by have := HQ.out; omega
      cases sc with
      | error e =>
        obtain ⟨he1, he⟩ := HST.out.2 e rfl
        have g0 : (err == 0) = false := by rw [he1]; rcases he with rfl | rfl <;> rfl
        have HLL := Lib.hid (show l = L from by have := HL.out; rw [dmany_error] at this; simpa using this)
        have HSS := Lib.hid (show RefR wr rb B S' from by have := HS.out; rw [dmany_error] at this; rw [← this]; exact HR.out)
        clear he he1
        have HFIN := Lib.hid (show (Ty.rd (.list .num)).rd wr (w.heap.size ≤ ·) [_] L from by
          have := rd_own HROW.out.row (Rd.more _ (fun b hb => hb.1) HROW.out.arr) (F := (w.heap.size ≤ ·)) (fun b hb _ => hb)
          rw [HLL.out] at this
          exact this)
        go_wp2
        go_ret
        refine ⟨[_], rfl, ?_, ?_, HC.out.more (fun b hb e => e.elim id (fun e => by omega))⟩
        · rw [HDEC.out]; exact HFIN.out
        · rw [HDEC.out]; exact HSS.out
      | ok r =>
        obtain ⟨rfl, -⟩ := HST.out.1 r rfl
        obtain ⟨k', rfl⟩ : ∃ k', gk = k' + 1 := ⟨gk - 1, by omega⟩
        obtain ⟨x, s2, hd⟩ : ∃ x s', dec .num (.ok r) = (x, s') := ⟨_, _, rfl⟩
        have HD := Lib.hid hd
        have HL2 := Lib.hid (show (l ++ [x]) ++ (dmany (dec .num) k' s2).1 = L ∧ (dmany (dec .num) k' s2).2 = S' from by
          have h1 := HL.out; have h2 := HS.out
          rw [dmany] at h1 h2
          simp only [hd] at h1 h2
          exact ⟨by simpa using h1, h2⟩)
        have HM2 := Lib.hid (show Mod .num (.ok r) ∧ ModMany (Mod .num) (dec .num) k' s2 from by
          have h1 := HMM.out
          rw [ModMany] at h1
          simp only [hd] at h1
          exact h1)
        clear hd
        go_wp2_with fail
        refine (rget_int wr rb B (.ok r) HR.out HM2.out.1).mono ?_
        rintro e w2 ⟨cs, rfl, hr, hs, hc⟩
        rw [HD.out] at hr hs
        dsimp only at hr hs
        obtain ⟨q_0, rfl⟩ : ∃ z : Int, cs = [.int .i64 z] := ⟨_, hr.1⟩
        have hg : goV [.int .i64 q_0] = .int .i64 q_0 := rfl
        rw [hg]
        have HX := Lib.hid hr
        have HR2 := Lib.hid hs
        have HC2 := Lib.hid hc
        have HB3 := Lib.hid (show Below w2.heap.size w2 (w2.alloc (.cells #[.int .i64 q_0] 3)) from (Below.refl _ _).alloc (Nat.le_refl _) _)
        have HROW2 := Lib.hid (show (w2.alloc (.cells #[.int .i64 q_0] 3)).ownsRow w.heap.size 3 1 _ l.length xs from ownk_chg (ownk_chg HROW.out.row hc (fun b e hb => by have := (ownk_ge HROW.out.row b e).1; have := HLT.out; omega)) (F := fun _ => False) (Chg.of_below HB3.out) (fun _ _ e => e))
        have HBS := Lib.hid (show w.heap.size ≤ (w2.alloc (.cells #[.int .i64 q_0] 3)).heap.size from by have := HC.out.size; have := HC2.out.size; simp; omega)
        clear hg hr hs hc c2
        go_wp2_with (at_builtin; refine wpList_append_o rfl _ _ 65 rfl w.heap.size 3 i0 _ 1 8 Tryz.underlying65 hi0 hz0 hz1 hz2 rfl (by decide) _ l.length xs rfl HROW2.out _ 1 [.int .i64 q_0] rfl (sl_cells1 w2 _ _ rfl) (fun _ _ h => by cases h) (by simp [Value.oneCell']) (by have := HLE.out; have := HM1.out; unfold maxLen; omega) (by have := HLE.out; have := HM1.out; omega) HBS.out ?_)
        intro v' w4 h1 h2 h3
        have HROWS := Lib.hid (HROW.out.snoc HLT.out HC.out.size HC2.out HX.out HB3.out h1 h2 (by rw [World.size_alloc]; exact h3))
        have h24 := Chg.grown (F := fun b => w.heap.size ≤ b) h2 (fun b e => (ownk_ge HROW.out.row b e).1)
        have HR4 := Lib.hid ((HR2.out.below HB3.out).keep (h24.more (fun b _ e => by have := HLT.out; omega)))
        have HC4 := Lib.hid (show Chg (fun b => b = rb ∨ w.heap.size ≤ b) w w4 from ((HC.out.trans (HC2.out.more (fun b _ e => .inl e))).trans (Chg.of_below HB3.out)).trans (h24.more (fun b _ e => .inr e)))
        clear h1 h2 h3 h24
        go_wp2
        go_roundg k'
        case rel => exact ⟨q + 1, k', s2, l ++ [x], _, rfl, by have := HQ.out; omega, by go_num, HR4.out, HROWS.out, HM2.out.2, by have := HLE.out; simp; omega, HL2.out.1, HL2.out.2, HC4.out⟩
        case measure => omega

set_option maxRecDepth 100000 in
set_option maxHeartbeats 4000000 in
theorem rget_Period : RGetC 89 tPeriod := by
  intro w rb B s h hmod
  obtain ⟨W0, hW0⟩ : ∃ W0, W0 = w.alloc (.cells #[.int .i64 0, .int .i64 0] 43) := ⟨_, rfl⟩
  have hb0 : Below w.heap.size w W0 := by rw [hW0]; exact (Below.refl _ _).alloc (Nat.le_refl _) _
  have HLT := Lib.hid (show rb < w.heap.size ∧ W0.heap.size = w.heap.size + 1 from And.intro h.lt (by rw [hW0]; simp))
  have HK0 := Lib.hid (show Blk W0 w.heap.size [.int .i64 0, .int .i64 0] from by rw [hW0]; exact Blk.new w _ _)
  have HR0 := Lib.hid (h.below hb0)
  have HC0 := Lib.hid (show Chg (fun b => b = rb ∨ w.heap.size ≤ b) w W0 from Chg.of_below hb0)
  have HW0 := Lib.hid hW0
  obtain ⟨s0, hs0⟩ : ∃ s0, s0 = s := ⟨_, rfl⟩
  rw [← hs0] at HR0
  obtain ⟨x0, s1, hd0⟩ : ∃ x s', dec .num s0 = (x, s') := ⟨_, _, rfl⟩
  obtain ⟨x1, s2, hd1⟩ : ∃ x s', dec .num s1 = (x, s') := ⟨_, _, rfl⟩
  have HDEC := Lib.hid (show dec tPeriod s = ((x0, x1), s2) from by
    rw [← hs0]
    show dec (.pair .num .num) s0 = _
    simp only [dec_pair, hd0, hd1])
  rw [← hs0] at hmod
  obtain ⟨hm0, hm1⟩ := hmod
  simp only [hd0] at hm1
  have HM0 := Lib.hid hm0
  have HM1 := Lib.hid hm1
  have HD0 := Lib.hid hd0
  have HD1 := Lib.hid hd1
  clear hm0 hm1 h hb0 hW0 hs0 hd0 hd1
  go_enter Tryz.func89, Tryz.ntmps89
  go_wp2_with fail
  rw [← HW0.out]
  refine (rget_int W0 rb B s0 HR0.out HM0.out).mono ?_
  rintro e w1 ⟨cs, rfl, hr, hs, hc⟩
  rw [HD0.out] at hr hs
  dsimp only at hr hs
  obtain ⟨q0_0, rfl⟩ : ∃ z : Int, cs = [.int .i64 z] := ⟨_, hr.1⟩
  have hg : goV [.int .i64 q0_0] = .int .i64 q0_0 := rfl
  rw [hg]
  clear hg
  obtain ⟨k1, hk1⟩ : ∃ k1, k1 = w1.heap.size := ⟨_, rfl⟩
  obtain ⟨X1, hX1⟩ : ∃ X1, X1 = w1.alloc (.cells #[.int .i64 q0_0, .int .i64 0] 43) := ⟨_, rfl⟩
  have hbx : Below w1.heap.size w1 X1 := by rw [hX1]; exact (Below.refl _ _).alloc (Nat.le_refl _) _
  have HLK := Lib.hid (show rb < w.heap.size ∧ w.heap.size < k1 ∧ k1 < X1.heap.size from by
    have h1 := HLT.out; have h2 := hc.size; have h3 : X1.heap.size = w1.heap.size + 1 := by rw [hX1]; simp
    omega)
  have HB1 := Lib.hid (show Blk X1 k1 [.int .i64 q0_0, .int .i64 0] from by rw [hX1, hk1]; exact Blk.new w1 _ _)
  have HR1 := Lib.hid (hs.below hbx)
  have HC1 := Lib.hid (show Chg (fun b => b = rb ∨ w.heap.size ≤ b) w X1 from (HC0.out.trans (hc.more (fun b _ e => .inl e))).trans (Chg.of_below hbx))
  have HZ1 := Lib.hid (show Blk X1 w.heap.size [.int .i64 0, .int .i64 0] from (HK0.out.chg hc (by have := HLT.out.1; omega)).chg (F := fun _ => False) (Chg.of_below hbx) id)
  have HV0_1 := Lib.hid (show (Ty.rd .num).rd X1 (fun b => w.heap.size ≤ b ∧ b ≠ w.heap.size ∧ b ≠ k1 ∧ b ≠ rb) _ _ from rd_chg .num (K := fun _ => False) (Chg.of_below hbx) (fun b hb hl => ⟨id, by have h1 := HLT.out; omega, by have h1 := HLT.out; omega, by omega, by have h1 := HLT.out; omega⟩) hr)
  have HX1 := Lib.hid hX1
  have HKK := Lib.hid hk1
  clear hr hs hc hX1 hbx hk1
  go_wp2_with fail
  rw [← HKK.out, ← HX1.out]
  refine (rget_int X1 rb B s1 HR1.out HM1.out).mono ?_
  rintro e w2 ⟨cs, rfl, hr, hs, hc⟩
  rw [HD1.out] at hr hs
  dsimp only at hr hs
  obtain ⟨q1_0, rfl⟩ : ∃ z : Int, cs = [.int .i64 z] := ⟨_, hr.1⟩
  have hg : goV [.int .i64 q1_0] = .int .i64 q1_0 := rfl
  rw [hg]
  clear hg
  have hb' := HB1.out.chg hc (by have := HLK.out; omega)
  have t0 := hb'.cell 1 _ rfl
  have z0 := hb'.free 1
  obtain ⟨X2, hX⟩ : ∃ X, X = (w2.setCell ⟨k1, 1, none⟩ (.int .i64 q1_0)) := ⟨_, rfl⟩
  have hcx : Chg (fun b => b = k1) w2 X2 := by
    have g : ∀ (u : World) (j : Nat) (v : Value), Chg (fun b => b = k1) u (u.setCell ⟨k1, j, none⟩ v) := fun u j v => Chg.setCell _ _ rfl
    rw [hX]
    exact (g _ _ _)
  have HB2 := Lib.hid (show Blk X2 k1 [.int .i64 q0_0, .int .i64 q1_0] from by rw [hX]; exact (hb'.set 1 (.int .i64 q1_0) (by simp)))
  have HR2 := Lib.hid (hs.keep (hcx.more (fun b _ e => by have := HLK.out; omega)))
  have hstep : Chg (fun b => b = rb ∨ b = k1) X1 X2 := (hc.more (fun b _ e => .inl e)).trans (hcx.more (fun b _ e => .inr e))
  have HC2 := Lib.hid (show Chg (fun b => b = rb ∨ w.heap.size ≤ b) w X2 from HC1.out.trans (hstep.more (fun b _ e => e.elim .inl (fun e => .inr (by have := HLK.out; omega)))))
  have HZ2 := Lib.hid (show Blk X2 w.heap.size [.int .i64 0, .int .i64 0] from HZ1.out.chg hstep (by have := HLK.out; omega))
  have HV0_2 := Lib.hid (show (Ty.rd .num).rd X2 (fun b => w.heap.size ≤ b ∧ b ≠ w.heap.size ∧ b ≠ k1 ∧ b ≠ rb) _ _ from rd_chg .num hstep (fun b hb hl => ⟨fun e => by have := HLK.out; omega, hb⟩) HV0_1.out)
  have HV1_2 := Lib.hid (show (Ty.rd .num).rd X2 (fun b => w.heap.size ≤ b ∧ b ≠ w.heap.size ∧ b ≠ k1 ∧ b ≠ rb) _ _ from rd_chg .num hcx (fun b hb hl => by have h1 := HLK.out; have h2 := HC1.out.size; have h3 := HB1.out.lt; have hb : X1.heap.size ≤ b := hb; exact ⟨by omega, by omega, by omega, by omega, by omega⟩) hr)
  have HX2 := Lib.hid hX
  clear hr hs hc hb' hcx hstep hX 
  go_upto_region 3 with fail
  rw [← HX2.out]
  have q0 := HB2.out.cell 0 _ rfl
  have zc0 := HZ2.out.cell 0 _ rfl
  have zf0 := HZ2.out.free 0
  have q1 := HB2.out.cell 1 _ rfl
  have zc1 := HZ2.out.cell 1 _ rfl
  have zf1 := HZ2.out.free 1
  go_wp2
  obtain ⟨Wf, hWf⟩ : ∃ Wf, Wf = ((X2.setCell ⟨w.heap.size, 0, none⟩ (.int .i64 q0_0)).setCell ⟨w.heap.size, 1, none⟩ (.int .i64 q1_0)) := ⟨_, rfl⟩
  rw [← hWf]
  have hcf : Chg (fun b => b = w.heap.size) X2 Wf := by
    have g : ∀ (u : World) (j : Nat) (v : Value), Chg (fun b => b = w.heap.size) u (u.setCell ⟨w.heap.size, j, none⟩ v) := fun u j v => Chg.setCell _ _ rfl
    rw [hWf]
    exact (Chg.trans (g _ _ _) (g _ _ _))
  have HBF := Lib.hid (show Blk Wf w.heap.size [.int .i64 q0_0, .int .i64 q1_0] from by rw [hWf]; exact ((HZ2.out.set 0 (.int .i64 q0_0) (by simp)).set 1 (.int .i64 q1_0) (by simp)))
  clear hWf q0 zc0 zf0 q1 zc1 zf1
  have sc0 := HBF.out.cell 0 _ rfl
  have sc1 := HBF.out.cell 1 _ rfl
  refine bodyPost_ret (v := .agg #[.int .i64 q0_0, .int .i64 q1_0]) (by simp [sc0, sc1, results, Tryz.results89, go_sem]) rfl ?_
  refine ⟨[.int .i64 q0_0, .int .i64 q1_0], rfl, ?_, ?_, ?_⟩
  · rw [HDEC.out]
    have h0 : (Ty.rd .num).rd Wf (w.heap.size ≤ ·) _ _ := rd_chg .num hcf (fun b hb hl => ⟨hb.2.1, hb.1⟩) HV0_2.out
    have h1 : (Ty.rd .num).rd Wf (w.heap.size ≤ ·) _ _ := rd_chg .num hcf (fun b hb hl => ⟨hb.2.1, hb.1⟩) HV1_2.out
    exact ⟨_, _, rfl, h0, h1⟩
  · rw [HDEC.out]; exact HR2.out.keep (hcf.more (fun b _ e => by have := HLK.out; omega))
  · exact (HC2.out.trans (hcf.more (fun b _ e => .inr (by omega)))).more (fun b hb e => e.elim id (fun e => by omega))

set_option maxRecDepth 100000 in
set_option maxHeartbeats 4000000 in
theorem rget_Value : RGetC 125 tValue := by
  intro w rb B s h hmod
  obtain ⟨W0, hW0⟩ : ∃ W0, W0 = w.alloc (.cells #[.int .i64 0, .int .i64 0, .string ⟨#[]⟩] 159) := ⟨_, rfl⟩
  have hb0 : Below w.heap.size w W0 := by rw [hW0]; exact (Below.refl _ _).alloc (Nat.le_refl _) _
  have HLT := Lib.hid (show rb < w.heap.size ∧ W0.heap.size = w.heap.size + 1 from And.intro h.lt (by rw [hW0]; simp))
  have HK0 := Lib.hid (show Blk W0 w.heap.size [.int .i64 0, .int .i64 0, .string ⟨#[]⟩] from by rw [hW0]; exact Blk.new w _ _)
  have HR0 := Lib.hid (h.below hb0)
  have HC0 := Lib.hid (show Chg (fun b => b = rb ∨ w.heap.size ≤ b) w W0 from Chg.of_below hb0)
  have HW0 := Lib.hid hW0
  obtain ⟨s0, hs0⟩ : ∃ s0, s0 = s := ⟨_, rfl⟩
  rw [← hs0] at HR0
  obtain ⟨x0, s1, hd0⟩ : ∃ x s', dec .num s0 = (x, s') := ⟨_, _, rfl⟩
  obtain ⟨x1, s2, hd1⟩ : ∃ x s', dec .num s1 = (x, s') := ⟨_, _, rfl⟩
  obtain ⟨x2, s3, hd2⟩ : ∃ x s', dec .str s2 = (x, s') := ⟨_, _, rfl⟩
  have HDEC := Lib.hid (show dec tValue s = ((x0, (x1, x2)), s3) from by
    rw [← hs0]
    show dec (.pair .num (.pair .num .str)) s0 = _
    simp only [dec_pair, hd0, hd1, hd2])
  rw [← hs0] at hmod
  obtain ⟨hm0, hm1, hm2⟩ := hmod
  simp only [hd0] at hm1
  simp only [hd0, hd1] at hm2
  have HM0 := Lib.hid hm0
  have HM1 := Lib.hid hm1
  have HM2 := Lib.hid hm2
  have HD0 := Lib.hid hd0
  have HD1 := Lib.hid hd1
  have HD2 := Lib.hid hd2
  clear hm0 hm1 hm2 h hb0 hW0 hs0 hd0 hd1 hd2
  go_enter Tryz.func125, Tryz.ntmps125
  go_wp2_with fail
  rw [← HW0.out]
  refine (rget_int W0 rb B s0 HR0.out HM0.out).mono ?_
  rintro e w1 ⟨cs, rfl, hr, hs, hc⟩
  rw [HD0.out] at hr hs
  dsimp only at hr hs
  obtain ⟨q0_0, rfl⟩ : ∃ z : Int, cs = [.int .i64 z] := ⟨_, hr.1⟩
  have hg : goV [.int .i64 q0_0] = .int .i64 q0_0 := rfl
  rw [hg]
  clear hg
  obtain ⟨k1, hk1⟩ : ∃ k1, k1 = w1.heap.size := ⟨_, rfl⟩
  obtain ⟨X1, hX1⟩ : ∃ X1, X1 = w1.alloc (.cells #[.int .i64 q0_0, .int .i64 0, .string ⟨#[]⟩] 159) := ⟨_, rfl⟩
  have hbx : Below w1.heap.size w1 X1 := by rw [hX1]; exact (Below.refl _ _).alloc (Nat.le_refl _) _
  have HLK := Lib.hid (show rb < w.heap.size ∧ w.heap.size < k1 ∧ k1 < X1.heap.size from by
    have h1 := HLT.out; have h2 := hc.size; have h3 : X1.heap.size = w1.heap.size + 1 := by rw [hX1]; simp
    omega)
  have HB1 := Lib.hid (show Blk X1 k1 [.int .i64 q0_0, .int .i64 0, .string ⟨#[]⟩] from by rw [hX1, hk1]; exact Blk.new w1 _ _)
  have HR1 := Lib.hid (hs.below hbx)
  have HC1 := Lib.hid (show Chg (fun b => b = rb ∨ w.heap.size ≤ b) w X1 from (HC0.out.trans (hc.more (fun b _ e => .inl e))).trans (Chg.of_below hbx))
  have HZ1 := Lib.hid (show Blk X1 w.heap.size [.int .i64 0, .int .i64 0, .string ⟨#[]⟩] from (HK0.out.chg hc (by have := HLT.out.1; omega)).chg (F := fun _ => False) (Chg.of_below hbx) id)
  have HV0_1 := Lib.hid (show (Ty.rd .num).rd X1 (fun b => w.heap.size ≤ b ∧ b ≠ w.heap.size ∧ b ≠ k1 ∧ b ≠ rb) _ _ from rd_chg .num (K := fun _ => False) (Chg.of_below hbx) (fun b hb hl => ⟨id, by have h1 := HLT.out; omega, by have h1 := HLT.out; omega, by omega, by have h1 := HLT.out; omega⟩) hr)
  have HX1 := Lib.hid hX1
  have HKK := Lib.hid hk1
  clear hr hs hc hX1 hbx hk1
  go_wp2_with fail
  rw [← HKK.out, ← HX1.out]
  refine (rget_int64 X1 rb B s1 HR1.out HM1.out).mono ?_
  rintro e w2 ⟨cs, rfl, hr, hs, hc⟩
  rw [HD1.out] at hr hs
  dsimp only at hr hs
  obtain ⟨q1_0, rfl⟩ : ∃ z : Int, cs = [.int .i64 z] := ⟨_, hr.1⟩
  have hg : goV [.int .i64 q1_0] = .int .i64 q1_0 := rfl
  rw [hg]
  clear hg
  have hb' := HB1.out.chg hc (by have := HLK.out; omega)
  have t0 := hb'.cell 1 _ rfl
  have z0 := hb'.free 1
  obtain ⟨X2, hX⟩ : ∃ X, X = (w2.setCell ⟨k1, 1, none⟩ (.int .i64 q1_0)) := ⟨_, rfl⟩
  have hcx : Chg (fun b => b = k1) w2 X2 := by
    have g : ∀ (u : World) (j : Nat) (v : Value), Chg (fun b => b = k1) u (u.setCell ⟨k1, j, none⟩ v) := fun u j v => Chg.setCell _ _ rfl
    rw [hX]
    exact (g _ _ _)
  have HB2 := Lib.hid (show Blk X2 k1 [.int .i64 q0_0, .int .i64 q1_0, .string ⟨#[]⟩] from by rw [hX]; exact (hb'.set 1 (.int .i64 q1_0) (by simp)))
  have HR2 := Lib.hid (hs.keep (hcx.more (fun b _ e => by have := HLK.out; omega)))
  have hstep : Chg (fun b => b = rb ∨ b = k1) X1 X2 := (hc.more (fun b _ e => .inl e)).trans (hcx.more (fun b _ e => .inr e))
  have HC2 := Lib.hid (show Chg (fun b => b = rb ∨ w.heap.size ≤ b) w X2 from HC1.out.trans (hstep.more (fun b _ e => e.elim .inl (fun e => .inr (by have := HLK.out; omega)))))
  have HZ2 := Lib.hid (show Blk X2 w.heap.size [.int .i64 0, .int .i64 0, .string ⟨#[]⟩] from HZ1.out.chg hstep (by have := HLK.out; omega))
  have HV0_2 := Lib.hid (show (Ty.rd .num).rd X2 (fun b => w.heap.size ≤ b ∧ b ≠ w.heap.size ∧ b ≠ k1 ∧ b ≠ rb) _ _ from rd_chg .num hstep (fun b hb hl => ⟨fun e => by have := HLK.out; omega, hb⟩) HV0_1.out)
  have HV1_2 := Lib.hid (show (Ty.rd .num).rd X2 (fun b => w.heap.size ≤ b ∧ b ≠ w.heap.size ∧ b ≠ k1 ∧ b ≠ rb) _ _ from rd_chg .num hcx (fun b hb hl => by have h1 := HLK.out; have h2 := HC1.out.size; have h3 := HB1.out.lt; have hb : X1.heap.size ≤ b := hb; exact ⟨by omega, by omega, by omega, by omega, by omega⟩) hr)
  have HX2 := Lib.hid hX
  clear hr hs hc hb' hcx hstep hX 
  go_wp2_with fail
  rw [← HX2.out]
  refine (rget_str X2 rb B s2 HR2.out HM2.out).mono ?_
  rintro e w3 ⟨cs, rfl, hr, hs, hc⟩
  rw [HD2.out] at hr hs
  dsimp only at hr hs
  obtain ⟨q2_0, rfl⟩ : ∃ z : ByteArray, cs = [.string z] := ⟨_, hr.1⟩
  have hg : goV [.string q2_0] = .string q2_0 := rfl
  rw [hg]
  clear hg
  have hb' := HB2.out.chg hc (by have := HLK.out; omega)
  have t0 := hb'.cell 2 _ rfl
  have z0 := hb'.free 2
  obtain ⟨X3, hX⟩ : ∃ X, X = (w3.setCell ⟨k1, 2, none⟩ (.string q2_0)) := ⟨_, rfl⟩
  have hcx : Chg (fun b => b = k1) w3 X3 := by
    have g : ∀ (u : World) (j : Nat) (v : Value), Chg (fun b => b = k1) u (u.setCell ⟨k1, j, none⟩ v) := fun u j v => Chg.setCell _ _ rfl
    rw [hX]
    exact (g _ _ _)
  have HB3 := Lib.hid (show Blk X3 k1 [.int .i64 q0_0, .int .i64 q1_0, .string q2_0] from by rw [hX]; exact (hb'.set 2 (.string q2_0) (by simp)))
  have HR3 := Lib.hid (hs.keep (hcx.more (fun b _ e => by have := HLK.out; omega)))
  have hstep : Chg (fun b => b = rb ∨ b = k1) X2 X3 := (hc.more (fun b _ e => .inl e)).trans (hcx.more (fun b _ e => .inr e))
  have HC3 := Lib.hid (show Chg (fun b => b = rb ∨ w.heap.size ≤ b) w X3 from HC2.out.trans (hstep.more (fun b _ e => e.elim .inl (fun e => .inr (by have := HLK.out; omega)))))
  have HZ3 := Lib.hid (show Blk X3 w.heap.size [.int .i64 0, .int .i64 0, .string ⟨#[]⟩] from HZ2.out.chg hstep (by have := HLK.out; omega))
  have HV0_3 := Lib.hid (show (Ty.rd .num).rd X3 (fun b => w.heap.size ≤ b ∧ b ≠ w.heap.size ∧ b ≠ k1 ∧ b ≠ rb) _ _ from rd_chg .num hstep (fun b hb hl => ⟨fun e => by have := HLK.out; omega, hb⟩) HV0_2.out)
  have HV1_3 := Lib.hid (show (Ty.rd .num).rd X3 (fun b => w.heap.size ≤ b ∧ b ≠ w.heap.size ∧ b ≠ k1 ∧ b ≠ rb) _ _ from rd_chg .num hstep (fun b hb hl => ⟨fun e => by have := HLK.out; omega, hb⟩) HV1_2.out)
  have HV2_3 := Lib.hid (show (Ty.rd .str).rd X3 (fun b => w.heap.size ≤ b ∧ b ≠ w.heap.size ∧ b ≠ k1 ∧ b ≠ rb) _ _ from rd_chg .str hcx (fun b hb hl => by have h1 := HLK.out; have h2 := HC2.out.size; have h3 := HB2.out.lt; have hb : X2.heap.size ≤ b := hb; exact ⟨by omega, by omega, by omega, by omega, by omega⟩) hr)
  have HX3 := Lib.hid hX
  clear hr hs hc hb' hcx hstep hX 
  go_upto_region 4 with fail
  rw [← HX3.out]
  have q0 := HB3.out.cell 0 _ rfl
  have zc0 := HZ3.out.cell 0 _ rfl
  have zf0 := HZ3.out.free 0
  have q1 := HB3.out.cell 1 _ rfl
  have zc1 := HZ3.out.cell 1 _ rfl
  have zf1 := HZ3.out.free 1
  have q2 := HB3.out.cell 2 _ rfl
  have zc2 := HZ3.out.cell 2 _ rfl
  have zf2 := HZ3.out.free 2
  go_wp2
  obtain ⟨Wf, hWf⟩ : ∃ Wf, Wf = (((X3.setCell ⟨w.heap.size, 0, none⟩ (.int .i64 q0_0)).setCell ⟨w.heap.size, 1, none⟩ (.int .i64 q1_0)).setCell ⟨w.heap.size, 2, none⟩ (.string q2_0)) := ⟨_, rfl⟩
  rw [← hWf]
  have hcf : Chg (fun b => b = w.heap.size) X3 Wf := by
    have g : ∀ (u : World) (j : Nat) (v : Value), Chg (fun b => b = w.heap.size) u (u.setCell ⟨w.heap.size, j, none⟩ v) := fun u j v => Chg.setCell _ _ rfl
    rw [hWf]
    exact (Chg.trans (Chg.trans (g _ _ _) (g _ _ _)) (g _ _ _))
  have HBF := Lib.hid (show Blk Wf w.heap.size [.int .i64 q0_0, .int .i64 q1_0, .string q2_0] from by rw [hWf]; exact (((HZ3.out.set 0 (.int .i64 q0_0) (by simp)).set 1 (.int .i64 q1_0) (by simp)).set 2 (.string q2_0) (by simp)))
  clear hWf q0 zc0 zf0 q1 zc1 zf1 q2 zc2 zf2
  have sc0 := HBF.out.cell 0 _ rfl
  have sc1 := HBF.out.cell 1 _ rfl
  have sc2 := HBF.out.cell 2 _ rfl
  refine bodyPost_ret (v := .agg #[.int .i64 q0_0, .int .i64 q1_0, .string q2_0]) (by simp [sc0, sc1, sc2, results, Tryz.results125, go_sem]) rfl ?_
  refine ⟨[.int .i64 q0_0, .int .i64 q1_0, .string q2_0], rfl, ?_, ?_, ?_⟩
  · rw [HDEC.out]
    have h0 : (Ty.rd .num).rd Wf (w.heap.size ≤ ·) _ _ := rd_chg .num hcf (fun b hb hl => ⟨hb.2.1, hb.1⟩) HV0_3.out
    have h1 : (Ty.rd .num).rd Wf (w.heap.size ≤ ·) _ _ := rd_chg .num hcf (fun b hb hl => ⟨hb.2.1, hb.1⟩) HV1_3.out
    have h2 : (Ty.rd .str).rd Wf (w.heap.size ≤ ·) _ _ := rd_chg .str hcf (fun b hb hl => ⟨hb.2.1, hb.1⟩) HV2_3.out
    exact ⟨_, _, rfl, h0, _, _, rfl, h1, h2⟩
  · rw [HDEC.out]; exact HR3.out.keep (hcf.more (fun b _ e => by have := HLK.out; omega))
  · exact (HC3.out.trans (hcf.more (fun b _ e => .inr (by omega)))).more (fun b hb e => e.elim id (fun e => by omega))

theorem info_rget_Values : (Tryz.prog.info? 159).map (fun i => (i.zero, i.size, i.bytes)) = some (some ((.agg #[.int .i64 0, .int .i64 0, .string ⟨#[]⟩])), 3, 32) := by kernel_rfl

set_option maxRecDepth 100000 in
set_option maxHeartbeats 4000000 in
theorem rget_Values : RGetC 88 (.list tValue) := by
  intro w rb B s h hmod
  obtain ⟨i0, hi0, hz0, hz1, hz2⟩ := info_parts info_rget_Values
  obtain ⟨n, s1, hn⟩ : ∃ n s', dsize s = (n, s') := ⟨_, _, rfl⟩
  have hs := rcd_length h
  rw [hn] at hs
  obtain ⟨hm1, hm2⟩ := hmod
  rw [hn] at hm1 hm2
  replace hm1 : n ≤ 1073741824 := hm1
  obtain ⟨L, S', hLS⟩ : ∃ L S', dmany (dec tValue) n s1 = (L, S') := ⟨_, _, rfl⟩
  have HDEC := Lib.hid (show dec (.list tValue) s = (L, S') from by show dmany (dec tValue) (dsize s).1 (dsize s).2 = _; rw [hn]; exact hLS)
  have HSZ := Lib.hid hs
  have HM := Lib.hid hm2
  have HM1 := Lib.hid hm1
  have HLS := Lib.hid hLS
  have HLT := Lib.hid h.lt
  have hn0 : 0 ≤ (n : Int) ∧ (n : Int) ≤ 1073741824 := by omega
  clear h hs hm1 hm2 hn hLS
  go_enter Tryz.func88, Tryz.ntmps88
  go_wp2_with fail
  refine HSZ.out.mono ?_
  rintro e w1 ⟨rfl, hr, hc⟩
  have HR1 := Lib.hid (show RefR w1 rb B s1 from hr)
  have HC1 := Lib.hid hc
  clear hr hc
  go_wp2
  go_loopg [3, 5] n (fun gk t3 t5 wr => ∃ (q k : Nat) (sc : St) (l : List (Ty.T tValue)) (xs : List Value), gk = k ∧ q + k = n ∧ t5 = .int .i64 (q : Int) ∧ RefR wr rb B sc ∧ Rows tValue 159 3 w.heap.size wr t3 l xs ∧ ModMany (Mod tValue) (dec tValue) k sc ∧ l.length + k ≤ n ∧ l ++ (dmany (dec tValue) k sc).1 = L ∧ (dmany (dec tValue) k sc).2 = S' ∧ Chg (fun b => b = rb ∨ w.heap.size ≤ b) w wr)
  case atStart =>
    exact ⟨0, n, s1, [], [], rfl, by omega, rfl, HR1.out, ⟨World.ownsRow_nil _ _ _ _, rarr_nil _ _ _⟩, HM.out, by simp, by rw [HLS.out]; rfl, by rw [HLS.out], HC1.out.more (fun b _ e => .inl e)⟩
  case round =>
    obtain ⟨q, k, sc, l, xs, rfl, hqk, rfl, hr, hrow, hm, hle, hL, hS, hc⟩ := hrel
    have HQ := Lib.hid hqk
    have HR := Lib.hid hr
    have HROW := Lib.hid hrow
    have HMM := Lib.hid hm
    have HLE := Lib.hid hle
    have HL := Lib.hid hL
    have HS := Lib.hid hS
    have HC := Lib.hid hc
    have hq0 : 0 ≤ (q : Int) ∧ (q : Int) ≤ 1073741824 := by have := HM1.out; omega
    obtain ⟨ii, err, hp, hst⟩ := hr.at_
    have c2 := hp.c2
    have HST := Lib.hid hst
    clear hqk hr hrow hm hle hL hS hc hp hst
    by_cases hk : gk = 0
    · have hqn : q = n := by have := HQ.out; omega
      have hd1 : decide ((q : Int) < (n : Int)) = false := decide_eq_false (by omega)
      have hd1' : ¬ (q : Int) < (n : Int) := by omega
      clear hqn
      subst hk
      have HLL := Lib.hid (show l = L from by have := HL.out; simpa [dmany] using this)
      have HSS := Lib.hid (show RefR wr rb B S' from by have := HS.out; rw [← this]; exact HR.out)
      have HFIN := Lib.hid (show (Ty.rd (.list tValue)).rd wr (w.heap.size ≤ ·) [_] L from by
        have := rd_own HROW.out.row (Rd.more _ (fun b hb => hb.1) HROW.out.arr) (F := (w.heap.size ≤ ·)) (fun b hb _ => hb)
        rw [HLL.out] at this
        exact this)
      go_wp2
      go_ret
      refine ⟨[_], rfl, ?_, ?_, HC.out.more (fun b hb e => e.elim id (fun e => by omega))⟩
      · rw [HDEC.out]; exact HFIN.out
      · rw [HDEC.out]; exact HSS.out
    · have hd1 : decide ((q : Int) < (n : Int)) = true := decide_eq_true (by have := HQ.out; omega)
      have hd1' : (q : Int) < (n : Int) := by have := HQ.out; omega
      cases sc with
      | error e =>
        obtain ⟨he1, he⟩ := HST.out.2 e rfl
        have g0 : (err == 0) = false := by rw [he1]; rcases he with rfl | rfl <;> rfl
        have HLL := Lib.hid (show l = L from by have := HL.out; rw [dmany_error] at this; simpa using this)
        have HSS := Lib.hid (show RefR wr rb B S' from by have := HS.out; rw [dmany_error] at this; rw [← this]; exact HR.out)
        clear he he1
        have HFIN := Lib.hid (show (Ty.rd (.list tValue)).rd wr (w.heap.size ≤ ·) [_] L from by
          have := rd_own HROW.out.row (Rd.more _ (fun b hb => hb.1) HROW.out.arr) (F := (w.heap.size ≤ ·)) (fun b hb _ => hb)
          rw [HLL.out] at this
          exact this)
        go_wp2
        go_ret
        refine ⟨[_], rfl, ?_, ?_, HC.out.more (fun b hb e => e.elim id (fun e => by omega))⟩
        · rw [HDEC.out]; exact HFIN.out
        · rw [HDEC.out]; exact HSS.out
      | ok r =>
        obtain ⟨rfl, -⟩ := HST.out.1 r rfl
        obtain ⟨k', rfl⟩ : ∃ k', gk = k' + 1 := ⟨gk - 1, by omega⟩
        obtain ⟨x, s2, hd⟩ : ∃ x s', dec tValue (.ok r) = (x, s') := ⟨_, _, rfl⟩
        have HD := Lib.hid hd
        have HL2 := Lib.hid (show (l ++ [x]) ++ (dmany (dec tValue) k' s2).1 = L ∧ (dmany (dec tValue) k' s2).2 = S' from by
          have h1 := HL.out; have h2 := HS.out
          rw [dmany] at h1 h2
          simp only [hd] at h1 h2
          exact ⟨by simpa using h1, h2⟩)
        have HM2 := Lib.hid (show Mod tValue (.ok r) ∧ ModMany (Mod tValue) (dec tValue) k' s2 from by
          have h1 := HMM.out
          rw [ModMany] at h1
          simp only [hd] at h1
          exact h1)
        clear hd
        go_wp2_with fail
        refine (rget_Value wr rb B (.ok r) HR.out HM2.out.1).mono ?_
        rintro e w2 ⟨cs, rfl, hr, hs, hc⟩
        rw [HD.out] at hr hs
        dsimp only at hr hs
        obtain ⟨q_0, q_1, q_2, rfl⟩ := shape_Value hr
        have hg : goV [.int .i64 q_0, .int .i64 q_1, .string q_2] = .agg #[.int .i64 q_0, .int .i64 q_1, .string q_2] := rfl
        rw [hg]
        have HX := Lib.hid hr
        have HR2 := Lib.hid hs
        have HC2 := Lib.hid hc
        have HB3 := Lib.hid (show Below w2.heap.size w2 (w2.alloc (.cells #[.int .i64 q_0, .int .i64 q_1, .string q_2] 159)) from (Below.refl _ _).alloc (Nat.le_refl _) _)
        have HROW2 := Lib.hid (show (w2.alloc (.cells #[.int .i64 q_0, .int .i64 q_1, .string q_2] 159)).ownsRow w.heap.size 159 3 _ l.length xs from ownk_chg (ownk_chg HROW.out.row hc (fun b e hb => by have := (ownk_ge HROW.out.row b e).1; have := HLT.out; omega)) (F := fun _ => False) (Chg.of_below HB3.out) (fun _ _ e => e))
        have HBS := Lib.hid (show w.heap.size ≤ (w2.alloc (.cells #[.int .i64 q_0, .int .i64 q_1, .string q_2] 159)).heap.size from by have := HC.out.size; have := HC2.out.size; simp; omega)
        clear hg hr hs hc c2
        go_wp2_with (at_builtin; refine wpList_append_o rfl _ _ 97 rfl w.heap.size 159 i0 _ 3 32 Tryz.underlying97 hi0 hz0 hz1 hz2 rfl (by decide) _ l.length xs rfl HROW2.out _ 1 [.int .i64 q_0, .int .i64 q_1, .string q_2] rfl (sl_cells1 w2 _ _ rfl) (fun _ _ h => by cases h) (by simp [Value.oneCell']) (by have := HLE.out; have := HM1.out; unfold maxLen; omega) (by have := HLE.out; have := HM1.out; omega) HBS.out ?_)
        intro v' w4 h1 h2 h3
        have HROWS := Lib.hid (HROW.out.snoc HLT.out HC.out.size HC2.out HX.out HB3.out h1 h2 (by rw [World.size_alloc]; exact h3))
        have h24 := Chg.grown (F := fun b => w.heap.size ≤ b) h2 (fun b e => (ownk_ge HROW.out.row b e).1)
        have HR4 := Lib.hid ((HR2.out.below HB3.out).keep (h24.more (fun b _ e => by have := HLT.out; omega)))
        have HC4 := Lib.hid (show Chg (fun b => b = rb ∨ w.heap.size ≤ b) w w4 from ((HC.out.trans (HC2.out.more (fun b _ e => .inl e))).trans (Chg.of_below HB3.out)).trans (h24.more (fun b _ e => .inr e)))
        clear h1 h2 h3 h24
        go_wp2
        go_roundg k'
        case rel => exact ⟨q + 1, k', s2, l ++ [x], _, rfl, by have := HQ.out; omega, by go_num, HR4.out, HROWS.out, HM2.out.2, by have := HLE.out; simp; omega, HL2.out.1, HL2.out.2, HC4.out⟩
        case measure => omega

set_option maxRecDepth 100000 in
set_option maxHeartbeats 4000000 in
theorem rget_Column : RGetC 126 tColumn := by
  intro w rb B s h hmod
  obtain ⟨W0, hW0⟩ : ∃ W0, W0 = w.alloc (.cells #[.int .i64 0, .string ⟨#[]⟩, .int .i64 0] 111) := ⟨_, rfl⟩
  have hb0 : Below w.heap.size w W0 := by rw [hW0]; exact (Below.refl _ _).alloc (Nat.le_refl _) _
  have HLT := Lib.hid (show rb < w.heap.size ∧ W0.heap.size = w.heap.size + 1 from And.intro h.lt (by rw [hW0]; simp))
  have HK0 := Lib.hid (show Blk W0 w.heap.size [.int .i64 0, .string ⟨#[]⟩, .int .i64 0] from by rw [hW0]; exact Blk.new w _ _)
  have HR0 := Lib.hid (h.below hb0)
  have HC0 := Lib.hid (show Chg (fun b => b = rb ∨ w.heap.size ≤ b) w W0 from Chg.of_below hb0)
  have HW0 := Lib.hid hW0
  obtain ⟨s0, hs0⟩ : ∃ s0, s0 = s := ⟨_, rfl⟩
  rw [← hs0] at HR0
  obtain ⟨x0, s1, hd0⟩ : ∃ x s', dec .num s0 = (x, s') := ⟨_, _, rfl⟩
  obtain ⟨x1, s2, hd1⟩ : ∃ x s', dec .str s1 = (x, s') := ⟨_, _, rfl⟩
  obtain ⟨x2, s3, hd2⟩ : ∃ x s', dec .num s2 = (x, s') := ⟨_, _, rfl⟩
  have HDEC := Lib.hid (show dec tColumn s = ((x0, (x1, x2)), s3) from by
    rw [← hs0]
    show dec (.pair .num (.pair .str .num)) s0 = _
    simp only [dec_pair, hd0, hd1, hd2])
  rw [← hs0] at hmod
  obtain ⟨hm0, hm1, hm2⟩ := hmod
  simp only [hd0] at hm1
  simp only [hd0, hd1] at hm2
  have HM0 := Lib.hid hm0
  have HM1 := Lib.hid hm1
  have HM2 := Lib.hid hm2
  have HD0 := Lib.hid hd0
  have HD1 := Lib.hid hd1
  have HD2 := Lib.hid hd2
  clear hm0 hm1 hm2 h hb0 hW0 hs0 hd0 hd1 hd2
  go_enter Tryz.func126, Tryz.ntmps126
  go_wp2_with fail
  rw [← HW0.out]
  refine (rget_int W0 rb B s0 HR0.out HM0.out).mono ?_
  rintro e w1 ⟨cs, rfl, hr, hs, hc⟩
  rw [HD0.out] at hr hs
  dsimp only at hr hs
  obtain ⟨q0_0, rfl⟩ : ∃ z : Int, cs = [.int .i64 z] := ⟨_, hr.1⟩
  have hg : goV [.int .i64 q0_0] = .int .i64 q0_0 := rfl
  rw [hg]
  clear hg
  obtain ⟨k1, hk1⟩ : ∃ k1, k1 = w1.heap.size := ⟨_, rfl⟩
  obtain ⟨X1, hX1⟩ : ∃ X1, X1 = w1.alloc (.cells #[.int .i64 q0_0, .string ⟨#[]⟩, .int .i64 0] 111) := ⟨_, rfl⟩
  have hbx : Below w1.heap.size w1 X1 := by rw [hX1]; exact (Below.refl _ _).alloc (Nat.le_refl _) _
  have HLK := Lib.hid (show rb < w.heap.size ∧ w.heap.size < k1 ∧ k1 < X1.heap.size from by
    have h1 := HLT.out; have h2 := hc.size; have h3 : X1.heap.size = w1.heap.size + 1 := by rw [hX1]; simp
    omega)
  have HB1 := Lib.hid (show Blk X1 k1 [.int .i64 q0_0, .string ⟨#[]⟩, .int .i64 0] from by rw [hX1, hk1]; exact Blk.new w1 _ _)
  have HR1 := Lib.hid (hs.below hbx)
  have HC1 := Lib.hid (show Chg (fun b => b = rb ∨ w.heap.size ≤ b) w X1 from (HC0.out.trans (hc.more (fun b _ e => .inl e))).trans (Chg.of_below hbx))
  have HZ1 := Lib.hid (show Blk X1 w.heap.size [.int .i64 0, .string ⟨#[]⟩, .int .i64 0] from (HK0.out.chg hc (by have := HLT.out.1; omega)).chg (F := fun _ => False) (Chg.of_below hbx) id)
  have HV0_1 := Lib.hid (show (Ty.rd .num).rd X1 (fun b => w.heap.size ≤ b ∧ b ≠ w.heap.size ∧ b ≠ k1 ∧ b ≠ rb) _ _ from rd_chg .num (K := fun _ => False) (Chg.of_below hbx) (fun b hb hl => ⟨id, by have h1 := HLT.out; omega, by have h1 := HLT.out; omega, by omega, by have h1 := HLT.out; omega⟩) hr)
  have HX1 := Lib.hid hX1
  have HKK := Lib.hid hk1
  clear hr hs hc hX1 hbx hk1
  go_wp2_with fail
  rw [← HKK.out, ← HX1.out]
  refine (rget_str X1 rb B s1 HR1.out HM1.out).mono ?_
  rintro e w2 ⟨cs, rfl, hr, hs, hc⟩
  rw [HD1.out] at hr hs
  dsimp only at hr hs
  obtain ⟨q1_0, rfl⟩ : ∃ z : ByteArray, cs = [.string z] := ⟨_, hr.1⟩
  have hg : goV [.string q1_0] = .string q1_0 := rfl
  rw [hg]
  clear hg
  have hb' := HB1.out.chg hc (by have := HLK.out; omega)
  have t0 := hb'.cell 1 _ rfl
  have z0 := hb'.free 1
  obtain ⟨X2, hX⟩ : ∃ X, X = (w2.setCell ⟨k1, 1, none⟩ (.string q1_0)) := ⟨_, rfl⟩
  have hcx : Chg (fun b => b = k1) w2 X2 := by
    have g : ∀ (u : World) (j : Nat) (v : Value), Chg (fun b => b = k1) u (u.setCell ⟨k1, j, none⟩ v) := fun u j v => Chg.setCell _ _ rfl
    rw [hX]
    exact (g _ _ _)
  have HB2 := Lib.hid (show Blk X2 k1 [.int .i64 q0_0, .string q1_0, .int .i64 0] from by rw [hX]; exact (hb'.set 1 (.string q1_0) (by simp)))
  have HR2 := Lib.hid (hs.keep (hcx.more (fun b _ e => by have := HLK.out; omega)))
  have hstep : Chg (fun b => b = rb ∨ b = k1) X1 X2 := (hc.more (fun b _ e => .inl e)).trans (hcx.more (fun b _ e => .inr e))
  have HC2 := Lib.hid (show Chg (fun b => b = rb ∨ w.heap.size ≤ b) w X2 from HC1.out.trans (hstep.more (fun b _ e => e.elim .inl (fun e => .inr (by have := HLK.out; omega)))))
  have HZ2 := Lib.hid (show Blk X2 w.heap.size [.int .i64 0, .string ⟨#[]⟩, .int .i64 0] from HZ1.out.chg hstep (by have := HLK.out; omega))
  have HV0_2 := Lib.hid (show (Ty.rd .num).rd X2 (fun b => w.heap.size ≤ b ∧ b ≠ w.heap.size ∧ b ≠ k1 ∧ b ≠ rb) _ _ from rd_chg .num hstep (fun b hb hl => ⟨fun e => by have := HLK.out; omega, hb⟩) HV0_1.out)
  have HV1_2 := Lib.hid (show (Ty.rd .str).rd X2 (fun b => w.heap.size ≤ b ∧ b ≠ w.heap.size ∧ b ≠ k1 ∧ b ≠ rb) _ _ from rd_chg .str hcx (fun b hb hl => by have h1 := HLK.out; have h2 := HC1.out.size; have h3 := HB1.out.lt; have hb : X1.heap.size ≤ b := hb; exact ⟨by omega, by omega, by omega, by omega, by omega⟩) hr)
  have HX2 := Lib.hid hX
  clear hr hs hc hb' hcx hstep hX 
  go_wp2_with fail
  rw [← HX2.out]
  refine (rget_int X2 rb B s2 HR2.out HM2.out).mono ?_
  rintro e w3 ⟨cs, rfl, hr, hs, hc⟩
  rw [HD2.out] at hr hs
  dsimp only at hr hs
  obtain ⟨q2_0, rfl⟩ : ∃ z : Int, cs = [.int .i64 z] := ⟨_, hr.1⟩
  have hg : goV [.int .i64 q2_0] = .int .i64 q2_0 := rfl
  rw [hg]
  clear hg
  have hb' := HB2.out.chg hc (by have := HLK.out; omega)
  have t0 := hb'.cell 2 _ rfl
  have z0 := hb'.free 2
  obtain ⟨X3, hX⟩ : ∃ X, X = (w3.setCell ⟨k1, 2, none⟩ (.int .i64 q2_0)) := ⟨_, rfl⟩
  have hcx : Chg (fun b => b = k1) w3 X3 := by
    have g : ∀ (u : World) (j : Nat) (v : Value), Chg (fun b => b = k1) u (u.setCell ⟨k1, j, none⟩ v) := fun u j v => Chg.setCell _ _ rfl
    rw [hX]
    exact (g _ _ _)
  have HB3 := Lib.hid (show Blk X3 k1 [.int .i64 q0_0, .string q1_0, .int .i64 q2_0] from by rw [hX]; exact (hb'.set 2 (.int .i64 q2_0) (by simp)))
  have HR3 := Lib.hid (hs.keep (hcx.more (fun b _ e => by have := HLK.out; omega)))
  have hstep : Chg (fun b => b = rb ∨ b = k1) X2 X3 := (hc.more (fun b _ e => .inl e)).trans (hcx.more (fun b _ e => .inr e))
  have HC3 := Lib.hid (show Chg (fun b => b = rb ∨ w.heap.size ≤ b) w X3 from HC2.out.trans (hstep.more (fun b _ e => e.elim .inl (fun e => .inr (by have := HLK.out; omega)))))
  have HZ3 := Lib.hid (show Blk X3 w.heap.size [.int .i64 0, .string ⟨#[]⟩, .int .i64 0] from HZ2.out.chg hstep (by have := HLK.out; omega))
  have HV0_3 := Lib.hid (show (Ty.rd .num).rd X3 (fun b => w.heap.size ≤ b ∧ b ≠ w.heap.size ∧ b ≠ k1 ∧ b ≠ rb) _ _ from rd_chg .num hstep (fun b hb hl => ⟨fun e => by have := HLK.out; omega, hb⟩) HV0_2.out)
  have HV1_3 := Lib.hid (show (Ty.rd .str).rd X3 (fun b => w.heap.size ≤ b ∧ b ≠ w.heap.size ∧ b ≠ k1 ∧ b ≠ rb) _ _ from rd_chg .str hstep (fun b hb hl => ⟨fun e => by have := HLK.out; omega, hb⟩) HV1_2.out)
  have HV2_3 := Lib.hid (show (Ty.rd .num).rd X3 (fun b => w.heap.size ≤ b ∧ b ≠ w.heap.size ∧ b ≠ k1 ∧ b ≠ rb) _ _ from rd_chg .num hcx (fun b hb hl => by have h1 := HLK.out; have h2 := HC2.out.size; have h3 := HB2.out.lt; have hb : X2.heap.size ≤ b := hb; exact ⟨by omega, by omega, by omega, by omega, by omega⟩) hr)
  have HX3 := Lib.hid hX
  clear hr hs hc hb' hcx hstep hX 
  go_upto_region 4 with fail
  rw [← HX3.out]
  have q0 := HB3.out.cell 0 _ rfl
  have zc0 := HZ3.out.cell 0 _ rfl
  have zf0 := HZ3.out.free 0
  have q1 := HB3.out.cell 1 _ rfl
  have zc1 := HZ3.out.cell 1 _ rfl
  have zf1 := HZ3.out.free 1
  have q2 := HB3.out.cell 2 _ rfl
  have zc2 := HZ3.out.cell 2 _ rfl
  have zf2 := HZ3.out.free 2
  go_wp2
  obtain ⟨Wf, hWf⟩ : ∃ Wf, Wf = (((X3.setCell ⟨w.heap.size, 0, none⟩ (.int .i64 q0_0)).setCell ⟨w.heap.size, 1, none⟩ (.string q1_0)).setCell ⟨w.heap.size, 2, none⟩ (.int .i64 q2_0)) := ⟨_, rfl⟩
  rw [← hWf]
  have hcf : Chg (fun b => b = w.heap.size) X3 Wf := by
    have g : ∀ (u : World) (j : Nat) (v : Value), Chg (fun b => b = w.heap.size) u (u.setCell ⟨w.heap.size, j, none⟩ v) := fun u j v => Chg.setCell _ _ rfl
    rw [hWf]
    exact (Chg.trans (Chg.trans (g _ _ _) (g _ _ _)) (g _ _ _))
  have HBF := Lib.hid (show Blk Wf w.heap.size [.int .i64 q0_0, .string q1_0, .int .i64 q2_0] from by rw [hWf]; exact (((HZ3.out.set 0 (.int .i64 q0_0) (by simp)).set 1 (.string q1_0) (by simp)).set 2 (.int .i64 q2_0) (by simp)))
  clear hWf q0 zc0 zf0 q1 zc1 zf1 q2 zc2 zf2
  have sc0 := HBF.out.cell 0 _ rfl
  have sc1 := HBF.out.cell 1 _ rfl
  have sc2 := HBF.out.cell 2 _ rfl
  refine bodyPost_ret (v := .agg #[.int .i64 q0_0, .string q1_0, .int .i64 q2_0]) (by simp [sc0, sc1, sc2, results, Tryz.results126, go_sem]) rfl ?_
  refine ⟨[.int .i64 q0_0, .string q1_0, .int .i64 q2_0], rfl, ?_, ?_, ?_⟩
  · rw [HDEC.out]
    have h0 : (Ty.rd .num).rd Wf (w.heap.size ≤ ·) _ _ := rd_chg .num hcf (fun b hb hl => ⟨hb.2.1, hb.1⟩) HV0_3.out
    have h1 : (Ty.rd .str).rd Wf (w.heap.size ≤ ·) _ _ := rd_chg .str hcf (fun b hb hl => ⟨hb.2.1, hb.1⟩) HV1_3.out
    have h2 : (Ty.rd .num).rd Wf (w.heap.size ≤ ·) _ _ := rd_chg .num hcf (fun b hb hl => ⟨hb.2.1, hb.1⟩) HV2_3.out
    exact ⟨_, _, rfl, h0, _, _, rfl, h1, h2⟩
  · rw [HDEC.out]; exact HR3.out.keep (hcf.more (fun b _ e => by have := HLK.out; omega))
  · exact (HC3.out.trans (hcf.more (fun b _ e => .inr (by omega)))).more (fun b hb e => e.elim id (fun e => by omega))

set_option maxRecDepth 100000 in
set_option maxHeartbeats 4000000 in
theorem rget_Request : RGetC 84 tRequest := by
  intro w rb B s h hmod
  obtain ⟨W0, hW0⟩ : ∃ W0, W0 = w.alloc (.cells #[.int .i64 0, .int .i64 0, .int .i64 0, .string ⟨#[]⟩] 41) := ⟨_, rfl⟩
  have hb0 : Below w.heap.size w W0 := by rw [hW0]; exact (Below.refl _ _).alloc (Nat.le_refl _) _
  have HLT := Lib.hid (show rb < w.heap.size ∧ W0.heap.size = w.heap.size + 1 from And.intro h.lt (by rw [hW0]; simp))
  have HK0 := Lib.hid (show Blk W0 w.heap.size [.int .i64 0, .int .i64 0, .int .i64 0, .string ⟨#[]⟩] from by rw [hW0]; exact Blk.new w _ _)
  have HR0 := Lib.hid (h.below hb0)
  have HC0 := Lib.hid (show Chg (fun b => b = rb ∨ w.heap.size ≤ b) w W0 from Chg.of_below hb0)
  have HW0 := Lib.hid hW0
  obtain ⟨s0, hs0⟩ : ∃ s0, s0 = s := ⟨_, rfl⟩
  rw [← hs0] at HR0
  obtain ⟨x0, s1, hd0⟩ : ∃ x s', dec .num s0 = (x, s') := ⟨_, _, rfl⟩
  obtain ⟨x1, s2, hd1⟩ : ∃ x s', dec .num s1 = (x, s') := ⟨_, _, rfl⟩
  obtain ⟨x2, s3, hd2⟩ : ∃ x s', dec .num s2 = (x, s') := ⟨_, _, rfl⟩
  obtain ⟨x3, s4, hd3⟩ : ∃ x s', dec .str s3 = (x, s') := ⟨_, _, rfl⟩
  have HDEC := Lib.hid (show dec tRequest s = ((x0, (x1, (x2, x3))), s4) from by
    rw [← hs0]
    show dec (.pair .num (.pair .num (.pair .num .str))) s0 = _
    simp only [dec_pair, hd0, hd1, hd2, hd3])
  rw [← hs0] at hmod
  obtain ⟨hm0, hm1, hm2, hm3⟩ := hmod
  simp only [hd0] at hm1
  simp only [hd0, hd1] at hm2
  simp only [hd0, hd1, hd2] at hm3
  have HM0 := Lib.hid hm0
  have HM1 := Lib.hid hm1
  have HM2 := Lib.hid hm2
  have HM3 := Lib.hid hm3
  have HD0 := Lib.hid hd0
  have HD1 := Lib.hid hd1
  have HD2 := Lib.hid hd2
  have HD3 := Lib.hid hd3
  clear hm0 hm1 hm2 hm3 h hb0 hW0 hs0 hd0 hd1 hd2 hd3
  go_enter Tryz.func84, Tryz.ntmps84
  go_wp2_with fail
  rw [← HW0.out]
  refine (rget_int W0 rb B s0 HR0.out HM0.out).mono ?_
  rintro e w1 ⟨cs, rfl, hr, hs, hc⟩
  rw [HD0.out] at hr hs
  dsimp only at hr hs
  obtain ⟨q0_0, rfl⟩ : ∃ z : Int, cs = [.int .i64 z] := ⟨_, hr.1⟩
  have hg : goV [.int .i64 q0_0] = .int .i64 q0_0 := rfl
  rw [hg]
  clear hg
  obtain ⟨k1, hk1⟩ : ∃ k1, k1 = w1.heap.size := ⟨_, rfl⟩
  obtain ⟨X1, hX1⟩ : ∃ X1, X1 = w1.alloc (.cells #[.int .i64 q0_0, .int .i64 0, .int .i64 0, .string ⟨#[]⟩] 41) := ⟨_, rfl⟩
  have hbx : Below w1.heap.size w1 X1 := by rw [hX1]; exact (Below.refl _ _).alloc (Nat.le_refl _) _
  have HLK := Lib.hid (show rb < w.heap.size ∧ w.heap.size < k1 ∧ k1 < X1.heap.size from by
    have h1 := HLT.out; have h2 := hc.size; have h3 : X1.heap.size = w1.heap.size + 1 := by rw [hX1]; simp
    omega)
  have HB1 := Lib.hid (show Blk X1 k1 [.int .i64 q0_0, .int .i64 0, .int .i64 0, .string ⟨#[]⟩] from by rw [hX1, hk1]; exact Blk.new w1 _ _)
  have HR1 := Lib.hid (hs.below hbx)
  have HC1 := Lib.hid (show Chg (fun b => b = rb ∨ w.heap.size ≤ b) w X1 from (HC0.out.trans (hc.more (fun b _ e => .inl e))).trans (Chg.of_below hbx))
  have HZ1 := Lib.hid (show Blk X1 w.heap.size [.int .i64 0, .int .i64 0, .int .i64 0, .string ⟨#[]⟩] from (HK0.out.chg hc (by have := HLT.out.1; omega)).chg (F := fun _ => False) (Chg.of_below hbx) id)
  have HV0_1 := Lib.hid (show (Ty.rd .num).rd X1 (fun b => w.heap.size ≤ b ∧ b ≠ w.heap.size ∧ b ≠ k1 ∧ b ≠ rb) _ _ from rd_chg .num (K := fun _ => False) (Chg.of_below hbx) (fun b hb hl => ⟨id, by have h1 := HLT.out; omega, by have h1 := HLT.out; omega, by omega, by have h1 := HLT.out; omega⟩) hr)
  have HX1 := Lib.hid hX1
  have HKK := Lib.hid hk1
  clear hr hs hc hX1 hbx hk1
  go_wp2_with fail
  rw [← HKK.out, ← HX1.out]
  refine (rget_int X1 rb B s1 HR1.out HM1.out).mono ?_
  rintro e w2 ⟨cs, rfl, hr, hs, hc⟩
  rw [HD1.out] at hr hs
  dsimp only at hr hs
  obtain ⟨q1_0, rfl⟩ : ∃ z : Int, cs = [.int .i64 z] := ⟨_, hr.1⟩
  have hg : goV [.int .i64 q1_0] = .int .i64 q1_0 := rfl
  rw [hg]
  clear hg
  have hb' := HB1.out.chg hc (by have := HLK.out; omega)
  have t0 := hb'.cell 1 _ rfl
  have z0 := hb'.free 1
  obtain ⟨X2, hX⟩ : ∃ X, X = (w2.setCell ⟨k1, 1, none⟩ (.int .i64 q1_0)) := ⟨_, rfl⟩
  have hcx : Chg (fun b => b = k1) w2 X2 := by
    have g : ∀ (u : World) (j : Nat) (v : Value), Chg (fun b => b = k1) u (u.setCell ⟨k1, j, none⟩ v) := fun u j v => Chg.setCell _ _ rfl
    rw [hX]
    exact (g _ _ _)
  have HB2 := Lib.hid (show Blk X2 k1 [.int .i64 q0_0, .int .i64 q1_0, .int .i64 0, .string ⟨#[]⟩] from by rw [hX]; exact (hb'.set 1 (.int .i64 q1_0) (by simp)))
  have HR2 := Lib.hid (hs.keep (hcx.more (fun b _ e => by have := HLK.out; omega)))
  have hstep : Chg (fun b => b = rb ∨ b = k1) X1 X2 := (hc.more (fun b _ e => .inl e)).trans (hcx.more (fun b _ e => .inr e))
  have HC2 := Lib.hid (show Chg (fun b => b = rb ∨ w.heap.size ≤ b) w X2 from HC1.out.trans (hstep.more (fun b _ e => e.elim .inl (fun e => .inr (by have := HLK.out; omega)))))
  have HZ2 := Lib.hid (show Blk X2 w.heap.size [.int .i64 0, .int .i64 0, .int .i64 0, .string ⟨#[]⟩] from HZ1.out.chg hstep (by have := HLK.out; omega))
  have HV0_2 := Lib.hid (show (Ty.rd .num).rd X2 (fun b => w.heap.size ≤ b ∧ b ≠ w.heap.size ∧ b ≠ k1 ∧ b ≠ rb) _ _ from rd_chg .num hstep (fun b hb hl => ⟨fun e => by have := HLK.out; omega, hb⟩) HV0_1.out)
  have HV1_2 := Lib.hid (show (Ty.rd .num).rd X2 (fun b => w.heap.size ≤ b ∧ b ≠ w.heap.size ∧ b ≠ k1 ∧ b ≠ rb) _ _ from rd_chg .num hcx (fun b hb hl => by have h1 := HLK.out; have h2 := HC1.out.size; have h3 := HB1.out.lt; have hb : X1.heap.size ≤ b := hb; exact ⟨by omega, by omega, by omega, by omega, by omega⟩) hr)
  have HX2 := Lib.hid hX
  clear hr hs hc hb' hcx hstep hX 
  go_wp2_with fail
  rw [← HX2.out]
  refine (rget_int X2 rb B s2 HR2.out HM2.out).mono ?_
  rintro e w3 ⟨cs, rfl, hr, hs, hc⟩
  rw [HD2.out] at hr hs
  dsimp only at hr hs
  obtain ⟨q2_0, rfl⟩ : ∃ z : Int, cs = [.int .i64 z] := ⟨_, hr.1⟩
  have hg : goV [.int .i64 q2_0] = .int .i64 q2_0 := rfl
  rw [hg]
  clear hg
  have hb' := HB2.out.chg hc (by have := HLK.out; omega)
  have t0 := hb'.cell 2 _ rfl
  have z0 := hb'.free 2
  obtain ⟨X3, hX⟩ : ∃ X, X = (w3.setCell ⟨k1, 2, none⟩ (.int .i64 q2_0)) := ⟨_, rfl⟩
  have hcx : Chg (fun b => b = k1) w3 X3 := by
    have g : ∀ (u : World) (j : Nat) (v : Value), Chg (fun b => b = k1) u (u.setCell ⟨k1, j, none⟩ v) := fun u j v => Chg.setCell _ _ rfl
    rw [hX]
    exact (g _ _ _)
  have HB3 := Lib.hid (show Blk X3 k1 [.int .i64 q0_0, .int .i64 q1_0, .int .i64 q2_0, .string ⟨#[]⟩] from by rw [hX]; exact (hb'.set 2 (.int .i64 q2_0) (by simp)))
  have HR3 := Lib.hid (hs.keep (hcx.more (fun b _ e => by have := HLK.out; omega)))
  have hstep : Chg (fun b => b = rb ∨ b = k1) X2 X3 := (hc.more (fun b _ e => .inl e)).trans (hcx.more (fun b _ e => .inr e))
  have HC3 := Lib.hid (show Chg (fun b => b = rb ∨ w.heap.size ≤ b) w X3 from HC2.out.trans (hstep.more (fun b _ e => e.elim .inl (fun e => .inr (by have := HLK.out; omega)))))
  have HZ3 := Lib.hid (show Blk X3 w.heap.size [.int .i64 0, .int .i64 0, .int .i64 0, .string ⟨#[]⟩] from HZ2.out.chg hstep (by have := HLK.out; omega))
  have HV0_3 := Lib.hid (show (Ty.rd .num).rd X3 (fun b => w.heap.size ≤ b ∧ b ≠ w.heap.size ∧ b ≠ k1 ∧ b ≠ rb) _ _ from rd_chg .num hstep (fun b hb hl => ⟨fun e => by have := HLK.out; omega, hb⟩) HV0_2.out)
  have HV1_3 := Lib.hid (show (Ty.rd .num).rd X3 (fun b => w.heap.size ≤ b ∧ b ≠ w.heap.size ∧ b ≠ k1 ∧ b ≠ rb) _ _ from rd_chg .num hstep (fun b hb hl => ⟨fun e => by have := HLK.out; omega, hb⟩) HV1_2.out)
  have HV2_3 := Lib.hid (show (Ty.rd .num).rd X3 (fun b => w.heap.size ≤ b ∧ b ≠ w.heap.size ∧ b ≠ k1 ∧ b ≠ rb) _ _ from rd_chg .num hcx (fun b hb hl => by have h1 := HLK.out; have h2 := HC2.out.size; have h3 := HB2.out.lt; have hb : X2.heap.size ≤ b := hb; exact ⟨by omega, by omega, by omega, by omega, by omega⟩) hr)
  have HX3 := Lib.hid hX
  clear hr hs hc hb' hcx hstep hX 
  go_wp2_with fail
  rw [← HX3.out]
  refine (rget_str X3 rb B s3 HR3.out HM3.out).mono ?_
  rintro e w4 ⟨cs, rfl, hr, hs, hc⟩
  rw [HD3.out] at hr hs
  dsimp only at hr hs
  obtain ⟨q3_0, rfl⟩ : ∃ z : ByteArray, cs = [.string z] := ⟨_, hr.1⟩
  have hg : goV [.string q3_0] = .string q3_0 := rfl
  rw [hg]
  clear hg
  have hb' := HB3.out.chg hc (by have := HLK.out; omega)
  have t0 := hb'.cell 3 _ rfl
  have z0 := hb'.free 3
  obtain ⟨X4, hX⟩ : ∃ X, X = (w4.setCell ⟨k1, 3, none⟩ (.string q3_0)) := ⟨_, rfl⟩
  have hcx : Chg (fun b => b = k1) w4 X4 := by
    have g : ∀ (u : World) (j : Nat) (v : Value), Chg (fun b => b = k1) u (u.setCell ⟨k1, j, none⟩ v) := fun u j v => Chg.setCell _ _ rfl
    rw [hX]
    exact (g _ _ _)
  have HB4 := Lib.hid (show Blk X4 k1 [.int .i64 q0_0, .int .i64 q1_0, .int .i64 q2_0, .string q3_0] from by rw [hX]; exact (hb'.set 3 (.string q3_0) (by simp)))
  have HR4 := Lib.hid (hs.keep (hcx.more (fun b _ e => by have := HLK.out; omega)))
  have hstep : Chg (fun b => b = rb ∨ b = k1) X3 X4 := (hc.more (fun b _ e => .inl e)).trans (hcx.more (fun b _ e => .inr e))
  have HC4 := Lib.hid (show Chg (fun b => b = rb ∨ w.heap.size ≤ b) w X4 from HC3.out.trans (hstep.more (fun b _ e => e.elim .inl (fun e => .inr (by have := HLK.out; omega)))))
  have HZ4 := Lib.hid (show Blk X4 w.heap.size [.int .i64 0, .int .i64 0, .int .i64 0, .string ⟨#[]⟩] from HZ3.out.chg hstep (by have := HLK.out; omega))
  have HV0_4 := Lib.hid (show (Ty.rd .num).rd X4 (fun b => w.heap.size ≤ b ∧ b ≠ w.heap.size ∧ b ≠ k1 ∧ b ≠ rb) _ _ from rd_chg .num hstep (fun b hb hl => ⟨fun e => by have := HLK.out; omega, hb⟩) HV0_3.out)
  have HV1_4 := Lib.hid (show (Ty.rd .num).rd X4 (fun b => w.heap.size ≤ b ∧ b ≠ w.heap.size ∧ b ≠ k1 ∧ b ≠ rb) _ _ from rd_chg .num hstep (fun b hb hl => ⟨fun e => by have := HLK.out; omega, hb⟩) HV1_3.out)
  have HV2_4 := Lib.hid (show (Ty.rd .num).rd X4 (fun b => w.heap.size ≤ b ∧ b ≠ w.heap.size ∧ b ≠ k1 ∧ b ≠ rb) _ _ from rd_chg .num hstep (fun b hb hl => ⟨fun e => by have := HLK.out; omega, hb⟩) HV2_3.out)
  have HV3_4 := Lib.hid (show (Ty.rd .str).rd X4 (fun b => w.heap.size ≤ b ∧ b ≠ w.heap.size ∧ b ≠ k1 ∧ b ≠ rb) _ _ from rd_chg .str hcx (fun b hb hl => by have h1 := HLK.out; have h2 := HC3.out.size; have h3 := HB3.out.lt; have hb : X3.heap.size ≤ b := hb; exact ⟨by omega, by omega, by omega, by omega, by omega⟩) hr)
  have HX4 := Lib.hid hX
  clear hr hs hc hb' hcx hstep hX 
  go_upto_region 5 with fail
  rw [← HX4.out]
  have q0 := HB4.out.cell 0 _ rfl
  have zc0 := HZ4.out.cell 0 _ rfl
  have zf0 := HZ4.out.free 0
  have q1 := HB4.out.cell 1 _ rfl
  have zc1 := HZ4.out.cell 1 _ rfl
  have zf1 := HZ4.out.free 1
  have q2 := HB4.out.cell 2 _ rfl
  have zc2 := HZ4.out.cell 2 _ rfl
  have zf2 := HZ4.out.free 2
  have q3 := HB4.out.cell 3 _ rfl
  have zc3 := HZ4.out.cell 3 _ rfl
  have zf3 := HZ4.out.free 3
  go_wp2
  obtain ⟨Wf, hWf⟩ : ∃ Wf, Wf = ((((X4.setCell ⟨w.heap.size, 0, none⟩ (.int .i64 q0_0)).setCell ⟨w.heap.size, 1, none⟩ (.int .i64 q1_0)).setCell ⟨w.heap.size, 2, none⟩ (.int .i64 q2_0)).setCell ⟨w.heap.size, 3, none⟩ (.string q3_0)) := ⟨_, rfl⟩
  rw [← hWf]
  have hcf : Chg (fun b => b = w.heap.size) X4 Wf := by
    have g : ∀ (u : World) (j : Nat) (v : Value), Chg (fun b => b = w.heap.size) u (u.setCell ⟨w.heap.size, j, none⟩ v) := fun u j v => Chg.setCell _ _ rfl
    rw [hWf]
    exact (Chg.trans (Chg.trans (Chg.trans (g _ _ _) (g _ _ _)) (g _ _ _)) (g _ _ _))
  have HBF := Lib.hid (show Blk Wf w.heap.size [.int .i64 q0_0, .int .i64 q1_0, .int .i64 q2_0, .string q3_0] from by rw [hWf]; exact ((((HZ4.out.set 0 (.int .i64 q0_0) (by simp)).set 1 (.int .i64 q1_0) (by simp)).set 2 (.int .i64 q2_0) (by simp)).set 3 (.string q3_0) (by simp)))
  clear hWf q0 zc0 zf0 q1 zc1 zf1 q2 zc2 zf2 q3 zc3 zf3
  have sc0 := HBF.out.cell 0 _ rfl
  have sc1 := HBF.out.cell 1 _ rfl
  have sc2 := HBF.out.cell 2 _ rfl
  have sc3 := HBF.out.cell 3 _ rfl
  refine bodyPost_ret (v := .agg #[.int .i64 q0_0, .int .i64 q1_0, .int .i64 q2_0, .string q3_0]) (by simp [sc0, sc1, sc2, sc3, results, Tryz.results84, go_sem]) rfl ?_
  refine ⟨[.int .i64 q0_0, .int .i64 q1_0, .int .i64 q2_0, .string q3_0], rfl, ?_, ?_, ?_⟩
  · rw [HDEC.out]
    have h0 : (Ty.rd .num).rd Wf (w.heap.size ≤ ·) _ _ := rd_chg .num hcf (fun b hb hl => ⟨hb.2.1, hb.1⟩) HV0_4.out
    have h1 : (Ty.rd .num).rd Wf (w.heap.size ≤ ·) _ _ := rd_chg .num hcf (fun b hb hl => ⟨hb.2.1, hb.1⟩) HV1_4.out
    have h2 : (Ty.rd .num).rd Wf (w.heap.size ≤ ·) _ _ := rd_chg .num hcf (fun b hb hl => ⟨hb.2.1, hb.1⟩) HV2_4.out
    have h3 : (Ty.rd .str).rd Wf (w.heap.size ≤ ·) _ _ := rd_chg .str hcf (fun b hb hl => ⟨hb.2.1, hb.1⟩) HV3_4.out
    exact ⟨_, _, rfl, h0, _, _, rfl, h1, _, _, rfl, h2, h3⟩
  · rw [HDEC.out]; exact HR4.out.keep (hcf.more (fun b _ e => by have := HLK.out; omega))
  · exact (HC4.out.trans (hcf.more (fun b _ e => .inr (by omega)))).more (fun b hb e => e.elim id (fun e => by omega))

set_option maxRecDepth 100000 in
set_option maxHeartbeats 4000000 in
theorem rget_Hold : RGetC 85 tHold := by
  intro w rb B s h hmod
  obtain ⟨W0, hW0⟩ : ∃ W0, W0 = w.alloc (.cells #[.int .i64 0, .int .i64 0, .int .i64 0] 45) := ⟨_, rfl⟩
  have hb0 : Below w.heap.size w W0 := by rw [hW0]; exact (Below.refl _ _).alloc (Nat.le_refl _) _
  have HLT := Lib.hid (show rb < w.heap.size ∧ W0.heap.size = w.heap.size + 1 from And.intro h.lt (by rw [hW0]; simp))
  have HK0 := Lib.hid (show Blk W0 w.heap.size [.int .i64 0, .int .i64 0, .int .i64 0] from by rw [hW0]; exact Blk.new w _ _)
  have HR0 := Lib.hid (h.below hb0)
  have HC0 := Lib.hid (show Chg (fun b => b = rb ∨ w.heap.size ≤ b) w W0 from Chg.of_below hb0)
  have HW0 := Lib.hid hW0
  obtain ⟨s0, hs0⟩ : ∃ s0, s0 = s := ⟨_, rfl⟩
  rw [← hs0] at HR0
  obtain ⟨x0, s1, hd0⟩ : ∃ x s', dec .num s0 = (x, s') := ⟨_, _, rfl⟩
  obtain ⟨x1, s2, hd1⟩ : ∃ x s', dec tPeriod s1 = (x, s') := ⟨_, _, rfl⟩
  have HDEC := Lib.hid (show dec tHold s = ((x0, x1), s2) from by
    rw [← hs0]
    show dec (.pair .num tPeriod) s0 = _
    simp only [dec_pair, hd0, hd1])
  rw [← hs0] at hmod
  obtain ⟨hm0, hm1⟩ := hmod
  simp only [hd0] at hm1
  have HM0 := Lib.hid hm0
  have HM1 := Lib.hid hm1
  have HD0 := Lib.hid hd0
  have HD1 := Lib.hid hd1
  clear hm0 hm1 h hb0 hW0 hs0 hd0 hd1
  go_enter Tryz.func85, Tryz.ntmps85
  go_wp2_with fail
  rw [← HW0.out]
  refine (rget_int W0 rb B s0 HR0.out HM0.out).mono ?_
  rintro e w1 ⟨cs, rfl, hr, hs, hc⟩
  rw [HD0.out] at hr hs
  dsimp only at hr hs
  obtain ⟨q0_0, rfl⟩ : ∃ z : Int, cs = [.int .i64 z] := ⟨_, hr.1⟩
  have hg : goV [.int .i64 q0_0] = .int .i64 q0_0 := rfl
  rw [hg]
  clear hg
  obtain ⟨k1, hk1⟩ : ∃ k1, k1 = w1.heap.size := ⟨_, rfl⟩
  obtain ⟨X1, hX1⟩ : ∃ X1, X1 = w1.alloc (.cells #[.int .i64 q0_0, .int .i64 0, .int .i64 0] 45) := ⟨_, rfl⟩
  have hbx : Below w1.heap.size w1 X1 := by rw [hX1]; exact (Below.refl _ _).alloc (Nat.le_refl _) _
  have HLK := Lib.hid (show rb < w.heap.size ∧ w.heap.size < k1 ∧ k1 < X1.heap.size from by
    have h1 := HLT.out; have h2 := hc.size; have h3 : X1.heap.size = w1.heap.size + 1 := by rw [hX1]; simp
    omega)
  have HB1 := Lib.hid (show Blk X1 k1 [.int .i64 q0_0, .int .i64 0, .int .i64 0] from by rw [hX1, hk1]; exact Blk.new w1 _ _)
  have HR1 := Lib.hid (hs.below hbx)
  have HC1 := Lib.hid (show Chg (fun b => b = rb ∨ w.heap.size ≤ b) w X1 from (HC0.out.trans (hc.more (fun b _ e => .inl e))).trans (Chg.of_below hbx))
  have HZ1 := Lib.hid (show Blk X1 w.heap.size [.int .i64 0, .int .i64 0, .int .i64 0] from (HK0.out.chg hc (by have := HLT.out.1; omega)).chg (F := fun _ => False) (Chg.of_below hbx) id)
  have HV0_1 := Lib.hid (show (Ty.rd .num).rd X1 (fun b => w.heap.size ≤ b ∧ b ≠ w.heap.size ∧ b ≠ k1 ∧ b ≠ rb) _ _ from rd_chg .num (K := fun _ => False) (Chg.of_below hbx) (fun b hb hl => ⟨id, by have h1 := HLT.out; omega, by have h1 := HLT.out; omega, by omega, by have h1 := HLT.out; omega⟩) hr)
  have HX1 := Lib.hid hX1
  have HKK := Lib.hid hk1
  clear hr hs hc hX1 hbx hk1
  go_wp2_with fail
  rw [← HKK.out, ← HX1.out]
  refine (rget_Period X1 rb B s1 HR1.out HM1.out).mono ?_
  rintro e w2 ⟨cs, rfl, hr, hs, hc⟩
  rw [HD1.out] at hr hs
  dsimp only at hr hs
  obtain ⟨q1_0, q1_1, rfl⟩ := shape_Period hr
  have hg : goV [.int .i64 q1_0, .int .i64 q1_1] = .agg #[.int .i64 q1_0, .int .i64 q1_1] := rfl
  rw [hg]
  clear hg
  have hb' := HB1.out.chg hc (by have := HLK.out; omega)
  have t0 := hb'.cell 1 _ rfl
  have z0 := hb'.free 1
  have t1 := hb'.cell 2 _ rfl
  have z1 := hb'.free 2
  obtain ⟨X2, hX⟩ : ∃ X, X = ((w2.setCell ⟨k1, 1, none⟩ (.int .i64 q1_0)).setCell ⟨k1, 2, none⟩ (.int .i64 q1_1)) := ⟨_, rfl⟩
  have hcx : Chg (fun b => b = k1) w2 X2 := by
    have g : ∀ (u : World) (j : Nat) (v : Value), Chg (fun b => b = k1) u (u.setCell ⟨k1, j, none⟩ v) := fun u j v => Chg.setCell _ _ rfl
    rw [hX]
    exact (Chg.trans (g _ _ _) (g _ _ _))
  have HB2 := Lib.hid (show Blk X2 k1 [.int .i64 q0_0, .int .i64 q1_0, .int .i64 q1_1] from by rw [hX]; exact ((hb'.set 1 (.int .i64 q1_0) (by simp)).set 2 (.int .i64 q1_1) (by simp)))
  have HR2 := Lib.hid (hs.keep (hcx.more (fun b _ e => by have := HLK.out; omega)))
  have hstep : Chg (fun b => b = rb ∨ b = k1) X1 X2 := (hc.more (fun b _ e => .inl e)).trans (hcx.more (fun b _ e => .inr e))
  have HC2 := Lib.hid (show Chg (fun b => b = rb ∨ w.heap.size ≤ b) w X2 from HC1.out.trans (hstep.more (fun b _ e => e.elim .inl (fun e => .inr (by have := HLK.out; omega)))))
  have HZ2 := Lib.hid (show Blk X2 w.heap.size [.int .i64 0, .int .i64 0, .int .i64 0] from HZ1.out.chg hstep (by have := HLK.out; omega))
  have HV0_2 := Lib.hid (show (Ty.rd .num).rd X2 (fun b => w.heap.size ≤ b ∧ b ≠ w.heap.size ∧ b ≠ k1 ∧ b ≠ rb) _ _ from rd_chg .num hstep (fun b hb hl => ⟨fun e => by have := HLK.out; omega, hb⟩) HV0_1.out)
  have HV1_2 := Lib.hid (show (Ty.rd tPeriod).rd X2 (fun b => w.heap.size ≤ b ∧ b ≠ w.heap.size ∧ b ≠ k1 ∧ b ≠ rb) _ _ from rd_chg tPeriod hcx (fun b hb hl => by have h1 := HLK.out; have h2 := HC1.out.size; have h3 := HB1.out.lt; have hb : X1.heap.size ≤ b := hb; exact ⟨by omega, by omega, by omega, by omega, by omega⟩) hr)
  have HX2 := Lib.hid hX
  clear hr hs hc hb' hcx hstep hX 
  go_upto_region 3 with fail
  rw [← HX2.out]
  have q0 := HB2.out.cell 0 _ rfl
  have zc0 := HZ2.out.cell 0 _ rfl
  have zf0 := HZ2.out.free 0
  have q1 := HB2.out.cell 1 _ rfl
  have zc1 := HZ2.out.cell 1 _ rfl
  have zf1 := HZ2.out.free 1
  have q2 := HB2.out.cell 2 _ rfl
  have zc2 := HZ2.out.cell 2 _ rfl
  have zf2 := HZ2.out.free 2
  go_wp2
  obtain ⟨Wf, hWf⟩ : ∃ Wf, Wf = (((X2.setCell ⟨w.heap.size, 0, none⟩ (.int .i64 q0_0)).setCell ⟨w.heap.size, 1, none⟩ (.int .i64 q1_0)).setCell ⟨w.heap.size, 2, none⟩ (.int .i64 q1_1)) := ⟨_, rfl⟩
  rw [← hWf]
  have hcf : Chg (fun b => b = w.heap.size) X2 Wf := by
    have g : ∀ (u : World) (j : Nat) (v : Value), Chg (fun b => b = w.heap.size) u (u.setCell ⟨w.heap.size, j, none⟩ v) := fun u j v => Chg.setCell _ _ rfl
    rw [hWf]
    exact (Chg.trans (Chg.trans (g _ _ _) (g _ _ _)) (g _ _ _))
  have HBF := Lib.hid (show Blk Wf w.heap.size [.int .i64 q0_0, .int .i64 q1_0, .int .i64 q1_1] from by rw [hWf]; exact (((HZ2.out.set 0 (.int .i64 q0_0) (by simp)).set 1 (.int .i64 q1_0) (by simp)).set 2 (.int .i64 q1_1) (by simp)))
  clear hWf q0 zc0 zf0 q1 zc1 zf1 q2 zc2 zf2
  have sc0 := HBF.out.cell 0 _ rfl
  have sc1 := HBF.out.cell 1 _ rfl
  have sc2 := HBF.out.cell 2 _ rfl
  refine bodyPost_ret (v := .agg #[.int .i64 q0_0, .int .i64 q1_0, .int .i64 q1_1]) (by simp [sc0, sc1, sc2, results, Tryz.results85, go_sem]) rfl ?_
  refine ⟨[.int .i64 q0_0, .int .i64 q1_0, .int .i64 q1_1], rfl, ?_, ?_, ?_⟩
  · rw [HDEC.out]
    have h0 : (Ty.rd .num).rd Wf (w.heap.size ≤ ·) _ _ := rd_chg .num hcf (fun b hb hl => ⟨hb.2.1, hb.1⟩) HV0_2.out
    have h1 : (Ty.rd tPeriod).rd Wf (w.heap.size ≤ ·) _ _ := rd_chg tPeriod hcf (fun b hb hl => ⟨hb.2.1, hb.1⟩) HV1_2.out
    exact ⟨_, _, rfl, h0, h1⟩
  · rw [HDEC.out]; exact HR2.out.keep (hcf.more (fun b _ e => by have := HLK.out; omega))
  · exact (HC2.out.trans (hcf.more (fun b _ e => .inr (by omega)))).more (fun b hb e => e.elim id (fun e => by omega))
end Go.Proofs.YtfppjpmflpaffaaGreat
