/-
  The walk of DiskStable.
-/
import Derived.Test.YtbolglpbkgmlfaaDkO
namespace Go.Proofs.Ytbolglpbkgmlfaa
open Go.RowKit Go.Maps
set_option linter.unusedVariables false

set_option maxRecDepth 100000 in
set_option maxHeartbeats 4000000 in
theorem stable_big (ov dv kv : Value) (old data : List UInt8) (keep : List Int) (n : Int) (W : World) (ho : (rSlice rByte).rd W (· < W.heap.size) [ov] old) (hd : (rSlice rByte).rd W (· < W.heap.size) [dv] data) (hk : (rSlice (rInt .i64)).rd W (· < W.heap.size) [kv] keep)
    (hb : 128 < old.length ∨ (old.length ≤ 128 ∧ 128 < data.length) ∨ (old.length ≤ 128 ∧ data.length ≤ 128 ∧ 10 < keep.length)) : Calls Try.prog 4 #[ov, dv, kv, .int .u8 n] W (Holds W) := by
  obtain ⟨oa, oc, rfl⟩ := Sl.len (data_of ho)
  obtain ⟨da, dc, rfl⟩ := Sl.len (data_of hd)
  obtain ⟨ka, kn, kc, e, rfl, _⟩ := hk
  obtain rfl : kv = .slice ka keep.length kc := by simpa using e
  clear e ho hd
  rcases hb with h1 | ⟨h1, h2⟩ | ⟨h1, h2, h3⟩
  · have g1 : decide ((128 : Int) < (old.length : Int)) = true := by simp; omega
    go_enter Try.func4, Try.ntmps4
    go_wp2_with fail
    refine (awake_any _).mono ?_
    rintro e w2 ⟨rfl, hb⟩
    go_wp2
    go_ret
    exact ⟨rfl, hb⟩
  · have g1 : decide ((128 : Int) < (old.length : Int)) = false := by simp; omega
    have g2 : decide ((128 : Int) < (data.length : Int)) = true := by simp; omega
    go_enter Try.func4, Try.ntmps4
    go_wp2_with fail
    refine (awake_any _).mono ?_
    rintro e w2 ⟨rfl, hb⟩
    go_wp2
    go_ret
    exact ⟨rfl, hb⟩
  · have g1 : decide ((128 : Int) < (old.length : Int)) = false := by simp; omega
    have g2 : decide ((128 : Int) < (data.length : Int)) = false := by simp; omega
    have g3 : decide ((10 : Int) < (keep.length : Int)) = true := by simp; omega
    go_enter Try.func4, Try.ntmps4
    go_wp2_with fail
    refine (awake_any _).mono ?_
    rintro e w2 ⟨rfl, hb⟩
    go_wp2
    go_ret
    exact ⟨rfl, hb⟩

theorem make_run (W : World) : Sem.run Try.prog (Instr.makeSlice 24 (.int .i64 128) (.int .i64 128)) W = .ok (.slice (some ⟨W.heap.size, 0, none⟩) 128 128) (W.alloc (.cells (pc zeroPage).toArray 5)) := by kernel_rfl

set_option maxRecDepth 100000 in
set_option maxHeartbeats 4000000 in
theorem stable_walk0 (ov dv kv : Value) (old data : List UInt8) (keep : List Int) (nn m : Nat) (W : World) (ho : (rSlice rByte).rd W (· < W.heap.size) [ov] old) (hd : (rSlice rByte).rd W (· < W.heap.size) [dv] data) (hk : (rSlice (rInt .i64)).rd W (· < W.heap.size) [kv] keep)
    (h1 : old.length ≤ 128) (h2 : data.length ≤ 128) (h3 : keep.length ≤ 10) (hn : nn < 256) (hm : m = nn % 3) : Calls Try.prog 4 #[ov, dv, kv, .int .u8 (nn : Int)] W (Holds W) := by
  have DO := Lib.hid (data_of ho)
  have DD := Lib.hid (data_of hd)
  have KK := Lib.hid hk
  obtain ⟨oa, oc, rfl⟩ := Sl.len (data_of ho)
  obtain ⟨da, dc, rfl⟩ := Sl.len (data_of hd)
  obtain ⟨ka, kn, kc, e, rfl, _⟩ := hk
  obtain rfl : kv = .slice ka keep.length kc := by simpa using e
  have P := Lib.hid (stable_plain h1 h2 m (by omega) keep)
  have C1 := Lib.hid (show ((DK.new 2).write 0 old).2 = 0 from by rw [st1_eq h1])
  have C2 := Lib.hid (show ((st1 old).write 1 old).2 = 0 from by rw [st2_eq h1])
  have C3 := Lib.hid (show (st2 old).sync.2 = 0 from by rw [st3_eq h1])
  have C4 := Lib.hid (show ((st3 old).write 1 data).2 = 0 from by rw [st4_eq h1 h2])
  have g1 : decide ((128 : Int) < (old.length : Int)) = false := by simp; omega
  have g2 : decide ((128 : Int) < (data.length : Int)) = false := by simp; omega
  have g3 : decide ((10 : Int) < (keep.length : Int)) = false := by simp; omega
  have H1 := Lib.hid h1
  have H2 := Lib.hid h2
  have H3 := Lib.hid h3
  clear e ho hd h1 h2 h3
  have hmk := make_run
  have W0 := Lib.hid (wf_small (n := 0) (by omega))
  have W1 := Lib.hid (wf_small (n := 1) (by omega))
  have HM := Lib.hid hm
  have hmr : Int.tmod (nn : Int) 3 = (m : Int) := by subst hm; rw [Int.tmod_eq_emod_of_nonneg (by omega)]; rfl
  clear hm
  go_enter Try.func4, Try.ntmps4
  go_wp2_with fail
  refine (dk_new 2 2 (by decide) _).mono ?_
  rintro e w1 ⟨B, rfl, hD, hB1, hb1, hb2, hb3⟩
  have HD1 := Lib.hid hD
  have HB1 := Lib.hid hB1
  clear hD hB1
  unfold DB.ptr
  go_wp2_with fail
  refine (dk_write HD1.out 0 W0.out _ old (DO.out.keep HB1.out)).mono ?_
  rintro e w2 ⟨rfl, ht⟩
  rw [C1.out]
  have HB2 := Lib.hid (ht.below HB1.out hb1 hb2 hb3)
  have HD2 := Lib.hid (show IsDisk w2 B (st1 old) from ht.1)
  clear ht
  go_wp2_with fail
  refine (dk_write HD2.out 1 W1.out _ old (DO.out.keep HB2.out)).mono ?_
  rintro e w3 ⟨rfl, ht⟩
  rw [C2.out]
  have HB3 := Lib.hid (ht.below HB2.out hb1 hb2 hb3)
  have HD3 := Lib.hid (show IsDisk w3 B (st2 old) from ht.1)
  clear ht
  go_wp2_with fail
  refine (dk_sync HD3.out).mono ?_
  rintro e w4 ⟨rfl, ht⟩
  rw [C3.out]
  have HB4 := Lib.hid (ht.below HB3.out hb1 hb2 hb3)
  have HD4 := Lib.hid (show IsDisk w4 B (st3 old) from ht.1)
  clear ht
  go_wp2_with fail
  refine (dk_write HD4.out 1 W1.out _ data (DD.out.keep HB4.out)).mono ?_
  rintro e w5 ⟨rfl, ht⟩
  rw [C4.out]
  have HB5 := Lib.hid (ht.below HB4.out hb1 hb2 hb3)
  have HD5 := Lib.hid (show IsDisk w5 B (st4 old data) from ht.1)
  clear ht
  go_wp2_with fail
  rw [show wrap64 (m : Int) = (m : Int) from by have := HM.out; unfold wrap64; omega]
  refine (dk_failAfter HD5.out (m : Int) (wf_small (by have := HM.out; omega))).mono ?_
  rintro e w6 ⟨rfl, ht⟩
  have HB6 := Lib.hid (ht.below HB5.out hb1 hb2 hb3)
  have HD6 := Lib.hid (show IsDisk w6 B (st5 old data m) from ht.1)
  clear ht
  go_wp2_with fail
  refine (dk_sync HD6.out).mono ?_
  rintro e w7 ⟨rfl, ht⟩
  have HB7 := Lib.hid (ht.below HB6.out hb1 hb2 hb3)
  have HD7 := Lib.hid (show IsDisk w7 B (st6 old data m) from ht.1)
  clear ht
  generalize (st5 old data m).sync.2 = sc
  go_wp2_with fail
  refine (dk_down HD7.out).mono ?_
  rintro e w' ⟨rfl, rfl⟩
  rw [P.out.1]
  go_wp2_with fail
  refine (dk_crash HD7.out _ keep (keep_of KK.out (fun b hb => ⟨hb, by have : b < W.heap.size := hb; omega⟩) HB7.out) (by have := H3.out; omega)).mono ?_
  rintro e w8 ⟨rfl, ht⟩
  have HB8 := Lib.hid (ht.below HB7.out hb1 hb2 hb3)
  have HD8 := Lib.hid (show IsDisk w8 B (st7 old data m keep) from ht.1)
  clear ht
  go_wp2_with fail
  refine (dk_restart HD8.out).mono ?_
  rintro e w9 ⟨rfl, ht⟩
  have HB9 := Lib.hid (ht.below HB8.out hb1 hb2 hb3)
  have HD9 := Lib.hid (show IsDisk w9 B (st8 old data m keep) from ht.1)
  clear ht
  go_wp2_with fail
  refine (dk_read HD9.out 0 W0.out).mono ?_
  rintro e w10 ⟨va, rfl, hr⟩
  rw [P.out.2.1]
  have HB10 := Lib.hid (HB9.out.trans (hr.2.mono HB9.out.size))
  have HD10 := Lib.hid (HD9.out.below hr.2)
  have hda := read_cells hr
  rw [P.out.2.2.2.1] at hda
  obtain ⟨ga, fa, ca, rfl, hca, hga, _⟩ := Sl.some_ hda (by rw [pad_len H1.out]; omega)
  have DA := Lib.hid hda
  rw [pad_len H1.out] at hca
  clear hda hr
  go_wp2_with fail
  refine (dk_read HD10.out 1 W1.out).mono ?_
  rintro e w11 ⟨vb, rfl, hr⟩
  rw [P.out.2.2.1]
  have HB11 := Lib.hid (HB10.out.trans (hr.2.mono HB10.out.size))
  have hdb := read_cells hr
  generalize (st8 old data m keep).read 1 = R at *
  have HRL := Lib.hid (show R.length = 128 from P.out.2.2.2.2.1)
  obtain ⟨gb, fb, cb, rfl, hcb, hgb, _⟩ := Sl.some_ hdb (by rw [HRL.out]; omega)
  have DB_ := Lib.hid hdb
  have DA1 := Lib.hid (DA.out.keep hr.2)
  have hga1 : ga < w11.heap.size := Nat.lt_of_lt_of_le hga hr.2.size
  clear hdb hr
  rw [HRL.out] at hcb
  simp only [pad_len H1.out, HRL.out]
  go_wp2_with fail
  go_region_with (fail)
  all_goals
    obtain ⟨wm, hwm⟩ : ∃ wm, wm = ((w11.alloc (.cells (pc zeroPage).toArray 5)).alloc (.cells (pc zeroPage).toArray 5)).drew := ⟨_, rfl⟩
    have hbm : Below w11.heap.size w11 wm := by rw [hwm]; exact (((Below.refl _ _).alloc (Nat.le_refl _) _).alloc (by simp) _).drew
    have hr0 : wm.rangeAt w11.heap.size 0 (pc zeroPage) := by rw [hwm]; exact (World.rangeAt_drew _ _ _ _).2 (World.rangeAt_alloc new_page _)
    have ht0 : wm.there w11.heap.size 0 128 := by rw [hwm]; exact (World.there_drew _ _ _ _).2 (World.there_alloc new_there _)
    have hr1 : wm.rangeAt (w11.heap.size + 1) 0 (pc zeroPage) := by rw [hwm]; refine (World.rangeAt_drew _ _ _ _).2 ?_; have := new_page (W := w11.alloc (.cells (pc zeroPage).toArray 5)) (t := 5) (cs := pc zeroPage); simpa using this
    have ht1 : wm.there (w11.heap.size + 1) 0 128 := by rw [hwm]; refine (World.there_drew _ _ _ _).2 ?_; have := new_there (W := w11.alloc (.cells (pc zeroPage).toArray 5)) (t := 5) (cs := pc zeroPage); rw [show (pc zeroPage).length = 128 from rfl] at this; simpa using this
    have hszm : wm.heap.size = w11.heap.size + 2 := by rw [hwm]; simp [World.drew]
    rw [← hwm]
    clear hwm hmk
  · have hne : w11.heap.size ≠ (w11.heap.size + 1) := by omega
    obtain ⟨wx, hcx, rx, tx, chx⟩ := copy_page (g := w11.heap.size) (c := 128) (DO.out.keep (HB11.out.trans (hbm.mono HB11.out.size))) H1.out hr0 ht0
    have hbx : Below w11.heap.size wm wx := chx.below (by omega) (fun b hb => by subst hb; omega)
    have hry : wx.rangeAt (w11.heap.size + 1) 0 (pc zeroPage) := fun j u hu => (chx.cell (a := ⟨(w11.heap.size + 1), 0 + j, none⟩) (by show ¬ (w11.heap.size + 1) = w11.heap.size; omega) (by show (w11.heap.size + 1) < _; omega)).trans (hr1 j u hu)
    have hty : wx.there (w11.heap.size + 1) 0 128 := fun j hj => by
      have e1 := chx.cell (a := ⟨(w11.heap.size + 1), 0 + j, none⟩) (by show ¬ (w11.heap.size + 1) = w11.heap.size; omega) (by show (w11.heap.size + 1) < _; omega)
      have e2 := chx.frozen (a := ⟨(w11.heap.size + 1), 0 + j, none⟩) (by show ¬ (w11.heap.size + 1) = w11.heap.size; omega) (by show (w11.heap.size + 1) < _; omega)
      rw [e1, e2]; exact ht1 j hj
    have hb11x : Below w11.heap.size w11 wx := hbm.trans hbx
    obtain ⟨wy, hcy, ry, ty, chy⟩ := copy_page (g := (w11.heap.size + 1)) (c := 128) (DD.out.keep (HB11.out.trans (hb11x.mono HB11.out.size))) H2.out hry hty
    have hby : Below w11.heap.size w11 wy := hb11x.trans (chy.below hb11x.size (fun b hb => by subst hb; omega))
    have rxy : wy.rangeAt w11.heap.size 0 (pc (pad old)) := fun j u hu => (chy.cell (a := ⟨w11.heap.size, 0 + j, none⟩) (by show ¬ w11.heap.size = (w11.heap.size + 1); omega) (by have := hbx.size; have := chx.size; show w11.heap.size < _; omega)).trans (rx j u hu)
    have hsy : w11.heap.size + 2 ≤ wy.heap.size := by have := chx.size; have := chy.size; omega
    have DX := Lib.hid (data_of_range (c := 128) rxy (by omega) (pad_len H1.out).symm (Nat.le_refl _))
    have DY := Lib.hid (data_of_range (c := 128) ry (by omega) (pad_len H2.out).symm (Nat.le_refl _))
    have DA2 := Lib.hid (DA1.out.keep hby)
    have DB2 := Lib.hid (DB_.out.keep hby)
    have HBY := Lib.hid (HB11.out.trans (hby.mono HB11.out.size))
    have hlx : w11.heap.size < wy.heap.size := by omega
    have hly : (w11.heap.size + 1) < wy.heap.size := by omega
    clear hr0 hr1 ht0 ht1 hry hty rx ry rxy tx ty chx chy hby hb11x hbx hbm
    rcases (show m = 0 ∨ m = 2 ∨ m = 1 by have := HM.out; omega) with rfl | rfl | rfl
    · have hmr' : Int.tmod (nn : Int) 3 = 0 := hmr
      clear hmr
      have HP := Lib.hid ((P.out.2.2.2.2.2 (128) (rfl)))
      obtain ⟨sx, hsx, hsx', HSX⟩ := cut_from (z := 128) (g := w11.heap.size) (off := 0) (n := 128) (c := 128) (K := 128) (rfl) HP.out.1 (by omega)
      obtain ⟨sb, hsb, hsb', HSB⟩ := cut_from (z := 128) (g := gb) (off := fb) (n := 128) (c := cb) (K := 128) (rfl) HP.out.1 hcb
      obtain ⟨qy, hqy, hqy', HQY⟩ := cut_to (z := 128) (g := (w11.heap.size + 1)) (off := 0) (n := 128) (c := 128) (K := 128) (rfl) HP.out.1 (by omega)
      obtain ⟨qb, hqb, hqb', HQB⟩ := cut_to (z := 128) (g := gb) (off := fb) (n := 128) (c := cb) (K := 128) (rfl) HP.out.1 hcb
      have HSX := Lib.hid HSX
      have HSB := Lib.hid HSB
      have HQY := Lib.hid HQY
      have HQB := Lib.hid HQB
      go_wp2_with fail
      refine region_call_still (by kernel_rfl) (by kernel_rfl) (by kernel_rfl) ?_
      intro wD hWD
      have HBD : Below wy.heap.size wy wD := by rw [hWD]; exact (Below.refl _ _).drew
      clear hWD
      go_wp2_with fail
      refine (awake_any _).mono ?_
      rintro e wz ⟨rfl, hbz⟩
      have hby2 : Below wy.heap.size wy wz := below_chain HBD hbz
      have HBZ := Lib.hid (below_chain HBY.out hby2)
      have hcA := convert_data (DA2.out.keep hby2)
      have hcX := convert_data (DX.out.keep hby2)
      have hdB3 : Data wz (.slice (some ⟨gb, fb, none⟩) 128 cb) R := by have := DB2.out.keep hby2; rwa [HRL.out] at this
      have hcB1 := convert_data (HQB.out _ _ HRL.out hdB3)
      have hcY1 := convert_data (HQY.out _ _ (pad_len H2.out) (DY.out.keep hby2))
      have hcB2 := convert_data (HSB.out _ _ HRL.out hdB3)
      have hcX2 := convert_data (HSX.out _ _ (pad_len H1.out) (DX.out.keep hby2))
      rw [HP.out.2.1] at hcB1
      rw [HP.out.2.2] at hcB2
      unfold txt at hcA hcX hcB1 hcY1 hcB2 hcX2
      rw [pad_len H1.out] at hcA
      clear hdB3 hcx hcy g1 g2 g3 hga1
      have hgm : Int.tmod (nn : Int) 3 = _ := hmr'
      generalize hS1 : (⟨(pad old).toArray⟩ : ByteArray) = S1 at hcA hcX
      generalize hS2 : (⟨((pad data).take (128)).toArray⟩ : ByteArray) = S2 at hcB1 hcY1
      generalize hS3 : (⟨((pad old).drop (128)).toArray⟩ : ByteArray) = S3 at hcB2 hcX2
      clear hS1 hS2 hS3
      dsimp only

      refine stillH_want (by kernel_rfl) (fun K hK => ?_); go_simp; refine hK _ ?_; clear hK K
      refine stillH_want (by kernel_rfl) (fun K hK => ?_); go_simp; refine hK _ ?_; clear hK K
      refine stillH_want (by kernel_rfl) (fun K hK => ?_); go_simp; refine hK _ ?_; clear hK K
      refine stillH_want (by kernel_rfl) (fun K hK => ?_); go_simp; refine hK _ ?_; clear hK K
      refine stillH_want (by kernel_rfl) (fun K hK => ?_); go_simp; refine hK _ ?_; clear hK K
      refine stillH_want (by kernel_rfl) (fun K hK => ?_); go_simp; refine hK _ ?_; clear hK K
      refine stillH_want (by kernel_rfl) (fun K hK => ?_); go_simp; refine hK _ ?_; clear hK K
      refine stillH_want (by kernel_rfl) (fun K hK => ?_); go_simp; refine hK _ ?_; clear hK K
      refine stillH_want (by kernel_rfl) (fun K hK => ?_); go_simp; refine hK _ ?_; clear hK K
      refine stillH_want (by kernel_rfl) (fun K hK => ?_); go_simp; refine hK _ ?_; clear hK K
      refine stillH_want (by kernel_rfl) (fun K hK => ?_); go_simp; refine hK _ ?_; clear hK K
      refine stillH_want (by kernel_rfl) (fun K hK => ?_); go_simp; refine hK _ ?_; clear hK K
      refine stillH_want (by kernel_rfl) (fun K hK => ?_); go_simp; refine hK _ ?_; clear hK K
      refine stillH_want (by kernel_rfl) (fun K hK => ?_); go_simp; refine hK _ ?_; clear hK K
      refine stillH_want (by kernel_rfl) (fun K hK => ?_); go_simp; refine hK _ ?_; clear hK K
      refine stillH_want (by kernel_rfl) (fun K hK => ?_); go_simp; refine hK _ ?_; clear hK K
      refine stillH_want (by kernel_rfl) (fun K hK => ?_); go_simp; refine hK _ ?_; clear hK K
      refine stillH_want (by kernel_rfl) (fun K hK => ?_); go_simp; refine hK _ ?_; clear hK K
      refine stillH_want (by kernel_rfl) (fun K hK => ?_); go_simp; refine hK _ ?_; clear hK K
      refine stillH_want (by kernel_rfl) (fun K hK => ?_); go_simp; refine hK _ ?_; clear hK K
      refine stillH_want (by kernel_rfl) (fun K hK => ?_); go_simp; refine hK _ ?_; clear hK K
      refine stillH_want (by kernel_rfl) (fun K hK => ?_); go_simp; refine hK _ ?_; clear hK K
      refine stillH_want (by kernel_rfl) (fun K hK => ?_); go_simp; refine hK _ ?_; clear hK K
      refine stillH_want (by kernel_rfl) (fun K hK => ?_); go_simp; refine hK _ ?_; clear hK K
      refine stillH_want (by kernel_rfl) (fun K hK => ?_); go_simp; refine hK _ ?_; clear hK K
      refine stillH_want (by kernel_rfl) (fun K hK => ?_); go_simp; refine hK _ ?_; clear hK K
      refine stillH_want (by kernel_rfl) (fun K hK => ?_); go_simp; refine hK _ ?_; clear hK K
      refine stillH_want (by kernel_rfl) (fun K hK => ?_); go_simp; refine hK _ ?_; clear hK K
      refine stillH_want (by kernel_rfl) (fun K hK => ?_); go_simp; refine hK _ ?_; clear hK K
      refine stillH_want (by kernel_rfl) (fun K hK => ?_); go_simp; refine hK _ ?_; clear hK K
      refine stillH_want (by kernel_rfl) (fun K hK => ?_); go_simp; refine hK _ ?_; clear hK K
      refine stillH_want (by kernel_rfl) (fun K hK => ?_); go_simp; refine hK _ ?_; clear hK K
      refine stillH_want (by kernel_rfl) (fun K hK => ?_); go_simp; refine hK _ ?_; clear hK K
      refine stillH_want (by kernel_rfl) (fun K hK => ?_); go_simp; refine hK _ ?_; clear hK K
      refine stillH_want (by kernel_rfl) (fun K hK => ?_); go_simp; refine hK _ ?_; clear hK K
      refine stillH_want (by kernel_rfl) (fun K hK => ?_); go_simp; refine hK _ ?_; clear hK K
      refine stillH_want (by kernel_rfl) (fun K hK => ?_); go_simp; refine hK _ ?_; clear hK K
      refine stillH_nil ?_
      go_wp2
      go_ret
      exact ⟨rfl, HBZ.out⟩
    · have hmr' : Int.tmod (nn : Int) 3 = 2 := hmr
      clear hmr
      have HP := Lib.hid ((P.out.2.2.2.2.2 (128) (rfl)))
      obtain ⟨sx, hsx, hsx', HSX⟩ := cut_from (z := 128) (g := w11.heap.size) (off := 0) (n := 128) (c := 128) (K := 128) (rfl) HP.out.1 (by omega)
      obtain ⟨sb, hsb, hsb', HSB⟩ := cut_from (z := 128) (g := gb) (off := fb) (n := 128) (c := cb) (K := 128) (rfl) HP.out.1 hcb
      obtain ⟨qy, hqy, hqy', HQY⟩ := cut_to (z := 128) (g := (w11.heap.size + 1)) (off := 0) (n := 128) (c := 128) (K := 128) (rfl) HP.out.1 (by omega)
      obtain ⟨qb, hqb, hqb', HQB⟩ := cut_to (z := 128) (g := gb) (off := fb) (n := 128) (c := cb) (K := 128) (rfl) HP.out.1 hcb
      have HSX := Lib.hid HSX
      have HSB := Lib.hid HSB
      have HQY := Lib.hid HQY
      have HQB := Lib.hid HQB
      go_wp2_with fail
      refine region_call_still (by kernel_rfl) (by kernel_rfl) (by kernel_rfl) ?_
      intro wD hWD
      have HBD : Below wy.heap.size wy wD := by rw [hWD]; exact (Below.refl _ _).drew
      clear hWD
      go_wp2_with fail
      refine (awake_any _).mono ?_
      rintro e wz ⟨rfl, hbz⟩
      have hby2 : Below wy.heap.size wy wz := below_chain HBD hbz
      have HBZ := Lib.hid (below_chain HBY.out hby2)
      have hcA := convert_data (DA2.out.keep hby2)
      have hcX := convert_data (DX.out.keep hby2)
      have hdB3 : Data wz (.slice (some ⟨gb, fb, none⟩) 128 cb) R := by have := DB2.out.keep hby2; rwa [HRL.out] at this
      have hcB1 := convert_data (HQB.out _ _ HRL.out hdB3)
      have hcY1 := convert_data (HQY.out _ _ (pad_len H2.out) (DY.out.keep hby2))
      have hcB2 := convert_data (HSB.out _ _ HRL.out hdB3)
      have hcX2 := convert_data (HSX.out _ _ (pad_len H1.out) (DX.out.keep hby2))
      rw [HP.out.2.1] at hcB1
      rw [HP.out.2.2] at hcB2
      unfold txt at hcA hcX hcB1 hcY1 hcB2 hcX2
      rw [pad_len H1.out] at hcA
      clear hdB3 hcx hcy g1 g2 g3 hga1
      have hgm : Int.tmod (nn : Int) 3 = _ := hmr'
      generalize hS1 : (⟨(pad old).toArray⟩ : ByteArray) = S1 at hcA hcX
      generalize hS2 : (⟨((pad data).take (128)).toArray⟩ : ByteArray) = S2 at hcB1 hcY1
      generalize hS3 : (⟨((pad old).drop (128)).toArray⟩ : ByteArray) = S3 at hcB2 hcX2
      clear hS1 hS2 hS3
      dsimp only

      refine stillH_want (by kernel_rfl) (fun K hK => ?_); go_simp; refine hK _ ?_; clear hK K
      refine stillH_want (by kernel_rfl) (fun K hK => ?_); go_simp; refine hK _ ?_; clear hK K
      refine stillH_want (by kernel_rfl) (fun K hK => ?_); go_simp; refine hK _ ?_; clear hK K
      refine stillH_want (by kernel_rfl) (fun K hK => ?_); go_simp; refine hK _ ?_; clear hK K
      refine stillH_want (by kernel_rfl) (fun K hK => ?_); go_simp; refine hK _ ?_; clear hK K
      refine stillH_want (by kernel_rfl) (fun K hK => ?_); go_simp; refine hK _ ?_; clear hK K
      refine stillH_want (by kernel_rfl) (fun K hK => ?_); go_simp; refine hK _ ?_; clear hK K
      refine stillH_want (by kernel_rfl) (fun K hK => ?_); go_simp; refine hK _ ?_; clear hK K
      refine stillH_want (by kernel_rfl) (fun K hK => ?_); go_simp; refine hK _ ?_; clear hK K
      refine stillH_want (by kernel_rfl) (fun K hK => ?_); go_simp; refine hK _ ?_; clear hK K
      refine stillH_want (by kernel_rfl) (fun K hK => ?_); go_simp; refine hK _ ?_; clear hK K
      refine stillH_want (by kernel_rfl) (fun K hK => ?_); go_simp; refine hK _ ?_; clear hK K
      refine stillH_want (by kernel_rfl) (fun K hK => ?_); go_simp; refine hK _ ?_; clear hK K
      refine stillH_want (by kernel_rfl) (fun K hK => ?_); go_simp; refine hK _ ?_; clear hK K
      refine stillH_want (by kernel_rfl) (fun K hK => ?_); go_simp; refine hK _ ?_; clear hK K
      refine stillH_want (by kernel_rfl) (fun K hK => ?_); go_simp; refine hK _ ?_; clear hK K
      refine stillH_want (by kernel_rfl) (fun K hK => ?_); go_simp; refine hK _ ?_; clear hK K
      refine stillH_want (by kernel_rfl) (fun K hK => ?_); go_simp; refine hK _ ?_; clear hK K
      refine stillH_want (by kernel_rfl) (fun K hK => ?_); go_simp; refine hK _ ?_; clear hK K
      refine stillH_want (by kernel_rfl) (fun K hK => ?_); go_simp; refine hK _ ?_; clear hK K
      refine stillH_want (by kernel_rfl) (fun K hK => ?_); go_simp; refine hK _ ?_; clear hK K
      refine stillH_want (by kernel_rfl) (fun K hK => ?_); go_simp; refine hK _ ?_; clear hK K
      refine stillH_want (by kernel_rfl) (fun K hK => ?_); go_simp; refine hK _ ?_; clear hK K
      refine stillH_want (by kernel_rfl) (fun K hK => ?_); go_simp; refine hK _ ?_; clear hK K
      refine stillH_want (by kernel_rfl) (fun K hK => ?_); go_simp; refine hK _ ?_; clear hK K
      refine stillH_want (by kernel_rfl) (fun K hK => ?_); go_simp; refine hK _ ?_; clear hK K
      refine stillH_want (by kernel_rfl) (fun K hK => ?_); go_simp; refine hK _ ?_; clear hK K
      refine stillH_want (by kernel_rfl) (fun K hK => ?_); go_simp; refine hK _ ?_; clear hK K
      refine stillH_want (by kernel_rfl) (fun K hK => ?_); go_simp; refine hK _ ?_; clear hK K
      refine stillH_want (by kernel_rfl) (fun K hK => ?_); go_simp; refine hK _ ?_; clear hK K
      refine stillH_want (by kernel_rfl) (fun K hK => ?_); go_simp; refine hK _ ?_; clear hK K
      refine stillH_want (by kernel_rfl) (fun K hK => ?_); go_simp; refine hK _ ?_; clear hK K
      refine stillH_want (by kernel_rfl) (fun K hK => ?_); go_simp; refine hK _ ?_; clear hK K
      refine stillH_want (by kernel_rfl) (fun K hK => ?_); go_simp; refine hK _ ?_; clear hK K
      refine stillH_want (by kernel_rfl) (fun K hK => ?_); go_simp; refine hK _ ?_; clear hK K
      refine stillH_want (by kernel_rfl) (fun K hK => ?_); go_simp; refine hK _ ?_; clear hK K
      refine stillH_want (by kernel_rfl) (fun K hK => ?_); go_simp; refine hK _ ?_; clear hK K
      refine stillH_nil ?_
      go_wp2
      go_ret
      exact ⟨rfl, HBZ.out⟩
    · have hmr' : Int.tmod (nn : Int) 3 = 1 := hmr
      clear hmr
      cases keep with
      | nil =>
        have gk : decide ((0 : Int) < (([] : List Int).length : Int)) = false := by simp
        have HP := Lib.hid ((P.out.2.2.2.2.2 (0) (rfl)))
        obtain ⟨sx, hsx, hsx', HSX⟩ := cut_from (z := 0) (g := w11.heap.size) (off := 0) (n := 128) (c := 128) (K := 0) (rfl) HP.out.1 (by omega)
        obtain ⟨sb, hsb, hsb', HSB⟩ := cut_from (z := 0) (g := gb) (off := fb) (n := 128) (c := cb) (K := 0) (rfl) HP.out.1 hcb
        obtain ⟨qy, hqy, hqy', HQY⟩ := cut_to (z := 0) (g := (w11.heap.size + 1)) (off := 0) (n := 128) (c := 128) (K := 0) (rfl) HP.out.1 (by omega)
        obtain ⟨qb, hqb, hqb', HQB⟩ := cut_to (z := 0) (g := gb) (off := fb) (n := 128) (c := cb) (K := 0) (rfl) HP.out.1 hcb
        have HSX := Lib.hid HSX
        have HSB := Lib.hid HSB
        have HQY := Lib.hid HQY
        have HQB := Lib.hid HQB
        go_wp2_with fail
        refine region_call_still (by kernel_rfl) (by kernel_rfl) (by kernel_rfl) ?_
        intro wD hWD
        have HBD : Below wy.heap.size wy wD := by rw [hWD]; exact (Below.refl _ _).drew
        clear hWD
        go_wp2_with fail
        refine (awake_any _).mono ?_
        rintro e wz ⟨rfl, hbz⟩
        have hby2 : Below wy.heap.size wy wz := below_chain HBD hbz
        have HBZ := Lib.hid (below_chain HBY.out hby2)
        have hcA := convert_data (DA2.out.keep hby2)
        have hcX := convert_data (DX.out.keep hby2)
        have hdB3 : Data wz (.slice (some ⟨gb, fb, none⟩) 128 cb) R := by have := DB2.out.keep hby2; rwa [HRL.out] at this
        have hcB1 := convert_data (HQB.out _ _ HRL.out hdB3)
        have hcY1 := convert_data (HQY.out _ _ (pad_len H2.out) (DY.out.keep hby2))
        have hcB2 := convert_data (HSB.out _ _ HRL.out hdB3)
        have hcX2 := convert_data (HSX.out _ _ (pad_len H1.out) (DX.out.keep hby2))
        rw [HP.out.2.1] at hcB1
        rw [HP.out.2.2] at hcB2
        unfold txt at hcA hcX hcB1 hcY1 hcB2 hcX2
        rw [pad_len H1.out] at hcA
        clear hdB3 hcx hcy g1 g2 g3 hga1
        have hgm : Int.tmod (nn : Int) 3 = _ := hmr'
        generalize hS1 : (⟨(pad old).toArray⟩ : ByteArray) = S1 at hcA hcX
        generalize hS2 : (⟨((pad data).take (0)).toArray⟩ : ByteArray) = S2 at hcB1 hcY1
        generalize hS3 : (⟨((pad old).drop (0)).toArray⟩ : ByteArray) = S3 at hcB2 hcX2
        clear hS1 hS2 hS3
        dsimp only

        refine stillH_want (by kernel_rfl) (fun K hK => ?_); go_simp; refine hK _ ?_; clear hK K
        refine stillH_want (by kernel_rfl) (fun K hK => ?_); go_simp; refine hK _ ?_; clear hK K
        refine stillH_want (by kernel_rfl) (fun K hK => ?_); go_simp; refine hK _ ?_; clear hK K
        refine stillH_want (by kernel_rfl) (fun K hK => ?_); go_simp; refine hK _ ?_; clear hK K
        refine stillH_want (by kernel_rfl) (fun K hK => ?_); go_simp; refine hK _ ?_; clear hK K
        refine stillH_want (by kernel_rfl) (fun K hK => ?_); go_simp; refine hK _ ?_; clear hK K
        refine stillH_want (by kernel_rfl) (fun K hK => ?_); go_simp; refine hK _ ?_; clear hK K
        refine stillH_want (by kernel_rfl) (fun K hK => ?_); go_simp; refine hK _ ?_; clear hK K
        refine stillH_want (by kernel_rfl) (fun K hK => ?_); go_simp; refine hK _ ?_; clear hK K
        refine stillH_want (by kernel_rfl) (fun K hK => ?_); go_simp; refine hK _ ?_; clear hK K
        refine stillH_want (by kernel_rfl) (fun K hK => ?_); go_simp; refine hK _ ?_; clear hK K
        refine stillH_want (by kernel_rfl) (fun K hK => ?_); go_simp; refine hK _ ?_; clear hK K
        refine stillH_want (by kernel_rfl) (fun K hK => ?_); go_simp; refine hK _ ?_; clear hK K
        refine stillH_want (by kernel_rfl) (fun K hK => ?_); go_simp; refine hK _ ?_; clear hK K
        refine stillH_want (by kernel_rfl) (fun K hK => ?_); go_simp; refine hK _ ?_; clear hK K
        refine stillH_want (by kernel_rfl) (fun K hK => ?_); go_simp; refine hK _ ?_; clear hK K
        refine stillH_want (by kernel_rfl) (fun K hK => ?_); go_simp; refine hK _ ?_; clear hK K
        refine stillH_want (by kernel_rfl) (fun K hK => ?_); go_simp; refine hK _ ?_; clear hK K
        refine stillH_want (by kernel_rfl) (fun K hK => ?_); go_simp; refine hK _ ?_; clear hK K
        refine stillH_want (by kernel_rfl) (fun K hK => ?_); go_simp; refine hK _ ?_; clear hK K
        refine stillH_want (by kernel_rfl) (fun K hK => ?_); go_simp; refine hK _ ?_; clear hK K
        refine stillH_want (by kernel_rfl) (fun K hK => ?_); go_simp; refine hK _ ?_; clear hK K
        refine stillH_want (by kernel_rfl) (fun K hK => ?_); go_simp; refine hK _ ?_; clear hK K
        refine stillH_want (by kernel_rfl) (fun K hK => ?_); go_simp; refine hK _ ?_; clear hK K
        refine stillH_want (by kernel_rfl) (fun K hK => ?_); go_simp; refine hK _ ?_; clear hK K
        refine stillH_want (by kernel_rfl) (fun K hK => ?_); go_simp; refine hK _ ?_; clear hK K
        refine stillH_want (by kernel_rfl) (fun K hK => ?_); go_simp; refine hK _ ?_; clear hK K
        refine stillH_want (by kernel_rfl) (fun K hK => ?_); go_simp; refine hK _ ?_; clear hK K
        refine stillH_want (by kernel_rfl) (fun K hK => ?_); go_simp; refine hK _ ?_; clear hK K
        refine stillH_want (by kernel_rfl) (fun K hK => ?_); go_simp; refine hK _ ?_; clear hK K
        refine stillH_want (by kernel_rfl) (fun K hK => ?_); go_simp; refine hK _ ?_; clear hK K
        refine stillH_want (by kernel_rfl) (fun K hK => ?_); go_simp; refine hK _ ?_; clear hK K
        refine stillH_want (by kernel_rfl) (fun K hK => ?_); go_simp; refine hK _ ?_; clear hK K
        refine stillH_want (by kernel_rfl) (fun K hK => ?_); go_simp; refine hK _ ?_; clear hK K
        refine stillH_want (by kernel_rfl) (fun K hK => ?_); go_simp; refine hK _ ?_; clear hK K
        refine stillH_want (by kernel_rfl) (fun K hK => ?_); go_simp; refine hK _ ?_; clear hK K
        refine stillH_want (by kernel_rfl) (fun K hK => ?_); go_simp; refine hK _ ?_; clear hK K
        refine stillH_nil ?_
        go_wp2
        go_ret
        exact ⟨rfl, HBZ.out⟩
      | cons z rest =>
        have gk : decide ((0 : Int) < ((z :: rest).length : Int)) = true := by simp
        obtain ⟨kk, hkk⟩ : ∃ kk : Nat, min (max z 0) 128 = (kk : Int) := ⟨(min (max z 0) 128).toNat, by omega⟩
        obtain ⟨hkw, a', c', ekv, hkx⟩ := keep_of (B := B) KK.out (fun b hb => ⟨hb, by have : b < W.heap.size := hb; omega⟩) HBY.out
        obtain ⟨rfl, rfl⟩ : ka = a' ∧ kc = c' := by simpa using ekv
        obtain ⟨kb, ko, rfl, hkb, _, hkc⟩ := hkx 0 z rfl
        rw [Nat.add_zero] at hkc
        clear hkx ekv hkw
        have HP := Lib.hid ((P.out.2.2.2.2.2 (kk) (by rw [if_pos rfl]; unfold keepOf; simp only [List.getElem?_cons_zero, hkk]; rfl)))
        obtain ⟨sx, hsx, hsx', HSX⟩ := cut_from (z := (kk : Int)) (g := w11.heap.size) (off := 0) (n := 128) (c := 128) (K := kk) (rfl) HP.out.1 (by omega)
        obtain ⟨sb, hsb, hsb', HSB⟩ := cut_from (z := (kk : Int)) (g := gb) (off := fb) (n := 128) (c := cb) (K := kk) (rfl) HP.out.1 hcb
        obtain ⟨qy, hqy, hqy', HQY⟩ := cut_to (z := (kk : Int)) (g := (w11.heap.size + 1)) (off := 0) (n := 128) (c := 128) (K := kk) (rfl) HP.out.1 (by omega)
        obtain ⟨qb, hqb, hqb', HQB⟩ := cut_to (z := (kk : Int)) (g := gb) (off := fb) (n := 128) (c := cb) (K := kk) (rfl) HP.out.1 hcb
        have HSX := Lib.hid HSX
        have HSB := Lib.hid HSB
        have HQY := Lib.hid HQY
        have HQB := Lib.hid HQB
        go_wp2_with fail
        refine region_call_still (by kernel_rfl) (by kernel_rfl) (by kernel_rfl) ?_
        intro wD hWD
        have HBD : Below wy.heap.size wy wD := by rw [hWD]; exact (Below.refl _ _).drew
        clear hWD
        go_wp2_with fail
        refine (awake_any _).mono ?_
        rintro e wz ⟨rfl, hbz⟩
        have hby2 : Below wy.heap.size wy wz := below_chain HBD hbz
        have HBZ := Lib.hid (below_chain HBY.out hby2)
        have hcA := convert_data (DA2.out.keep hby2)
        have hcX := convert_data (DX.out.keep hby2)
        have hdB3 : Data wz (.slice (some ⟨gb, fb, none⟩) 128 cb) R := by have := DB2.out.keep hby2; rwa [HRL.out] at this
        have hcB1 := convert_data (HQB.out _ _ HRL.out hdB3)
        have hcY1 := convert_data (HQY.out _ _ (pad_len H2.out) (DY.out.keep hby2))
        have hcB2 := convert_data (HSB.out _ _ HRL.out hdB3)
        have hcX2 := convert_data (HSX.out _ _ (pad_len H1.out) (DX.out.keep hby2))
        rw [HP.out.2.1] at hcB1
        rw [HP.out.2.2] at hcB2
        unfold txt at hcA hcX hcB1 hcY1 hcB2 hcX2
        rw [pad_len H1.out] at hcA
        clear hdB3 hcx hcy g1 g2 g3 hga1
        have hgm : Int.tmod (nn : Int) 3 = _ := hmr'
        generalize hS1 : (⟨(pad old).toArray⟩ : ByteArray) = S1 at hcA hcX
        generalize hS2 : (⟨((pad data).take (kk)).toArray⟩ : ByteArray) = S2 at hcB1 hcY1
        generalize hS3 : (⟨((pad old).drop (kk)).toArray⟩ : ByteArray) = S3 at hcB2 hcX2
        clear hS1 hS2 hS3
        dsimp only

        refine stillH_want (by kernel_rfl) (fun K hK => ?_); go_simp; refine hK _ ?_; clear hK K
        refine stillH_want (by kernel_rfl) (fun K hK => ?_); go_simp; refine hK _ ?_; clear hK K
        refine stillH_want (by kernel_rfl) (fun K hK => ?_); go_simp; refine hK _ ?_; clear hK K
        refine stillH_want (by kernel_rfl) (fun K hK => ?_); go_simp; refine hK _ ?_; clear hK K
        refine stillH_want (by kernel_rfl) (fun K hK => ?_); go_simp; refine hK _ ?_; clear hK K
        refine stillH_want (by kernel_rfl) (fun K hK => ?_); go_simp; refine hK _ ?_; clear hK K
        refine stillH_want (by kernel_rfl) (fun K hK => ?_); go_simp; refine hK _ ?_; clear hK K
        refine stillH_want (by kernel_rfl) (fun K hK => ?_); go_simp; refine hK _ ?_; clear hK K
        refine stillH_want (by kernel_rfl) (fun K hK => ?_); go_simp; refine hK _ ?_; clear hK K
        refine stillH_want (by kernel_rfl) (fun K hK => ?_); go_simp; refine hK _ ?_; clear hK K
        refine stillH_want (by kernel_rfl) (fun K hK => ?_); go_simp; refine hK _ ?_; clear hK K
        refine stillH_want (by kernel_rfl) (fun K hK => ?_); go_simp; refine hK _ ?_; clear hK K
        refine stillH_want (by kernel_rfl) (fun K hK => ?_); go_simp; refine hK _ ?_; clear hK K
        refine stillH_want (by kernel_rfl) (fun K hK => ?_); go_simp; refine hK _ ?_; clear hK K
        refine stillH_want (by kernel_rfl) (fun K hK => ?_); go_simp; refine hK _ ?_; clear hK K
        refine stillH_want (by kernel_rfl) (fun K hK => ?_); go_simp; refine hK _ ?_; clear hK K
        refine stillH_want (by kernel_rfl) (fun K hK => ?_); go_simp; refine hK _ ?_; clear hK K
        refine stillH_want (by kernel_rfl) (fun K hK => ?_); go_simp; refine hK _ ?_; clear hK K
        refine stillH_want (by kernel_rfl) (fun K hK => ?_); go_simp; refine hK _ ?_; clear hK K
        refine stillH_want (by kernel_rfl) (fun K hK => ?_); go_simp; refine hK _ ?_; clear hK K
        refine stillH_want (by kernel_rfl) (fun K hK => ?_); go_simp; refine hK _ ?_; clear hK K
        refine stillH_want (by kernel_rfl) (fun K hK => ?_); go_simp; refine hK _ ?_; clear hK K
        refine stillH_want (by kernel_rfl) (fun K hK => ?_); go_simp; refine hK _ ?_; clear hK K
        refine stillH_want (by kernel_rfl) (fun K hK => ?_); go_simp; refine hK _ ?_; clear hK K
        refine stillH_want (by kernel_rfl) (fun K hK => ?_); go_simp; refine hK _ ?_; clear hK K
        refine stillH_want (by kernel_rfl) (fun K hK => ?_); go_simp; refine hK _ ?_; clear hK K
        refine stillH_want (by kernel_rfl) (fun K hK => ?_); go_simp; refine hK _ ?_; clear hK K
        refine stillH_want (by kernel_rfl) (fun K hK => ?_); go_simp; refine hK _ ?_; clear hK K
        refine stillH_want (by kernel_rfl) (fun K hK => ?_); go_simp; refine hK _ ?_; clear hK K
        refine stillH_want (by kernel_rfl) (fun K hK => ?_); go_simp; refine hK _ ?_; clear hK K
        refine stillH_want (by kernel_rfl) (fun K hK => ?_); go_simp; refine hK _ ?_; clear hK K
        refine stillH_want (by kernel_rfl) (fun K hK => ?_); go_simp; refine hK _ ?_; clear hK K
        refine stillH_want (by kernel_rfl) (fun K hK => ?_); go_simp; refine hK _ ?_; clear hK K
        refine stillH_want (by kernel_rfl) (fun K hK => ?_); go_simp; refine hK _ ?_; clear hK K
        refine stillH_want (by kernel_rfl) (fun K hK => ?_); go_simp; refine hK _ ?_; clear hK K
        refine stillH_want (by kernel_rfl) (fun K hK => ?_); go_simp; refine hK _ ?_; clear hK K
        refine stillH_want (by kernel_rfl) (fun K hK => ?_); go_simp; refine hK _ ?_; clear hK K
        refine stillH_nil ?_
        go_wp2
        go_ret
        exact ⟨rfl, HBZ.out⟩
  · have hne : (w11.heap.size + 1) ≠ w11.heap.size := by omega
    obtain ⟨wx, hcx, rx, tx, chx⟩ := copy_page (g := (w11.heap.size + 1)) (c := 128) (DO.out.keep (HB11.out.trans (hbm.mono HB11.out.size))) H1.out hr1 ht1
    have hbx : Below w11.heap.size wm wx := chx.below (by omega) (fun b hb => by subst hb; omega)
    have hry : wx.rangeAt w11.heap.size 0 (pc zeroPage) := fun j u hu => (chx.cell (a := ⟨w11.heap.size, 0 + j, none⟩) (by show ¬ w11.heap.size = (w11.heap.size + 1); omega) (by show w11.heap.size < _; omega)).trans (hr0 j u hu)
    have hty : wx.there w11.heap.size 0 128 := fun j hj => by
      have e1 := chx.cell (a := ⟨w11.heap.size, 0 + j, none⟩) (by show ¬ w11.heap.size = (w11.heap.size + 1); omega) (by show w11.heap.size < _; omega)
      have e2 := chx.frozen (a := ⟨w11.heap.size, 0 + j, none⟩) (by show ¬ w11.heap.size = (w11.heap.size + 1); omega) (by show w11.heap.size < _; omega)
      rw [e1, e2]; exact ht0 j hj
    have hb11x : Below w11.heap.size w11 wx := hbm.trans hbx
    obtain ⟨wy, hcy, ry, ty, chy⟩ := copy_page (g := w11.heap.size) (c := 128) (DD.out.keep (HB11.out.trans (hb11x.mono HB11.out.size))) H2.out hry hty
    have hby : Below w11.heap.size w11 wy := hb11x.trans (chy.below hb11x.size (fun b hb => by subst hb; omega))
    have rxy : wy.rangeAt (w11.heap.size + 1) 0 (pc (pad old)) := fun j u hu => (chy.cell (a := ⟨(w11.heap.size + 1), 0 + j, none⟩) (by show ¬ (w11.heap.size + 1) = w11.heap.size; omega) (by have := hbx.size; have := chx.size; show (w11.heap.size + 1) < _; omega)).trans (rx j u hu)
    have hsy : w11.heap.size + 2 ≤ wy.heap.size := by have := chx.size; have := chy.size; omega
    have DX := Lib.hid (data_of_range (c := 128) rxy (by omega) (pad_len H1.out).symm (Nat.le_refl _))
    have DY := Lib.hid (data_of_range (c := 128) ry (by omega) (pad_len H2.out).symm (Nat.le_refl _))
    have DA2 := Lib.hid (DA1.out.keep hby)
    have DB2 := Lib.hid (DB_.out.keep hby)
    have HBY := Lib.hid (HB11.out.trans (hby.mono HB11.out.size))
    have hlx : (w11.heap.size + 1) < wy.heap.size := by omega
    have hly : w11.heap.size < wy.heap.size := by omega
    clear hr0 hr1 ht0 ht1 hry hty rx ry rxy tx ty chx chy hby hb11x hbx hbm
    rcases (show m = 0 ∨ m = 2 ∨ m = 1 by have := HM.out; omega) with rfl | rfl | rfl
    · have hmr' : Int.tmod (nn : Int) 3 = 0 := hmr
      clear hmr
      have HP := Lib.hid ((P.out.2.2.2.2.2 (128) (rfl)))
      obtain ⟨sx, hsx, hsx', HSX⟩ := cut_from (z := 128) (g := (w11.heap.size + 1)) (off := 0) (n := 128) (c := 128) (K := 128) (rfl) HP.out.1 (by omega)
      obtain ⟨sb, hsb, hsb', HSB⟩ := cut_from (z := 128) (g := gb) (off := fb) (n := 128) (c := cb) (K := 128) (rfl) HP.out.1 hcb
      obtain ⟨qy, hqy, hqy', HQY⟩ := cut_to (z := 128) (g := w11.heap.size) (off := 0) (n := 128) (c := 128) (K := 128) (rfl) HP.out.1 (by omega)
      obtain ⟨qb, hqb, hqb', HQB⟩ := cut_to (z := 128) (g := gb) (off := fb) (n := 128) (c := cb) (K := 128) (rfl) HP.out.1 hcb
      have HSX := Lib.hid HSX
      have HSB := Lib.hid HSB
      have HQY := Lib.hid HQY
      have HQB := Lib.hid HQB
      go_wp2_with fail
      refine region_call_still (by kernel_rfl) (by kernel_rfl) (by kernel_rfl) ?_
      intro wD hWD
      have HBD : Below wy.heap.size wy wD := by rw [hWD]; exact (Below.refl _ _).drew
      clear hWD
      go_wp2_with fail
      refine (awake_any _).mono ?_
      rintro e wz ⟨rfl, hbz⟩
      have hby2 : Below wy.heap.size wy wz := below_chain HBD hbz
      have HBZ := Lib.hid (below_chain HBY.out hby2)
      have hcA := convert_data (DA2.out.keep hby2)
      have hcX := convert_data (DX.out.keep hby2)
      have hdB3 : Data wz (.slice (some ⟨gb, fb, none⟩) 128 cb) R := by have := DB2.out.keep hby2; rwa [HRL.out] at this
      have hcB1 := convert_data (HQB.out _ _ HRL.out hdB3)
      have hcY1 := convert_data (HQY.out _ _ (pad_len H2.out) (DY.out.keep hby2))
      have hcB2 := convert_data (HSB.out _ _ HRL.out hdB3)
      have hcX2 := convert_data (HSX.out _ _ (pad_len H1.out) (DX.out.keep hby2))
      rw [HP.out.2.1] at hcB1
      rw [HP.out.2.2] at hcB2
      unfold txt at hcA hcX hcB1 hcY1 hcB2 hcX2
      rw [pad_len H1.out] at hcA
      clear hdB3 hcx hcy g1 g2 g3 hga1
      have hgm : Int.tmod (nn : Int) 3 = _ := hmr'
      generalize hS1 : (⟨(pad old).toArray⟩ : ByteArray) = S1 at hcA hcX
      generalize hS2 : (⟨((pad data).take (128)).toArray⟩ : ByteArray) = S2 at hcB1 hcY1
      generalize hS3 : (⟨((pad old).drop (128)).toArray⟩ : ByteArray) = S3 at hcB2 hcX2
      clear hS1 hS2 hS3
      dsimp only

      refine stillH_want (by kernel_rfl) (fun K hK => ?_); go_simp; refine hK _ ?_; clear hK K
      refine stillH_want (by kernel_rfl) (fun K hK => ?_); go_simp; refine hK _ ?_; clear hK K
      refine stillH_want (by kernel_rfl) (fun K hK => ?_); go_simp; refine hK _ ?_; clear hK K
      refine stillH_want (by kernel_rfl) (fun K hK => ?_); go_simp; refine hK _ ?_; clear hK K
      refine stillH_want (by kernel_rfl) (fun K hK => ?_); go_simp; refine hK _ ?_; clear hK K
      refine stillH_want (by kernel_rfl) (fun K hK => ?_); go_simp; refine hK _ ?_; clear hK K
      refine stillH_want (by kernel_rfl) (fun K hK => ?_); go_simp; refine hK _ ?_; clear hK K
      refine stillH_want (by kernel_rfl) (fun K hK => ?_); go_simp; refine hK _ ?_; clear hK K
      refine stillH_want (by kernel_rfl) (fun K hK => ?_); go_simp; refine hK _ ?_; clear hK K
      refine stillH_want (by kernel_rfl) (fun K hK => ?_); go_simp; refine hK _ ?_; clear hK K
      refine stillH_want (by kernel_rfl) (fun K hK => ?_); go_simp; refine hK _ ?_; clear hK K
      refine stillH_want (by kernel_rfl) (fun K hK => ?_); go_simp; refine hK _ ?_; clear hK K
      refine stillH_want (by kernel_rfl) (fun K hK => ?_); go_simp; refine hK _ ?_; clear hK K
      refine stillH_want (by kernel_rfl) (fun K hK => ?_); go_simp; refine hK _ ?_; clear hK K
      refine stillH_want (by kernel_rfl) (fun K hK => ?_); go_simp; refine hK _ ?_; clear hK K
      refine stillH_want (by kernel_rfl) (fun K hK => ?_); go_simp; refine hK _ ?_; clear hK K
      refine stillH_want (by kernel_rfl) (fun K hK => ?_); go_simp; refine hK _ ?_; clear hK K
      refine stillH_want (by kernel_rfl) (fun K hK => ?_); go_simp; refine hK _ ?_; clear hK K
      refine stillH_want (by kernel_rfl) (fun K hK => ?_); go_simp; refine hK _ ?_; clear hK K
      refine stillH_want (by kernel_rfl) (fun K hK => ?_); go_simp; refine hK _ ?_; clear hK K
      refine stillH_want (by kernel_rfl) (fun K hK => ?_); go_simp; refine hK _ ?_; clear hK K
      refine stillH_want (by kernel_rfl) (fun K hK => ?_); go_simp; refine hK _ ?_; clear hK K
      refine stillH_want (by kernel_rfl) (fun K hK => ?_); go_simp; refine hK _ ?_; clear hK K
      refine stillH_want (by kernel_rfl) (fun K hK => ?_); go_simp; refine hK _ ?_; clear hK K
      refine stillH_want (by kernel_rfl) (fun K hK => ?_); go_simp; refine hK _ ?_; clear hK K
      refine stillH_want (by kernel_rfl) (fun K hK => ?_); go_simp; refine hK _ ?_; clear hK K
      refine stillH_want (by kernel_rfl) (fun K hK => ?_); go_simp; refine hK _ ?_; clear hK K
      refine stillH_want (by kernel_rfl) (fun K hK => ?_); go_simp; refine hK _ ?_; clear hK K
      refine stillH_want (by kernel_rfl) (fun K hK => ?_); go_simp; refine hK _ ?_; clear hK K
      refine stillH_want (by kernel_rfl) (fun K hK => ?_); go_simp; refine hK _ ?_; clear hK K
      refine stillH_want (by kernel_rfl) (fun K hK => ?_); go_simp; refine hK _ ?_; clear hK K
      refine stillH_want (by kernel_rfl) (fun K hK => ?_); go_simp; refine hK _ ?_; clear hK K
      refine stillH_want (by kernel_rfl) (fun K hK => ?_); go_simp; refine hK _ ?_; clear hK K
      refine stillH_want (by kernel_rfl) (fun K hK => ?_); go_simp; refine hK _ ?_; clear hK K
      refine stillH_want (by kernel_rfl) (fun K hK => ?_); go_simp; refine hK _ ?_; clear hK K
      refine stillH_want (by kernel_rfl) (fun K hK => ?_); go_simp; refine hK _ ?_; clear hK K
      refine stillH_want (by kernel_rfl) (fun K hK => ?_); go_simp; refine hK _ ?_; clear hK K
      refine stillH_nil ?_
      go_wp2
      go_ret
      exact ⟨rfl, HBZ.out⟩
    · have hmr' : Int.tmod (nn : Int) 3 = 2 := hmr
      clear hmr
      have HP := Lib.hid ((P.out.2.2.2.2.2 (128) (rfl)))
      obtain ⟨sx, hsx, hsx', HSX⟩ := cut_from (z := 128) (g := (w11.heap.size + 1)) (off := 0) (n := 128) (c := 128) (K := 128) (rfl) HP.out.1 (by omega)
      obtain ⟨sb, hsb, hsb', HSB⟩ := cut_from (z := 128) (g := gb) (off := fb) (n := 128) (c := cb) (K := 128) (rfl) HP.out.1 hcb
      obtain ⟨qy, hqy, hqy', HQY⟩ := cut_to (z := 128) (g := w11.heap.size) (off := 0) (n := 128) (c := 128) (K := 128) (rfl) HP.out.1 (by omega)
      obtain ⟨qb, hqb, hqb', HQB⟩ := cut_to (z := 128) (g := gb) (off := fb) (n := 128) (c := cb) (K := 128) (rfl) HP.out.1 hcb
      have HSX := Lib.hid HSX
      have HSB := Lib.hid HSB
      have HQY := Lib.hid HQY
      have HQB := Lib.hid HQB
      go_wp2_with fail
      refine region_call_still (by kernel_rfl) (by kernel_rfl) (by kernel_rfl) ?_
      intro wD hWD
      have HBD : Below wy.heap.size wy wD := by rw [hWD]; exact (Below.refl _ _).drew
      clear hWD
      go_wp2_with fail
      refine (awake_any _).mono ?_
      rintro e wz ⟨rfl, hbz⟩
      have hby2 : Below wy.heap.size wy wz := below_chain HBD hbz
      have HBZ := Lib.hid (below_chain HBY.out hby2)
      have hcA := convert_data (DA2.out.keep hby2)
      have hcX := convert_data (DX.out.keep hby2)
      have hdB3 : Data wz (.slice (some ⟨gb, fb, none⟩) 128 cb) R := by have := DB2.out.keep hby2; rwa [HRL.out] at this
      have hcB1 := convert_data (HQB.out _ _ HRL.out hdB3)
      have hcY1 := convert_data (HQY.out _ _ (pad_len H2.out) (DY.out.keep hby2))
      have hcB2 := convert_data (HSB.out _ _ HRL.out hdB3)
      have hcX2 := convert_data (HSX.out _ _ (pad_len H1.out) (DX.out.keep hby2))
      rw [HP.out.2.1] at hcB1
      rw [HP.out.2.2] at hcB2
      unfold txt at hcA hcX hcB1 hcY1 hcB2 hcX2
      rw [pad_len H1.out] at hcA
      clear hdB3 hcx hcy g1 g2 g3 hga1
      have hgm : Int.tmod (nn : Int) 3 = _ := hmr'
      generalize hS1 : (⟨(pad old).toArray⟩ : ByteArray) = S1 at hcA hcX
      generalize hS2 : (⟨((pad data).take (128)).toArray⟩ : ByteArray) = S2 at hcB1 hcY1
      generalize hS3 : (⟨((pad old).drop (128)).toArray⟩ : ByteArray) = S3 at hcB2 hcX2
      clear hS1 hS2 hS3
      dsimp only

      refine stillH_want (by kernel_rfl) (fun K hK => ?_); go_simp; refine hK _ ?_; clear hK K
      refine stillH_want (by kernel_rfl) (fun K hK => ?_); go_simp; refine hK _ ?_; clear hK K
      refine stillH_want (by kernel_rfl) (fun K hK => ?_); go_simp; refine hK _ ?_; clear hK K
      refine stillH_want (by kernel_rfl) (fun K hK => ?_); go_simp; refine hK _ ?_; clear hK K
      refine stillH_want (by kernel_rfl) (fun K hK => ?_); go_simp; refine hK _ ?_; clear hK K
      refine stillH_want (by kernel_rfl) (fun K hK => ?_); go_simp; refine hK _ ?_; clear hK K
      refine stillH_want (by kernel_rfl) (fun K hK => ?_); go_simp; refine hK _ ?_; clear hK K
      refine stillH_want (by kernel_rfl) (fun K hK => ?_); go_simp; refine hK _ ?_; clear hK K
      refine stillH_want (by kernel_rfl) (fun K hK => ?_); go_simp; refine hK _ ?_; clear hK K
      refine stillH_want (by kernel_rfl) (fun K hK => ?_); go_simp; refine hK _ ?_; clear hK K
      refine stillH_want (by kernel_rfl) (fun K hK => ?_); go_simp; refine hK _ ?_; clear hK K
      refine stillH_want (by kernel_rfl) (fun K hK => ?_); go_simp; refine hK _ ?_; clear hK K
      refine stillH_want (by kernel_rfl) (fun K hK => ?_); go_simp; refine hK _ ?_; clear hK K
      refine stillH_want (by kernel_rfl) (fun K hK => ?_); go_simp; refine hK _ ?_; clear hK K
      refine stillH_want (by kernel_rfl) (fun K hK => ?_); go_simp; refine hK _ ?_; clear hK K
      refine stillH_want (by kernel_rfl) (fun K hK => ?_); go_simp; refine hK _ ?_; clear hK K
      refine stillH_want (by kernel_rfl) (fun K hK => ?_); go_simp; refine hK _ ?_; clear hK K
      refine stillH_want (by kernel_rfl) (fun K hK => ?_); go_simp; refine hK _ ?_; clear hK K
      refine stillH_want (by kernel_rfl) (fun K hK => ?_); go_simp; refine hK _ ?_; clear hK K
      refine stillH_want (by kernel_rfl) (fun K hK => ?_); go_simp; refine hK _ ?_; clear hK K
      refine stillH_want (by kernel_rfl) (fun K hK => ?_); go_simp; refine hK _ ?_; clear hK K
      refine stillH_want (by kernel_rfl) (fun K hK => ?_); go_simp; refine hK _ ?_; clear hK K
      refine stillH_want (by kernel_rfl) (fun K hK => ?_); go_simp; refine hK _ ?_; clear hK K
      refine stillH_want (by kernel_rfl) (fun K hK => ?_); go_simp; refine hK _ ?_; clear hK K
      refine stillH_want (by kernel_rfl) (fun K hK => ?_); go_simp; refine hK _ ?_; clear hK K
      refine stillH_want (by kernel_rfl) (fun K hK => ?_); go_simp; refine hK _ ?_; clear hK K
      refine stillH_want (by kernel_rfl) (fun K hK => ?_); go_simp; refine hK _ ?_; clear hK K
      refine stillH_want (by kernel_rfl) (fun K hK => ?_); go_simp; refine hK _ ?_; clear hK K
      refine stillH_want (by kernel_rfl) (fun K hK => ?_); go_simp; refine hK _ ?_; clear hK K
      refine stillH_want (by kernel_rfl) (fun K hK => ?_); go_simp; refine hK _ ?_; clear hK K
      refine stillH_want (by kernel_rfl) (fun K hK => ?_); go_simp; refine hK _ ?_; clear hK K
      refine stillH_want (by kernel_rfl) (fun K hK => ?_); go_simp; refine hK _ ?_; clear hK K
      refine stillH_want (by kernel_rfl) (fun K hK => ?_); go_simp; refine hK _ ?_; clear hK K
      refine stillH_want (by kernel_rfl) (fun K hK => ?_); go_simp; refine hK _ ?_; clear hK K
      refine stillH_want (by kernel_rfl) (fun K hK => ?_); go_simp; refine hK _ ?_; clear hK K
      refine stillH_want (by kernel_rfl) (fun K hK => ?_); go_simp; refine hK _ ?_; clear hK K
      refine stillH_want (by kernel_rfl) (fun K hK => ?_); go_simp; refine hK _ ?_; clear hK K
      refine stillH_nil ?_
      go_wp2
      go_ret
      exact ⟨rfl, HBZ.out⟩
    · have hmr' : Int.tmod (nn : Int) 3 = 1 := hmr
      clear hmr
      cases keep with
      | nil =>
        have gk : decide ((0 : Int) < (([] : List Int).length : Int)) = false := by simp
        have HP := Lib.hid ((P.out.2.2.2.2.2 (0) (rfl)))
        obtain ⟨sx, hsx, hsx', HSX⟩ := cut_from (z := 0) (g := (w11.heap.size + 1)) (off := 0) (n := 128) (c := 128) (K := 0) (rfl) HP.out.1 (by omega)
        obtain ⟨sb, hsb, hsb', HSB⟩ := cut_from (z := 0) (g := gb) (off := fb) (n := 128) (c := cb) (K := 0) (rfl) HP.out.1 hcb
        obtain ⟨qy, hqy, hqy', HQY⟩ := cut_to (z := 0) (g := w11.heap.size) (off := 0) (n := 128) (c := 128) (K := 0) (rfl) HP.out.1 (by omega)
        obtain ⟨qb, hqb, hqb', HQB⟩ := cut_to (z := 0) (g := gb) (off := fb) (n := 128) (c := cb) (K := 0) (rfl) HP.out.1 hcb
        have HSX := Lib.hid HSX
        have HSB := Lib.hid HSB
        have HQY := Lib.hid HQY
        have HQB := Lib.hid HQB
        go_wp2_with fail
        refine region_call_still (by kernel_rfl) (by kernel_rfl) (by kernel_rfl) ?_
        intro wD hWD
        have HBD : Below wy.heap.size wy wD := by rw [hWD]; exact (Below.refl _ _).drew
        clear hWD
        go_wp2_with fail
        refine (awake_any _).mono ?_
        rintro e wz ⟨rfl, hbz⟩
        have hby2 : Below wy.heap.size wy wz := below_chain HBD hbz
        have HBZ := Lib.hid (below_chain HBY.out hby2)
        have hcA := convert_data (DA2.out.keep hby2)
        have hcX := convert_data (DX.out.keep hby2)
        have hdB3 : Data wz (.slice (some ⟨gb, fb, none⟩) 128 cb) R := by have := DB2.out.keep hby2; rwa [HRL.out] at this
        have hcB1 := convert_data (HQB.out _ _ HRL.out hdB3)
        have hcY1 := convert_data (HQY.out _ _ (pad_len H2.out) (DY.out.keep hby2))
        have hcB2 := convert_data (HSB.out _ _ HRL.out hdB3)
        have hcX2 := convert_data (HSX.out _ _ (pad_len H1.out) (DX.out.keep hby2))
        rw [HP.out.2.1] at hcB1
        rw [HP.out.2.2] at hcB2
        unfold txt at hcA hcX hcB1 hcY1 hcB2 hcX2
        rw [pad_len H1.out] at hcA
        clear hdB3 hcx hcy g1 g2 g3 hga1
        have hgm : Int.tmod (nn : Int) 3 = _ := hmr'
        generalize hS1 : (⟨(pad old).toArray⟩ : ByteArray) = S1 at hcA hcX
        generalize hS2 : (⟨((pad data).take (0)).toArray⟩ : ByteArray) = S2 at hcB1 hcY1
        generalize hS3 : (⟨((pad old).drop (0)).toArray⟩ : ByteArray) = S3 at hcB2 hcX2
        clear hS1 hS2 hS3
        dsimp only

        refine stillH_want (by kernel_rfl) (fun K hK => ?_); go_simp; refine hK _ ?_; clear hK K
        refine stillH_want (by kernel_rfl) (fun K hK => ?_); go_simp; refine hK _ ?_; clear hK K
        refine stillH_want (by kernel_rfl) (fun K hK => ?_); go_simp; refine hK _ ?_; clear hK K
        refine stillH_want (by kernel_rfl) (fun K hK => ?_); go_simp; refine hK _ ?_; clear hK K
        refine stillH_want (by kernel_rfl) (fun K hK => ?_); go_simp; refine hK _ ?_; clear hK K
        refine stillH_want (by kernel_rfl) (fun K hK => ?_); go_simp; refine hK _ ?_; clear hK K
        refine stillH_want (by kernel_rfl) (fun K hK => ?_); go_simp; refine hK _ ?_; clear hK K
        refine stillH_want (by kernel_rfl) (fun K hK => ?_); go_simp; refine hK _ ?_; clear hK K
        refine stillH_want (by kernel_rfl) (fun K hK => ?_); go_simp; refine hK _ ?_; clear hK K
        refine stillH_want (by kernel_rfl) (fun K hK => ?_); go_simp; refine hK _ ?_; clear hK K
        refine stillH_want (by kernel_rfl) (fun K hK => ?_); go_simp; refine hK _ ?_; clear hK K
        refine stillH_want (by kernel_rfl) (fun K hK => ?_); go_simp; refine hK _ ?_; clear hK K
        refine stillH_want (by kernel_rfl) (fun K hK => ?_); go_simp; refine hK _ ?_; clear hK K
        refine stillH_want (by kernel_rfl) (fun K hK => ?_); go_simp; refine hK _ ?_; clear hK K
        refine stillH_want (by kernel_rfl) (fun K hK => ?_); go_simp; refine hK _ ?_; clear hK K
        refine stillH_want (by kernel_rfl) (fun K hK => ?_); go_simp; refine hK _ ?_; clear hK K
        refine stillH_want (by kernel_rfl) (fun K hK => ?_); go_simp; refine hK _ ?_; clear hK K
        refine stillH_want (by kernel_rfl) (fun K hK => ?_); go_simp; refine hK _ ?_; clear hK K
        refine stillH_want (by kernel_rfl) (fun K hK => ?_); go_simp; refine hK _ ?_; clear hK K
        refine stillH_want (by kernel_rfl) (fun K hK => ?_); go_simp; refine hK _ ?_; clear hK K
        refine stillH_want (by kernel_rfl) (fun K hK => ?_); go_simp; refine hK _ ?_; clear hK K
        refine stillH_want (by kernel_rfl) (fun K hK => ?_); go_simp; refine hK _ ?_; clear hK K
        refine stillH_want (by kernel_rfl) (fun K hK => ?_); go_simp; refine hK _ ?_; clear hK K
        refine stillH_want (by kernel_rfl) (fun K hK => ?_); go_simp; refine hK _ ?_; clear hK K
        refine stillH_want (by kernel_rfl) (fun K hK => ?_); go_simp; refine hK _ ?_; clear hK K
        refine stillH_want (by kernel_rfl) (fun K hK => ?_); go_simp; refine hK _ ?_; clear hK K
        refine stillH_want (by kernel_rfl) (fun K hK => ?_); go_simp; refine hK _ ?_; clear hK K
        refine stillH_want (by kernel_rfl) (fun K hK => ?_); go_simp; refine hK _ ?_; clear hK K
        refine stillH_want (by kernel_rfl) (fun K hK => ?_); go_simp; refine hK _ ?_; clear hK K
        refine stillH_want (by kernel_rfl) (fun K hK => ?_); go_simp; refine hK _ ?_; clear hK K
        refine stillH_want (by kernel_rfl) (fun K hK => ?_); go_simp; refine hK _ ?_; clear hK K
        refine stillH_want (by kernel_rfl) (fun K hK => ?_); go_simp; refine hK _ ?_; clear hK K
        refine stillH_want (by kernel_rfl) (fun K hK => ?_); go_simp; refine hK _ ?_; clear hK K
        refine stillH_want (by kernel_rfl) (fun K hK => ?_); go_simp; refine hK _ ?_; clear hK K
        refine stillH_want (by kernel_rfl) (fun K hK => ?_); go_simp; refine hK _ ?_; clear hK K
        refine stillH_want (by kernel_rfl) (fun K hK => ?_); go_simp; refine hK _ ?_; clear hK K
        refine stillH_want (by kernel_rfl) (fun K hK => ?_); go_simp; refine hK _ ?_; clear hK K
        refine stillH_nil ?_
        go_wp2
        go_ret
        exact ⟨rfl, HBZ.out⟩
      | cons z rest =>
        have gk : decide ((0 : Int) < ((z :: rest).length : Int)) = true := by simp
        obtain ⟨kk, hkk⟩ : ∃ kk : Nat, min (max z 0) 128 = (kk : Int) := ⟨(min (max z 0) 128).toNat, by omega⟩
        obtain ⟨hkw, a', c', ekv, hkx⟩ := keep_of (B := B) KK.out (fun b hb => ⟨hb, by have : b < W.heap.size := hb; omega⟩) HBY.out
        obtain ⟨rfl, rfl⟩ : ka = a' ∧ kc = c' := by simpa using ekv
        obtain ⟨kb, ko, rfl, hkb, _, hkc⟩ := hkx 0 z rfl
        rw [Nat.add_zero] at hkc
        clear hkx ekv hkw
        have HP := Lib.hid ((P.out.2.2.2.2.2 (kk) (by rw [if_pos rfl]; unfold keepOf; simp only [List.getElem?_cons_zero, hkk]; rfl)))
        obtain ⟨sx, hsx, hsx', HSX⟩ := cut_from (z := (kk : Int)) (g := (w11.heap.size + 1)) (off := 0) (n := 128) (c := 128) (K := kk) (rfl) HP.out.1 (by omega)
        obtain ⟨sb, hsb, hsb', HSB⟩ := cut_from (z := (kk : Int)) (g := gb) (off := fb) (n := 128) (c := cb) (K := kk) (rfl) HP.out.1 hcb
        obtain ⟨qy, hqy, hqy', HQY⟩ := cut_to (z := (kk : Int)) (g := w11.heap.size) (off := 0) (n := 128) (c := 128) (K := kk) (rfl) HP.out.1 (by omega)
        obtain ⟨qb, hqb, hqb', HQB⟩ := cut_to (z := (kk : Int)) (g := gb) (off := fb) (n := 128) (c := cb) (K := kk) (rfl) HP.out.1 hcb
        have HSX := Lib.hid HSX
        have HSB := Lib.hid HSB
        have HQY := Lib.hid HQY
        have HQB := Lib.hid HQB
        go_wp2_with fail
        refine region_call_still (by kernel_rfl) (by kernel_rfl) (by kernel_rfl) ?_
        intro wD hWD
        have HBD : Below wy.heap.size wy wD := by rw [hWD]; exact (Below.refl _ _).drew
        clear hWD
        go_wp2_with fail
        refine (awake_any _).mono ?_
        rintro e wz ⟨rfl, hbz⟩
        have hby2 : Below wy.heap.size wy wz := below_chain HBD hbz
        have HBZ := Lib.hid (below_chain HBY.out hby2)
        have hcA := convert_data (DA2.out.keep hby2)
        have hcX := convert_data (DX.out.keep hby2)
        have hdB3 : Data wz (.slice (some ⟨gb, fb, none⟩) 128 cb) R := by have := DB2.out.keep hby2; rwa [HRL.out] at this
        have hcB1 := convert_data (HQB.out _ _ HRL.out hdB3)
        have hcY1 := convert_data (HQY.out _ _ (pad_len H2.out) (DY.out.keep hby2))
        have hcB2 := convert_data (HSB.out _ _ HRL.out hdB3)
        have hcX2 := convert_data (HSX.out _ _ (pad_len H1.out) (DX.out.keep hby2))
        rw [HP.out.2.1] at hcB1
        rw [HP.out.2.2] at hcB2
        unfold txt at hcA hcX hcB1 hcY1 hcB2 hcX2
        rw [pad_len H1.out] at hcA
        clear hdB3 hcx hcy g1 g2 g3 hga1
        have hgm : Int.tmod (nn : Int) 3 = _ := hmr'
        generalize hS1 : (⟨(pad old).toArray⟩ : ByteArray) = S1 at hcA hcX
        generalize hS2 : (⟨((pad data).take (kk)).toArray⟩ : ByteArray) = S2 at hcB1 hcY1
        generalize hS3 : (⟨((pad old).drop (kk)).toArray⟩ : ByteArray) = S3 at hcB2 hcX2
        clear hS1 hS2 hS3
        dsimp only

        refine stillH_want (by kernel_rfl) (fun K hK => ?_); go_simp; refine hK _ ?_; clear hK K
        refine stillH_want (by kernel_rfl) (fun K hK => ?_); go_simp; refine hK _ ?_; clear hK K
        refine stillH_want (by kernel_rfl) (fun K hK => ?_); go_simp; refine hK _ ?_; clear hK K
        refine stillH_want (by kernel_rfl) (fun K hK => ?_); go_simp; refine hK _ ?_; clear hK K
        refine stillH_want (by kernel_rfl) (fun K hK => ?_); go_simp; refine hK _ ?_; clear hK K
        refine stillH_want (by kernel_rfl) (fun K hK => ?_); go_simp; refine hK _ ?_; clear hK K
        refine stillH_want (by kernel_rfl) (fun K hK => ?_); go_simp; refine hK _ ?_; clear hK K
        refine stillH_want (by kernel_rfl) (fun K hK => ?_); go_simp; refine hK _ ?_; clear hK K
        refine stillH_want (by kernel_rfl) (fun K hK => ?_); go_simp; refine hK _ ?_; clear hK K
        refine stillH_want (by kernel_rfl) (fun K hK => ?_); go_simp; refine hK _ ?_; clear hK K
        refine stillH_want (by kernel_rfl) (fun K hK => ?_); go_simp; refine hK _ ?_; clear hK K
        refine stillH_want (by kernel_rfl) (fun K hK => ?_); go_simp; refine hK _ ?_; clear hK K
        refine stillH_want (by kernel_rfl) (fun K hK => ?_); go_simp; refine hK _ ?_; clear hK K
        refine stillH_want (by kernel_rfl) (fun K hK => ?_); go_simp; refine hK _ ?_; clear hK K
        refine stillH_want (by kernel_rfl) (fun K hK => ?_); go_simp; refine hK _ ?_; clear hK K
        refine stillH_want (by kernel_rfl) (fun K hK => ?_); go_simp; refine hK _ ?_; clear hK K
        refine stillH_want (by kernel_rfl) (fun K hK => ?_); go_simp; refine hK _ ?_; clear hK K
        refine stillH_want (by kernel_rfl) (fun K hK => ?_); go_simp; refine hK _ ?_; clear hK K
        refine stillH_want (by kernel_rfl) (fun K hK => ?_); go_simp; refine hK _ ?_; clear hK K
        refine stillH_want (by kernel_rfl) (fun K hK => ?_); go_simp; refine hK _ ?_; clear hK K
        refine stillH_want (by kernel_rfl) (fun K hK => ?_); go_simp; refine hK _ ?_; clear hK K
        refine stillH_want (by kernel_rfl) (fun K hK => ?_); go_simp; refine hK _ ?_; clear hK K
        refine stillH_want (by kernel_rfl) (fun K hK => ?_); go_simp; refine hK _ ?_; clear hK K
        refine stillH_want (by kernel_rfl) (fun K hK => ?_); go_simp; refine hK _ ?_; clear hK K
        refine stillH_want (by kernel_rfl) (fun K hK => ?_); go_simp; refine hK _ ?_; clear hK K
        refine stillH_want (by kernel_rfl) (fun K hK => ?_); go_simp; refine hK _ ?_; clear hK K
        refine stillH_want (by kernel_rfl) (fun K hK => ?_); go_simp; refine hK _ ?_; clear hK K
        refine stillH_want (by kernel_rfl) (fun K hK => ?_); go_simp; refine hK _ ?_; clear hK K
        refine stillH_want (by kernel_rfl) (fun K hK => ?_); go_simp; refine hK _ ?_; clear hK K
        refine stillH_want (by kernel_rfl) (fun K hK => ?_); go_simp; refine hK _ ?_; clear hK K
        refine stillH_want (by kernel_rfl) (fun K hK => ?_); go_simp; refine hK _ ?_; clear hK K
        refine stillH_want (by kernel_rfl) (fun K hK => ?_); go_simp; refine hK _ ?_; clear hK K
        refine stillH_want (by kernel_rfl) (fun K hK => ?_); go_simp; refine hK _ ?_; clear hK K
        refine stillH_want (by kernel_rfl) (fun K hK => ?_); go_simp; refine hK _ ?_; clear hK K
        refine stillH_want (by kernel_rfl) (fun K hK => ?_); go_simp; refine hK _ ?_; clear hK K
        refine stillH_want (by kernel_rfl) (fun K hK => ?_); go_simp; refine hK _ ?_; clear hK K
        refine stillH_want (by kernel_rfl) (fun K hK => ?_); go_simp; refine hK _ ?_; clear hK K
        refine stillH_nil ?_
        go_wp2
        go_ret
        exact ⟨rfl, HBZ.out⟩

end Go.Proofs.Ytbolglpbkgmlfaa
