/-
  The reference's encoder: periods, values. Printed by gen_cr.py.
-/
import Derived.Test.YtfppjpmflpaffaaGreatCrB
import Derived.Test.YtfppjpmflpaffaaGreatCeH
namespace Go.Proofs.YtfppjpmflpaffaaGreat
open Go.RowKit
set_option linter.unusedVariables false
set_option linter.unusedSimpArgs false

set_option maxRecDepth 100000 in
set_option maxHeartbeats 4000000 in
theorem rf_ints : RefC 40 (.list .num) := by
  intro w base v0 l cs x hb hr hx hl
  obtain ⟨a, n, cap, rfl, hn, hcap, hcm, hel⟩ := hx
  show Calls _ _ #[v0, .slice a n cap] _ _
  have hnw : (Lit.int .i64 (n : Int)).wf = true := by unfold maxLen at hcm; simp [Lit.wf, IntKind.min, IntKind.max, IntKind.bits, IntKind.signed]; omega
  have HN := Lib.hid (show n = List.length x from hn)
  have HEL := Lib.hid hel
  have HR := Lib.hid hr
  have HB := Lib.hid hb
  have hle : l.length + (numB (List.length x) ++ List.flatMap (enc .num) x).length ≤ 140737488355328 := hl
  rw [List.length_append, ← HN.out] at hle
  have HL := Lib.hid hle
  have HC := Lib.hid (rf_num w base v0 l [.int .i64 (n : Int)] (n : Int) hb hr ⟨rfl, hnw⟩ (by show _ + (numB (n : Int)).length ≤ _; omega))
  have hn0 : 0 ≤ (n : Int) := by omega
  have hn1 : (n : Int) ≤ 9223372036854775807 := by unfold maxLen at hcm; omega
  clear hnw hn hel hr hle hl hcap hcm hb
  go_enter Tryz.func40, Tryz.ntmps40
  go_wp2_with fail
  refine HC.out.mono ?_
  rintro e w1 ⟨v1, rfl, hr1, hg1⟩
  have HR1 := Lib.hid (show Row w1 base v1 (l ++ numB (n : Int)) from hr1)
  have HG1 := Lib.hid hg1
  clear hr1 hg1
  go_wp2
  go_loopg [0, 5] n (fun gk t0 t5 wr => ∃ (i : Nat), i ≤ n ∧ gk + i = n ∧ t5 = .int .i64 (i : Int) ∧ Row wr base t0 (l ++ (numB (n : Int) ++ List.flatMap (enc .num) (List.take i x))) ∧ Grw v0 t0 w wr)
  case atStart => exact ⟨0, by omega, by omega, rfl, by simpa using HR1.out, HG1.out⟩
  case round =>
    obtain ⟨i, hi, hgk, rfl, hwr, hg⟩ := hrel
    have HGK := Lib.hid hgk
    have HWR := Lib.hid hwr
    have HG := Lib.hid hg
    have hi0 : 0 ≤ (i : Int) := by omega
    clear hgk hwr hg
    by_cases hin : i < n
    · have hd1 : decide ((i : Int) < (n : Int)) = true := decide_eq_true (by omega)
      have hi1 : (i : Int) < (n : Int) := by omega
      obtain ⟨y, hy⟩ : ∃ y, x[i]? = some y := ⟨_, List.getElem?_eq_getElem (by have := HN.out; omega)⟩
      rcases HEL.out with h0 | ⟨b, off, rfl, hbF, hbl, hget⟩
      · omega
      obtain ⟨ys, hA, hyr⟩ := hget i y hy
      obtain ⟨rfl, hyw⟩ := hyr
      have q0 : wr.cell? ⟨b, off + i, none⟩ = some (.int .i64 y) := by
        have := hA 0 _ rfl
        rw [show (rInt .i64).size = 1 from rfl, Nat.mul_one, Nat.add_zero] at this
        exact ((HG.out.below HR.out HB.out).cell (p := ⟨b, off + i, none⟩) hbF).trans this
      have HY := Lib.hid (show Ty.num.rd.rd wr (· < base) [.int .i64 y] y from And.intro rfl hyw)
      have HT := Lib.hid (show List.take (i + 1) x = List.take i x ++ [y] by rw [List.take_add_one, hy]; rfl)
      have HLE := Lib.hid (show (l ++ (numB (n : Int) ++ List.flatMap (enc .num) (List.take i x))).length + (enc .num y).length ≤ 140737488355328 from by
        have h1 := HL.out
        have h2 : List.flatMap (enc .num) x = List.flatMap (enc .num) (List.take i x) ++ (enc .num y ++ List.flatMap (enc .num) (List.drop (i + 1) x)) := by
          have : x = List.take i x ++ (y :: List.drop (i + 1) x) := by
            have h3 := List.take_append_drop (i + 1) x
            rw [HT.out] at h3
            simpa using h3.symm
          conv => lhs; rw [this]
          rw [List.flatMap_append, List.flatMap_cons]
        rw [h2] at h1
        simp only [List.length_append] at h1 ⊢; omega)
      clear hget hA hbF hy hyw
      go_wp2_with fail
      refine (rf_num wr base _ _ [.int .i64 y] y (by have := HB.out; have := HG.out.chg.size; omega) HWR.out HY.out HLE.out).mono ?_
      rintro e w4 ⟨v2, rfl, hw2, hg2⟩
      have HFIN := Lib.hid (show Row w4 base v2 (l ++ (numB (n : Int) ++ List.flatMap (enc .num) (List.take (i + 1) x))) from by rw [HT.out, List.flatMap_append]; simpa using hw2)
      have HGF := Lib.hid (HG.out.trans hg2)
      clear hw2 hg2 q0
      go_wp2
      go_roundg (gk - 1)
      case rel => exact ⟨i + 1, by omega, by have := HGK.out; omega, by go_num, HFIN.out, HGF.out⟩
      case measure => have := HGK.out; omega
    · obtain rfl : i = n := by omega
      have hd1 : decide ((i : Int) < (i : Int)) = false := by simp
      have HFIN := Lib.hid (show Row wr base _ (l ++ enc (.list .num) x) from by
        have := HWR.out
        rw [HN.out, List.take_length] at this
        exact this)
      clear hin
      go_wp2
      go_ret
      exact ⟨_, rfl, HFIN.out, HG.out⟩

set_option maxRecDepth 100000 in
set_option maxHeartbeats 4000000 in
theorem rf_Period : RefC 36 tPeriod := by
  intro w base v0 l cs x hb hr hx hl
  obtain ⟨u0, r0, rfl, h0, h1⟩ := hx
  obtain ⟨c0, rfl⟩ : ∃ c0, u0 = [c0] := by match u0, (Ty.rd .num).len h0 with | [c0], _ => exact ⟨c0, rfl⟩
  obtain ⟨c1, rfl⟩ : ∃ c1, r0 = [c1] := by match r0, (Ty.rd .num).len h1 with | [c1], _ => exact ⟨c1, rfl⟩
  show Calls _ _ #[v0, .agg #[c0, c1]] _ _
  obtain ⟨e0, he0⟩ : ∃ e, e = enc .num x.1 := ⟨_, rfl⟩
  obtain ⟨e1, he1⟩ : ∃ e, e = enc .num x.2 := ⟨_, rfl⟩
  have henc : enc tPeriod x = (e0 ++ e1) := by rw [he0, he1]; rfl
  rw [henc] at hl ⊢
  simp only [List.length_append] at hl
  have HL := Lib.hid hl
  have HE0 := Lib.hid he0
  have HE1 := Lib.hid he1
  obtain ⟨W0, hW0⟩ : ∃ W0, W0 = w.alloc (.cells #[c0, c1] 43) := ⟨_, rfl⟩
  have hbd : Below w.heap.size w W0.drew := Below.drew (by rw [hW0]; exact (Below.refl _ _).alloc (Nat.le_refl _) _)
  have HBD := Lib.hid hbd
  have HRD := Lib.hid (hr.keep hbd)
  have HBB := Lib.hid (show base ≤ W0.drew.heap.size from Nat.le_trans hb hbd.size)
  have HX0 := Lib.hid (rd_low (hbd.mono hb) hb h0)
  have HX1 := Lib.hid (rd_low (hbd.mono hb) hb h1)
  have INIT := Lib.hid (show W0.drew.cell? ⟨w.heap.size, 0, none⟩ = some c0 ∧ W0.drew.cell? ⟨w.heap.size, 1, none⟩ = some c1 from by
    have hc : ∀ j u, ([c0, c1] : List Value)[j]? = some u → W0.drew.cell? ⟨w.heap.size, j, none⟩ = some u := fun j u hu => by
      rw [hW0]
      have := new_cells w [c0, c1] 43 j u hu
      rw [Addr.add_mid, Nat.zero_add] at this; exact this
    exact ⟨hc 0 _ rfl, hc 1 _ rfl⟩)
  have KEEP := Lib.hid (show ∀ w' v', Grw v0 v' W0.drew w' → (w'.cell? ⟨w.heap.size, 0, none⟩ = some c0 ∧ w'.cell? ⟨w.heap.size, 1, none⟩ = some c1) from fun w' v' hg => by
    have hk : ∀ j, w'.cell? ⟨w.heap.size, j, none⟩ = W0.drew.cell? ⟨w.heap.size, j, none⟩ := fun j => hg.cell (a := ⟨w.heap.size, j, none⟩) (fun e => Nat.lt_irrefl _ (hr.ge _ e).2) (by show w.heap.size < W0.heap.size; rw [hW0]; simp)
    obtain ⟨i0, i1⟩ := INIT.out
    exact ⟨(hk 0).trans i0, (hk 1).trans i1⟩)
  have HC0 := Lib.hid (rf_num W0.drew base v0 l [c0] _ HBB.out HRD.out HX0.out (by rw [← HE0.out]; have := HL.out; omega))
  have HW0 := Lib.hid hW0
  clear hW0 hbd hl henc hr hb he0 he1 h0 h1
  go_enter Tryz.func36, Tryz.ntmps36
  go_wp2_with fail
  rw [← HW0.out]
  go_region_held3 (fun w' => w'.cell? ⟨w.heap.size, 0, none⟩ = some c0 ∧ w'.cell? ⟨w.heap.size, 1, none⟩ = some c1) (first | assumption | exact INIT.out | exact KEEP.out _ _ hG1 | exact KEEP.out _ _ hG2)
    (first | (go_at_call_of 34 v0; refine HC0.out.mono ?_; rintro e w1 ⟨v1, rfl, hr, hg⟩; rw [← HE0.out] at hr; have hr1 : Row w1 base v1 (l ++ e0) := (by simpa only [List.append_assoc] using hr); clear hr; have hG1 := hg) | (go_at_call_of 34 v1; refine (rf_num w1 base v1 (l ++ e0) [c1] _ (Nat.le_trans HBB.out hG1.chg.size) hr1 (rd_grw hG1 HRD.out HBB.out HX1.out) (by rw [← HE1.out]; have := HL.out; simp only [List.length_append]; omega)).mono ?_; rintro e w2 ⟨v2, rfl, hr, hg⟩; rw [← HE1.out] at hr; have hr2 : Row w2 base v2 (l ++ (e0 ++ e1)) := (by simpa only [List.append_assoc] using hr); clear hr; have hG2 := hG1.trans hg) | fail)
  all_goals
    have HFIN := Lib.hid (And.intro hr2 ((Grw.of_below HBD.out).trans hG2))
    clear hr1 hG1 hr2 hG2
    go_wp2
    go_ret
    exact ⟨_, rfl, HFIN.out.1, HFIN.out.2⟩

set_option maxRecDepth 100000 in
set_option maxHeartbeats 4000000 in
theorem rf_Value : RefC 72 tValue := by
  intro w base v0 l cs x hb hr hx hl
  obtain ⟨u0, r0, rfl, h0, u1, r1, rfl, h1, h2⟩ := hx
  obtain ⟨c0, rfl⟩ : ∃ c0, u0 = [c0] := by match u0, (Ty.rd .num).len h0 with | [c0], _ => exact ⟨c0, rfl⟩
  obtain ⟨c1, rfl⟩ : ∃ c1, u1 = [c1] := by match u1, (Ty.rd .num).len h1 with | [c1], _ => exact ⟨c1, rfl⟩
  obtain ⟨c2, rfl⟩ : ∃ c2, r1 = [c2] := by match r1, (Ty.rd .str).len h2 with | [c2], _ => exact ⟨c2, rfl⟩
  show Calls _ _ #[v0, .agg #[c0, c1, c2]] _ _
  obtain ⟨e0, he0⟩ : ∃ e, e = enc .num x.1 := ⟨_, rfl⟩
  obtain ⟨e1, he1⟩ : ∃ e, e = enc .num x.2.1 := ⟨_, rfl⟩
  obtain ⟨e2, he2⟩ : ∃ e, e = enc .str x.2.2 := ⟨_, rfl⟩
  have henc : enc tValue x = (e0 ++ (e1 ++ e2)) := by rw [he0, he1, he2]; rfl
  rw [henc] at hl ⊢
  simp only [List.length_append] at hl
  have HL := Lib.hid hl
  have HE0 := Lib.hid he0
  have HE1 := Lib.hid he1
  have HE2 := Lib.hid he2
  obtain ⟨W0, hW0⟩ : ∃ W0, W0 = w.alloc (.cells #[c0, c1, c2] 159) := ⟨_, rfl⟩
  have hbd : Below w.heap.size w W0.drew := Below.drew (by rw [hW0]; exact (Below.refl _ _).alloc (Nat.le_refl _) _)
  have HBD := Lib.hid hbd
  have HRD := Lib.hid (hr.keep hbd)
  have HBB := Lib.hid (show base ≤ W0.drew.heap.size from Nat.le_trans hb hbd.size)
  have HX0 := Lib.hid (rd_low (hbd.mono hb) hb h0)
  have HX1 := Lib.hid (rd_low (hbd.mono hb) hb h1)
  have HX2 := Lib.hid (rd_low (hbd.mono hb) hb h2)
  have INIT := Lib.hid (show W0.drew.cell? ⟨w.heap.size, 0, none⟩ = some c0 ∧ W0.drew.cell? ⟨w.heap.size, 1, none⟩ = some c1 ∧ W0.drew.cell? ⟨w.heap.size, 2, none⟩ = some c2 from by
    have hc : ∀ j u, ([c0, c1, c2] : List Value)[j]? = some u → W0.drew.cell? ⟨w.heap.size, j, none⟩ = some u := fun j u hu => by
      rw [hW0]
      have := new_cells w [c0, c1, c2] 159 j u hu
      rw [Addr.add_mid, Nat.zero_add] at this; exact this
    exact ⟨hc 0 _ rfl, hc 1 _ rfl, hc 2 _ rfl⟩)
  have KEEP := Lib.hid (show ∀ w' v', Grw v0 v' W0.drew w' → (w'.cell? ⟨w.heap.size, 0, none⟩ = some c0 ∧ w'.cell? ⟨w.heap.size, 1, none⟩ = some c1 ∧ w'.cell? ⟨w.heap.size, 2, none⟩ = some c2) from fun w' v' hg => by
    have hk : ∀ j, w'.cell? ⟨w.heap.size, j, none⟩ = W0.drew.cell? ⟨w.heap.size, j, none⟩ := fun j => hg.cell (a := ⟨w.heap.size, j, none⟩) (fun e => Nat.lt_irrefl _ (hr.ge _ e).2) (by show w.heap.size < W0.heap.size; rw [hW0]; simp)
    obtain ⟨i0, i1, i2⟩ := INIT.out
    exact ⟨(hk 0).trans i0, (hk 1).trans i1, (hk 2).trans i2⟩)
  have HC0 := Lib.hid (rf_num W0.drew base v0 l [c0] _ HBB.out HRD.out HX0.out (by rw [← HE0.out]; have := HL.out; omega))
  have HW0 := Lib.hid hW0
  clear hW0 hbd hl henc hr hb he0 he1 he2 h0 h1 h2
  go_enter Tryz.func72, Tryz.ntmps72
  go_wp2_with fail
  rw [← HW0.out]
  go_region_held3 (fun w' => w'.cell? ⟨w.heap.size, 0, none⟩ = some c0 ∧ w'.cell? ⟨w.heap.size, 1, none⟩ = some c1 ∧ w'.cell? ⟨w.heap.size, 2, none⟩ = some c2) (first | assumption | exact INIT.out | exact KEEP.out _ _ hG1 | exact KEEP.out _ _ hG2 | exact KEEP.out _ _ hG3)
    (first | (go_at_call_of 34 v0; refine HC0.out.mono ?_; rintro e w1 ⟨v1, rfl, hr, hg⟩; rw [← HE0.out] at hr; have hr1 : Row w1 base v1 (l ++ e0) := (by simpa only [List.append_assoc] using hr); clear hr; have hG1 := hg) | (go_at_call_of 34 v1; refine (rf_num w1 base v1 (l ++ e0) [c1] _ (Nat.le_trans HBB.out hG1.chg.size) hr1 (rd_grw hG1 HRD.out HBB.out HX1.out) (by rw [← HE1.out]; have := HL.out; simp only [List.length_append]; omega)).mono ?_; rintro e w2 ⟨v2, rfl, hr, hg⟩; rw [← HE1.out] at hr; have hr2 : Row w2 base v2 (l ++ (e0 ++ e1)) := (by simpa only [List.append_assoc] using hr); clear hr; have hG2 := hG1.trans hg) | (go_at_call_of 70 v2; refine (rf_str w2 base v2 (l ++ (e0 ++ e1)) [c2] _ (Nat.le_trans HBB.out hG2.chg.size) hr2 (rd_grw hG2 HRD.out HBB.out HX2.out) (by rw [← HE2.out]; have := HL.out; simp only [List.length_append]; omega)).mono ?_; rintro e w3 ⟨v3, rfl, hr, hg⟩; rw [← HE2.out] at hr; have hr3 : Row w3 base v3 (l ++ (e0 ++ (e1 ++ e2))) := (by simpa only [List.append_assoc] using hr); clear hr; have hG3 := hG2.trans hg) | fail)
  all_goals
    have HFIN := Lib.hid (And.intro hr3 ((Grw.of_below HBD.out).trans hG3))
    clear hr1 hG1 hr2 hG2 hr3 hG3
    go_wp2
    go_ret
    exact ⟨_, rfl, HFIN.out.1, HFIN.out.2⟩

set_option maxRecDepth 100000 in
set_option maxHeartbeats 4000000 in
theorem rf_Values : RefC 37 (.list tValue) := by
  intro w base v0 l cs x hb hr hx hl
  obtain ⟨a, n, cap, rfl, hn, hcap, hcm, hel⟩ := hx
  show Calls _ _ #[v0, .slice a n cap] _ _
  have hnw : (Lit.int .i64 (n : Int)).wf = true := by unfold maxLen at hcm; simp [Lit.wf, IntKind.min, IntKind.max, IntKind.bits, IntKind.signed]; omega
  have HN := Lib.hid (show n = List.length x from hn)
  have HEL := Lib.hid hel
  have HR := Lib.hid hr
  have HB := Lib.hid hb
  have hle : l.length + (numB (List.length x) ++ List.flatMap (enc tValue) x).length ≤ 140737488355328 := hl
  rw [List.length_append, ← HN.out] at hle
  have HL := Lib.hid hle
  have HC := Lib.hid (rf_num w base v0 l [.int .i64 (n : Int)] (n : Int) hb hr ⟨rfl, hnw⟩ (by show _ + (numB (n : Int)).length ≤ _; omega))
  have hn0 : 0 ≤ (n : Int) := by omega
  have hn1 : (n : Int) ≤ 9223372036854775807 := by unfold maxLen at hcm; omega
  clear hnw hn hel hr hle hl hcap hcm hb
  go_enter Tryz.func37, Tryz.ntmps37
  go_wp2_with fail
  refine HC.out.mono ?_
  rintro e w1 ⟨v1, rfl, hr1, hg1⟩
  have HR1 := Lib.hid (show Row w1 base v1 (l ++ numB (n : Int)) from hr1)
  have HG1 := Lib.hid hg1
  clear hr1 hg1
  go_wp2
  go_loopg [0, 5] n (fun gk t0 t5 wr => ∃ (i : Nat), i ≤ n ∧ gk + i = n ∧ t5 = .int .i64 (i : Int) ∧ Row wr base t0 (l ++ (numB (n : Int) ++ List.flatMap (enc tValue) (List.take i x))) ∧ Grw v0 t0 w wr)
  case atStart => exact ⟨0, by omega, by omega, rfl, by simpa using HR1.out, HG1.out⟩
  case round =>
    obtain ⟨i, hi, hgk, rfl, hwr, hg⟩ := hrel
    have HGK := Lib.hid hgk
    have HWR := Lib.hid hwr
    have HG := Lib.hid hg
    have hi0 : 0 ≤ (i : Int) := by omega
    clear hgk hwr hg
    by_cases hin : i < n
    · have hd1 : decide ((i : Int) < (n : Int)) = true := decide_eq_true (by omega)
      have hi1 : (i : Int) < (n : Int) := by omega
      obtain ⟨y, hy⟩ : ∃ y, x[i]? = some y := ⟨_, List.getElem?_eq_getElem (by have := HN.out; omega)⟩
      rcases HEL.out with h0 | ⟨b, off, rfl, hbF, hbl, hget⟩
      · omega
      obtain ⟨ys, hA, hyr⟩ := hget i y hy
      obtain ⟨z0, z1, z2, rfl⟩ := shape_Value hyr
      have q0 : wr.cell? ⟨b, off + i * 3, none⟩ = some (.int .i64 z0) := ((HG.out.below HR.out HB.out).cell (p := ⟨b, off + i * 3 + 0, none⟩) hbF).trans (hA 0 _ rfl)
      have q1 : wr.cell? ⟨b, off + i * 3 + 1, none⟩ = some (.int .i64 z1) := ((HG.out.below HR.out HB.out).cell (p := ⟨b, off + i * 3 + 1, none⟩) hbF).trans (hA 1 _ rfl)
      have q2 : wr.cell? ⟨b, off + i * 3 + 2, none⟩ = some (.string z2) := ((HG.out.below HR.out HB.out).cell (p := ⟨b, off + i * 3 + 2, none⟩) hbF).trans (hA 2 _ rfl)
      have HY := Lib.hid (rd_grw HG.out HR.out HB.out hyr)
      have HT := Lib.hid (show List.take (i + 1) x = List.take i x ++ [y] by rw [List.take_add_one, hy]; rfl)
      have HLE := Lib.hid (show (l ++ (numB (n : Int) ++ List.flatMap (enc tValue) (List.take i x))).length + (enc tValue y).length ≤ 140737488355328 from by
        have h1 := HL.out
        have h2 : List.flatMap (enc tValue) x = List.flatMap (enc tValue) (List.take i x) ++ (enc tValue y ++ List.flatMap (enc tValue) (List.drop (i + 1) x)) := by
          have : x = List.take i x ++ (y :: List.drop (i + 1) x) := by
            have h3 := List.take_append_drop (i + 1) x
            rw [HT.out] at h3
            simpa using h3.symm
          conv => lhs; rw [this]
          rw [List.flatMap_append, List.flatMap_cons]
        rw [h2] at h1
        simp only [List.length_append] at h1 ⊢; omega)
      clear hget hA hbF hy hyr
      go_wp2_with fail
      refine (rf_Value wr base _ _ [.int .i64 z0, .int .i64 z1, .string z2] y (by have := HB.out; have := HG.out.chg.size; omega) HWR.out HY.out HLE.out).mono ?_
      rintro e w4 ⟨v2, rfl, hw2, hg2⟩
      have HFIN := Lib.hid (show Row w4 base v2 (l ++ (numB (n : Int) ++ List.flatMap (enc tValue) (List.take (i + 1) x))) from by rw [HT.out, List.flatMap_append]; simpa using hw2)
      have HGF := Lib.hid (HG.out.trans hg2)
      clear hw2 hg2 q0 q1 q2
      go_wp2
      go_roundg (gk - 1)
      case rel => exact ⟨i + 1, by omega, by have := HGK.out; omega, by go_num, HFIN.out, HGF.out⟩
      case measure => have := HGK.out; omega
    · obtain rfl : i = n := by omega
      have hd1 : decide ((i : Int) < (i : Int)) = false := by simp
      have HFIN := Lib.hid (show Row wr base _ (l ++ enc (.list tValue) x) from by
        have := HWR.out
        rw [HN.out, List.take_length] at this
        exact this)
      clear hin
      go_wp2
      go_ret
      exact ⟨_, rfl, HFIN.out, HG.out⟩
end Go.Proofs.YtfppjpmflpaffaaGreat
