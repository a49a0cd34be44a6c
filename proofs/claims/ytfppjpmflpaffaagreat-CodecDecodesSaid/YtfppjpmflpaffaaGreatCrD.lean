/-
  The reference's encoder: columns, requests, holds. Printed by gen_cr.py.
-/
import Derived.Test.YtfppjpmflpaffaaGreatCrC
namespace Go.Proofs.YtfppjpmflpaffaaGreat
open Go.RowKit
set_option linter.unusedVariables false
set_option linter.unusedSimpArgs false

set_option maxRecDepth 100000 in
set_option maxHeartbeats 4000000 in
theorem rf_Column : RefC 71 tColumn := by
  intro w base v0 l cs x hb hr hx hl
  obtain ⟨u0, r0, rfl, h0, u1, r1, rfl, h1, h2⟩ := hx
  obtain ⟨c0, rfl⟩ : ∃ c0, u0 = [c0] := by match u0, (Ty.rd .num).len h0 with | [c0], _ => exact ⟨c0, rfl⟩
  obtain ⟨c1, rfl⟩ : ∃ c1, u1 = [c1] := by match u1, (Ty.rd .str).len h1 with | [c1], _ => exact ⟨c1, rfl⟩
  obtain ⟨c2, rfl⟩ : ∃ c2, r1 = [c2] := by match r1, (Ty.rd .num).len h2 with | [c2], _ => exact ⟨c2, rfl⟩
  show Calls _ _ #[v0, .agg #[c0, c1, c2]] _ _
  obtain ⟨e0, he0⟩ : ∃ e, e = enc .num x.1 := ⟨_, rfl⟩
  obtain ⟨e1, he1⟩ : ∃ e, e = enc .str x.2.1 := ⟨_, rfl⟩
  obtain ⟨e2, he2⟩ : ∃ e, e = enc .num x.2.2 := ⟨_, rfl⟩
  have henc : enc tColumn x = (e0 ++ (e1 ++ e2)) := by rw [he0, he1, he2]; rfl
  rw [henc] at hl ⊢
  simp only [List.length_append] at hl
  have HL := Lib.hid hl
  have HE0 := Lib.hid he0
  have HE1 := Lib.hid he1
  have HE2 := Lib.hid he2
  obtain ⟨W0, hW0⟩ : ∃ W0, W0 = w.alloc (.cells #[c0, c1, c2] 111) := ⟨_, rfl⟩
  have hbd : Below w.heap.size w W0.drew := Below.drew (by rw [hW0]; exact (Below.refl _ _).alloc (Nat.le_refl _) _)
  have HBD := Lib.hid hbd
  have HRD := Lib.hid (hr.keep hbd)
  have HBB := Lib.hid (show base ≤ W0.drew.heap.size from Nat.le_trans hb hbd.size)
  have HX0 := Lib.hid (rd_low (hbd.mono hb) hb h0)
  have HX1 := Lib.hid (rd_low (hbd.mono hb) hb h1)
  have HX2 := Lib.hid (rd_low (hbd.mono hb) hb h2)
  have INIT := Lib.hid (show W0.drew.cell? ⟨w.heap.size, 0, none⟩ = some c0 ∧ W0.drew.cell? ⟨w.heap.size, 1, none⟩ = some c1 ∧ W0.drew.cell? ⟨w.heap.size, 2, none⟩ = some c2 from by
    have hc : ∀ j u, ([c0, c1, c2] : List Value)[j]? = some u → W0.drew.cell? ⟨w.heap.size, j, none⟩ = some u := fun j u hu => by
      rw [hW0]
      have := new_cells w [c0, c1, c2] 111 j u hu
      rw [Addr.add_mid, Nat.zero_add] at this; exact this
    exact ⟨hc 0 _ rfl, hc 1 _ rfl, hc 2 _ rfl⟩)
  have KEEP := Lib.hid (show ∀ w' v', Grw v0 v' W0.drew w' → (w'.cell? ⟨w.heap.size, 0, none⟩ = some c0 ∧ w'.cell? ⟨w.heap.size, 1, none⟩ = some c1 ∧ w'.cell? ⟨w.heap.size, 2, none⟩ = some c2) from fun w' v' hg => by
    have hk : ∀ j, w'.cell? ⟨w.heap.size, j, none⟩ = W0.drew.cell? ⟨w.heap.size, j, none⟩ := fun j => hg.cell (a := ⟨w.heap.size, j, none⟩) (fun e => Nat.lt_irrefl _ (hr.ge _ e).2) (by show w.heap.size < W0.heap.size; rw [hW0]; simp)
    obtain ⟨i0, i1, i2⟩ := INIT.out
    exact ⟨(hk 0).trans i0, (hk 1).trans i1, (hk 2).trans i2⟩)
  have HC0 := Lib.hid (rf_num W0.drew base v0 l [c0] _ HBB.out HRD.out HX0.out (by rw [← HE0.out]; have := HL.out; omega))
  have HW0 := Lib.hid hW0
  clear hW0 hbd hl henc hr hb he0 he1 he2 h0 h1 h2
  go_enter Tryz.func71, Tryz.ntmps71
  go_wp2_with fail
  rw [← HW0.out]
  go_region_held3 (fun w' => w'.cell? ⟨w.heap.size, 0, none⟩ = some c0 ∧ w'.cell? ⟨w.heap.size, 1, none⟩ = some c1 ∧ w'.cell? ⟨w.heap.size, 2, none⟩ = some c2) (first | assumption | exact INIT.out | exact KEEP.out _ _ hG1 | exact KEEP.out _ _ hG2 | exact KEEP.out _ _ hG3)
    (first | (go_at_call_of 34 v0; refine HC0.out.mono ?_; rintro e w1 ⟨v1, rfl, hr, hg⟩; rw [← HE0.out] at hr; have hr1 : Row w1 base v1 (l ++ e0) := (by simpa only [List.append_assoc] using hr); clear hr; have hG1 := hg) | (go_at_call_of 70 v1; refine (rf_str w1 base v1 (l ++ e0) [c1] _ (Nat.le_trans HBB.out hG1.chg.size) hr1 (rd_grw hG1 HRD.out HBB.out HX1.out) (by rw [← HE1.out]; have := HL.out; simp only [List.length_append]; omega)).mono ?_; rintro e w2 ⟨v2, rfl, hr, hg⟩; rw [← HE1.out] at hr; have hr2 : Row w2 base v2 (l ++ (e0 ++ e1)) := (by simpa only [List.append_assoc] using hr); clear hr; have hG2 := hG1.trans hg) | (go_at_call_of 34 v2; refine (rf_num w2 base v2 (l ++ (e0 ++ e1)) [c2] _ (Nat.le_trans HBB.out hG2.chg.size) hr2 (rd_grw hG2 HRD.out HBB.out HX2.out) (by rw [← HE2.out]; have := HL.out; simp only [List.length_append]; omega)).mono ?_; rintro e w3 ⟨v3, rfl, hr, hg⟩; rw [← HE2.out] at hr; have hr3 : Row w3 base v3 (l ++ (e0 ++ (e1 ++ e2))) := (by simpa only [List.append_assoc] using hr); clear hr; have hG3 := hG2.trans hg) | fail)
  all_goals
    have HFIN := Lib.hid (And.intro hr3 ((Grw.of_below HBD.out).trans hG3))
    clear hr1 hG1 hr2 hG2 hr3 hG3
    go_wp2
    go_ret
    exact ⟨_, rfl, HFIN.out.1, HFIN.out.2⟩

set_option maxRecDepth 100000 in
set_option maxHeartbeats 4000000 in
theorem rf_Request : RefC 39 tRequest := by
  intro w base v0 l cs x hb hr hx hl
  obtain ⟨u0, r0, rfl, h0, u1, r1, rfl, h1, u2, r2, rfl, h2, h3⟩ := hx
  obtain ⟨c0, rfl⟩ : ∃ c0, u0 = [c0] := by match u0, (Ty.rd .num).len h0 with | [c0], _ => exact ⟨c0, rfl⟩
  obtain ⟨c1, rfl⟩ : ∃ c1, u1 = [c1] := by match u1, (Ty.rd .num).len h1 with | [c1], _ => exact ⟨c1, rfl⟩
  obtain ⟨c2, rfl⟩ : ∃ c2, u2 = [c2] := by match u2, (Ty.rd .num).len h2 with | [c2], _ => exact ⟨c2, rfl⟩
  obtain ⟨c3, rfl⟩ : ∃ c3, r2 = [c3] := by match r2, (Ty.rd .str).len h3 with | [c3], _ => exact ⟨c3, rfl⟩
  show Calls _ _ #[v0, .agg #[c0, c1, c2, c3]] _ _
  obtain ⟨e0, he0⟩ : ∃ e, e = enc .num x.1 := ⟨_, rfl⟩
  obtain ⟨e1, he1⟩ : ∃ e, e = enc .num x.2.1 := ⟨_, rfl⟩
  obtain ⟨e2, he2⟩ : ∃ e, e = enc .num x.2.2.1 := ⟨_, rfl⟩
  obtain ⟨e3, he3⟩ : ∃ e, e = enc .str x.2.2.2 := ⟨_, rfl⟩
  have henc : enc tRequest x = (e0 ++ (e1 ++ (e2 ++ e3))) := by rw [he0, he1, he2, he3]; rfl
  rw [henc] at hl ⊢
  simp only [List.length_append] at hl
  have HL := Lib.hid hl
  have HE0 := Lib.hid he0
  have HE1 := Lib.hid he1
  have HE2 := Lib.hid he2
  have HE3 := Lib.hid he3
  obtain ⟨W0, hW0⟩ : ∃ W0, W0 = w.alloc (.cells #[c0, c1, c2, c3] 41) := ⟨_, rfl⟩
  have hbd : Below w.heap.size w W0.drew := Below.drew (by rw [hW0]; exact (Below.refl _ _).alloc (Nat.le_refl _) _)
  have HBD := Lib.hid hbd
  have HRD := Lib.hid (hr.keep hbd)
  have HBB := Lib.hid (show base ≤ W0.drew.heap.size from Nat.le_trans hb hbd.size)
  have HX0 := Lib.hid (rd_low (hbd.mono hb) hb h0)
  have HX1 := Lib.hid (rd_low (hbd.mono hb) hb h1)
  have HX2 := Lib.hid (rd_low (hbd.mono hb) hb h2)
  have HX3 := Lib.hid (rd_low (hbd.mono hb) hb h3)
  have INIT := Lib.hid (show W0.drew.cell? ⟨w.heap.size, 0, none⟩ = some c0 ∧ W0.drew.cell? ⟨w.heap.size, 1, none⟩ = some c1 ∧ W0.drew.cell? ⟨w.heap.size, 2, none⟩ = some c2 ∧ W0.drew.cell? ⟨w.heap.size, 3, none⟩ = some c3 from by
    have hc : ∀ j u, ([c0, c1, c2, c3] : List Value)[j]? = some u → W0.drew.cell? ⟨w.heap.size, j, none⟩ = some u := fun j u hu => by
      rw [hW0]
      have := new_cells w [c0, c1, c2, c3] 41 j u hu
      rw [Addr.add_mid, Nat.zero_add] at this; exact this
    exact ⟨hc 0 _ rfl, hc 1 _ rfl, hc 2 _ rfl, hc 3 _ rfl⟩)
  have KEEP := Lib.hid (show ∀ w' v', Grw v0 v' W0.drew w' → (w'.cell? ⟨w.heap.size, 0, none⟩ = some c0 ∧ w'.cell? ⟨w.heap.size, 1, none⟩ = some c1 ∧ w'.cell? ⟨w.heap.size, 2, none⟩ = some c2 ∧ w'.cell? ⟨w.heap.size, 3, none⟩ = some c3) from fun w' v' hg => by
    have hk : ∀ j, w'.cell? ⟨w.heap.size, j, none⟩ = W0.drew.cell? ⟨w.heap.size, j, none⟩ := fun j => hg.cell (a := ⟨w.heap.size, j, none⟩) (fun e => Nat.lt_irrefl _ (hr.ge _ e).2) (by show w.heap.size < W0.heap.size; rw [hW0]; simp)
    obtain ⟨i0, i1, i2, i3⟩ := INIT.out
    exact ⟨(hk 0).trans i0, (hk 1).trans i1, (hk 2).trans i2, (hk 3).trans i3⟩)
  have HC0 := Lib.hid (rf_num W0.drew base v0 l [c0] _ HBB.out HRD.out HX0.out (by rw [← HE0.out]; have := HL.out; omega))
  have HW0 := Lib.hid hW0
  clear hW0 hbd hl henc hr hb he0 he1 he2 he3 h0 h1 h2 h3
  go_enter Tryz.func39, Tryz.ntmps39
  go_wp2_with fail
  rw [← HW0.out]
  go_region_held3 (fun w' => w'.cell? ⟨w.heap.size, 0, none⟩ = some c0 ∧ w'.cell? ⟨w.heap.size, 1, none⟩ = some c1 ∧ w'.cell? ⟨w.heap.size, 2, none⟩ = some c2 ∧ w'.cell? ⟨w.heap.size, 3, none⟩ = some c3) (first | assumption | exact INIT.out | exact KEEP.out _ _ hG1 | exact KEEP.out _ _ hG2 | exact KEEP.out _ _ hG3 | exact KEEP.out _ _ hG4)
    (first | (go_at_call_of 34 v0; refine HC0.out.mono ?_; rintro e w1 ⟨v1, rfl, hr, hg⟩; rw [← HE0.out] at hr; have hr1 : Row w1 base v1 (l ++ e0) := (by simpa only [List.append_assoc] using hr); clear hr; have hG1 := hg) | (go_at_call_of 34 v1; refine (rf_num w1 base v1 (l ++ e0) [c1] _ (Nat.le_trans HBB.out hG1.chg.size) hr1 (rd_grw hG1 HRD.out HBB.out HX1.out) (by rw [← HE1.out]; have := HL.out; simp only [List.length_append]; omega)).mono ?_; rintro e w2 ⟨v2, rfl, hr, hg⟩; rw [← HE1.out] at hr; have hr2 : Row w2 base v2 (l ++ (e0 ++ e1)) := (by simpa only [List.append_assoc] using hr); clear hr; have hG2 := hG1.trans hg) | (go_at_call_of 34 v2; refine (rf_num w2 base v2 (l ++ (e0 ++ e1)) [c2] _ (Nat.le_trans HBB.out hG2.chg.size) hr2 (rd_grw hG2 HRD.out HBB.out HX2.out) (by rw [← HE2.out]; have := HL.out; simp only [List.length_append]; omega)).mono ?_; rintro e w3 ⟨v3, rfl, hr, hg⟩; rw [← HE2.out] at hr; have hr3 : Row w3 base v3 (l ++ (e0 ++ (e1 ++ e2))) := (by simpa only [List.append_assoc] using hr); clear hr; have hG3 := hG2.trans hg) | (go_at_call_of 70 v3; refine (rf_str w3 base v3 (l ++ (e0 ++ (e1 ++ e2))) [c3] _ (Nat.le_trans HBB.out hG3.chg.size) hr3 (rd_grw hG3 HRD.out HBB.out HX3.out) (by rw [← HE3.out]; have := HL.out; simp only [List.length_append]; omega)).mono ?_; rintro e w4 ⟨v4, rfl, hr, hg⟩; rw [← HE3.out] at hr; have hr4 : Row w4 base v4 (l ++ (e0 ++ (e1 ++ (e2 ++ e3)))) := (by simpa only [List.append_assoc] using hr); clear hr; have hG4 := hG3.trans hg) | fail)
  all_goals
    have HFIN := Lib.hid (And.intro hr4 ((Grw.of_below HBD.out).trans hG4))
    clear hr1 hG1 hr2 hG2 hr3 hG3 hr4 hG4
    go_wp2
    go_ret
    exact ⟨_, rfl, HFIN.out.1, HFIN.out.2⟩

set_option maxRecDepth 100000 in
set_option maxHeartbeats 4000000 in
theorem rf_Hold : RefC 38 tHold := by
  intro w base v0 l cs x hb hr hx hl
  obtain ⟨u0, r0, rfl, h0, h1⟩ := hx
  obtain ⟨c0, rfl⟩ : ∃ c0, u0 = [c0] := by match u0, (Ty.rd .num).len h0 with | [c0], _ => exact ⟨c0, rfl⟩
  obtain ⟨c1, c2, rfl⟩ : ∃ c1 c2, r0 = [c1, c2] := by match r0, (Ty.rd tPeriod).len h1 with | [c1, c2], _ => exact ⟨c1, c2, rfl⟩
  show Calls _ _ #[v0, .agg #[c0, c1, c2]] _ _
  obtain ⟨e0, he0⟩ : ∃ e, e = enc .num x.1 := ⟨_, rfl⟩
  obtain ⟨e1, he1⟩ : ∃ e, e = enc tPeriod x.2 := ⟨_, rfl⟩
  have henc : enc tHold x = (e0 ++ e1) := by rw [he0, he1]; rfl
  rw [henc] at hl ⊢
  simp only [List.length_append] at hl
  have HL := Lib.hid hl
  have HE0 := Lib.hid he0
  have HE1 := Lib.hid he1
  obtain ⟨W0, hW0⟩ : ∃ W0, W0 = w.alloc (.cells #[c0, c1, c2] 45) := ⟨_, rfl⟩
  have hbd : Below w.heap.size w W0.drew := Below.drew (by rw [hW0]; exact (Below.refl _ _).alloc (Nat.le_refl _) _)
  have HBD := Lib.hid hbd
  have HRD := Lib.hid (hr.keep hbd)
  have HBB := Lib.hid (show base ≤ W0.drew.heap.size from Nat.le_trans hb hbd.size)
  have HX0 := Lib.hid (rd_low (hbd.mono hb) hb h0)
  have HX1 := Lib.hid (rd_low (hbd.mono hb) hb h1)
  have INIT := Lib.hid (show W0.drew.cell? ⟨w.heap.size, 0, none⟩ = some c0 ∧ W0.drew.cell? ⟨w.heap.size, 1, none⟩ = some c1 ∧ W0.drew.cell? ⟨w.heap.size, 2, none⟩ = some c2 from by
    have hc : ∀ j u, ([c0, c1, c2] : List Value)[j]? = some u → W0.drew.cell? ⟨w.heap.size, j, none⟩ = some u := fun j u hu => by
      rw [hW0]
      have := new_cells w [c0, c1, c2] 45 j u hu
      rw [Addr.add_mid, Nat.zero_add] at this; exact this
    exact ⟨hc 0 _ rfl, hc 1 _ rfl, hc 2 _ rfl⟩)
  have KEEP := Lib.hid (show ∀ w' v', Grw v0 v' W0.drew w' → (w'.cell? ⟨w.heap.size, 0, none⟩ = some c0 ∧ w'.cell? ⟨w.heap.size, 1, none⟩ = some c1 ∧ w'.cell? ⟨w.heap.size, 2, none⟩ = some c2) from fun w' v' hg => by
    have hk : ∀ j, w'.cell? ⟨w.heap.size, j, none⟩ = W0.drew.cell? ⟨w.heap.size, j, none⟩ := fun j => hg.cell (a := ⟨w.heap.size, j, none⟩) (fun e => Nat.lt_irrefl _ (hr.ge _ e).2) (by show w.heap.size < W0.heap.size; rw [hW0]; simp)
    obtain ⟨i0, i1, i2⟩ := INIT.out
    exact ⟨(hk 0).trans i0, (hk 1).trans i1, (hk 2).trans i2⟩)
  have HC0 := Lib.hid (rf_num W0.drew base v0 l [c0] _ HBB.out HRD.out HX0.out (by rw [← HE0.out]; have := HL.out; omega))
  have HW0 := Lib.hid hW0
  clear hW0 hbd hl henc hr hb he0 he1 h0 h1
  go_enter Tryz.func38, Tryz.ntmps38
  go_wp2_with fail
  rw [← HW0.out]
  go_region_held3 (fun w' => w'.cell? ⟨w.heap.size, 0, none⟩ = some c0 ∧ w'.cell? ⟨w.heap.size, 1, none⟩ = some c1 ∧ w'.cell? ⟨w.heap.size, 2, none⟩ = some c2) (first | assumption | exact INIT.out | exact KEEP.out _ _ hG1 | exact KEEP.out _ _ hG2)
    (first | (go_at_call_of 34 v0; refine HC0.out.mono ?_; rintro e w1 ⟨v1, rfl, hr, hg⟩; rw [← HE0.out] at hr; have hr1 : Row w1 base v1 (l ++ e0) := (by simpa only [List.append_assoc] using hr); clear hr; have hG1 := hg) | (go_at_call_of 36 v1; refine (rf_Period w1 base v1 (l ++ e0) [c1, c2] _ (Nat.le_trans HBB.out hG1.chg.size) hr1 (rd_grw hG1 HRD.out HBB.out HX1.out) (by rw [← HE1.out]; have := HL.out; simp only [List.length_append]; omega)).mono ?_; rintro e w2 ⟨v2, rfl, hr, hg⟩; rw [← HE1.out] at hr; have hr2 : Row w2 base v2 (l ++ (e0 ++ e1)) := (by simpa only [List.append_assoc] using hr); clear hr; have hG2 := hG1.trans hg) | fail)
  all_goals
    have HFIN := Lib.hid (And.intro hr2 ((Grw.of_below HBD.out).trans hG2))
    clear hr1 hG1 hr2 hG2
    go_wp2
    go_ret
    exact ⟨_, rfl, HFIN.out.1, HFIN.out.2⟩
end Go.Proofs.YtfppjpmflpaffaaGreat
