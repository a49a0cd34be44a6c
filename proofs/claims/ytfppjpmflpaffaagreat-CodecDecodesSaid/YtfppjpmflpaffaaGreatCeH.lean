/-
  The program's encoder: commands, databases. Printed by gen_ce.py.
-/
import Derived.Test.YtfppjpmflpaffaaGreatCeG
namespace Go.Proofs.YtfppjpmflpaffaaGreat
open Go.RowKit
set_option linter.unusedVariables false
set_option linter.unusedSimpArgs false

set_option maxRecDepth 100000 in
set_option maxHeartbeats 4000000 in
theorem cd_EncodeCommand (w : World) (cs : List Value) (x : Ty.T tCommand) (hx : (Ty.rd tCommand).rd w (· < w.heap.size) cs x) (hl : (enc tCommand x).length ≤ 140737488355328) :
    Calls Tryz.prog 15 #[goV cs] w fun e w' => ∃ v', e = .returned v' ∧ Row w' w.heap.size v' (enc tCommand x) ∧ Below w.heap.size w w' := by
  obtain ⟨u0, r0, rfl, h0, u1, r1, rfl, h1, u2, r2, rfl, h2, u3, r3, rfl, h3, h4⟩ := hx
  obtain ⟨c0, rfl⟩ : ∃ c0, u0 = [c0] := by match u0, (Ty.rd .num).len h0 with | [c0], _ => exact ⟨c0, rfl⟩
  obtain ⟨c1, rfl⟩ : ∃ c1, u1 = [c1] := by match u1, (Ty.rd .num).len h1 with | [c1], _ => exact ⟨c1, rfl⟩
  obtain ⟨c2, rfl⟩ : ∃ c2, u2 = [c2] := by match u2, (Ty.rd (.list tEdit)).len h2 with | [c2], _ => exact ⟨c2, rfl⟩
  obtain ⟨c3, c4, c5, c6, rfl⟩ : ∃ c3 c4 c5 c6, u3 = [c3, c4, c5, c6] := by match u3, (Ty.rd tRequest).len h3 with | [c3, c4, c5, c6], _ => exact ⟨c3, c4, c5, c6, rfl⟩
  obtain ⟨c7, c8, c9, rfl⟩ : ∃ c7 c8 c9, r3 = [c7, c8, c9] := by match r3, (Ty.rd tHold).len h4 with | [c7, c8, c9], _ => exact ⟨c7, c8, c9, rfl⟩
  show Calls _ _ #[.agg #[c0, c1, c2, c3, c4, c5, c6, c7, c8, c9]] _ _
  obtain ⟨e0, he0⟩ : ∃ e, e = enc .num x.1 := ⟨_, rfl⟩
  obtain ⟨e1, he1⟩ : ∃ e, e = enc .num x.2.1 := ⟨_, rfl⟩
  obtain ⟨e2, he2⟩ : ∃ e, e = enc (.list tEdit) x.2.2.1 := ⟨_, rfl⟩
  obtain ⟨e3, he3⟩ : ∃ e, e = enc tRequest x.2.2.2.1 := ⟨_, rfl⟩
  obtain ⟨e4, he4⟩ : ∃ e, e = enc tHold x.2.2.2.2 := ⟨_, rfl⟩
  have henc : enc tCommand x = (e0 ++ (e1 ++ (e2 ++ (e3 ++ e4)))) := by rw [he0, he1, he2, he3, he4]; rfl
  rw [henc] at hl ⊢
  simp only [List.length_append] at hl
  have HL := Lib.hid hl
  have HE0 := Lib.hid he0
  have HE1 := Lib.hid he1
  have HE2 := Lib.hid he2
  have HE3 := Lib.hid he3
  have HE4 := Lib.hid he4
  obtain ⟨W1, hW1⟩ : ∃ W1, W1 = w.alloc (.cells #[c0, c1, c2, c3, c4, c5, c6, c7, c8, c9] 47) := ⟨_, rfl⟩
  obtain ⟨W0, hW0⟩ : ∃ W0, W0 = W1.alloc (.cells #[.slice none 0 0] 61) := ⟨_, rfl⟩
  obtain ⟨wb, hwb⟩ : ∃ wb, wb = w.heap.size + 1 := ⟨_, rfl⟩
  have hz1 : W1.heap.size = w.heap.size + 1 := by rw [hW1]; simp
  have hb1 : Below w.heap.size w W1 := by rw [hW1]; exact (Below.refl _ _).alloc (Nat.le_refl _) _
  have hb0 : Below W1.heap.size W1 W0 := by rw [hW0]; exact (Below.refl _ _).alloc (Nat.le_refl _) _
  have hbb : Below w.heap.size w W0 := hb1.trans (hb0.mono (by omega))
  have HWW := Lib.hid (show Wr W0 wb (.slice none 0 0) [] from by
    rw [hW0, show wb = W1.heap.size by omega]
    refine ⟨by simp, by go_simp, ?_, Row.nil _ _⟩
    have := new_cells W1 [.slice none 0 0] 61 0 _ rfl
    rw [Addr.add_mid, Nat.zero_add] at this; exact this)
  have HZ := Lib.hid (show w.heap.size ≤ wb ∧ w.heap.size ≤ W0.heap.size from ⟨by omega, hbb.size⟩)
  have HBB := Lib.hid hbb
  have HX0 := Lib.hid (show (Ty.rd .num).rd W0 (· < wb) _ _ from Rd.more _ (fun b hb => Nat.lt_of_lt_of_le hb (by omega)) (rd_low hbb (Nat.le_refl _) h0))
  have HX1 := Lib.hid (show (Ty.rd .num).rd W0 (· < wb) _ _ from Rd.more _ (fun b hb => Nat.lt_of_lt_of_le hb (by omega)) (rd_low hbb (Nat.le_refl _) h1))
  have HX2 := Lib.hid (show (Ty.rd (.list tEdit)).rd W0 (· < wb) _ _ from Rd.more _ (fun b hb => Nat.lt_of_lt_of_le hb (by omega)) (rd_low hbb (Nat.le_refl _) h2))
  have HX3 := Lib.hid (show (Ty.rd tRequest).rd W0 (· < wb) _ _ from Rd.more _ (fun b hb => Nat.lt_of_lt_of_le hb (by omega)) (rd_low hbb (Nat.le_refl _) h3))
  have HX4 := Lib.hid (show (Ty.rd tHold).rd W0 (· < wb) _ _ from Rd.more _ (fun b hb => Nat.lt_of_lt_of_le hb (by omega)) (rd_low hbb (Nat.le_refl _) h4))
  have HBX := Lib.hid (show ∀ w' v', Gw wb (.slice none 0 0) v' W0 w' → ∀ (j : Nat) u, ([c0, c1, c2, c3, c4, c5, c6, c7, c8, c9] : List Value)[j]? = some u → w'.cell? ⟨w.heap.size, j, none⟩ = some u from fun w' v' hg j u hu => by
    refine ((hg.below HWW.out).cell (p := ⟨w.heap.size, j, none⟩) (by show w.heap.size < wb; omega)).trans ?_
    refine (hb0.cell (p := ⟨w.heap.size, j, none⟩) (by show w.heap.size < W1.heap.size; omega)).trans ?_
    rw [hW1]
    have := new_cells w [c0, c1, c2, c3, c4, c5, c6, c7, c8, c9] 47 j u hu
    rw [Addr.add_mid, Nat.zero_add] at this; exact this)
  have HW1 := Lib.hid hW1
  have HWB := Lib.hid hwb
  have HW0 := Lib.hid hW0
  clear hW0 hW1 hwb hz1 hb1 hbb hb0 hl henc he0 he1 he2 he3 he4 h0 h1 h2 h3 h4
  go_enter Tryz.func15, Tryz.ntmps15
  go_wp2_with fail
  rw [← HW1.out, ← HWB.out, ← HW0.out]
  refine (put_num W0 wb (.slice none 0 0) [] [c0] _ HWW.out HX0.out (by rw [← HE0.out]; have := HL.out; (try simp only [List.length_append, List.length_nil]); omega)).mono ?_
  rintro e w1 ⟨rfl, v1, hw, hg⟩
  rw [← HE0.out] at hw
  have HV1 := Lib.hid (show Wr w1 wb v1 e0 from by simpa only [List.append_assoc, List.nil_append] using hw)
  have HG1 := Lib.hid (hg)
  clear hw hg
  have q0 := HBX.out _ _ HG1.out 1 _ rfl
  go_wp2_with fail
  refine (put_num w1 wb v1 e0 [c1] _ HV1.out (rd_low (HG1.out.below HWW.out) (Nat.le_of_lt HWW.out.lt) HX1.out) (by rw [← HE1.out]; have := HL.out; (try simp only [List.length_append, List.length_nil]); omega)).mono ?_
  rintro e w2 ⟨rfl, v2, hw, hg⟩
  rw [← HE1.out] at hw
  have HV2 := Lib.hid (show Wr w2 wb v2 (e0 ++ e1) from by simpa only [List.append_assoc, List.nil_append] using hw)
  have HG2 := Lib.hid (HG1.out.trans hg)
  clear hw hg q0
  have q0 := HBX.out _ _ HG2.out 2 _ rfl
  go_wp2_with fail
  refine (list_Edit w2 wb v2 (e0 ++ e1) c2 _ HV2.out (rd_low (HG2.out.below HWW.out) (Nat.le_of_lt HWW.out.lt) HX2.out) (by rw [← HE2.out]; have := HL.out; (try simp only [List.length_append, List.length_nil]); omega)).mono ?_
  rintro e w3 ⟨rfl, v3, hw, hg⟩
  rw [← HE2.out] at hw
  have HV3 := Lib.hid (show Wr w3 wb v3 (e0 ++ (e1 ++ e2)) from by simpa only [List.append_assoc, List.nil_append] using hw)
  have HG3 := Lib.hid (HG2.out.trans hg)
  clear hw hg q0
  have q0 := HBX.out _ _ HG3.out 3 _ rfl
  have q1 := HBX.out _ _ HG3.out 4 _ rfl
  have q2 := HBX.out _ _ HG3.out 5 _ rfl
  have q3 := HBX.out _ _ HG3.out 6 _ rfl
  go_wp2_with fail
  refine (put_Request w3 wb v3 (e0 ++ (e1 ++ e2)) [c3, c4, c5, c6] _ HV3.out (rd_low (HG3.out.below HWW.out) (Nat.le_of_lt HWW.out.lt) HX3.out) (by rw [← HE3.out]; have := HL.out; (try simp only [List.length_append, List.length_nil]); omega)).mono ?_
  rintro e w4 ⟨rfl, v4, hw, hg⟩
  rw [← HE3.out] at hw
  have HV4 := Lib.hid (show Wr w4 wb v4 (e0 ++ (e1 ++ (e2 ++ e3))) from by simpa only [List.append_assoc, List.nil_append] using hw)
  have HG4 := Lib.hid (HG3.out.trans hg)
  clear hw hg q0 q1 q2 q3
  have q0 := HBX.out _ _ HG4.out 7 _ rfl
  have q1 := HBX.out _ _ HG4.out 8 _ rfl
  have q2 := HBX.out _ _ HG4.out 9 _ rfl
  go_wp2_with fail
  refine (put_Hold w4 wb v4 (e0 ++ (e1 ++ (e2 ++ e3))) [c7, c8, c9] _ HV4.out (rd_low (HG4.out.below HWW.out) (Nat.le_of_lt HWW.out.lt) HX4.out) (by rw [← HE4.out]; have := HL.out; (try simp only [List.length_append, List.length_nil]); omega)).mono ?_
  rintro e w5 ⟨rfl, v5, hw, hg⟩
  rw [← HE4.out] at hw
  have HV5 := Lib.hid (show Wr w5 wb v5 (e0 ++ (e1 ++ (e2 ++ (e3 ++ e4)))) from by simpa only [List.append_assoc, List.nil_append] using hw)
  have HG5 := Lib.hid (HG4.out.trans hg)
  clear hw hg q0 q1 q2
  have qw := HV5.out.cell
  go_wp2
  go_ret
  exact ⟨_, rfl, HV5.out.row.low (by have := HZ.out.1; omega), HBB.out.trans ((HG5.out.below HWW.out).mono HZ.out.1)⟩

set_option maxRecDepth 100000 in
set_option maxHeartbeats 4000000 in
theorem cd_EncodeDatabase (w : World) (cs : List Value) (x : Ty.T tDatabase) (hx : (Ty.rd tDatabase).rd w (· < w.heap.size) cs x) (hl : (enc tDatabase x).length ≤ 140737488355328) :
    Calls Tryz.prog 8 #[goV cs] w fun e w' => ∃ v', e = .returned v' ∧ Row w' w.heap.size v' (enc tDatabase x) ∧ Below w.heap.size w w' := by
  obtain ⟨u0, r0, rfl, h0, u1, r1, rfl, h1, u2, r2, rfl, h2, u3, r3, rfl, h3, u4, r4, rfl, h4, h5⟩ := hx
  obtain ⟨c0, rfl⟩ : ∃ c0, u0 = [c0] := by match u0, (Ty.rd .num).len h0 with | [c0], _ => exact ⟨c0, rfl⟩
  obtain ⟨c1, rfl⟩ : ∃ c1, u1 = [c1] := by match u1, (Ty.rd .num).len h1 with | [c1], _ => exact ⟨c1, rfl⟩
  obtain ⟨c2, rfl⟩ : ∃ c2, u2 = [c2] := by match u2, (Ty.rd (.list tTable)).len h2 with | [c2], _ => exact ⟨c2, rfl⟩
  obtain ⟨c3, rfl⟩ : ∃ c3, u3 = [c3] := by match u3, (Ty.rd .num).len h3 with | [c3], _ => exact ⟨c3, rfl⟩
  obtain ⟨c4, rfl⟩ : ∃ c4, u4 = [c4] := by match u4, (Ty.rd (.list tHold)).len h4 with | [c4], _ => exact ⟨c4, rfl⟩
  obtain ⟨c5, rfl⟩ : ∃ c5, r4 = [c5] := by match r4, (Ty.rd (.list tCitation)).len h5 with | [c5], _ => exact ⟨c5, rfl⟩
  show Calls _ _ #[.agg #[c0, c1, c2, c3, c4, c5]] _ _
  obtain ⟨e0, he0⟩ : ∃ e, e = enc .num x.1 := ⟨_, rfl⟩
  obtain ⟨e1, he1⟩ : ∃ e, e = enc .num x.2.1 := ⟨_, rfl⟩
  obtain ⟨e2, he2⟩ : ∃ e, e = enc (.list tTable) x.2.2.1 := ⟨_, rfl⟩
  obtain ⟨e3, he3⟩ : ∃ e, e = enc .num x.2.2.2.1 := ⟨_, rfl⟩
  obtain ⟨e4, he4⟩ : ∃ e, e = enc (.list tHold) x.2.2.2.2.1 := ⟨_, rfl⟩
  obtain ⟨e5, he5⟩ : ∃ e, e = enc (.list tCitation) x.2.2.2.2.2 := ⟨_, rfl⟩
  have henc : enc tDatabase x = (e0 ++ (e1 ++ (e2 ++ (e3 ++ (e4 ++ e5))))) := by rw [he0, he1, he2, he3, he4, he5]; rfl
  rw [henc] at hl ⊢
  simp only [List.length_append] at hl
  have HL := Lib.hid hl
  have HE0 := Lib.hid he0
  have HE1 := Lib.hid he1
  have HE2 := Lib.hid he2
  have HE3 := Lib.hid he3
  have HE4 := Lib.hid he4
  have HE5 := Lib.hid he5
  obtain ⟨W1, hW1⟩ : ∃ W1, W1 = w.alloc (.cells #[c0, c1, c2, c3, c4, c5] 29) := ⟨_, rfl⟩
  obtain ⟨W0, hW0⟩ : ∃ W0, W0 = W1.alloc (.cells #[.slice none 0 0] 61) := ⟨_, rfl⟩
  obtain ⟨wb, hwb⟩ : ∃ wb, wb = w.heap.size + 1 := ⟨_, rfl⟩
  have hz1 : W1.heap.size = w.heap.size + 1 := by rw [hW1]; simp
  have hb1 : Below w.heap.size w W1 := by rw [hW1]; exact (Below.refl _ _).alloc (Nat.le_refl _) _
  have hb0 : Below W1.heap.size W1 W0 := by rw [hW0]; exact (Below.refl _ _).alloc (Nat.le_refl _) _
  have hbb : Below w.heap.size w W0 := hb1.trans (hb0.mono (by omega))
  have HWW := Lib.hid (show Wr W0 wb (.slice none 0 0) [] from by
    rw [hW0, show wb = W1.heap.size by omega]
    refine ⟨by simp, by go_simp, ?_, Row.nil _ _⟩
    have := new_cells W1 [.slice none 0 0] 61 0 _ rfl
    rw [Addr.add_mid, Nat.zero_add] at this; exact this)
  have HZ := Lib.hid (show w.heap.size ≤ wb ∧ w.heap.size ≤ W0.heap.size from ⟨by omega, hbb.size⟩)
  have HBB := Lib.hid hbb
  have HX0 := Lib.hid (show (Ty.rd .num).rd W0 (· < wb) _ _ from Rd.more _ (fun b hb => Nat.lt_of_lt_of_le hb (by omega)) (rd_low hbb (Nat.le_refl _) h0))
  have HX1 := Lib.hid (show (Ty.rd .num).rd W0 (· < wb) _ _ from Rd.more _ (fun b hb => Nat.lt_of_lt_of_le hb (by omega)) (rd_low hbb (Nat.le_refl _) h1))
  have HX2 := Lib.hid (show (Ty.rd (.list tTable)).rd W0 (· < wb) _ _ from Rd.more _ (fun b hb => Nat.lt_of_lt_of_le hb (by omega)) (rd_low hbb (Nat.le_refl _) h2))
  have HX3 := Lib.hid (show (Ty.rd .num).rd W0 (· < wb) _ _ from Rd.more _ (fun b hb => Nat.lt_of_lt_of_le hb (by omega)) (rd_low hbb (Nat.le_refl _) h3))
  have HX4 := Lib.hid (show (Ty.rd (.list tHold)).rd W0 (· < wb) _ _ from Rd.more _ (fun b hb => Nat.lt_of_lt_of_le hb (by omega)) (rd_low hbb (Nat.le_refl _) h4))
  have HX5 := Lib.hid (show (Ty.rd (.list tCitation)).rd W0 (· < wb) _ _ from Rd.more _ (fun b hb => Nat.lt_of_lt_of_le hb (by omega)) (rd_low hbb (Nat.le_refl _) h5))
  have HBX := Lib.hid (show ∀ w' v', Gw wb (.slice none 0 0) v' W0 w' → ∀ (j : Nat) u, ([c0, c1, c2, c3, c4, c5] : List Value)[j]? = some u → w'.cell? ⟨w.heap.size, j, none⟩ = some u from fun w' v' hg j u hu => by
    refine ((hg.below HWW.out).cell (p := ⟨w.heap.size, j, none⟩) (by show w.heap.size < wb; omega)).trans ?_
    refine (hb0.cell (p := ⟨w.heap.size, j, none⟩) (by show w.heap.size < W1.heap.size; omega)).trans ?_
    rw [hW1]
    have := new_cells w [c0, c1, c2, c3, c4, c5] 29 j u hu
    rw [Addr.add_mid, Nat.zero_add] at this; exact this)
  have HW1 := Lib.hid hW1
  have HWB := Lib.hid hwb
  have HW0 := Lib.hid hW0
  clear hW0 hW1 hwb hz1 hb1 hbb hb0 hl henc he0 he1 he2 he3 he4 he5 h0 h1 h2 h3 h4 h5
  go_enter Tryz.func8, Tryz.ntmps8
  go_wp2_with fail
  rw [← HW1.out, ← HWB.out, ← HW0.out]
  refine (put_num W0 wb (.slice none 0 0) [] [c0] _ HWW.out HX0.out (by rw [← HE0.out]; have := HL.out; (try simp only [List.length_append, List.length_nil]); omega)).mono ?_
  rintro e w1 ⟨rfl, v1, hw, hg⟩
  rw [← HE0.out] at hw
  have HV1 := Lib.hid (show Wr w1 wb v1 e0 from by simpa only [List.append_assoc, List.nil_append] using hw)
  have HG1 := Lib.hid (hg)
  clear hw hg
  have q0 := HBX.out _ _ HG1.out 1 _ rfl
  go_wp2_with fail
  refine (put_num w1 wb v1 e0 [c1] _ HV1.out (rd_low (HG1.out.below HWW.out) (Nat.le_of_lt HWW.out.lt) HX1.out) (by rw [← HE1.out]; have := HL.out; (try simp only [List.length_append, List.length_nil]); omega)).mono ?_
  rintro e w2 ⟨rfl, v2, hw, hg⟩
  rw [← HE1.out] at hw
  have HV2 := Lib.hid (show Wr w2 wb v2 (e0 ++ e1) from by simpa only [List.append_assoc, List.nil_append] using hw)
  have HG2 := Lib.hid (HG1.out.trans hg)
  clear hw hg q0
  have q0 := HBX.out _ _ HG2.out 2 _ rfl
  go_wp2_with fail
  refine (list_Table w2 wb v2 (e0 ++ e1) c2 _ HV2.out (rd_low (HG2.out.below HWW.out) (Nat.le_of_lt HWW.out.lt) HX2.out) (by rw [← HE2.out]; have := HL.out; (try simp only [List.length_append, List.length_nil]); omega)).mono ?_
  rintro e w3 ⟨rfl, v3, hw, hg⟩
  rw [← HE2.out] at hw
  have HV3 := Lib.hid (show Wr w3 wb v3 (e0 ++ (e1 ++ e2)) from by simpa only [List.append_assoc, List.nil_append] using hw)
  have HG3 := Lib.hid (HG2.out.trans hg)
  clear hw hg q0
  have q0 := HBX.out _ _ HG3.out 3 _ rfl
  go_wp2_with fail
  refine (put_num w3 wb v3 (e0 ++ (e1 ++ e2)) [c3] _ HV3.out (rd_low (HG3.out.below HWW.out) (Nat.le_of_lt HWW.out.lt) HX3.out) (by rw [← HE3.out]; have := HL.out; (try simp only [List.length_append, List.length_nil]); omega)).mono ?_
  rintro e w4 ⟨rfl, v4, hw, hg⟩
  rw [← HE3.out] at hw
  have HV4 := Lib.hid (show Wr w4 wb v4 (e0 ++ (e1 ++ (e2 ++ e3))) from by simpa only [List.append_assoc, List.nil_append] using hw)
  have HG4 := Lib.hid (HG3.out.trans hg)
  clear hw hg q0
  have q0 := HBX.out _ _ HG4.out 4 _ rfl
  go_wp2_with fail
  refine (list_Hold w4 wb v4 (e0 ++ (e1 ++ (e2 ++ e3))) c4 _ HV4.out (rd_low (HG4.out.below HWW.out) (Nat.le_of_lt HWW.out.lt) HX4.out) (by rw [← HE4.out]; have := HL.out; (try simp only [List.length_append, List.length_nil]); omega)).mono ?_
  rintro e w5 ⟨rfl, v5, hw, hg⟩
  rw [← HE4.out] at hw
  have HV5 := Lib.hid (show Wr w5 wb v5 (e0 ++ (e1 ++ (e2 ++ (e3 ++ e4)))) from by simpa only [List.append_assoc, List.nil_append] using hw)
  have HG5 := Lib.hid (HG4.out.trans hg)
  clear hw hg q0
  have q0 := HBX.out _ _ HG5.out 5 _ rfl
  go_wp2_with fail
  refine (list_Citation w5 wb v5 (e0 ++ (e1 ++ (e2 ++ (e3 ++ e4)))) c5 _ HV5.out (rd_low (HG5.out.below HWW.out) (Nat.le_of_lt HWW.out.lt) HX5.out) (by rw [← HE5.out]; have := HL.out; (try simp only [List.length_append, List.length_nil]); omega)).mono ?_
  rintro e w6 ⟨rfl, v6, hw, hg⟩
  rw [← HE5.out] at hw
  have HV6 := Lib.hid (show Wr w6 wb v6 (e0 ++ (e1 ++ (e2 ++ (e3 ++ (e4 ++ e5))))) from by simpa only [List.append_assoc, List.nil_append] using hw)
  have HG6 := Lib.hid (HG5.out.trans hg)
  clear hw hg q0
  have qw := HV6.out.cell
  go_wp2
  go_ret
  exact ⟨_, rfl, HV6.out.row.low (by have := HZ.out.1; omega), HBB.out.trans ((HG6.out.below HWW.out).mono HZ.out.1)⟩
end Go.Proofs.YtfppjpmflpaffaaGreat
