/-
  The program's encoder: edits, requests, holds. Printed by gen_ce.py.
-/
import Derived.Test.YtfppjpmflpaffaaGreatCeE
namespace Go.Proofs.YtfppjpmflpaffaaGreat
open Go.RowKit
set_option linter.unusedVariables false
set_option linter.unusedSimpArgs false

theorem shape_Edit {w : World} {F : Nat → Prop} {cs : List Value} {x : Ty.T tEdit} (h : (Ty.rd tEdit).rd w F cs x) : ∃ (z0 : Int) (z1 : ByteArray) (za2 : Option Addr) (zn2 zc2 : Nat) (z3 : Int) (z4 : Int) (za5 : Option Addr) (zn5 zc5 : Nat) (z6 : Int) (za7 : Option Addr) (zn7 zc7 : Nat) (z8 : ByteArray) (za9 : Option Addr) (zn9 zc9 : Nat) (za10 : Option Addr) (zn10 zc10 : Nat) (za11 : Option Addr) (zn11 zc11 : Nat) (za12 : Option Addr) (zn12 zc12 : Nat) (z13 : Int) (z14 : ByteArray) (z15 : Int), cs = [.int .i64 z0, .string z1, .slice za2 zn2 zc2, .int .i64 z3, .int .i64 z4, .slice za5 zn5 zc5, .int .i64 z6, .slice za7 zn7 zc7, .string z8, .slice za9 zn9 zc9, .slice za10 zn10 zc10, .slice za11 zn11 zc11, .slice za12 zn12 zc12, .int .i64 z13, .string z14, .int .i64 z15] := by
  obtain ⟨u0, r0, rfl, ⟨rfl, _⟩, u1, r1, rfl, ⟨rfl, _⟩, u2, r2, rfl, ⟨_, _, _, rfl, _⟩, u3, r3, rfl, h3, u4, r4, rfl, ⟨_, _, _, rfl, _⟩, u5, r5, rfl, ⟨rfl, _⟩, u6, r6, rfl, ⟨_, _, _, rfl, _⟩, u7, r7, rfl, h7, h8⟩ := h
  obtain ⟨_, _, rfl⟩ := shape_Period h3
  obtain ⟨_, _, _, _, _, _, _, _, _, _, _, _, _, rfl⟩ := shape_Schema h7
  obtain ⟨_, _, _, rfl⟩ := shape_Column h8
  exact ⟨_, _, _, _, _, _, _, _, _, _, _, _, _, _, _, _, _, _, _, _, _, _, _, _, _, _, _, _, _, _, rfl⟩

set_option maxRecDepth 100000 in
set_option maxHeartbeats 4000000 in
theorem put_Edit : PutC 48 tEdit := by
  intro w wb v0 l cs x hw hx hl
  obtain ⟨u0, r0, rfl, h0, u1, r1, rfl, h1, u2, r2, rfl, h2, u3, r3, rfl, h3, u4, r4, rfl, h4, u5, r5, rfl, h5, u6, r6, rfl, h6, u7, r7, rfl, h7, h8⟩ := hx
  obtain ⟨c0, rfl⟩ : ∃ c0, u0 = [c0] := by match u0, (Ty.rd .num).len h0 with | [c0], _ => exact ⟨c0, rfl⟩
  obtain ⟨c1, rfl⟩ : ∃ c1, u1 = [c1] := by match u1, (Ty.rd .str).len h1 with | [c1], _ => exact ⟨c1, rfl⟩
  obtain ⟨c2, rfl⟩ : ∃ c2, u2 = [c2] := by match u2, (Ty.rd (.list tValue)).len h2 with | [c2], _ => exact ⟨c2, rfl⟩
  obtain ⟨c3, c4, rfl⟩ : ∃ c3 c4, u3 = [c3, c4] := by match u3, (Ty.rd tPeriod).len h3 with | [c3, c4], _ => exact ⟨c3, c4, rfl⟩
  obtain ⟨c5, rfl⟩ : ∃ c5, u4 = [c5] := by match u4, (Ty.rd (.list tExpr)).len h4 with | [c5], _ => exact ⟨c5, rfl⟩
  obtain ⟨c6, rfl⟩ : ∃ c6, u5 = [c6] := by match u5, (Ty.rd .num).len h5 with | [c6], _ => exact ⟨c6, rfl⟩
  obtain ⟨c7, rfl⟩ : ∃ c7, u6 = [c7] := by match u6, (Ty.rd (.list tAssignment)).len h6 with | [c7], _ => exact ⟨c7, rfl⟩
  obtain ⟨c8, c9, c10, c11, c12, rfl⟩ : ∃ c8 c9 c10 c11 c12, u7 = [c8, c9, c10, c11, c12] := by match u7, (Ty.rd tSchema).len h7 with | [c8, c9, c10, c11, c12], _ => exact ⟨c8, c9, c10, c11, c12, rfl⟩
  obtain ⟨c13, c14, c15, rfl⟩ : ∃ c13 c14 c15, r7 = [c13, c14, c15] := by match r7, (Ty.rd tColumn).len h8 with | [c13, c14, c15], _ => exact ⟨c13, c14, c15, rfl⟩
  show Calls _ _ #[_, .agg #[c0, c1, c2, c3, c4, c5, c6, c7, c8, c9, c10, c11, c12, c13, c14, c15]] _ _
  obtain ⟨e0, he0⟩ : ∃ e, e = enc .num x.1 := ⟨_, rfl⟩
  obtain ⟨e1, he1⟩ : ∃ e, e = enc .str x.2.1 := ⟨_, rfl⟩
  obtain ⟨e2, he2⟩ : ∃ e, e = enc (.list tValue) x.2.2.1 := ⟨_, rfl⟩
  obtain ⟨e3, he3⟩ : ∃ e, e = enc tPeriod x.2.2.2.1 := ⟨_, rfl⟩
  obtain ⟨e4, he4⟩ : ∃ e, e = enc (.list tExpr) x.2.2.2.2.1 := ⟨_, rfl⟩
  obtain ⟨e5, he5⟩ : ∃ e, e = enc .num x.2.2.2.2.2.1 := ⟨_, rfl⟩
  obtain ⟨e6, he6⟩ : ∃ e, e = enc (.list tAssignment) x.2.2.2.2.2.2.1 := ⟨_, rfl⟩
  obtain ⟨e7, he7⟩ : ∃ e, e = enc tSchema x.2.2.2.2.2.2.2.1 := ⟨_, rfl⟩
  obtain ⟨e8, he8⟩ : ∃ e, e = enc tColumn x.2.2.2.2.2.2.2.2 := ⟨_, rfl⟩
  have henc : enc tEdit x = (e0 ++ (e1 ++ (e2 ++ (e3 ++ (e4 ++ (e5 ++ (e6 ++ (e7 ++ e8)))))))) := by rw [he0, he1, he2, he3, he4, he5, he6, he7, he8]; rfl
  rw [henc] at hl ⊢
  simp only [List.length_append] at hl
  have HL := Lib.hid hl
  have HW := Lib.hid hw
  have HE0 := Lib.hid he0
  have HE1 := Lib.hid he1
  have HE2 := Lib.hid he2
  have HE3 := Lib.hid he3
  have HE4 := Lib.hid he4
  have HE5 := Lib.hid he5
  have HE6 := Lib.hid he6
  have HE7 := Lib.hid he7
  have HE8 := Lib.hid he8
  obtain ⟨W0, hW0⟩ : ∃ W0, W0 = w.alloc (.cells #[c0, c1, c2, c3, c4, c5, c6, c7, c8, c9, c10, c11, c12, c13, c14, c15] 113) := ⟨_, rfl⟩
  have hb0 : Below w.heap.size w W0 := by rw [hW0]; exact (Below.refl _ _).alloc (Nat.le_refl _) _
  have HB0 := Lib.hid hb0
  have HWW := Lib.hid (hw.keep hb0)
  have HX0 := Lib.hid (rd_low (hb0.mono (Nat.le_of_lt hw.lt)) (Nat.le_of_lt hw.lt) h0)
  have HX1 := Lib.hid (rd_low (hb0.mono (Nat.le_of_lt hw.lt)) (Nat.le_of_lt hw.lt) h1)
  have HX2 := Lib.hid (rd_low (hb0.mono (Nat.le_of_lt hw.lt)) (Nat.le_of_lt hw.lt) h2)
  have HX3 := Lib.hid (rd_low (hb0.mono (Nat.le_of_lt hw.lt)) (Nat.le_of_lt hw.lt) h3)
  have HX4 := Lib.hid (rd_low (hb0.mono (Nat.le_of_lt hw.lt)) (Nat.le_of_lt hw.lt) h4)
  have HX5 := Lib.hid (rd_low (hb0.mono (Nat.le_of_lt hw.lt)) (Nat.le_of_lt hw.lt) h5)
  have HX6 := Lib.hid (rd_low (hb0.mono (Nat.le_of_lt hw.lt)) (Nat.le_of_lt hw.lt) h6)
  have HX7 := Lib.hid (rd_low (hb0.mono (Nat.le_of_lt hw.lt)) (Nat.le_of_lt hw.lt) h7)
  have HX8 := Lib.hid (rd_low (hb0.mono (Nat.le_of_lt hw.lt)) (Nat.le_of_lt hw.lt) h8)
  have HBX := Lib.hid (show ∀ w' v', Gw wb v0 v' W0 w' → ∀ (j : Nat) u, ([c0, c1, c2, c3, c4, c5, c6, c7, c8, c9, c10, c11, c12, c13, c14, c15] : List Value)[j]? = some u → w'.cell? ⟨w.heap.size, j, none⟩ = some u from fun w' v' hg j u hu => by
    refine (hg.box HWW.out w.heap.size hw.lt (fun e => Nat.lt_irrefl _ (hw.row.ge _ e).2) (by rw [hW0]; simp) j).trans ?_
    rw [hW0]
    have := new_cells w [c0, c1, c2, c3, c4, c5, c6, c7, c8, c9, c10, c11, c12, c13, c14, c15] 113 j u hu
    rw [Addr.add_mid, Nat.zero_add] at this; exact this)
  have HW0 := Lib.hid hW0
  clear hW0 hb0 hw hl henc he0 he1 he2 he3 he4 he5 he6 he7 he8 h0 h1 h2 h3 h4 h5 h6 h7 h8
  go_enter Tryz.func48, Tryz.ntmps48
  go_wp2_with fail
  rw [← HW0.out]
  refine (put_num W0 wb v0 l [c0] _ HWW.out HX0.out (by rw [← HE0.out]; have := HL.out; (try simp only [List.length_append]); omega)).mono ?_
  rintro e w1 ⟨rfl, v1, hw, hg⟩
  rw [← HE0.out] at hw
  have HW1 := Lib.hid (show Wr w1 wb v1 (l ++ e0) from by simpa only [List.append_assoc] using hw)
  have HG1 := Lib.hid (hg)
  clear hw hg
  have q0 := HBX.out _ _ HG1.out 1 _ rfl
  go_wp2_with fail
  refine (put_str w1 wb v1 (l ++ e0) [c1] _ HW1.out (rd_low (HG1.out.below HWW.out) (Nat.le_of_lt HWW.out.lt) HX1.out) (by rw [← HE1.out]; have := HL.out; (try simp only [List.length_append]); omega)).mono ?_
  rintro e w2 ⟨rfl, v2, hw, hg⟩
  rw [← HE1.out] at hw
  have HW2 := Lib.hid (show Wr w2 wb v2 (l ++ (e0 ++ e1)) from by simpa only [List.append_assoc] using hw)
  have HG2 := Lib.hid (HG1.out.trans hg)
  clear hw hg q0
  have q0 := HBX.out _ _ HG2.out 2 _ rfl
  go_wp2_with fail
  refine (list_Value w2 wb v2 (l ++ (e0 ++ e1)) c2 _ HW2.out (rd_low (HG2.out.below HWW.out) (Nat.le_of_lt HWW.out.lt) HX2.out) (by rw [← HE2.out]; have := HL.out; (try simp only [List.length_append]); omega)).mono ?_
  rintro e w3 ⟨rfl, v3, hw, hg⟩
  rw [← HE2.out] at hw
  have HW3 := Lib.hid (show Wr w3 wb v3 (l ++ (e0 ++ (e1 ++ e2))) from by simpa only [List.append_assoc] using hw)
  have HG3 := Lib.hid (HG2.out.trans hg)
  clear hw hg q0
  have q0 := HBX.out _ _ HG3.out 3 _ rfl
  have q1 := HBX.out _ _ HG3.out 4 _ rfl
  go_wp2_with fail
  refine (put_Period w3 wb v3 (l ++ (e0 ++ (e1 ++ e2))) [c3, c4] _ HW3.out (rd_low (HG3.out.below HWW.out) (Nat.le_of_lt HWW.out.lt) HX3.out) (by rw [← HE3.out]; have := HL.out; (try simp only [List.length_append]); omega)).mono ?_
  rintro e w4 ⟨rfl, v4, hw, hg⟩
  rw [← HE3.out] at hw
  have HW4 := Lib.hid (show Wr w4 wb v4 (l ++ (e0 ++ (e1 ++ (e2 ++ e3)))) from by simpa only [List.append_assoc] using hw)
  have HG4 := Lib.hid (HG3.out.trans hg)
  clear hw hg q0 q1
  have q0 := HBX.out _ _ HG4.out 5 _ rfl
  go_wp2_with fail
  refine (list_Expr w4 wb v4 (l ++ (e0 ++ (e1 ++ (e2 ++ e3)))) c5 _ HW4.out (rd_low (HG4.out.below HWW.out) (Nat.le_of_lt HWW.out.lt) HX4.out) (by rw [← HE4.out]; have := HL.out; (try simp only [List.length_append]); omega)).mono ?_
  rintro e w5 ⟨rfl, v5, hw, hg⟩
  rw [← HE4.out] at hw
  have HW5 := Lib.hid (show Wr w5 wb v5 (l ++ (e0 ++ (e1 ++ (e2 ++ (e3 ++ e4))))) from by simpa only [List.append_assoc] using hw)
  have HG5 := Lib.hid (HG4.out.trans hg)
  clear hw hg q0
  have q0 := HBX.out _ _ HG5.out 6 _ rfl
  go_wp2_with fail
  refine (put_num w5 wb v5 (l ++ (e0 ++ (e1 ++ (e2 ++ (e3 ++ e4))))) [c6] _ HW5.out (rd_low (HG5.out.below HWW.out) (Nat.le_of_lt HWW.out.lt) HX5.out) (by rw [← HE5.out]; have := HL.out; (try simp only [List.length_append]); omega)).mono ?_
  rintro e w6 ⟨rfl, v6, hw, hg⟩
  rw [← HE5.out] at hw
  have HW6 := Lib.hid (show Wr w6 wb v6 (l ++ (e0 ++ (e1 ++ (e2 ++ (e3 ++ (e4 ++ e5)))))) from by simpa only [List.append_assoc] using hw)
  have HG6 := Lib.hid (HG5.out.trans hg)
  clear hw hg q0
  have q0 := HBX.out _ _ HG6.out 7 _ rfl
  go_wp2_with fail
  refine (list_Assignment w6 wb v6 (l ++ (e0 ++ (e1 ++ (e2 ++ (e3 ++ (e4 ++ e5)))))) c7 _ HW6.out (rd_low (HG6.out.below HWW.out) (Nat.le_of_lt HWW.out.lt) HX6.out) (by rw [← HE6.out]; have := HL.out; (try simp only [List.length_append]); omega)).mono ?_
  rintro e w7 ⟨rfl, v7, hw, hg⟩
  rw [← HE6.out] at hw
  have HW7 := Lib.hid (show Wr w7 wb v7 (l ++ (e0 ++ (e1 ++ (e2 ++ (e3 ++ (e4 ++ (e5 ++ e6))))))) from by simpa only [List.append_assoc] using hw)
  have HG7 := Lib.hid (HG6.out.trans hg)
  clear hw hg q0
  have q0 := HBX.out _ _ HG7.out 8 _ rfl
  have q1 := HBX.out _ _ HG7.out 9 _ rfl
  have q2 := HBX.out _ _ HG7.out 10 _ rfl
  have q3 := HBX.out _ _ HG7.out 11 _ rfl
  have q4 := HBX.out _ _ HG7.out 12 _ rfl
  go_wp2_with fail
  refine (put_Schema w7 wb v7 (l ++ (e0 ++ (e1 ++ (e2 ++ (e3 ++ (e4 ++ (e5 ++ e6))))))) [c8, c9, c10, c11, c12] _ HW7.out (rd_low (HG7.out.below HWW.out) (Nat.le_of_lt HWW.out.lt) HX7.out) (by rw [← HE7.out]; have := HL.out; (try simp only [List.length_append]); omega)).mono ?_
  rintro e w8 ⟨rfl, v8, hw, hg⟩
  rw [← HE7.out] at hw
  have HW8 := Lib.hid (show Wr w8 wb v8 (l ++ (e0 ++ (e1 ++ (e2 ++ (e3 ++ (e4 ++ (e5 ++ (e6 ++ e7)))))))) from by simpa only [List.append_assoc] using hw)
  have HG8 := Lib.hid (HG7.out.trans hg)
  clear hw hg q0 q1 q2 q3 q4
  have q0 := HBX.out _ _ HG8.out 13 _ rfl
  have q1 := HBX.out _ _ HG8.out 14 _ rfl
  have q2 := HBX.out _ _ HG8.out 15 _ rfl
  go_wp2_with fail
  refine (put_Column w8 wb v8 (l ++ (e0 ++ (e1 ++ (e2 ++ (e3 ++ (e4 ++ (e5 ++ (e6 ++ e7)))))))) [c13, c14, c15] _ HW8.out (rd_low (HG8.out.below HWW.out) (Nat.le_of_lt HWW.out.lt) HX8.out) (by rw [← HE8.out]; have := HL.out; (try simp only [List.length_append]); omega)).mono ?_
  rintro e w9 ⟨rfl, v9, hw, hg⟩
  rw [← HE8.out] at hw
  have HW9 := Lib.hid (show Wr w9 wb v9 (l ++ (e0 ++ (e1 ++ (e2 ++ (e3 ++ (e4 ++ (e5 ++ (e6 ++ (e7 ++ e8))))))))) from by simpa only [List.append_assoc] using hw)
  have HG9 := Lib.hid (HG8.out.trans hg)
  clear hw hg q0 q1 q2
  go_wp2
  (first | go_end0 | refine bodyPost_ret (results_none rfl _ _ _) rfl ?_)
  exact ⟨rfl, v9, HW9.out, (Gw.of_below HB0.out).trans HG9.out⟩

set_option maxRecDepth 100000 in
set_option maxHeartbeats 4000000 in
theorem list_Edit : ListC 47 48 tEdit := by
  intro w wb v0 l c x hw hx hl
  obtain ⟨a, n, cap, ec, hn, hcap, hcm, hel⟩ := hx
  obtain rfl : c = .slice a n cap := by simpa using ec
  have hnw : (Lit.int .i64 (n : Int)).wf = true := by unfold maxLen at hcm; simp [Lit.wf, IntKind.min, IntKind.max, IntKind.bits, IntKind.signed]; omega
  have HNW := Lib.hid hnw
  have HN := Lib.hid (show n = List.length x from hn)
  have HEL := Lib.hid hel
  have HW := Lib.hid hw
  have hle : l.length + (numB (List.length x) ++ List.flatMap (enc tEdit) x).length ≤ 140737488355328 := hl
  rw [List.length_append, ← HN.out] at hle
  have HL := Lib.hid hle
  have hn0 : 0 ≤ (n : Int) := by omega
  have hn1 : (n : Int) ≤ 9223372036854775807 := by unfold maxLen at hcm; omega
  clear hnw hn hel hw hle hl hcap hcm ec
  go_enter Tryz.func47, Tryz.ntmps47
  go_wp2_with fail
  refine (put_num w wb v0 l [.int .i64 (n : Int)] (n : Int) HW.out ⟨rfl, HNW.out⟩ (by have := HL.out; show _ + (numB (n : Int)).length ≤ _; omega)).mono ?_
  rintro e w1 ⟨rfl, v1, hw1, hg1⟩
  have HW1 := Lib.hid (show Wr w1 wb v1 (l ++ numB (n : Int)) from hw1)
  have HG1 := Lib.hid hg1
  clear hw1 hg1
  go_wp2
  go_loopg [14] n (fun gk t14 wr => ∃ (i : Nat) (v' : Value), i ≤ n ∧ gk + i = n ∧ t14 = .int .i64 (i : Int) ∧ Wr wr wb v' (l ++ (numB (n : Int) ++ List.flatMap (enc tEdit) (List.take i x))) ∧ Gw wb v0 v' w wr)
  case atStart => exact ⟨0, v1, by omega, by omega, rfl, by simpa using HW1.out, HG1.out⟩
  case round =>
    obtain ⟨i, v', hi, hgk, rfl, hwr, hg⟩ := hrel
    have HGK := Lib.hid hgk
    have HWR := Lib.hid hwr
    have HG := Lib.hid hg
    have hi0 : 0 ≤ (i : Int) := by omega
    clear hgk hwr hg
    by_cases hin : i < n
    · have hd1 : decide ((i : Int) < (n : Int)) = true := decide_eq_true (by omega)
      have hi1 : (i : Int) < (n : Int) := by omega
      obtain ⟨y, hy⟩ : ∃ y, x[i]? = some y := ⟨_, List.getElem?_eq_getElem (by have := HN.out; omega)⟩
      rcases HEL.out with h0 | ⟨b, off, rfl, hbF, hbl, hget⟩
      · omega
      obtain ⟨ys, hA, hr⟩ := hget i y hy
      obtain ⟨z0, z1, za2, zn2, zc2, z3, z4, za5, zn5, zc5, z6, za7, zn7, zc7, z8, za9, zn9, zc9, za10, zn10, zc10, za11, zn11, zc11, za12, zn12, zc12, z13, z14, z15, rfl⟩ := shape_Edit hr
      have q0 : wr.cell? ⟨b, off + i * 16, none⟩ = some (.int .i64 z0) := ((HG.out.below HW.out).cell (p := ⟨b, off + i * 16 + 0, none⟩) hbF).trans (hA 0 _ rfl)
      have q1 : wr.cell? ⟨b, off + i * 16 + 1, none⟩ = some (.string z1) := ((HG.out.below HW.out).cell (p := ⟨b, off + i * 16 + 1, none⟩) hbF).trans (hA 1 _ rfl)
      have q2 : wr.cell? ⟨b, off + i * 16 + 2, none⟩ = some (.slice za2 zn2 zc2) := ((HG.out.below HW.out).cell (p := ⟨b, off + i * 16 + 2, none⟩) hbF).trans (hA 2 _ rfl)
      have q3 : wr.cell? ⟨b, off + i * 16 + 3, none⟩ = some (.int .i64 z3) := ((HG.out.below HW.out).cell (p := ⟨b, off + i * 16 + 3, none⟩) hbF).trans (hA 3 _ rfl)
      have q4 : wr.cell? ⟨b, off + i * 16 + 4, none⟩ = some (.int .i64 z4) := ((HG.out.below HW.out).cell (p := ⟨b, off + i * 16 + 4, none⟩) hbF).trans (hA 4 _ rfl)
      have q5 : wr.cell? ⟨b, off + i * 16 + 5, none⟩ = some (.slice za5 zn5 zc5) := ((HG.out.below HW.out).cell (p := ⟨b, off + i * 16 + 5, none⟩) hbF).trans (hA 5 _ rfl)
      have q6 : wr.cell? ⟨b, off + i * 16 + 6, none⟩ = some (.int .i64 z6) := ((HG.out.below HW.out).cell (p := ⟨b, off + i * 16 + 6, none⟩) hbF).trans (hA 6 _ rfl)
      have q7 : wr.cell? ⟨b, off + i * 16 + 7, none⟩ = some (.slice za7 zn7 zc7) := ((HG.out.below HW.out).cell (p := ⟨b, off + i * 16 + 7, none⟩) hbF).trans (hA 7 _ rfl)
      have q8 : wr.cell? ⟨b, off + i * 16 + 8, none⟩ = some (.string z8) := ((HG.out.below HW.out).cell (p := ⟨b, off + i * 16 + 8, none⟩) hbF).trans (hA 8 _ rfl)
      have q9 : wr.cell? ⟨b, off + i * 16 + 9, none⟩ = some (.slice za9 zn9 zc9) := ((HG.out.below HW.out).cell (p := ⟨b, off + i * 16 + 9, none⟩) hbF).trans (hA 9 _ rfl)
      have q10 : wr.cell? ⟨b, off + i * 16 + 10, none⟩ = some (.slice za10 zn10 zc10) := ((HG.out.below HW.out).cell (p := ⟨b, off + i * 16 + 10, none⟩) hbF).trans (hA 10 _ rfl)
      have q11 : wr.cell? ⟨b, off + i * 16 + 11, none⟩ = some (.slice za11 zn11 zc11) := ((HG.out.below HW.out).cell (p := ⟨b, off + i * 16 + 11, none⟩) hbF).trans (hA 11 _ rfl)
      have q12 : wr.cell? ⟨b, off + i * 16 + 12, none⟩ = some (.slice za12 zn12 zc12) := ((HG.out.below HW.out).cell (p := ⟨b, off + i * 16 + 12, none⟩) hbF).trans (hA 12 _ rfl)
      have q13 : wr.cell? ⟨b, off + i * 16 + 13, none⟩ = some (.int .i64 z13) := ((HG.out.below HW.out).cell (p := ⟨b, off + i * 16 + 13, none⟩) hbF).trans (hA 13 _ rfl)
      have q14 : wr.cell? ⟨b, off + i * 16 + 14, none⟩ = some (.string z14) := ((HG.out.below HW.out).cell (p := ⟨b, off + i * 16 + 14, none⟩) hbF).trans (hA 14 _ rfl)
      have q15 : wr.cell? ⟨b, off + i * 16 + 15, none⟩ = some (.int .i64 z15) := ((HG.out.below HW.out).cell (p := ⟨b, off + i * 16 + 15, none⟩) hbF).trans (hA 15 _ rfl)
      have HR := Lib.hid (rd_low (HG.out.below HW.out) (Nat.le_of_lt HW.out.lt) hr)
      have HT := Lib.hid (show List.take (i + 1) x = List.take i x ++ [y] by rw [List.take_add_one, hy]; rfl)
      have HLE := Lib.hid (show (l ++ (numB (n : Int) ++ List.flatMap (enc tEdit) (List.take i x))).length + (enc tEdit y).length ≤ 140737488355328 from by
        have h1 := HL.out
        have h2 : List.flatMap (enc tEdit) x = List.flatMap (enc tEdit) (List.take i x) ++ (enc tEdit y ++ List.flatMap (enc tEdit) (List.drop (i + 1) x)) := by
          have : x = List.take i x ++ (y :: List.drop (i + 1) x) := by
            have h3 := List.take_append_drop (i + 1) x
            rw [HT.out] at h3
            simpa using h3.symm
          conv => lhs; rw [this]
          rw [List.flatMap_append, List.flatMap_cons]
        rw [h2] at h1
        simp only [List.length_append] at h1 ⊢; omega)
      clear hget hA hbF hy hr
      obtain ⟨W2, hW2⟩ : ∃ W2, W2 = wr.alloc (.cells #[.int .i64 z0, .string z1, .slice za2 zn2 zc2, .int .i64 z3, .int .i64 z4, .slice za5 zn5 zc5, .int .i64 z6, .slice za7 zn7 zc7, .string z8, .slice za9 zn9 zc9, .slice za10 zn10 zc10, .slice za11 zn11 zc11, .slice za12 zn12 zc12, .int .i64 z13, .string z14, .int .i64 z15] 113) := ⟨_, rfl⟩
      have HW2 := Lib.hid hW2
      have HB2 := Lib.hid (show Below wr.heap.size wr W2 by rw [hW2]; exact (Below.refl _ _).alloc (Nat.le_refl _) _)
      clear hW2
      go_wp2_with fail
      rw [← HW2.out]
      refine (put_Edit W2 wb v' _ [.int .i64 z0, .string z1, .slice za2 zn2 zc2, .int .i64 z3, .int .i64 z4, .slice za5 zn5 zc5, .int .i64 z6, .slice za7 zn7 zc7, .string z8, .slice za9 zn9 zc9, .slice za10 zn10 zc10, .slice za11 zn11 zc11, .slice za12 zn12 zc12, .int .i64 z13, .string z14, .int .i64 z15] y (HWR.out.keep HB2.out) (rd_low (HB2.out.mono (Nat.le_of_lt HWR.out.lt)) (Nat.le_of_lt HWR.out.lt) HR.out) HLE.out).mono ?_
      rintro e w4 ⟨rfl, v2, hw2, hg2⟩
      have HFIN := Lib.hid (show Wr w4 wb v2 (l ++ (numB (n : Int) ++ List.flatMap (enc tEdit) (List.take (i + 1) x))) from by rw [HT.out, List.flatMap_append]; simpa using hw2)
      have HGF := Lib.hid ((HG.out.trans (Gw.of_below HB2.out)).trans hg2)
      clear hw2 hg2 q0 q1 q2 q3 q4 q5 q6 q7 q8 q9 q10 q11 q12 q13 q14 q15
      go_wp2
      go_roundg (gk - 1)
      case rel => exact ⟨i + 1, v2, by omega, by have := HGK.out; omega, by go_num, HFIN.out, HGF.out⟩
      case measure => have := HGK.out; omega
    · obtain rfl : i = n := by omega
      have hd1 : decide ((i : Int) < (i : Int)) = false := by simp
      have HFIN := Lib.hid (show Wr wr wb v' (l ++ enc (.list tEdit) x) from by
        have := HWR.out
        rw [HN.out, List.take_length] at this
        exact this)
      clear hin
      go_wp2
      (first | go_end0 | refine bodyPost_ret (results_none rfl _ _ _) rfl ?_)
      exact ⟨rfl, v', HFIN.out, HG.out⟩

theorem shape_Request {w : World} {F : Nat → Prop} {cs : List Value} {x : Ty.T tRequest} (h : (Ty.rd tRequest).rd w F cs x) : ∃ (z0 : Int) (z1 : Int) (z2 : Int) (z3 : ByteArray), cs = [.int .i64 z0, .int .i64 z1, .int .i64 z2, .string z3] := by
  obtain ⟨u0, r0, rfl, ⟨rfl, _⟩, u1, r1, rfl, ⟨rfl, _⟩, u2, r2, rfl, ⟨rfl, _⟩, ⟨rfl, _⟩⟩ := h
  exact ⟨_, _, _, _, rfl⟩

set_option maxRecDepth 100000 in
set_option maxHeartbeats 4000000 in
theorem put_Request : PutC 49 tRequest := by
  intro w wb v0 l cs x hw hx hl
  obtain ⟨u0, r0, rfl, h0, u1, r1, rfl, h1, u2, r2, rfl, h2, h3⟩ := hx
  obtain ⟨c0, rfl⟩ : ∃ c0, u0 = [c0] := by match u0, (Ty.rd .num).len h0 with | [c0], _ => exact ⟨c0, rfl⟩
  obtain ⟨c1, rfl⟩ : ∃ c1, u1 = [c1] := by match u1, (Ty.rd .num).len h1 with | [c1], _ => exact ⟨c1, rfl⟩
  obtain ⟨c2, rfl⟩ : ∃ c2, u2 = [c2] := by match u2, (Ty.rd .num).len h2 with | [c2], _ => exact ⟨c2, rfl⟩
  obtain ⟨c3, rfl⟩ : ∃ c3, r2 = [c3] := by match r2, (Ty.rd .str).len h3 with | [c3], _ => exact ⟨c3, rfl⟩
  show Calls _ _ #[_, .agg #[c0, c1, c2, c3]] _ _
  obtain ⟨e0, he0⟩ : ∃ e, e = enc .num x.1 := ⟨_, rfl⟩
  obtain ⟨e1, he1⟩ : ∃ e, e = enc .num x.2.1 := ⟨_, rfl⟩
  obtain ⟨e2, he2⟩ : ∃ e, e = enc .num x.2.2.1 := ⟨_, rfl⟩
  obtain ⟨e3, he3⟩ : ∃ e, e = enc .str x.2.2.2 := ⟨_, rfl⟩
  have henc : enc tRequest x = (e0 ++ (e1 ++ (e2 ++ e3))) := by rw [he0, he1, he2, he3]; rfl
  rw [henc] at hl ⊢
  simp only [List.length_append] at hl
  have HL := Lib.hid hl
  have HW := Lib.hid hw
  have HE0 := Lib.hid he0
  have HE1 := Lib.hid he1
  have HE2 := Lib.hid he2
  have HE3 := Lib.hid he3
  obtain ⟨W0, hW0⟩ : ∃ W0, W0 = w.alloc (.cells #[c0, c1, c2, c3] 41) := ⟨_, rfl⟩
  have hb0 : Below w.heap.size w W0 := by rw [hW0]; exact (Below.refl _ _).alloc (Nat.le_refl _) _
  have HB0 := Lib.hid hb0
  have HWW := Lib.hid (hw.keep hb0)
  have HX0 := Lib.hid (rd_low (hb0.mono (Nat.le_of_lt hw.lt)) (Nat.le_of_lt hw.lt) h0)
  have HX1 := Lib.hid (rd_low (hb0.mono (Nat.le_of_lt hw.lt)) (Nat.le_of_lt hw.lt) h1)
  have HX2 := Lib.hid (rd_low (hb0.mono (Nat.le_of_lt hw.lt)) (Nat.le_of_lt hw.lt) h2)
  have HX3 := Lib.hid (rd_low (hb0.mono (Nat.le_of_lt hw.lt)) (Nat.le_of_lt hw.lt) h3)
  have HBX := Lib.hid (show ∀ w' v', Gw wb v0 v' W0 w' → ∀ (j : Nat) u, ([c0, c1, c2, c3] : List Value)[j]? = some u → w'.cell? ⟨w.heap.size, j, none⟩ = some u from fun w' v' hg j u hu => by
    refine (hg.box HWW.out w.heap.size hw.lt (fun e => Nat.lt_irrefl _ (hw.row.ge _ e).2) (by rw [hW0]; simp) j).trans ?_
    rw [hW0]
    have := new_cells w [c0, c1, c2, c3] 41 j u hu
    rw [Addr.add_mid, Nat.zero_add] at this; exact this)
  have HW0 := Lib.hid hW0
  clear hW0 hb0 hw hl henc he0 he1 he2 he3 h0 h1 h2 h3
  go_enter Tryz.func49, Tryz.ntmps49
  go_wp2_with fail
  rw [← HW0.out]
  refine (put_num W0 wb v0 l [c0] _ HWW.out HX0.out (by rw [← HE0.out]; have := HL.out; (try simp only [List.length_append]); omega)).mono ?_
  rintro e w1 ⟨rfl, v1, hw, hg⟩
  rw [← HE0.out] at hw
  have HW1 := Lib.hid (show Wr w1 wb v1 (l ++ e0) from by simpa only [List.append_assoc] using hw)
  have HG1 := Lib.hid (hg)
  clear hw hg
  have q0 := HBX.out _ _ HG1.out 1 _ rfl
  go_wp2_with fail
  refine (put_num w1 wb v1 (l ++ e0) [c1] _ HW1.out (rd_low (HG1.out.below HWW.out) (Nat.le_of_lt HWW.out.lt) HX1.out) (by rw [← HE1.out]; have := HL.out; (try simp only [List.length_append]); omega)).mono ?_
  rintro e w2 ⟨rfl, v2, hw, hg⟩
  rw [← HE1.out] at hw
  have HW2 := Lib.hid (show Wr w2 wb v2 (l ++ (e0 ++ e1)) from by simpa only [List.append_assoc] using hw)
  have HG2 := Lib.hid (HG1.out.trans hg)
  clear hw hg q0
  have q0 := HBX.out _ _ HG2.out 2 _ rfl
  go_wp2_with fail
  refine (put_num w2 wb v2 (l ++ (e0 ++ e1)) [c2] _ HW2.out (rd_low (HG2.out.below HWW.out) (Nat.le_of_lt HWW.out.lt) HX2.out) (by rw [← HE2.out]; have := HL.out; (try simp only [List.length_append]); omega)).mono ?_
  rintro e w3 ⟨rfl, v3, hw, hg⟩
  rw [← HE2.out] at hw
  have HW3 := Lib.hid (show Wr w3 wb v3 (l ++ (e0 ++ (e1 ++ e2))) from by simpa only [List.append_assoc] using hw)
  have HG3 := Lib.hid (HG2.out.trans hg)
  clear hw hg q0
  have q0 := HBX.out _ _ HG3.out 3 _ rfl
  go_wp2_with fail
  refine (put_str w3 wb v3 (l ++ (e0 ++ (e1 ++ e2))) [c3] _ HW3.out (rd_low (HG3.out.below HWW.out) (Nat.le_of_lt HWW.out.lt) HX3.out) (by rw [← HE3.out]; have := HL.out; (try simp only [List.length_append]); omega)).mono ?_
  rintro e w4 ⟨rfl, v4, hw, hg⟩
  rw [← HE3.out] at hw
  have HW4 := Lib.hid (show Wr w4 wb v4 (l ++ (e0 ++ (e1 ++ (e2 ++ e3)))) from by simpa only [List.append_assoc] using hw)
  have HG4 := Lib.hid (HG3.out.trans hg)
  clear hw hg q0
  go_wp2
  (first | go_end0 | refine bodyPost_ret (results_none rfl _ _ _) rfl ?_)
  exact ⟨rfl, v4, HW4.out, (Gw.of_below HB0.out).trans HG4.out⟩

theorem shape_Hold {w : World} {F : Nat → Prop} {cs : List Value} {x : Ty.T tHold} (h : (Ty.rd tHold).rd w F cs x) : ∃ (z0 : Int) (z1 : Int) (z2 : Int), cs = [.int .i64 z0, .int .i64 z1, .int .i64 z2] := by
  obtain ⟨u0, r0, rfl, ⟨rfl, _⟩, h1⟩ := h
  obtain ⟨_, _, rfl⟩ := shape_Period h1
  exact ⟨_, _, _, rfl⟩

set_option maxRecDepth 100000 in
set_option maxHeartbeats 4000000 in
theorem put_Hold : PutC 23 tHold := by
  intro w wb v0 l cs x hw hx hl
  obtain ⟨u0, r0, rfl, h0, h1⟩ := hx
  obtain ⟨c0, rfl⟩ : ∃ c0, u0 = [c0] := by match u0, (Ty.rd .num).len h0 with | [c0], _ => exact ⟨c0, rfl⟩
  obtain ⟨c1, c2, rfl⟩ : ∃ c1 c2, r0 = [c1, c2] := by match r0, (Ty.rd tPeriod).len h1 with | [c1, c2], _ => exact ⟨c1, c2, rfl⟩
  show Calls _ _ #[_, .agg #[c0, c1, c2]] _ _
  obtain ⟨e0, he0⟩ : ∃ e, e = enc .num x.1 := ⟨_, rfl⟩
  obtain ⟨e1, he1⟩ : ∃ e, e = enc tPeriod x.2 := ⟨_, rfl⟩
  have henc : enc tHold x = (e0 ++ e1) := by rw [he0, he1]; rfl
  rw [henc] at hl ⊢
  simp only [List.length_append] at hl
  have HL := Lib.hid hl
  have HW := Lib.hid hw
  have HE0 := Lib.hid he0
  have HE1 := Lib.hid he1
  obtain ⟨W0, hW0⟩ : ∃ W0, W0 = w.alloc (.cells #[c0, c1, c2] 45) := ⟨_, rfl⟩
  have hb0 : Below w.heap.size w W0 := by rw [hW0]; exact (Below.refl _ _).alloc (Nat.le_refl _) _
  have HB0 := Lib.hid hb0
  have HWW := Lib.hid (hw.keep hb0)
  have HX0 := Lib.hid (rd_low (hb0.mono (Nat.le_of_lt hw.lt)) (Nat.le_of_lt hw.lt) h0)
  have HX1 := Lib.hid (rd_low (hb0.mono (Nat.le_of_lt hw.lt)) (Nat.le_of_lt hw.lt) h1)
  have HBX := Lib.hid (show ∀ w' v', Gw wb v0 v' W0 w' → ∀ (j : Nat) u, ([c0, c1, c2] : List Value)[j]? = some u → w'.cell? ⟨w.heap.size, j, none⟩ = some u from fun w' v' hg j u hu => by
    refine (hg.box HWW.out w.heap.size hw.lt (fun e => Nat.lt_irrefl _ (hw.row.ge _ e).2) (by rw [hW0]; simp) j).trans ?_
    rw [hW0]
    have := new_cells w [c0, c1, c2] 45 j u hu
    rw [Addr.add_mid, Nat.zero_add] at this; exact this)
  have HW0 := Lib.hid hW0
  clear hW0 hb0 hw hl henc he0 he1 h0 h1
  go_enter Tryz.func23, Tryz.ntmps23
  go_wp2_with fail
  rw [← HW0.out]
  refine (put_num W0 wb v0 l [c0] _ HWW.out HX0.out (by rw [← HE0.out]; have := HL.out; (try simp only [List.length_append]); omega)).mono ?_
  rintro e w1 ⟨rfl, v1, hw, hg⟩
  rw [← HE0.out] at hw
  have HW1 := Lib.hid (show Wr w1 wb v1 (l ++ e0) from by simpa only [List.append_assoc] using hw)
  have HG1 := Lib.hid (hg)
  clear hw hg
  have q0 := HBX.out _ _ HG1.out 1 _ rfl
  have q1 := HBX.out _ _ HG1.out 2 _ rfl
  go_wp2_with fail
  refine (put_Period w1 wb v1 (l ++ e0) [c1, c2] _ HW1.out (rd_low (HG1.out.below HWW.out) (Nat.le_of_lt HWW.out.lt) HX1.out) (by rw [← HE1.out]; have := HL.out; (try simp only [List.length_append]); omega)).mono ?_
  rintro e w2 ⟨rfl, v2, hw, hg⟩
  rw [← HE1.out] at hw
  have HW2 := Lib.hid (show Wr w2 wb v2 (l ++ (e0 ++ e1)) from by simpa only [List.append_assoc] using hw)
  have HG2 := Lib.hid (HG1.out.trans hg)
  clear hw hg q0 q1
  go_wp2
  (first | go_end0 | refine bodyPost_ret (results_none rfl _ _ _) rfl ?_)
  exact ⟨rfl, v2, HW2.out, (Gw.of_below HB0.out).trans HG2.out⟩

set_option maxRecDepth 100000 in
set_option maxHeartbeats 4000000 in
theorem list_Hold : ListC 22 23 tHold := by
  intro w wb v0 l c x hw hx hl
  obtain ⟨a, n, cap, ec, hn, hcap, hcm, hel⟩ := hx
  obtain rfl : c = .slice a n cap := by simpa using ec
  have hnw : (Lit.int .i64 (n : Int)).wf = true := by unfold maxLen at hcm; simp [Lit.wf, IntKind.min, IntKind.max, IntKind.bits, IntKind.signed]; omega
  have HNW := Lib.hid hnw
  have HN := Lib.hid (show n = List.length x from hn)
  have HEL := Lib.hid hel
  have HW := Lib.hid hw
  have hle : l.length + (numB (List.length x) ++ List.flatMap (enc tHold) x).length ≤ 140737488355328 := hl
  rw [List.length_append, ← HN.out] at hle
  have HL := Lib.hid hle
  have hn0 : 0 ≤ (n : Int) := by omega
  have hn1 : (n : Int) ≤ 9223372036854775807 := by unfold maxLen at hcm; omega
  clear hnw hn hel hw hle hl hcap hcm ec
  go_enter Tryz.func22, Tryz.ntmps22
  go_wp2_with fail
  refine (put_num w wb v0 l [.int .i64 (n : Int)] (n : Int) HW.out ⟨rfl, HNW.out⟩ (by have := HL.out; show _ + (numB (n : Int)).length ≤ _; omega)).mono ?_
  rintro e w1 ⟨rfl, v1, hw1, hg1⟩
  have HW1 := Lib.hid (show Wr w1 wb v1 (l ++ numB (n : Int)) from hw1)
  have HG1 := Lib.hid hg1
  clear hw1 hg1
  go_wp2
  go_loopg [14] n (fun gk t14 wr => ∃ (i : Nat) (v' : Value), i ≤ n ∧ gk + i = n ∧ t14 = .int .i64 (i : Int) ∧ Wr wr wb v' (l ++ (numB (n : Int) ++ List.flatMap (enc tHold) (List.take i x))) ∧ Gw wb v0 v' w wr)
  case atStart => exact ⟨0, v1, by omega, by omega, rfl, by simpa using HW1.out, HG1.out⟩
  case round =>
    obtain ⟨i, v', hi, hgk, rfl, hwr, hg⟩ := hrel
    have HGK := Lib.hid hgk
    have HWR := Lib.hid hwr
    have HG := Lib.hid hg
    have hi0 : 0 ≤ (i : Int) := by omega
    clear hgk hwr hg
    by_cases hin : i < n
    · have hd1 : decide ((i : Int) < (n : Int)) = true := decide_eq_true (by omega)
      have hi1 : (i : Int) < (n : Int) := by omega
      obtain ⟨y, hy⟩ : ∃ y, x[i]? = some y := ⟨_, List.getElem?_eq_getElem (by have := HN.out; omega)⟩
      rcases HEL.out with h0 | ⟨b, off, rfl, hbF, hbl, hget⟩
      · omega
      obtain ⟨ys, hA, hr⟩ := hget i y hy
      obtain ⟨z0, z1, z2, rfl⟩ := shape_Hold hr
      have q0 : wr.cell? ⟨b, off + i * 3, none⟩ = some (.int .i64 z0) := ((HG.out.below HW.out).cell (p := ⟨b, off + i * 3 + 0, none⟩) hbF).trans (hA 0 _ rfl)
      have q1 : wr.cell? ⟨b, off + i * 3 + 1, none⟩ = some (.int .i64 z1) := ((HG.out.below HW.out).cell (p := ⟨b, off + i * 3 + 1, none⟩) hbF).trans (hA 1 _ rfl)
      have q2 : wr.cell? ⟨b, off + i * 3 + 2, none⟩ = some (.int .i64 z2) := ((HG.out.below HW.out).cell (p := ⟨b, off + i * 3 + 2, none⟩) hbF).trans (hA 2 _ rfl)
      have HR := Lib.hid (rd_low (HG.out.below HW.out) (Nat.le_of_lt HW.out.lt) hr)
      have HT := Lib.hid (show List.take (i + 1) x = List.take i x ++ [y] by rw [List.take_add_one, hy]; rfl)
      have HLE := Lib.hid (show (l ++ (numB (n : Int) ++ List.flatMap (enc tHold) (List.take i x))).length + (enc tHold y).length ≤ 140737488355328 from by
        have h1 := HL.out
        have h2 : List.flatMap (enc tHold) x = List.flatMap (enc tHold) (List.take i x) ++ (enc tHold y ++ List.flatMap (enc tHold) (List.drop (i + 1) x)) := by
          have : x = List.take i x ++ (y :: List.drop (i + 1) x) := by
            have h3 := List.take_append_drop (i + 1) x
            rw [HT.out] at h3
            simpa using h3.symm
          conv => lhs; rw [this]
          rw [List.flatMap_append, List.flatMap_cons]
        rw [h2] at h1
        simp only [List.length_append] at h1 ⊢; omega)
      clear hget hA hbF hy hr
      obtain ⟨W2, hW2⟩ : ∃ W2, W2 = wr.alloc (.cells #[.int .i64 z0, .int .i64 z1, .int .i64 z2] 45) := ⟨_, rfl⟩
      have HW2 := Lib.hid hW2
      have HB2 := Lib.hid (show Below wr.heap.size wr W2 by rw [hW2]; exact (Below.refl _ _).alloc (Nat.le_refl _) _)
      clear hW2
      go_wp2_with fail
      rw [← HW2.out]
      refine (put_Hold W2 wb v' _ [.int .i64 z0, .int .i64 z1, .int .i64 z2] y (HWR.out.keep HB2.out) (rd_low (HB2.out.mono (Nat.le_of_lt HWR.out.lt)) (Nat.le_of_lt HWR.out.lt) HR.out) HLE.out).mono ?_
      rintro e w4 ⟨rfl, v2, hw2, hg2⟩
      have HFIN := Lib.hid (show Wr w4 wb v2 (l ++ (numB (n : Int) ++ List.flatMap (enc tHold) (List.take (i + 1) x))) from by rw [HT.out, List.flatMap_append]; simpa using hw2)
      have HGF := Lib.hid ((HG.out.trans (Gw.of_below HB2.out)).trans hg2)
      clear hw2 hg2 q0 q1 q2
      go_wp2
      go_roundg (gk - 1)
      case rel => exact ⟨i + 1, v2, by omega, by have := HGK.out; omega, by go_num, HFIN.out, HGF.out⟩
      case measure => have := HGK.out; omega
    · obtain rfl : i = n := by omega
      have hd1 : decide ((i : Int) < (i : Int)) = false := by simp
      have HFIN := Lib.hid (show Wr wr wb v' (l ++ enc (.list tHold) x) from by
        have := HWR.out
        rw [HN.out, List.take_length] at this
        exact this)
      clear hin
      go_wp2
      (first | go_end0 | refine bodyPost_ret (results_none rfl _ _ _) rfl ?_)
      exact ⟨rfl, v', HFIN.out, HG.out⟩
end Go.Proofs.YtfppjpmflpaffaaGreat
