/-
  The program's encoder: tables, citations. Printed by gen_ce.py.
-/
import Derived.Test.YtfppjpmflpaffaaGreatCeF
namespace Go.Proofs.YtfppjpmflpaffaaGreat
open Go.RowKit
set_option linter.unusedVariables false
set_option linter.unusedSimpArgs false

theorem shape_Version {w : World} {F : Nat → Prop} {cs : List Value} {x : Ty.T tVersion} (h : (Ty.rd tVersion).rd w F cs x) : ∃ (z0 : Int) (za1 : Option Addr) (zn1 zc1 : Nat) (z2 : Int) (z3 : Int) (z4 : Int) (z5 : Int), cs = [.int .i64 z0, .slice za1 zn1 zc1, .int .i64 z2, .int .i64 z3, .int .i64 z4, .int .i64 z5] := by
  obtain ⟨u0, r0, rfl, ⟨rfl, _⟩, u1, r1, rfl, ⟨_, _, _, rfl, _⟩, u2, r2, rfl, h2, h3⟩ := h
  obtain ⟨_, _, rfl⟩ := shape_Period h2
  obtain ⟨_, _, rfl⟩ := shape_Period h3
  exact ⟨_, _, _, _, _, _, _, _, rfl⟩

set_option maxRecDepth 100000 in
set_option maxHeartbeats 4000000 in
theorem put_Version : PutC 58 tVersion := by
  intro w wb v0 l cs x hw hx hl
  obtain ⟨u0, r0, rfl, h0, u1, r1, rfl, h1, u2, r2, rfl, h2, h3⟩ := hx
  obtain ⟨c0, rfl⟩ : ∃ c0, u0 = [c0] := by match u0, (Ty.rd .num).len h0 with | [c0], _ => exact ⟨c0, rfl⟩
  obtain ⟨c1, rfl⟩ : ∃ c1, u1 = [c1] := by match u1, (Ty.rd (.list tValue)).len h1 with | [c1], _ => exact ⟨c1, rfl⟩
  obtain ⟨c2, c3, rfl⟩ : ∃ c2 c3, u2 = [c2, c3] := by match u2, (Ty.rd tPeriod).len h2 with | [c2, c3], _ => exact ⟨c2, c3, rfl⟩
  obtain ⟨c4, c5, rfl⟩ : ∃ c4 c5, r2 = [c4, c5] := by match r2, (Ty.rd tPeriod).len h3 with | [c4, c5], _ => exact ⟨c4, c5, rfl⟩
  show Calls _ _ #[_, .agg #[c0, c1, c2, c3, c4, c5]] _ _
  obtain ⟨e0, he0⟩ : ∃ e, e = enc .num x.1 := ⟨_, rfl⟩
  obtain ⟨e1, he1⟩ : ∃ e, e = enc (.list tValue) x.2.1 := ⟨_, rfl⟩
  obtain ⟨e2, he2⟩ : ∃ e, e = enc tPeriod x.2.2.1 := ⟨_, rfl⟩
  obtain ⟨e3, he3⟩ : ∃ e, e = enc tPeriod x.2.2.2 := ⟨_, rfl⟩
  have henc : enc tVersion x = (e0 ++ (e1 ++ (e2 ++ e3))) := by rw [he0, he1, he2, he3]; rfl
  rw [henc] at hl ⊢
  simp only [List.length_append] at hl
  have HL := Lib.hid hl
  have HW := Lib.hid hw
  have HE0 := Lib.hid he0
  have HE1 := Lib.hid he1
  have HE2 := Lib.hid he2
  have HE3 := Lib.hid he3
  obtain ⟨W0, hW0⟩ : ∃ W0, W0 = w.alloc (.cells #[c0, c1, c2, c3, c4, c5] 99) := ⟨_, rfl⟩
  have hb0 : Below w.heap.size w W0 := by rw [hW0]; exact (Below.refl _ _).alloc (Nat.le_refl _) _
  have HB0 := Lib.hid hb0
  have HWW := Lib.hid (hw.keep hb0)
  have HX0 := Lib.hid (rd_low (hb0.mono (Nat.le_of_lt hw.lt)) (Nat.le_of_lt hw.lt) h0)
  have HX1 := Lib.hid (rd_low (hb0.mono (Nat.le_of_lt hw.lt)) (Nat.le_of_lt hw.lt) h1)
  have HX2 := Lib.hid (rd_low (hb0.mono (Nat.le_of_lt hw.lt)) (Nat.le_of_lt hw.lt) h2)
  have HX3 := Lib.hid (rd_low (hb0.mono (Nat.le_of_lt hw.lt)) (Nat.le_of_lt hw.lt) h3)
  have HBX := Lib.hid (show ∀ w' v', Gw wb v0 v' W0 w' → ∀ (j : Nat) u, ([c0, c1, c2, c3, c4, c5] : List Value)[j]? = some u → w'.cell? ⟨w.heap.size, j, none⟩ = some u from fun w' v' hg j u hu => by
    refine (hg.box HWW.out w.heap.size hw.lt (fun e => Nat.lt_irrefl _ (hw.row.ge _ e).2) (by rw [hW0]; simp) j).trans ?_
    rw [hW0]
    have := new_cells w [c0, c1, c2, c3, c4, c5] 99 j u hu
    rw [Addr.add_mid, Nat.zero_add] at this; exact this)
  have HW0 := Lib.hid hW0
  clear hW0 hb0 hw hl henc he0 he1 he2 he3 h0 h1 h2 h3
  go_enter Tryz.func58, Tryz.ntmps58
  go_wp2_with fail
  rw [← HW0.out]
  refine (put_num W0 wb v0 l [c0] _ HWW.out HX0.out (by rw [← HE0.out]; have := HL.out; (try simp only [List.length_append]); omega)).mono ?_
  rintro e w1 ⟨rfl, v1, hw, hg⟩
  rw [← HE0.out] at hw
  have HW1 := Lib.hid (show Wr w1 wb v1 (l ++ e0) from by simpa only [List.append_assoc] using hw)
  have HG1 := Lib.hid (hg)
  clear hw hg
  have q0 := HBX.out _ _ HG1.out 1 _ rfl
  go_wp2_with fail
  refine (list_Value w1 wb v1 (l ++ e0) c1 _ HW1.out (rd_low (HG1.out.below HWW.out) (Nat.le_of_lt HWW.out.lt) HX1.out) (by rw [← HE1.out]; have := HL.out; (try simp only [List.length_append]); omega)).mono ?_
  rintro e w2 ⟨rfl, v2, hw, hg⟩
  rw [← HE1.out] at hw
  have HW2 := Lib.hid (show Wr w2 wb v2 (l ++ (e0 ++ e1)) from by simpa only [List.append_assoc] using hw)
  have HG2 := Lib.hid (HG1.out.trans hg)
  clear hw hg q0
  have q0 := HBX.out _ _ HG2.out 2 _ rfl
  have q1 := HBX.out _ _ HG2.out 3 _ rfl
  go_wp2_with fail
  refine (put_Period w2 wb v2 (l ++ (e0 ++ e1)) [c2, c3] _ HW2.out (rd_low (HG2.out.below HWW.out) (Nat.le_of_lt HWW.out.lt) HX2.out) (by rw [← HE2.out]; have := HL.out; (try simp only [List.length_append]); omega)).mono ?_
  rintro e w3 ⟨rfl, v3, hw, hg⟩
  rw [← HE2.out] at hw
  have HW3 := Lib.hid (show Wr w3 wb v3 (l ++ (e0 ++ (e1 ++ e2))) from by simpa only [List.append_assoc] using hw)
  have HG3 := Lib.hid (HG2.out.trans hg)
  clear hw hg q0 q1
  have q0 := HBX.out _ _ HG3.out 4 _ rfl
  have q1 := HBX.out _ _ HG3.out 5 _ rfl
  go_wp2_with fail
  refine (put_Period w3 wb v3 (l ++ (e0 ++ (e1 ++ e2))) [c4, c5] _ HW3.out (rd_low (HG3.out.below HWW.out) (Nat.le_of_lt HWW.out.lt) HX3.out) (by rw [← HE3.out]; have := HL.out; (try simp only [List.length_append]); omega)).mono ?_
  rintro e w4 ⟨rfl, v4, hw, hg⟩
  rw [← HE3.out] at hw
  have HW4 := Lib.hid (show Wr w4 wb v4 (l ++ (e0 ++ (e1 ++ (e2 ++ e3)))) from by simpa only [List.append_assoc] using hw)
  have HG4 := Lib.hid (HG3.out.trans hg)
  clear hw hg q0 q1
  go_wp2
  (first | go_end0 | refine bodyPost_ret (results_none rfl _ _ _) rfl ?_)
  exact ⟨rfl, v4, HW4.out, (Gw.of_below HB0.out).trans HG4.out⟩

set_option maxRecDepth 100000 in
set_option maxHeartbeats 4000000 in
theorem list_Version : ListC 57 58 tVersion := by
  intro w wb v0 l c x hw hx hl
  obtain ⟨a, n, cap, ec, hn, hcap, hcm, hel⟩ := hx
  obtain rfl : c = .slice a n cap := by simpa using ec
  have hnw : (Lit.int .i64 (n : Int)).wf = true := by unfold maxLen at hcm; simp [Lit.wf, IntKind.min, IntKind.max, IntKind.bits, IntKind.signed]; omega
  have HNW := Lib.hid hnw
  have HN := Lib.hid (show n = List.length x from hn)
  have HEL := Lib.hid hel
  have HW := Lib.hid hw
  have hle : l.length + (numB (List.length x) ++ List.flatMap (enc tVersion) x).length ≤ 140737488355328 := hl
  rw [List.length_append, ← HN.out] at hle
  have HL := Lib.hid hle
  have hn0 : 0 ≤ (n : Int) := by omega
  have hn1 : (n : Int) ≤ 9223372036854775807 := by unfold maxLen at hcm; omega
  clear hnw hn hel hw hle hl hcap hcm ec
  go_enter Tryz.func57, Tryz.ntmps57
  go_wp2_with fail
  refine (put_num w wb v0 l [.int .i64 (n : Int)] (n : Int) HW.out ⟨rfl, HNW.out⟩ (by have := HL.out; show _ + (numB (n : Int)).length ≤ _; omega)).mono ?_
  rintro e w1 ⟨rfl, v1, hw1, hg1⟩
  have HW1 := Lib.hid (show Wr w1 wb v1 (l ++ numB (n : Int)) from hw1)
  have HG1 := Lib.hid hg1
  clear hw1 hg1
  go_wp2
  go_loopg [14] n (fun gk t14 wr => ∃ (i : Nat) (v' : Value), i ≤ n ∧ gk + i = n ∧ t14 = .int .i64 (i : Int) ∧ Wr wr wb v' (l ++ (numB (n : Int) ++ List.flatMap (enc tVersion) (List.take i x))) ∧ Gw wb v0 v' w wr)
  case atStart => exact ⟨0, v1, by omega, by omega, rfl, by simpa using HW1.out, HG1.out⟩
  case round =>
    obtain ⟨i, v', hi, hgk, rfl, hwr, hg⟩ := hrel
    have HGK := Lib.hid hgk
    have HWR := Lib.hid hwr
    have HG := Lib.hid hg
    have hi0 : 0 ≤ (i : Int) := by omega
    clear hgk hwr hg
    by_cases hin : i < n
    · have hd1 : decide ((i : Int) < (n : Int)) = true := decide_eq_true (by omega)
      have hi1 : (i : Int) < (n : Int) := by omega
      obtain ⟨y, hy⟩ : ∃ y, x[i]? = some y := ⟨_, List.getElem?_eq_getElem (by have := HN.out; omega)⟩
      rcases HEL.out with h0 | ⟨b, off, rfl, hbF, hbl, hget⟩
      · omega
      obtain ⟨ys, hA, hr⟩ := hget i y hy
      obtain ⟨z0, za1, zn1, zc1, z2, z3, z4, z5, rfl⟩ := shape_Version hr
      have q0 : wr.cell? ⟨b, off + i * 6, none⟩ = some (.int .i64 z0) := ((HG.out.below HW.out).cell (p := ⟨b, off + i * 6 + 0, none⟩) hbF).trans (hA 0 _ rfl)
      have q1 : wr.cell? ⟨b, off + i * 6 + 1, none⟩ = some (.slice za1 zn1 zc1) := ((HG.out.below HW.out).cell (p := ⟨b, off + i * 6 + 1, none⟩) hbF).trans (hA 1 _ rfl)
      have q2 : wr.cell? ⟨b, off + i * 6 + 2, none⟩ = some (.int .i64 z2) := ((HG.out.below HW.out).cell (p := ⟨b, off + i * 6 + 2, none⟩) hbF).trans (hA 2 _ rfl)
      have q3 : wr.cell? ⟨b, off + i * 6 + 3, none⟩ = some (.int .i64 z3) := ((HG.out.below HW.out).cell (p := ⟨b, off + i * 6 + 3, none⟩) hbF).trans (hA 3 _ rfl)
      have q4 : wr.cell? ⟨b, off + i * 6 + 4, none⟩ = some (.int .i64 z4) := ((HG.out.below HW.out).cell (p := ⟨b, off + i * 6 + 4, none⟩) hbF).trans (hA 4 _ rfl)
      have q5 : wr.cell? ⟨b, off + i * 6 + 5, none⟩ = some (.int .i64 z5) := ((HG.out.below HW.out).cell (p := ⟨b, off + i * 6 + 5, none⟩) hbF).trans (hA 5 _ rfl)
      have HR := Lib.hid (rd_low (HG.out.below HW.out) (Nat.le_of_lt HW.out.lt) hr)
      have HT := Lib.hid (show List.take (i + 1) x = List.take i x ++ [y] by rw [List.take_add_one, hy]; rfl)
      have HLE := Lib.hid (show (l ++ (numB (n : Int) ++ List.flatMap (enc tVersion) (List.take i x))).length + (enc tVersion y).length ≤ 140737488355328 from by
        have h1 := HL.out
        have h2 : List.flatMap (enc tVersion) x = List.flatMap (enc tVersion) (List.take i x) ++ (enc tVersion y ++ List.flatMap (enc tVersion) (List.drop (i + 1) x)) := by
          have : x = List.take i x ++ (y :: List.drop (i + 1) x) := by
            have h3 := List.take_append_drop (i + 1) x
            rw [HT.out] at h3
            simpa using h3.symm
          conv => lhs; rw [this]
          rw [List.flatMap_append, List.flatMap_cons]
        rw [h2] at h1
        simp only [List.length_append] at h1 ⊢; omega)
      clear hget hA hbF hy hr
      obtain ⟨W2, hW2⟩ : ∃ W2, W2 = wr.alloc (.cells #[.int .i64 z0, .slice za1 zn1 zc1, .int .i64 z2, .int .i64 z3, .int .i64 z4, .int .i64 z5] 99) := ⟨_, rfl⟩
      have HW2 := Lib.hid hW2
      have HB2 := Lib.hid (show Below wr.heap.size wr W2 by rw [hW2]; exact (Below.refl _ _).alloc (Nat.le_refl _) _)
      clear hW2
      go_wp2_with fail
      rw [← HW2.out]
      refine (put_Version W2 wb v' _ [.int .i64 z0, .slice za1 zn1 zc1, .int .i64 z2, .int .i64 z3, .int .i64 z4, .int .i64 z5] y (HWR.out.keep HB2.out) (rd_low (HB2.out.mono (Nat.le_of_lt HWR.out.lt)) (Nat.le_of_lt HWR.out.lt) HR.out) HLE.out).mono ?_
      rintro e w4 ⟨rfl, v2, hw2, hg2⟩
      have HFIN := Lib.hid (show Wr w4 wb v2 (l ++ (numB (n : Int) ++ List.flatMap (enc tVersion) (List.take (i + 1) x))) from by rw [HT.out, List.flatMap_append]; simpa using hw2)
      have HGF := Lib.hid ((HG.out.trans (Gw.of_below HB2.out)).trans hg2)
      clear hw2 hg2 q0 q1 q2 q3 q4 q5
      go_wp2
      go_roundg (gk - 1)
      case rel => exact ⟨i + 1, v2, by omega, by have := HGK.out; omega, by go_num, HFIN.out, HGF.out⟩
      case measure => have := HGK.out; omega
    · obtain rfl : i = n := by omega
      have hd1 : decide ((i : Int) < (i : Int)) = false := by simp
      have HFIN := Lib.hid (show Wr wr wb v' (l ++ enc (.list tVersion) x) from by
        have := HWR.out
        rw [HN.out, List.take_length] at this
        exact this)
      clear hin
      go_wp2
      (first | go_end0 | refine bodyPost_ret (results_none rfl _ _ _) rfl ?_)
      exact ⟨rfl, v', HFIN.out, HG.out⟩

theorem shape_Row {w : World} {F : Nat → Prop} {cs : List Value} {x : Ty.T tRow} (h : (Ty.rd tRow).rd w F cs x) : ∃ (za0 : Option Addr) (zn0 zc0 : Nat) (za1 : Option Addr) (zn1 zc1 : Nat), cs = [.slice za0 zn0 zc0, .slice za1 zn1 zc1] := by
  obtain ⟨u0, r0, rfl, ⟨_, _, _, rfl, _⟩, ⟨_, _, _, rfl, _⟩⟩ := h
  exact ⟨_, _, _, _, _, _, rfl⟩

set_option maxRecDepth 100000 in
set_option maxHeartbeats 4000000 in
theorem put_Row : PutC 61 tRow := by
  intro w wb v0 l cs x hw hx hl
  obtain ⟨u0, r0, rfl, h0, h1⟩ := hx
  obtain ⟨c0, rfl⟩ : ∃ c0, u0 = [c0] := by match u0, (Ty.rd (.list tValue)).len h0 with | [c0], _ => exact ⟨c0, rfl⟩
  obtain ⟨c1, rfl⟩ : ∃ c1, r0 = [c1] := by match r0, (Ty.rd (.list .num)).len h1 with | [c1], _ => exact ⟨c1, rfl⟩
  show Calls _ _ #[_, .agg #[c0, c1]] _ _
  obtain ⟨e0, he0⟩ : ∃ e, e = enc (.list tValue) x.1 := ⟨_, rfl⟩
  obtain ⟨e1, he1⟩ : ∃ e, e = enc (.list .num) x.2 := ⟨_, rfl⟩
  have henc : enc tRow x = (e0 ++ e1) := by rw [he0, he1]; rfl
  rw [henc] at hl ⊢
  simp only [List.length_append] at hl
  have HL := Lib.hid hl
  have HW := Lib.hid hw
  have HE0 := Lib.hid he0
  have HE1 := Lib.hid he1
  obtain ⟨W0, hW0⟩ : ∃ W0, W0 = w.alloc (.cells #[c0, c1] 106) := ⟨_, rfl⟩
  have hb0 : Below w.heap.size w W0 := by rw [hW0]; exact (Below.refl _ _).alloc (Nat.le_refl _) _
  have HB0 := Lib.hid hb0
  have HWW := Lib.hid (hw.keep hb0)
  have HX0 := Lib.hid (rd_low (hb0.mono (Nat.le_of_lt hw.lt)) (Nat.le_of_lt hw.lt) h0)
  have HX1 := Lib.hid (rd_low (hb0.mono (Nat.le_of_lt hw.lt)) (Nat.le_of_lt hw.lt) h1)
  have HBX := Lib.hid (show ∀ w' v', Gw wb v0 v' W0 w' → ∀ (j : Nat) u, ([c0, c1] : List Value)[j]? = some u → w'.cell? ⟨w.heap.size, j, none⟩ = some u from fun w' v' hg j u hu => by
    refine (hg.box HWW.out w.heap.size hw.lt (fun e => Nat.lt_irrefl _ (hw.row.ge _ e).2) (by rw [hW0]; simp) j).trans ?_
    rw [hW0]
    have := new_cells w [c0, c1] 106 j u hu
    rw [Addr.add_mid, Nat.zero_add] at this; exact this)
  have HW0 := Lib.hid hW0
  clear hW0 hb0 hw hl henc he0 he1 h0 h1
  go_enter Tryz.func61, Tryz.ntmps61
  go_wp2_with fail
  rw [← HW0.out]
  refine (list_Value W0 wb v0 l c0 _ HWW.out HX0.out (by rw [← HE0.out]; have := HL.out; (try simp only [List.length_append]); omega)).mono ?_
  rintro e w1 ⟨rfl, v1, hw, hg⟩
  rw [← HE0.out] at hw
  have HW1 := Lib.hid (show Wr w1 wb v1 (l ++ e0) from by simpa only [List.append_assoc] using hw)
  have HG1 := Lib.hid (hg)
  clear hw hg
  have q0 := HBX.out _ _ HG1.out 1 _ rfl
  go_wp2_with fail
  refine (put_ints w1 wb v1 (l ++ e0) [c1] _ HW1.out (rd_low (HG1.out.below HWW.out) (Nat.le_of_lt HWW.out.lt) HX1.out) (by rw [← HE1.out]; have := HL.out; (try simp only [List.length_append]); omega)).mono ?_
  rintro e w2 ⟨rfl, v2, hw, hg⟩
  rw [← HE1.out] at hw
  have HW2 := Lib.hid (show Wr w2 wb v2 (l ++ (e0 ++ e1)) from by simpa only [List.append_assoc] using hw)
  have HG2 := Lib.hid (HG1.out.trans hg)
  clear hw hg q0
  go_wp2
  (first | go_end0 | refine bodyPost_ret (results_none rfl _ _ _) rfl ?_)
  exact ⟨rfl, v2, HW2.out, (Gw.of_below HB0.out).trans HG2.out⟩

set_option maxRecDepth 100000 in
set_option maxHeartbeats 4000000 in
theorem list_Row : ListC 60 61 tRow := by
  intro w wb v0 l c x hw hx hl
  obtain ⟨a, n, cap, ec, hn, hcap, hcm, hel⟩ := hx
  obtain rfl : c = .slice a n cap := by simpa using ec
  have hnw : (Lit.int .i64 (n : Int)).wf = true := by unfold maxLen at hcm; simp [Lit.wf, IntKind.min, IntKind.max, IntKind.bits, IntKind.signed]; omega
  have HNW := Lib.hid hnw
  have HN := Lib.hid (show n = List.length x from hn)
  have HEL := Lib.hid hel
  have HW := Lib.hid hw
  have hle : l.length + (numB (List.length x) ++ List.flatMap (enc tRow) x).length ≤ 140737488355328 := hl
  rw [List.length_append, ← HN.out] at hle
  have HL := Lib.hid hle
  have hn0 : 0 ≤ (n : Int) := by omega
  have hn1 : (n : Int) ≤ 9223372036854775807 := by unfold maxLen at hcm; omega
  clear hnw hn hel hw hle hl hcap hcm ec
  go_enter Tryz.func60, Tryz.ntmps60
  go_wp2_with fail
  refine (put_num w wb v0 l [.int .i64 (n : Int)] (n : Int) HW.out ⟨rfl, HNW.out⟩ (by have := HL.out; show _ + (numB (n : Int)).length ≤ _; omega)).mono ?_
  rintro e w1 ⟨rfl, v1, hw1, hg1⟩
  have HW1 := Lib.hid (show Wr w1 wb v1 (l ++ numB (n : Int)) from hw1)
  have HG1 := Lib.hid hg1
  clear hw1 hg1
  go_wp2
  go_loopg [14] n (fun gk t14 wr => ∃ (i : Nat) (v' : Value), i ≤ n ∧ gk + i = n ∧ t14 = .int .i64 (i : Int) ∧ Wr wr wb v' (l ++ (numB (n : Int) ++ List.flatMap (enc tRow) (List.take i x))) ∧ Gw wb v0 v' w wr)
  case atStart => exact ⟨0, v1, by omega, by omega, rfl, by simpa using HW1.out, HG1.out⟩
  case round =>
    obtain ⟨i, v', hi, hgk, rfl, hwr, hg⟩ := hrel
    have HGK := Lib.hid hgk
    have HWR := Lib.hid hwr
    have HG := Lib.hid hg
    have hi0 : 0 ≤ (i : Int) := by omega
    clear hgk hwr hg
    by_cases hin : i < n
    · have hd1 : decide ((i : Int) < (n : Int)) = true := decide_eq_true (by omega)
      have hi1 : (i : Int) < (n : Int) := by omega
      obtain ⟨y, hy⟩ : ∃ y, x[i]? = some y := ⟨_, List.getElem?_eq_getElem (by have := HN.out; omega)⟩
      rcases HEL.out with h0 | ⟨b, off, rfl, hbF, hbl, hget⟩
      · omega
      obtain ⟨ys, hA, hr⟩ := hget i y hy
      obtain ⟨za0, zn0, zc0, za1, zn1, zc1, rfl⟩ := shape_Row hr
      have q0 : wr.cell? ⟨b, off + i * 2, none⟩ = some (.slice za0 zn0 zc0) := ((HG.out.below HW.out).cell (p := ⟨b, off + i * 2 + 0, none⟩) hbF).trans (hA 0 _ rfl)
      have q1 : wr.cell? ⟨b, off + i * 2 + 1, none⟩ = some (.slice za1 zn1 zc1) := ((HG.out.below HW.out).cell (p := ⟨b, off + i * 2 + 1, none⟩) hbF).trans (hA 1 _ rfl)
      have HR := Lib.hid (rd_low (HG.out.below HW.out) (Nat.le_of_lt HW.out.lt) hr)
      have HT := Lib.hid (show List.take (i + 1) x = List.take i x ++ [y] by rw [List.take_add_one, hy]; rfl)
      have HLE := Lib.hid (show (l ++ (numB (n : Int) ++ List.flatMap (enc tRow) (List.take i x))).length + (enc tRow y).length ≤ 140737488355328 from by
        have h1 := HL.out
        have h2 : List.flatMap (enc tRow) x = List.flatMap (enc tRow) (List.take i x) ++ (enc tRow y ++ List.flatMap (enc tRow) (List.drop (i + 1) x)) := by
          have : x = List.take i x ++ (y :: List.drop (i + 1) x) := by
            have h3 := List.take_append_drop (i + 1) x
            rw [HT.out] at h3
            simpa using h3.symm
          conv => lhs; rw [this]
          rw [List.flatMap_append, List.flatMap_cons]
        rw [h2] at h1
        simp only [List.length_append] at h1 ⊢; omega)
      clear hget hA hbF hy hr
      obtain ⟨W2, hW2⟩ : ∃ W2, W2 = wr.alloc (.cells #[.slice za0 zn0 zc0, .slice za1 zn1 zc1] 106) := ⟨_, rfl⟩
      have HW2 := Lib.hid hW2
      have HB2 := Lib.hid (show Below wr.heap.size wr W2 by rw [hW2]; exact (Below.refl _ _).alloc (Nat.le_refl _) _)
      clear hW2
      go_wp2_with fail
      rw [← HW2.out]
      refine (put_Row W2 wb v' _ [.slice za0 zn0 zc0, .slice za1 zn1 zc1] y (HWR.out.keep HB2.out) (rd_low (HB2.out.mono (Nat.le_of_lt HWR.out.lt)) (Nat.le_of_lt HWR.out.lt) HR.out) HLE.out).mono ?_
      rintro e w4 ⟨rfl, v2, hw2, hg2⟩
      have HFIN := Lib.hid (show Wr w4 wb v2 (l ++ (numB (n : Int) ++ List.flatMap (enc tRow) (List.take (i + 1) x))) from by rw [HT.out, List.flatMap_append]; simpa using hw2)
      have HGF := Lib.hid ((HG.out.trans (Gw.of_below HB2.out)).trans hg2)
      clear hw2 hg2 q0 q1
      go_wp2
      go_roundg (gk - 1)
      case rel => exact ⟨i + 1, v2, by omega, by have := HGK.out; omega, by go_num, HFIN.out, HGF.out⟩
      case measure => have := HGK.out; omega
    · obtain rfl : i = n := by omega
      have hd1 : decide ((i : Int) < (i : Int)) = false := by simp
      have HFIN := Lib.hid (show Wr wr wb v' (l ++ enc (.list tRow) x) from by
        have := HWR.out
        rw [HN.out, List.take_length] at this
        exact this)
      clear hin
      go_wp2
      (first | go_end0 | refine bodyPost_ret (results_none rfl _ _ _) rfl ?_)
      exact ⟨rfl, v', HFIN.out, HG.out⟩

theorem shape_Table {w : World} {F : Nat → Prop} {cs : List Value} {x : Ty.T tTable} (h : (Ty.rd tTable).rd w F cs x) : ∃ (z0 : ByteArray) (za1 : Option Addr) (zn1 zc1 : Nat) (za2 : Option Addr) (zn2 zc2 : Nat) (za3 : Option Addr) (zn3 zc3 : Nat) (za4 : Option Addr) (zn4 zc4 : Nat) (za5 : Option Addr) (zn5 zc5 : Nat), cs = [.string z0, .slice za1 zn1 zc1, .slice za2 zn2 zc2, .slice za3 zn3 zc3, .slice za4 zn4 zc4, .slice za5 zn5 zc5] := by
  obtain ⟨u0, r0, rfl, h0, ⟨_, _, _, rfl, _⟩⟩ := h
  obtain ⟨_, _, _, _, _, _, _, _, _, _, _, _, _, rfl⟩ := shape_Schema h0
  exact ⟨_, _, _, _, _, _, _, _, _, _, _, _, _, _, _, _, rfl⟩

set_option maxRecDepth 100000 in
set_option maxHeartbeats 4000000 in
theorem put_Table : PutC 21 tTable := by
  intro w wb v0 l cs x hw hx hl
  obtain ⟨u0, r0, rfl, h0, h1⟩ := hx
  obtain ⟨c0, c1, c2, c3, c4, rfl⟩ : ∃ c0 c1 c2 c3 c4, u0 = [c0, c1, c2, c3, c4] := by match u0, (Ty.rd tSchema).len h0 with | [c0, c1, c2, c3, c4], _ => exact ⟨c0, c1, c2, c3, c4, rfl⟩
  obtain ⟨c5, rfl⟩ : ∃ c5, r0 = [c5] := by match r0, (Ty.rd (.list tVersion)).len h1 with | [c5], _ => exact ⟨c5, rfl⟩
  show Calls _ _ #[_, .agg #[c0, c1, c2, c3, c4, c5]] _ _
  obtain ⟨e0, he0⟩ : ∃ e, e = enc tSchema x.1 := ⟨_, rfl⟩
  obtain ⟨e1, he1⟩ : ∃ e, e = enc (.list tVersion) x.2 := ⟨_, rfl⟩
  have henc : enc tTable x = (e0 ++ e1) := by rw [he0, he1]; rfl
  rw [henc] at hl ⊢
  simp only [List.length_append] at hl
  have HL := Lib.hid hl
  have HW := Lib.hid hw
  have HE0 := Lib.hid he0
  have HE1 := Lib.hid he1
  obtain ⟨W0, hW0⟩ : ∃ W0, W0 = w.alloc (.cells #[c0, c1, c2, c3, c4, c5] 72) := ⟨_, rfl⟩
  have hb0 : Below w.heap.size w W0 := by rw [hW0]; exact (Below.refl _ _).alloc (Nat.le_refl _) _
  have HB0 := Lib.hid hb0
  have HWW := Lib.hid (hw.keep hb0)
  have HX0 := Lib.hid (rd_low (hb0.mono (Nat.le_of_lt hw.lt)) (Nat.le_of_lt hw.lt) h0)
  have HX1 := Lib.hid (rd_low (hb0.mono (Nat.le_of_lt hw.lt)) (Nat.le_of_lt hw.lt) h1)
  have HBX := Lib.hid (show ∀ w' v', Gw wb v0 v' W0 w' → ∀ (j : Nat) u, ([c0, c1, c2, c3, c4, c5] : List Value)[j]? = some u → w'.cell? ⟨w.heap.size, j, none⟩ = some u from fun w' v' hg j u hu => by
    refine (hg.box HWW.out w.heap.size hw.lt (fun e => Nat.lt_irrefl _ (hw.row.ge _ e).2) (by rw [hW0]; simp) j).trans ?_
    rw [hW0]
    have := new_cells w [c0, c1, c2, c3, c4, c5] 72 j u hu
    rw [Addr.add_mid, Nat.zero_add] at this; exact this)
  have HW0 := Lib.hid hW0
  clear hW0 hb0 hw hl henc he0 he1 h0 h1
  go_enter Tryz.func21, Tryz.ntmps21
  go_wp2_with fail
  rw [← HW0.out]
  refine (put_Schema W0 wb v0 l [c0, c1, c2, c3, c4] _ HWW.out HX0.out (by rw [← HE0.out]; have := HL.out; (try simp only [List.length_append]); omega)).mono ?_
  rintro e w1 ⟨rfl, v1, hw, hg⟩
  rw [← HE0.out] at hw
  have HW1 := Lib.hid (show Wr w1 wb v1 (l ++ e0) from by simpa only [List.append_assoc] using hw)
  have HG1 := Lib.hid (hg)
  clear hw hg
  have q0 := HBX.out _ _ HG1.out 5 _ rfl
  go_wp2_with fail
  refine (list_Version w1 wb v1 (l ++ e0) c5 _ HW1.out (rd_low (HG1.out.below HWW.out) (Nat.le_of_lt HWW.out.lt) HX1.out) (by rw [← HE1.out]; have := HL.out; (try simp only [List.length_append]); omega)).mono ?_
  rintro e w2 ⟨rfl, v2, hw, hg⟩
  rw [← HE1.out] at hw
  have HW2 := Lib.hid (show Wr w2 wb v2 (l ++ (e0 ++ e1)) from by simpa only [List.append_assoc] using hw)
  have HG2 := Lib.hid (HG1.out.trans hg)
  clear hw hg q0
  go_wp2
  (first | go_end0 | refine bodyPost_ret (results_none rfl _ _ _) rfl ?_)
  exact ⟨rfl, v2, HW2.out, (Gw.of_below HB0.out).trans HG2.out⟩

set_option maxRecDepth 100000 in
set_option maxHeartbeats 4000000 in
theorem list_Table : ListC 20 21 tTable := by
  intro w wb v0 l c x hw hx hl
  obtain ⟨a, n, cap, ec, hn, hcap, hcm, hel⟩ := hx
  obtain rfl : c = .slice a n cap := by simpa using ec
  have hnw : (Lit.int .i64 (n : Int)).wf = true := by unfold maxLen at hcm; simp [Lit.wf, IntKind.min, IntKind.max, IntKind.bits, IntKind.signed]; omega
  have HNW := Lib.hid hnw
  have HN := Lib.hid (show n = List.length x from hn)
  have HEL := Lib.hid hel
  have HW := Lib.hid hw
  have hle : l.length + (numB (List.length x) ++ List.flatMap (enc tTable) x).length ≤ 140737488355328 := hl
  rw [List.length_append, ← HN.out] at hle
  have HL := Lib.hid hle
  have hn0 : 0 ≤ (n : Int) := by omega
  have hn1 : (n : Int) ≤ 9223372036854775807 := by unfold maxLen at hcm; omega
  clear hnw hn hel hw hle hl hcap hcm ec
  go_enter Tryz.func20, Tryz.ntmps20
  go_wp2_with fail
  refine (put_num w wb v0 l [.int .i64 (n : Int)] (n : Int) HW.out ⟨rfl, HNW.out⟩ (by have := HL.out; show _ + (numB (n : Int)).length ≤ _; omega)).mono ?_
  rintro e w1 ⟨rfl, v1, hw1, hg1⟩
  have HW1 := Lib.hid (show Wr w1 wb v1 (l ++ numB (n : Int)) from hw1)
  have HG1 := Lib.hid hg1
  clear hw1 hg1
  go_wp2
  go_loopg [14] n (fun gk t14 wr => ∃ (i : Nat) (v' : Value), i ≤ n ∧ gk + i = n ∧ t14 = .int .i64 (i : Int) ∧ Wr wr wb v' (l ++ (numB (n : Int) ++ List.flatMap (enc tTable) (List.take i x))) ∧ Gw wb v0 v' w wr)
  case atStart => exact ⟨0, v1, by omega, by omega, rfl, by simpa using HW1.out, HG1.out⟩
  case round =>
    obtain ⟨i, v', hi, hgk, rfl, hwr, hg⟩ := hrel
    have HGK := Lib.hid hgk
    have HWR := Lib.hid hwr
    have HG := Lib.hid hg
    have hi0 : 0 ≤ (i : Int) := by omega
    clear hgk hwr hg
    by_cases hin : i < n
    · have hd1 : decide ((i : Int) < (n : Int)) = true := decide_eq_true (by omega)
      have hi1 : (i : Int) < (n : Int) := by omega
      obtain ⟨y, hy⟩ : ∃ y, x[i]? = some y := ⟨_, List.getElem?_eq_getElem (by have := HN.out; omega)⟩
      rcases HEL.out with h0 | ⟨b, off, rfl, hbF, hbl, hget⟩
      · omega
      obtain ⟨ys, hA, hr⟩ := hget i y hy
      obtain ⟨z0, za1, zn1, zc1, za2, zn2, zc2, za3, zn3, zc3, za4, zn4, zc4, za5, zn5, zc5, rfl⟩ := shape_Table hr
      have q0 : wr.cell? ⟨b, off + i * 6, none⟩ = some (.string z0) := ((HG.out.below HW.out).cell (p := ⟨b, off + i * 6 + 0, none⟩) hbF).trans (hA 0 _ rfl)
      have q1 : wr.cell? ⟨b, off + i * 6 + 1, none⟩ = some (.slice za1 zn1 zc1) := ((HG.out.below HW.out).cell (p := ⟨b, off + i * 6 + 1, none⟩) hbF).trans (hA 1 _ rfl)
      have q2 : wr.cell? ⟨b, off + i * 6 + 2, none⟩ = some (.slice za2 zn2 zc2) := ((HG.out.below HW.out).cell (p := ⟨b, off + i * 6 + 2, none⟩) hbF).trans (hA 2 _ rfl)
      have q3 : wr.cell? ⟨b, off + i * 6 + 3, none⟩ = some (.slice za3 zn3 zc3) := ((HG.out.below HW.out).cell (p := ⟨b, off + i * 6 + 3, none⟩) hbF).trans (hA 3 _ rfl)
      have q4 : wr.cell? ⟨b, off + i * 6 + 4, none⟩ = some (.slice za4 zn4 zc4) := ((HG.out.below HW.out).cell (p := ⟨b, off + i * 6 + 4, none⟩) hbF).trans (hA 4 _ rfl)
      have q5 : wr.cell? ⟨b, off + i * 6 + 5, none⟩ = some (.slice za5 zn5 zc5) := ((HG.out.below HW.out).cell (p := ⟨b, off + i * 6 + 5, none⟩) hbF).trans (hA 5 _ rfl)
      have HR := Lib.hid (rd_low (HG.out.below HW.out) (Nat.le_of_lt HW.out.lt) hr)
      have HT := Lib.hid (show List.take (i + 1) x = List.take i x ++ [y] by rw [List.take_add_one, hy]; rfl)
      have HLE := Lib.hid (show (l ++ (numB (n : Int) ++ List.flatMap (enc tTable) (List.take i x))).length + (enc tTable y).length ≤ 140737488355328 from by
        have h1 := HL.out
        have h2 : List.flatMap (enc tTable) x = List.flatMap (enc tTable) (List.take i x) ++ (enc tTable y ++ List.flatMap (enc tTable) (List.drop (i + 1) x)) := by
          have : x = List.take i x ++ (y :: List.drop (i + 1) x) := by
            have h3 := List.take_append_drop (i + 1) x
            rw [HT.out] at h3
            simpa using h3.symm
          conv => lhs; rw [this]
          rw [List.flatMap_append, List.flatMap_cons]
        rw [h2] at h1
        simp only [List.length_append] at h1 ⊢; omega)
      clear hget hA hbF hy hr
      obtain ⟨W2, hW2⟩ : ∃ W2, W2 = wr.alloc (.cells #[.string z0, .slice za1 zn1 zc1, .slice za2 zn2 zc2, .slice za3 zn3 zc3, .slice za4 zn4 zc4, .slice za5 zn5 zc5] 72) := ⟨_, rfl⟩
      have HW2 := Lib.hid hW2
      have HB2 := Lib.hid (show Below wr.heap.size wr W2 by rw [hW2]; exact (Below.refl _ _).alloc (Nat.le_refl _) _)
      clear hW2
      go_wp2_with fail
      rw [← HW2.out]
      refine (put_Table W2 wb v' _ [.string z0, .slice za1 zn1 zc1, .slice za2 zn2 zc2, .slice za3 zn3 zc3, .slice za4 zn4 zc4, .slice za5 zn5 zc5] y (HWR.out.keep HB2.out) (rd_low (HB2.out.mono (Nat.le_of_lt HWR.out.lt)) (Nat.le_of_lt HWR.out.lt) HR.out) HLE.out).mono ?_
      rintro e w4 ⟨rfl, v2, hw2, hg2⟩
      have HFIN := Lib.hid (show Wr w4 wb v2 (l ++ (numB (n : Int) ++ List.flatMap (enc tTable) (List.take (i + 1) x))) from by rw [HT.out, List.flatMap_append]; simpa using hw2)
      have HGF := Lib.hid ((HG.out.trans (Gw.of_below HB2.out)).trans hg2)
      clear hw2 hg2 q0 q1 q2 q3 q4 q5
      go_wp2
      go_roundg (gk - 1)
      case rel => exact ⟨i + 1, v2, by omega, by have := HGK.out; omega, by go_num, HFIN.out, HGF.out⟩
      case measure => have := HGK.out; omega
    · obtain rfl : i = n := by omega
      have hd1 : decide ((i : Int) < (i : Int)) = false := by simp
      have HFIN := Lib.hid (show Wr wr wb v' (l ++ enc (.list tTable) x) from by
        have := HWR.out
        rw [HN.out, List.take_length] at this
        exact this)
      clear hin
      go_wp2
      (first | go_end0 | refine bodyPost_ret (results_none rfl _ _ _) rfl ?_)
      exact ⟨rfl, v', HFIN.out, HG.out⟩

theorem shape_Citation {w : World} {F : Nat → Prop} {cs : List Value} {x : Ty.T tCitation} (h : (Ty.rd tCitation).rd w F cs x) : ∃ (z0 : Int) (z1 : Int) (z2 : Int) (z3 : Int) (z4 : ByteArray) (za5 : Option Addr) (zn5 zc5 : Nat), cs = [.int .i64 z0, .int .i64 z1, .int .i64 z2, .int .i64 z3, .string z4, .slice za5 zn5 zc5] := by
  obtain ⟨u0, r0, rfl, ⟨rfl, _⟩, u1, r1, rfl, h1, ⟨_, _, _, rfl, _⟩⟩ := h
  obtain ⟨_, _, _, _, rfl⟩ := shape_Request h1
  exact ⟨_, _, _, _, _, _, _, _, rfl⟩

set_option maxRecDepth 100000 in
set_option maxHeartbeats 4000000 in
theorem put_Citation : PutC 25 tCitation := by
  intro w wb v0 l cs x hw hx hl
  obtain ⟨u0, r0, rfl, h0, u1, r1, rfl, h1, h2⟩ := hx
  obtain ⟨c0, rfl⟩ : ∃ c0, u0 = [c0] := by match u0, (Ty.rd .num).len h0 with | [c0], _ => exact ⟨c0, rfl⟩
  obtain ⟨c1, c2, c3, c4, rfl⟩ : ∃ c1 c2 c3 c4, u1 = [c1, c2, c3, c4] := by match u1, (Ty.rd tRequest).len h1 with | [c1, c2, c3, c4], _ => exact ⟨c1, c2, c3, c4, rfl⟩
  obtain ⟨c5, rfl⟩ : ∃ c5, r1 = [c5] := by match r1, (Ty.rd (.list tRow)).len h2 with | [c5], _ => exact ⟨c5, rfl⟩
  show Calls _ _ #[_, .agg #[c0, c1, c2, c3, c4, c5]] _ _
  obtain ⟨e0, he0⟩ : ∃ e, e = enc .num x.1 := ⟨_, rfl⟩
  obtain ⟨e1, he1⟩ : ∃ e, e = enc tRequest x.2.1 := ⟨_, rfl⟩
  obtain ⟨e2, he2⟩ : ∃ e, e = enc (.list tRow) x.2.2 := ⟨_, rfl⟩
  have henc : enc tCitation x = (e0 ++ (e1 ++ e2)) := by rw [he0, he1, he2]; rfl
  rw [henc] at hl ⊢
  simp only [List.length_append] at hl
  have HL := Lib.hid hl
  have HW := Lib.hid hw
  have HE0 := Lib.hid he0
  have HE1 := Lib.hid he1
  have HE2 := Lib.hid he2
  obtain ⟨W0, hW0⟩ : ∃ W0, W0 = w.alloc (.cells #[c0, c1, c2, c3, c4, c5] 79) := ⟨_, rfl⟩
  have hb0 : Below w.heap.size w W0 := by rw [hW0]; exact (Below.refl _ _).alloc (Nat.le_refl _) _
  have HB0 := Lib.hid hb0
  have HWW := Lib.hid (hw.keep hb0)
  have HX0 := Lib.hid (rd_low (hb0.mono (Nat.le_of_lt hw.lt)) (Nat.le_of_lt hw.lt) h0)
  have HX1 := Lib.hid (rd_low (hb0.mono (Nat.le_of_lt hw.lt)) (Nat.le_of_lt hw.lt) h1)
  have HX2 := Lib.hid (rd_low (hb0.mono (Nat.le_of_lt hw.lt)) (Nat.le_of_lt hw.lt) h2)
  have HBX := Lib.hid (show ∀ w' v', Gw wb v0 v' W0 w' → ∀ (j : Nat) u, ([c0, c1, c2, c3, c4, c5] : List Value)[j]? = some u → w'.cell? ⟨w.heap.size, j, none⟩ = some u from fun w' v' hg j u hu => by
    refine (hg.box HWW.out w.heap.size hw.lt (fun e => Nat.lt_irrefl _ (hw.row.ge _ e).2) (by rw [hW0]; simp) j).trans ?_
    rw [hW0]
    have := new_cells w [c0, c1, c2, c3, c4, c5] 79 j u hu
    rw [Addr.add_mid, Nat.zero_add] at this; exact this)
  have HW0 := Lib.hid hW0
  clear hW0 hb0 hw hl henc he0 he1 he2 h0 h1 h2
  go_enter Tryz.func25, Tryz.ntmps25
  go_wp2_with fail
  rw [← HW0.out]
  refine (put_num W0 wb v0 l [c0] _ HWW.out HX0.out (by rw [← HE0.out]; have := HL.out; (try simp only [List.length_append]); omega)).mono ?_
  rintro e w1 ⟨rfl, v1, hw, hg⟩
  rw [← HE0.out] at hw
  have HW1 := Lib.hid (show Wr w1 wb v1 (l ++ e0) from by simpa only [List.append_assoc] using hw)
  have HG1 := Lib.hid (hg)
  clear hw hg
  have q0 := HBX.out _ _ HG1.out 1 _ rfl
  have q1 := HBX.out _ _ HG1.out 2 _ rfl
  have q2 := HBX.out _ _ HG1.out 3 _ rfl
  have q3 := HBX.out _ _ HG1.out 4 _ rfl
  go_wp2_with fail
  refine (put_Request w1 wb v1 (l ++ e0) [c1, c2, c3, c4] _ HW1.out (rd_low (HG1.out.below HWW.out) (Nat.le_of_lt HWW.out.lt) HX1.out) (by rw [← HE1.out]; have := HL.out; (try simp only [List.length_append]); omega)).mono ?_
  rintro e w2 ⟨rfl, v2, hw, hg⟩
  rw [← HE1.out] at hw
  have HW2 := Lib.hid (show Wr w2 wb v2 (l ++ (e0 ++ e1)) from by simpa only [List.append_assoc] using hw)
  have HG2 := Lib.hid (HG1.out.trans hg)
  clear hw hg q0 q1 q2 q3
  have q0 := HBX.out _ _ HG2.out 5 _ rfl
  go_wp2_with fail
  refine (list_Row w2 wb v2 (l ++ (e0 ++ e1)) c5 _ HW2.out (rd_low (HG2.out.below HWW.out) (Nat.le_of_lt HWW.out.lt) HX2.out) (by rw [← HE2.out]; have := HL.out; (try simp only [List.length_append]); omega)).mono ?_
  rintro e w3 ⟨rfl, v3, hw, hg⟩
  rw [← HE2.out] at hw
  have HW3 := Lib.hid (show Wr w3 wb v3 (l ++ (e0 ++ (e1 ++ e2))) from by simpa only [List.append_assoc] using hw)
  have HG3 := Lib.hid (HG2.out.trans hg)
  clear hw hg q0
  go_wp2
  (first | go_end0 | refine bodyPost_ret (results_none rfl _ _ _) rfl ?_)
  exact ⟨rfl, v3, HW3.out, (Gw.of_below HB0.out).trans HG3.out⟩

set_option maxRecDepth 100000 in
set_option maxHeartbeats 4000000 in
theorem list_Citation : ListC 24 25 tCitation := by
  intro w wb v0 l c x hw hx hl
  obtain ⟨a, n, cap, ec, hn, hcap, hcm, hel⟩ := hx
  obtain rfl : c = .slice a n cap := by simpa using ec
  have hnw : (Lit.int .i64 (n : Int)).wf = true := by unfold maxLen at hcm; simp [Lit.wf, IntKind.min, IntKind.max, IntKind.bits, IntKind.signed]; omega
  have HNW := Lib.hid hnw
  have HN := Lib.hid (show n = List.length x from hn)
  have HEL := Lib.hid hel
  have HW := Lib.hid hw
  have hle : l.length + (numB (List.length x) ++ List.flatMap (enc tCitation) x).length ≤ 140737488355328 := hl
  rw [List.length_append, ← HN.out] at hle
  have HL := Lib.hid hle
  have hn0 : 0 ≤ (n : Int) := by omega
  have hn1 : (n : Int) ≤ 9223372036854775807 := by unfold maxLen at hcm; omega
  clear hnw hn hel hw hle hl hcap hcm ec
  go_enter Tryz.func24, Tryz.ntmps24
  go_wp2_with fail
  refine (put_num w wb v0 l [.int .i64 (n : Int)] (n : Int) HW.out ⟨rfl, HNW.out⟩ (by have := HL.out; show _ + (numB (n : Int)).length ≤ _; omega)).mono ?_
  rintro e w1 ⟨rfl, v1, hw1, hg1⟩
  have HW1 := Lib.hid (show Wr w1 wb v1 (l ++ numB (n : Int)) from hw1)
  have HG1 := Lib.hid hg1
  clear hw1 hg1
  go_wp2
  go_loopg [14] n (fun gk t14 wr => ∃ (i : Nat) (v' : Value), i ≤ n ∧ gk + i = n ∧ t14 = .int .i64 (i : Int) ∧ Wr wr wb v' (l ++ (numB (n : Int) ++ List.flatMap (enc tCitation) (List.take i x))) ∧ Gw wb v0 v' w wr)
  case atStart => exact ⟨0, v1, by omega, by omega, rfl, by simpa using HW1.out, HG1.out⟩
  case round =>
    obtain ⟨i, v', hi, hgk, rfl, hwr, hg⟩ := hrel
    have HGK := Lib.hid hgk
    have HWR := Lib.hid hwr
    have HG := Lib.hid hg
    have hi0 : 0 ≤ (i : Int) := by omega
    clear hgk hwr hg
    by_cases hin : i < n
    · have hd1 : decide ((i : Int) < (n : Int)) = true := decide_eq_true (by omega)
      have hi1 : (i : Int) < (n : Int) := by omega
      obtain ⟨y, hy⟩ : ∃ y, x[i]? = some y := ⟨_, List.getElem?_eq_getElem (by have := HN.out; omega)⟩
      rcases HEL.out with h0 | ⟨b, off, rfl, hbF, hbl, hget⟩
      · omega
      obtain ⟨ys, hA, hr⟩ := hget i y hy
      obtain ⟨z0, z1, z2, z3, z4, za5, zn5, zc5, rfl⟩ := shape_Citation hr
      have q0 : wr.cell? ⟨b, off + i * 6, none⟩ = some (.int .i64 z0) := ((HG.out.below HW.out).cell (p := ⟨b, off + i * 6 + 0, none⟩) hbF).trans (hA 0 _ rfl)
      have q1 : wr.cell? ⟨b, off + i * 6 + 1, none⟩ = some (.int .i64 z1) := ((HG.out.below HW.out).cell (p := ⟨b, off + i * 6 + 1, none⟩) hbF).trans (hA 1 _ rfl)
      have q2 : wr.cell? ⟨b, off + i * 6 + 2, none⟩ = some (.int .i64 z2) := ((HG.out.below HW.out).cell (p := ⟨b, off + i * 6 + 2, none⟩) hbF).trans (hA 2 _ rfl)
      have q3 : wr.cell? ⟨b, off + i * 6 + 3, none⟩ = some (.int .i64 z3) := ((HG.out.below HW.out).cell (p := ⟨b, off + i * 6 + 3, none⟩) hbF).trans (hA 3 _ rfl)
      have q4 : wr.cell? ⟨b, off + i * 6 + 4, none⟩ = some (.string z4) := ((HG.out.below HW.out).cell (p := ⟨b, off + i * 6 + 4, none⟩) hbF).trans (hA 4 _ rfl)
      have q5 : wr.cell? ⟨b, off + i * 6 + 5, none⟩ = some (.slice za5 zn5 zc5) := ((HG.out.below HW.out).cell (p := ⟨b, off + i * 6 + 5, none⟩) hbF).trans (hA 5 _ rfl)
      have HR := Lib.hid (rd_low (HG.out.below HW.out) (Nat.le_of_lt HW.out.lt) hr)
      have HT := Lib.hid (show List.take (i + 1) x = List.take i x ++ [y] by rw [List.take_add_one, hy]; rfl)
      have HLE := Lib.hid (show (l ++ (numB (n : Int) ++ List.flatMap (enc tCitation) (List.take i x))).length + (enc tCitation y).length ≤ 140737488355328 from by
        have h1 := HL.out
        have h2 : List.flatMap (enc tCitation) x = List.flatMap (enc tCitation) (List.take i x) ++ (enc tCitation y ++ List.flatMap (enc tCitation) (List.drop (i + 1) x)) := by
          have : x = List.take i x ++ (y :: List.drop (i + 1) x) := by
            have h3 := List.take_append_drop (i + 1) x
            rw [HT.out] at h3
            simpa using h3.symm
          conv => lhs; rw [this]
          rw [List.flatMap_append, List.flatMap_cons]
        rw [h2] at h1
        simp only [List.length_append] at h1 ⊢; omega)
      clear hget hA hbF hy hr
      obtain ⟨W2, hW2⟩ : ∃ W2, W2 = wr.alloc (.cells #[.int .i64 z0, .int .i64 z1, .int .i64 z2, .int .i64 z3, .string z4, .slice za5 zn5 zc5] 79) := ⟨_, rfl⟩
      have HW2 := Lib.hid hW2
      have HB2 := Lib.hid (show Below wr.heap.size wr W2 by rw [hW2]; exact (Below.refl _ _).alloc (Nat.le_refl _) _)
      clear hW2
      go_wp2_with fail
      rw [← HW2.out]
      refine (put_Citation W2 wb v' _ [.int .i64 z0, .int .i64 z1, .int .i64 z2, .int .i64 z3, .string z4, .slice za5 zn5 zc5] y (HWR.out.keep HB2.out) (rd_low (HB2.out.mono (Nat.le_of_lt HWR.out.lt)) (Nat.le_of_lt HWR.out.lt) HR.out) HLE.out).mono ?_
      rintro e w4 ⟨rfl, v2, hw2, hg2⟩
      have HFIN := Lib.hid (show Wr w4 wb v2 (l ++ (numB (n : Int) ++ List.flatMap (enc tCitation) (List.take (i + 1) x))) from by rw [HT.out, List.flatMap_append]; simpa using hw2)
      have HGF := Lib.hid ((HG.out.trans (Gw.of_below HB2.out)).trans hg2)
      clear hw2 hg2 q0 q1 q2 q3 q4 q5
      go_wp2
      go_roundg (gk - 1)
      case rel => exact ⟨i + 1, v2, by omega, by have := HGK.out; omega, by go_num, HFIN.out, HGF.out⟩
      case measure => have := HGK.out; omega
    · obtain rfl : i = n := by omega
      have hd1 : decide ((i : Int) < (i : Int)) = false := by simp
      have HFIN := Lib.hid (show Wr wr wb v' (l ++ enc (.list tCitation) x) from by
        have := HWR.out
        rw [HN.out, List.take_length] at this
        exact this)
      clear hin
      go_wp2
      (first | go_end0 | refine bodyPost_ret (results_none rfl _ _ _) rfl ?_)
      exact ⟨rfl, v', HFIN.out, HG.out⟩
end Go.Proofs.YtfppjpmflpaffaaGreat
