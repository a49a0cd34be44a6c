/-
  The program's encoder: schemas. Printed by gen_ce.py.
-/
import Derived.Test.YtfppjpmflpaffaaGreatCeD
namespace Go.Proofs.YtfppjpmflpaffaaGreat
open Go.RowKit
set_option linter.unusedVariables false
set_option linter.unusedSimpArgs false

theorem shape_SchemaVersion {w : World} {F : Nat → Prop} {cs : List Value} {x : Ty.T tSchemaVersion} (h : (Ty.rd tSchemaVersion).rd w F cs x) : ∃ (z0 : Int) (z1 : Int) (za2 : Option Addr) (zn2 zc2 : Nat), cs = [.int .i64 z0, .int .i64 z1, .slice za2 zn2 zc2] := by
  obtain ⟨u0, r0, rfl, h0, ⟨_, _, _, rfl, _⟩⟩ := h
  obtain ⟨_, _, rfl⟩ := shape_Period h0
  exact ⟨_, _, _, _, _, rfl⟩

set_option maxRecDepth 100000 in
set_option maxHeartbeats 4000000 in
theorem put_SchemaVersion : PutC 108 tSchemaVersion := by
  intro w wb v0 l cs x hw hx hl
  obtain ⟨u0, r0, rfl, h0, h1⟩ := hx
  obtain ⟨c0, c1, rfl⟩ : ∃ c0 c1, u0 = [c0, c1] := by match u0, (Ty.rd tPeriod).len h0 with | [c0, c1], _ => exact ⟨c0, c1, rfl⟩
  obtain ⟨c2, rfl⟩ : ∃ c2, r0 = [c2] := by match r0, (Ty.rd (.list tColumn)).len h1 with | [c2], _ => exact ⟨c2, rfl⟩
  show Calls _ _ #[_, .agg #[c0, c1, c2]] _ _
  obtain ⟨e0, he0⟩ : ∃ e, e = enc tPeriod x.1 := ⟨_, rfl⟩
  obtain ⟨e1, he1⟩ : ∃ e, e = enc (.list tColumn) x.2 := ⟨_, rfl⟩
  have henc : enc tSchemaVersion x = (e0 ++ e1) := by rw [he0, he1]; rfl
  rw [henc] at hl ⊢
  simp only [List.length_append] at hl
  have HL := Lib.hid hl
  have HW := Lib.hid hw
  have HE0 := Lib.hid he0
  have HE1 := Lib.hid he1
  obtain ⟨W0, hW0⟩ : ∃ W0, W0 = w.alloc (.cells #[c0, c1, c2] 151) := ⟨_, rfl⟩
  have hb0 : Below w.heap.size w W0 := by rw [hW0]; exact (Below.refl _ _).alloc (Nat.le_refl _) _
  have HB0 := Lib.hid hb0
  have HWW := Lib.hid (hw.keep hb0)
  have HX0 := Lib.hid (rd_low (hb0.mono (Nat.le_of_lt hw.lt)) (Nat.le_of_lt hw.lt) h0)
  have HX1 := Lib.hid (rd_low (hb0.mono (Nat.le_of_lt hw.lt)) (Nat.le_of_lt hw.lt) h1)
  have HBX := Lib.hid (show ∀ w' v', Gw wb v0 v' W0 w' → ∀ (j : Nat) u, ([c0, c1, c2] : List Value)[j]? = some u → w'.cell? ⟨w.heap.size, j, none⟩ = some u from fun w' v' hg j u hu => by
    refine (hg.box HWW.out w.heap.size hw.lt (fun e => Nat.lt_irrefl _ (hw.row.ge _ e).2) (by rw [hW0]; simp) j).trans ?_
    rw [hW0]
    have := new_cells w [c0, c1, c2] 151 j u hu
    rw [Addr.add_mid, Nat.zero_add] at this; exact this)
  have HW0 := Lib.hid hW0
  clear hW0 hb0 hw hl henc he0 he1 h0 h1
  go_enter Tryz.func108, Tryz.ntmps108
  go_wp2_with fail
  rw [← HW0.out]
  refine (put_Period W0 wb v0 l [c0, c1] _ HWW.out HX0.out (by rw [← HE0.out]; have := HL.out; (try simp only [List.length_append]); omega)).mono ?_
  rintro e w1 ⟨rfl, v1, hw, hg⟩
  rw [← HE0.out] at hw
  have HW1 := Lib.hid (show Wr w1 wb v1 (l ++ e0) from by simpa only [List.append_assoc] using hw)
  have HG1 := Lib.hid (hg)
  clear hw hg
  have q0 := HBX.out _ _ HG1.out 2 _ rfl
  go_wp2_with fail
  refine (list_Column w1 wb v1 (l ++ e0) c2 _ HW1.out (rd_low (HG1.out.below HWW.out) (Nat.le_of_lt HWW.out.lt) HX1.out) (by rw [← HE1.out]; have := HL.out; (try simp only [List.length_append]); omega)).mono ?_
  rintro e w2 ⟨rfl, v2, hw, hg⟩
  rw [← HE1.out] at hw
  have HW2 := Lib.hid (show Wr w2 wb v2 (l ++ (e0 ++ e1)) from by simpa only [List.append_assoc] using hw)
  have HG2 := Lib.hid (HG1.out.trans hg)
  clear hw hg q0
  go_wp2
  (first | go_end0 | refine bodyPost_ret (results_none rfl _ _ _) rfl ?_)
  exact ⟨rfl, v2, HW2.out, (Gw.of_below HB0.out).trans HG2.out⟩

set_option maxRecDepth 100000 in
set_option maxHeartbeats 4000000 in
theorem list_SchemaVersion : ListC 107 108 tSchemaVersion := by
  intro w wb v0 l c x hw hx hl
  obtain ⟨a, n, cap, ec, hn, hcap, hcm, hel⟩ := hx
  obtain rfl : c = .slice a n cap := by simpa using ec
  have hnw : (Lit.int .i64 (n : Int)).wf = true := by unfold maxLen at hcm; simp [Lit.wf, IntKind.min, IntKind.max, IntKind.bits, IntKind.signed]; omega
  have HNW := Lib.hid hnw
  have HN := Lib.hid (show n = List.length x from hn)
  have HEL := Lib.hid hel
  have HW := Lib.hid hw
  have hle : l.length + (numB (List.length x) ++ List.flatMap (enc tSchemaVersion) x).length ≤ 140737488355328 := hl
  rw [List.length_append, ← HN.out] at hle
  have HL := Lib.hid hle
  have hn0 : 0 ≤ (n : Int) := by omega
  have hn1 : (n : Int) ≤ 9223372036854775807 := by unfold maxLen at hcm; omega
  clear hnw hn hel hw hle hl hcap hcm ec
  go_enter Tryz.func107, Tryz.ntmps107
  go_wp2_with fail
  refine (put_num w wb v0 l [.int .i64 (n : Int)] (n : Int) HW.out ⟨rfl, HNW.out⟩ (by have := HL.out; show _ + (numB (n : Int)).length ≤ _; omega)).mono ?_
  rintro e w1 ⟨rfl, v1, hw1, hg1⟩
  have HW1 := Lib.hid (show Wr w1 wb v1 (l ++ numB (n : Int)) from hw1)
  have HG1 := Lib.hid hg1
  clear hw1 hg1
  go_wp2
  go_loopg [14] n (fun gk t14 wr => ∃ (i : Nat) (v' : Value), i ≤ n ∧ gk + i = n ∧ t14 = .int .i64 (i : Int) ∧ Wr wr wb v' (l ++ (numB (n : Int) ++ List.flatMap (enc tSchemaVersion) (List.take i x))) ∧ Gw wb v0 v' w wr)
  case atStart => exact ⟨0, v1, by omega, by omega, rfl, by simpa using HW1.out, HG1.out⟩
  case round =>
    obtain ⟨i, v', hi, hgk, rfl, hwr, hg⟩ := hrel
    have HGK := Lib.hid hgk
    have HWR := Lib.hid hwr
    have HG := Lib.hid hg
    have hi0 : 0 ≤ (i : Int) := by omega
    clear hgk hwr hg
    by_cases hin : i < n
    · have hd1 : decide ((i : Int) < (n : Int)) = true := decide_eq_true (by omega)
      have hi1 : (i : Int) < (n : Int) := by omega
      obtain ⟨y, hy⟩ : ∃ y, x[i]? = some y := ⟨_, List.getElem?_eq_getElem (by have := HN.out; omega)⟩
      rcases HEL.out with h0 | ⟨b, off, rfl, hbF, hbl, hget⟩
      · omega
      obtain ⟨ys, hA, hr⟩ := hget i y hy
      obtain ⟨z0, z1, za2, zn2, zc2, rfl⟩ := shape_SchemaVersion hr
      have q0 : wr.cell? ⟨b, off + i * 3, none⟩ = some (.int .i64 z0) := ((HG.out.below HW.out).cell (p := ⟨b, off + i * 3 + 0, none⟩) hbF).trans (hA 0 _ rfl)
      have q1 : wr.cell? ⟨b, off + i * 3 + 1, none⟩ = some (.int .i64 z1) := ((HG.out.below HW.out).cell (p := ⟨b, off + i * 3 + 1, none⟩) hbF).trans (hA 1 _ rfl)
      have q2 : wr.cell? ⟨b, off + i * 3 + 2, none⟩ = some (.slice za2 zn2 zc2) := ((HG.out.below HW.out).cell (p := ⟨b, off + i * 3 + 2, none⟩) hbF).trans (hA 2 _ rfl)
      have HR := Lib.hid (rd_low (HG.out.below HW.out) (Nat.le_of_lt HW.out.lt) hr)
      have HT := Lib.hid (show List.take (i + 1) x = List.take i x ++ [y] by rw [List.take_add_one, hy]; rfl)
      have HLE := Lib.hid (show (l ++ (numB (n : Int) ++ List.flatMap (enc tSchemaVersion) (List.take i x))).length + (enc tSchemaVersion y).length ≤ 140737488355328 from by
        have h1 := HL.out
        have h2 : List.flatMap (enc tSchemaVersion) x = List.flatMap (enc tSchemaVersion) (List.take i x) ++ (enc tSchemaVersion y ++ List.flatMap (enc tSchemaVersion) (List.drop (i + 1) x)) := by
          have : x = List.take i x ++ (y :: List.drop (i + 1) x) := by
            have h3 := List.take_append_drop (i + 1) x
            rw [HT.out] at h3
            simpa using h3.symm
          conv => lhs; rw [this]
          rw [List.flatMap_append, List.flatMap_cons]
        rw [h2] at h1
        simp only [List.length_append] at h1 ⊢; omega)
      clear hget hA hbF hy hr
      obtain ⟨W2, hW2⟩ : ∃ W2, W2 = wr.alloc (.cells #[.int .i64 z0, .int .i64 z1, .slice za2 zn2 zc2] 151) := ⟨_, rfl⟩
      have HW2 := Lib.hid hW2
      have HB2 := Lib.hid (show Below wr.heap.size wr W2 by rw [hW2]; exact (Below.refl _ _).alloc (Nat.le_refl _) _)
      clear hW2
      go_wp2_with fail
      rw [← HW2.out]
      refine (put_SchemaVersion W2 wb v' _ [.int .i64 z0, .int .i64 z1, .slice za2 zn2 zc2] y (HWR.out.keep HB2.out) (rd_low (HB2.out.mono (Nat.le_of_lt HWR.out.lt)) (Nat.le_of_lt HWR.out.lt) HR.out) HLE.out).mono ?_
      rintro e w4 ⟨rfl, v2, hw2, hg2⟩
      have HFIN := Lib.hid (show Wr w4 wb v2 (l ++ (numB (n : Int) ++ List.flatMap (enc tSchemaVersion) (List.take (i + 1) x))) from by rw [HT.out, List.flatMap_append]; simpa using hw2)
      have HGF := Lib.hid ((HG.out.trans (Gw.of_below HB2.out)).trans hg2)
      clear hw2 hg2 q0 q1 q2
      go_wp2
      go_roundg (gk - 1)
      case rel => exact ⟨i + 1, v2, by omega, by have := HGK.out; omega, by go_num, HFIN.out, HGF.out⟩
      case measure => have := HGK.out; omega
    · obtain rfl : i = n := by omega
      have hd1 : decide ((i : Int) < (i : Int)) = false := by simp
      have HFIN := Lib.hid (show Wr wr wb v' (l ++ enc (.list tSchemaVersion) x) from by
        have := HWR.out
        rw [HN.out, List.take_length] at this
        exact this)
      clear hin
      go_wp2
      (first | go_end0 | refine bodyPost_ret (results_none rfl _ _ _) rfl ?_)
      exact ⟨rfl, v', HFIN.out, HG.out⟩

theorem shape_ForeignKey {w : World} {F : Nat → Prop} {cs : List Value} {x : Ty.T tForeignKey} (h : (Ty.rd tForeignKey).rd w F cs x) : ∃ (za0 : Option Addr) (zn0 zc0 : Nat) (z1 : ByteArray) (za2 : Option Addr) (zn2 zc2 : Nat), cs = [.slice za0 zn0 zc0, .string z1, .slice za2 zn2 zc2] := by
  obtain ⟨u0, r0, rfl, ⟨_, _, _, rfl, _⟩, u1, r1, rfl, ⟨rfl, _⟩, ⟨_, _, _, rfl, _⟩⟩ := h
  exact ⟨_, _, _, _, _, _, _, rfl⟩

set_option maxRecDepth 100000 in
set_option maxHeartbeats 4000000 in
theorem put_ForeignKey : PutC 111 tForeignKey := by
  intro w wb v0 l cs x hw hx hl
  obtain ⟨u0, r0, rfl, h0, u1, r1, rfl, h1, h2⟩ := hx
  obtain ⟨c0, rfl⟩ : ∃ c0, u0 = [c0] := by match u0, (Ty.rd (.list .num)).len h0 with | [c0], _ => exact ⟨c0, rfl⟩
  obtain ⟨c1, rfl⟩ : ∃ c1, u1 = [c1] := by match u1, (Ty.rd .str).len h1 with | [c1], _ => exact ⟨c1, rfl⟩
  obtain ⟨c2, rfl⟩ : ∃ c2, r1 = [c2] := by match r1, (Ty.rd (.list .num)).len h2 with | [c2], _ => exact ⟨c2, rfl⟩
  show Calls _ _ #[_, .agg #[c0, c1, c2]] _ _
  obtain ⟨e0, he0⟩ : ∃ e, e = enc (.list .num) x.1 := ⟨_, rfl⟩
  obtain ⟨e1, he1⟩ : ∃ e, e = enc .str x.2.1 := ⟨_, rfl⟩
  obtain ⟨e2, he2⟩ : ∃ e, e = enc (.list .num) x.2.2 := ⟨_, rfl⟩
  have henc : enc tForeignKey x = (e0 ++ (e1 ++ e2)) := by rw [he0, he1, he2]; rfl
  rw [henc] at hl ⊢
  simp only [List.length_append] at hl
  have HL := Lib.hid hl
  have HW := Lib.hid hw
  have HE0 := Lib.hid he0
  have HE1 := Lib.hid he1
  have HE2 := Lib.hid he2
  obtain ⟨W0, hW0⟩ : ∃ W0, W0 = w.alloc (.cells #[c0, c1, c2] 154) := ⟨_, rfl⟩
  have hb0 : Below w.heap.size w W0 := by rw [hW0]; exact (Below.refl _ _).alloc (Nat.le_refl _) _
  have HB0 := Lib.hid hb0
  have HWW := Lib.hid (hw.keep hb0)
  have HX0 := Lib.hid (rd_low (hb0.mono (Nat.le_of_lt hw.lt)) (Nat.le_of_lt hw.lt) h0)
  have HX1 := Lib.hid (rd_low (hb0.mono (Nat.le_of_lt hw.lt)) (Nat.le_of_lt hw.lt) h1)
  have HX2 := Lib.hid (rd_low (hb0.mono (Nat.le_of_lt hw.lt)) (Nat.le_of_lt hw.lt) h2)
  have HBX := Lib.hid (show ∀ w' v', Gw wb v0 v' W0 w' → ∀ (j : Nat) u, ([c0, c1, c2] : List Value)[j]? = some u → w'.cell? ⟨w.heap.size, j, none⟩ = some u from fun w' v' hg j u hu => by
    refine (hg.box HWW.out w.heap.size hw.lt (fun e => Nat.lt_irrefl _ (hw.row.ge _ e).2) (by rw [hW0]; simp) j).trans ?_
    rw [hW0]
    have := new_cells w [c0, c1, c2] 154 j u hu
    rw [Addr.add_mid, Nat.zero_add] at this; exact this)
  have HW0 := Lib.hid hW0
  clear hW0 hb0 hw hl henc he0 he1 he2 h0 h1 h2
  go_enter Tryz.func111, Tryz.ntmps111
  go_wp2_with fail
  rw [← HW0.out]
  refine (put_ints W0 wb v0 l [c0] _ HWW.out HX0.out (by rw [← HE0.out]; have := HL.out; (try simp only [List.length_append]); omega)).mono ?_
  rintro e w1 ⟨rfl, v1, hw, hg⟩
  rw [← HE0.out] at hw
  have HW1 := Lib.hid (show Wr w1 wb v1 (l ++ e0) from by simpa only [List.append_assoc] using hw)
  have HG1 := Lib.hid (hg)
  clear hw hg
  have q0 := HBX.out _ _ HG1.out 1 _ rfl
  go_wp2_with fail
  refine (put_str w1 wb v1 (l ++ e0) [c1] _ HW1.out (rd_low (HG1.out.below HWW.out) (Nat.le_of_lt HWW.out.lt) HX1.out) (by rw [← HE1.out]; have := HL.out; (try simp only [List.length_append]); omega)).mono ?_
  rintro e w2 ⟨rfl, v2, hw, hg⟩
  rw [← HE1.out] at hw
  have HW2 := Lib.hid (show Wr w2 wb v2 (l ++ (e0 ++ e1)) from by simpa only [List.append_assoc] using hw)
  have HG2 := Lib.hid (HG1.out.trans hg)
  clear hw hg q0
  have q0 := HBX.out _ _ HG2.out 2 _ rfl
  go_wp2_with fail
  refine (put_ints w2 wb v2 (l ++ (e0 ++ e1)) [c2] _ HW2.out (rd_low (HG2.out.below HWW.out) (Nat.le_of_lt HWW.out.lt) HX2.out) (by rw [← HE2.out]; have := HL.out; (try simp only [List.length_append]); omega)).mono ?_
  rintro e w3 ⟨rfl, v3, hw, hg⟩
  rw [← HE2.out] at hw
  have HW3 := Lib.hid (show Wr w3 wb v3 (l ++ (e0 ++ (e1 ++ e2))) from by simpa only [List.append_assoc] using hw)
  have HG3 := Lib.hid (HG2.out.trans hg)
  clear hw hg q0
  go_wp2
  (first | go_end0 | refine bodyPost_ret (results_none rfl _ _ _) rfl ?_)
  exact ⟨rfl, v3, HW3.out, (Gw.of_below HB0.out).trans HG3.out⟩

set_option maxRecDepth 100000 in
set_option maxHeartbeats 4000000 in
theorem list_ForeignKey : ListC 110 111 tForeignKey := by
  intro w wb v0 l c x hw hx hl
  obtain ⟨a, n, cap, ec, hn, hcap, hcm, hel⟩ := hx
  obtain rfl : c = .slice a n cap := by simpa using ec
  have hnw : (Lit.int .i64 (n : Int)).wf = true := by unfold maxLen at hcm; simp [Lit.wf, IntKind.min, IntKind.max, IntKind.bits, IntKind.signed]; omega
  have HNW := Lib.hid hnw
  have HN := Lib.hid (show n = List.length x from hn)
  have HEL := Lib.hid hel
  have HW := Lib.hid hw
  have hle : l.length + (numB (List.length x) ++ List.flatMap (enc tForeignKey) x).length ≤ 140737488355328 := hl
  rw [List.length_append, ← HN.out] at hle
  have HL := Lib.hid hle
  have hn0 : 0 ≤ (n : Int) := by omega
  have hn1 : (n : Int) ≤ 9223372036854775807 := by unfold maxLen at hcm; omega
  clear hnw hn hel hw hle hl hcap hcm ec
  go_enter Tryz.func110, Tryz.ntmps110
  go_wp2_with fail
  refine (put_num w wb v0 l [.int .i64 (n : Int)] (n : Int) HW.out ⟨rfl, HNW.out⟩ (by have := HL.out; show _ + (numB (n : Int)).length ≤ _; omega)).mono ?_
  rintro e w1 ⟨rfl, v1, hw1, hg1⟩
  have HW1 := Lib.hid (show Wr w1 wb v1 (l ++ numB (n : Int)) from hw1)
  have HG1 := Lib.hid hg1
  clear hw1 hg1
  go_wp2
  go_loopg [14] n (fun gk t14 wr => ∃ (i : Nat) (v' : Value), i ≤ n ∧ gk + i = n ∧ t14 = .int .i64 (i : Int) ∧ Wr wr wb v' (l ++ (numB (n : Int) ++ List.flatMap (enc tForeignKey) (List.take i x))) ∧ Gw wb v0 v' w wr)
  case atStart => exact ⟨0, v1, by omega, by omega, rfl, by simpa using HW1.out, HG1.out⟩
  case round =>
    obtain ⟨i, v', hi, hgk, rfl, hwr, hg⟩ := hrel
    have HGK := Lib.hid hgk
    have HWR := Lib.hid hwr
    have HG := Lib.hid hg
    have hi0 : 0 ≤ (i : Int) := by omega
    clear hgk hwr hg
    by_cases hin : i < n
    · have hd1 : decide ((i : Int) < (n : Int)) = true := decide_eq_true (by omega)
      have hi1 : (i : Int) < (n : Int) := by omega
      obtain ⟨y, hy⟩ : ∃ y, x[i]? = some y := ⟨_, List.getElem?_eq_getElem (by have := HN.out; omega)⟩
      rcases HEL.out with h0 | ⟨b, off, rfl, hbF, hbl, hget⟩
      · omega
      obtain ⟨ys, hA, hr⟩ := hget i y hy
      obtain ⟨za0, zn0, zc0, z1, za2, zn2, zc2, rfl⟩ := shape_ForeignKey hr
      have q0 : wr.cell? ⟨b, off + i * 3, none⟩ = some (.slice za0 zn0 zc0) := ((HG.out.below HW.out).cell (p := ⟨b, off + i * 3 + 0, none⟩) hbF).trans (hA 0 _ rfl)
      have q1 : wr.cell? ⟨b, off + i * 3 + 1, none⟩ = some (.string z1) := ((HG.out.below HW.out).cell (p := ⟨b, off + i * 3 + 1, none⟩) hbF).trans (hA 1 _ rfl)
      have q2 : wr.cell? ⟨b, off + i * 3 + 2, none⟩ = some (.slice za2 zn2 zc2) := ((HG.out.below HW.out).cell (p := ⟨b, off + i * 3 + 2, none⟩) hbF).trans (hA 2 _ rfl)
      have HR := Lib.hid (rd_low (HG.out.below HW.out) (Nat.le_of_lt HW.out.lt) hr)
      have HT := Lib.hid (show List.take (i + 1) x = List.take i x ++ [y] by rw [List.take_add_one, hy]; rfl)
      have HLE := Lib.hid (show (l ++ (numB (n : Int) ++ List.flatMap (enc tForeignKey) (List.take i x))).length + (enc tForeignKey y).length ≤ 140737488355328 from by
        have h1 := HL.out
        have h2 : List.flatMap (enc tForeignKey) x = List.flatMap (enc tForeignKey) (List.take i x) ++ (enc tForeignKey y ++ List.flatMap (enc tForeignKey) (List.drop (i + 1) x)) := by
          have : x = List.take i x ++ (y :: List.drop (i + 1) x) := by
            have h3 := List.take_append_drop (i + 1) x
            rw [HT.out] at h3
            simpa using h3.symm
          conv => lhs; rw [this]
          rw [List.flatMap_append, List.flatMap_cons]
        rw [h2] at h1
        simp only [List.length_append] at h1 ⊢; omega)
      clear hget hA hbF hy hr
      obtain ⟨W2, hW2⟩ : ∃ W2, W2 = wr.alloc (.cells #[.slice za0 zn0 zc0, .string z1, .slice za2 zn2 zc2] 154) := ⟨_, rfl⟩
      have HW2 := Lib.hid hW2
      have HB2 := Lib.hid (show Below wr.heap.size wr W2 by rw [hW2]; exact (Below.refl _ _).alloc (Nat.le_refl _) _)
      clear hW2
      go_wp2_with fail
      rw [← HW2.out]
      refine (put_ForeignKey W2 wb v' _ [.slice za0 zn0 zc0, .string z1, .slice za2 zn2 zc2] y (HWR.out.keep HB2.out) (rd_low (HB2.out.mono (Nat.le_of_lt HWR.out.lt)) (Nat.le_of_lt HWR.out.lt) HR.out) HLE.out).mono ?_
      rintro e w4 ⟨rfl, v2, hw2, hg2⟩
      have HFIN := Lib.hid (show Wr w4 wb v2 (l ++ (numB (n : Int) ++ List.flatMap (enc tForeignKey) (List.take (i + 1) x))) from by rw [HT.out, List.flatMap_append]; simpa using hw2)
      have HGF := Lib.hid ((HG.out.trans (Gw.of_below HB2.out)).trans hg2)
      clear hw2 hg2 q0 q1 q2
      go_wp2
      go_roundg (gk - 1)
      case rel => exact ⟨i + 1, v2, by omega, by have := HGK.out; omega, by go_num, HFIN.out, HGF.out⟩
      case measure => have := HGK.out; omega
    · obtain rfl : i = n := by omega
      have hd1 : decide ((i : Int) < (i : Int)) = false := by simp
      have HFIN := Lib.hid (show Wr wr wb v' (l ++ enc (.list tForeignKey) x) from by
        have := HWR.out
        rw [HN.out, List.take_length] at this
        exact this)
      clear hin
      go_wp2
      (first | go_end0 | refine bodyPost_ret (results_none rfl _ _ _) rfl ?_)
      exact ⟨rfl, v', HFIN.out, HG.out⟩

theorem shape_Constraint {w : World} {F : Nat → Prop} {cs : List Value} {x : Ty.T tConstraint} (h : (Ty.rd tConstraint).rd w F cs x) : ∃ (z0 : Int) (za1 : Option Addr) (zn1 zc1 : Nat), cs = [.int .i64 z0, .slice za1 zn1 zc1] := by
  obtain ⟨u0, r0, rfl, ⟨rfl, _⟩, ⟨_, _, _, rfl, _⟩⟩ := h
  exact ⟨_, _, _, _, rfl⟩

set_option maxRecDepth 100000 in
set_option maxHeartbeats 4000000 in
theorem put_Constraint : PutC 113 tConstraint := by
  intro w wb v0 l cs x hw hx hl
  obtain ⟨u0, r0, rfl, h0, h1⟩ := hx
  obtain ⟨c0, rfl⟩ : ∃ c0, u0 = [c0] := by match u0, (Ty.rd .num).len h0 with | [c0], _ => exact ⟨c0, rfl⟩
  obtain ⟨c1, rfl⟩ : ∃ c1, r0 = [c1] := by match r0, (Ty.rd (.list .num)).len h1 with | [c1], _ => exact ⟨c1, rfl⟩
  show Calls _ _ #[_, .agg #[c0, c1]] _ _
  obtain ⟨e0, he0⟩ : ∃ e, e = enc .num x.1 := ⟨_, rfl⟩
  obtain ⟨e1, he1⟩ : ∃ e, e = enc (.list .num) x.2 := ⟨_, rfl⟩
  have henc : enc tConstraint x = (e0 ++ e1) := by rw [he0, he1]; rfl
  rw [henc] at hl ⊢
  simp only [List.length_append] at hl
  have HL := Lib.hid hl
  have HW := Lib.hid hw
  have HE0 := Lib.hid he0
  have HE1 := Lib.hid he1
  obtain ⟨W0, hW0⟩ : ∃ W0, W0 = w.alloc (.cells #[c0, c1] 156) := ⟨_, rfl⟩
  have hb0 : Below w.heap.size w W0 := by rw [hW0]; exact (Below.refl _ _).alloc (Nat.le_refl _) _
  have HB0 := Lib.hid hb0
  have HWW := Lib.hid (hw.keep hb0)
  have HX0 := Lib.hid (rd_low (hb0.mono (Nat.le_of_lt hw.lt)) (Nat.le_of_lt hw.lt) h0)
  have HX1 := Lib.hid (rd_low (hb0.mono (Nat.le_of_lt hw.lt)) (Nat.le_of_lt hw.lt) h1)
  have HBX := Lib.hid (show ∀ w' v', Gw wb v0 v' W0 w' → ∀ (j : Nat) u, ([c0, c1] : List Value)[j]? = some u → w'.cell? ⟨w.heap.size, j, none⟩ = some u from fun w' v' hg j u hu => by
    refine (hg.box HWW.out w.heap.size hw.lt (fun e => Nat.lt_irrefl _ (hw.row.ge _ e).2) (by rw [hW0]; simp) j).trans ?_
    rw [hW0]
    have := new_cells w [c0, c1] 156 j u hu
    rw [Addr.add_mid, Nat.zero_add] at this; exact this)
  have HW0 := Lib.hid hW0
  clear hW0 hb0 hw hl henc he0 he1 h0 h1
  go_enter Tryz.func113, Tryz.ntmps113
  go_wp2_with fail
  rw [← HW0.out]
  refine (put_num W0 wb v0 l [c0] _ HWW.out HX0.out (by rw [← HE0.out]; have := HL.out; (try simp only [List.length_append]); omega)).mono ?_
  rintro e w1 ⟨rfl, v1, hw, hg⟩
  rw [← HE0.out] at hw
  have HW1 := Lib.hid (show Wr w1 wb v1 (l ++ e0) from by simpa only [List.append_assoc] using hw)
  have HG1 := Lib.hid (hg)
  clear hw hg
  have q0 := HBX.out _ _ HG1.out 1 _ rfl
  go_wp2_with fail
  refine (put_ints w1 wb v1 (l ++ e0) [c1] _ HW1.out (rd_low (HG1.out.below HWW.out) (Nat.le_of_lt HWW.out.lt) HX1.out) (by rw [← HE1.out]; have := HL.out; (try simp only [List.length_append]); omega)).mono ?_
  rintro e w2 ⟨rfl, v2, hw, hg⟩
  rw [← HE1.out] at hw
  have HW2 := Lib.hid (show Wr w2 wb v2 (l ++ (e0 ++ e1)) from by simpa only [List.append_assoc] using hw)
  have HG2 := Lib.hid (HG1.out.trans hg)
  clear hw hg q0
  go_wp2
  (first | go_end0 | refine bodyPost_ret (results_none rfl _ _ _) rfl ?_)
  exact ⟨rfl, v2, HW2.out, (Gw.of_below HB0.out).trans HG2.out⟩

set_option maxRecDepth 100000 in
set_option maxHeartbeats 4000000 in
theorem list_Constraint : ListC 112 113 tConstraint := by
  intro w wb v0 l c x hw hx hl
  obtain ⟨a, n, cap, ec, hn, hcap, hcm, hel⟩ := hx
  obtain rfl : c = .slice a n cap := by simpa using ec
  have hnw : (Lit.int .i64 (n : Int)).wf = true := by unfold maxLen at hcm; simp [Lit.wf, IntKind.min, IntKind.max, IntKind.bits, IntKind.signed]; omega
  have HNW := Lib.hid hnw
  have HN := Lib.hid (show n = List.length x from hn)
  have HEL := Lib.hid hel
  have HW := Lib.hid hw
  have hle : l.length + (numB (List.length x) ++ List.flatMap (enc tConstraint) x).length ≤ 140737488355328 := hl
  rw [List.length_append, ← HN.out] at hle
  have HL := Lib.hid hle
  have hn0 : 0 ≤ (n : Int) := by omega
  have hn1 : (n : Int) ≤ 9223372036854775807 := by unfold maxLen at hcm; omega
  clear hnw hn hel hw hle hl hcap hcm ec
  go_enter Tryz.func112, Tryz.ntmps112
  go_wp2_with fail
  refine (put_num w wb v0 l [.int .i64 (n : Int)] (n : Int) HW.out ⟨rfl, HNW.out⟩ (by have := HL.out; show _ + (numB (n : Int)).length ≤ _; omega)).mono ?_
  rintro e w1 ⟨rfl, v1, hw1, hg1⟩
  have HW1 := Lib.hid (show Wr w1 wb v1 (l ++ numB (n : Int)) from hw1)
  have HG1 := Lib.hid hg1
  clear hw1 hg1
  go_wp2
  go_loopg [14] n (fun gk t14 wr => ∃ (i : Nat) (v' : Value), i ≤ n ∧ gk + i = n ∧ t14 = .int .i64 (i : Int) ∧ Wr wr wb v' (l ++ (numB (n : Int) ++ List.flatMap (enc tConstraint) (List.take i x))) ∧ Gw wb v0 v' w wr)
  case atStart => exact ⟨0, v1, by omega, by omega, rfl, by simpa using HW1.out, HG1.out⟩
  case round =>
    obtain ⟨i, v', hi, hgk, rfl, hwr, hg⟩ := hrel
    have HGK := Lib.hid hgk
    have HWR := Lib.hid hwr
    have HG := Lib.hid hg
    have hi0 : 0 ≤ (i : Int) := by omega
    clear hgk hwr hg
    by_cases hin : i < n
    · have hd1 : decide ((i : Int) < (n : Int)) = true := decide_eq_true (by omega)
      have hi1 : (i : Int) < (n : Int) := by omega
      obtain ⟨y, hy⟩ : ∃ y, x[i]? = some y := ⟨_, List.getElem?_eq_getElem (by have := HN.out; omega)⟩
      rcases HEL.out with h0 | ⟨b, off, rfl, hbF, hbl, hget⟩
      · omega
      obtain ⟨ys, hA, hr⟩ := hget i y hy
      obtain ⟨z0, za1, zn1, zc1, rfl⟩ := shape_Constraint hr
      have q0 : wr.cell? ⟨b, off + i * 2, none⟩ = some (.int .i64 z0) := ((HG.out.below HW.out).cell (p := ⟨b, off + i * 2 + 0, none⟩) hbF).trans (hA 0 _ rfl)
      have q1 : wr.cell? ⟨b, off + i * 2 + 1, none⟩ = some (.slice za1 zn1 zc1) := ((HG.out.below HW.out).cell (p := ⟨b, off + i * 2 + 1, none⟩) hbF).trans (hA 1 _ rfl)
      have HR := Lib.hid (rd_low (HG.out.below HW.out) (Nat.le_of_lt HW.out.lt) hr)
      have HT := Lib.hid (show List.take (i + 1) x = List.take i x ++ [y] by rw [List.take_add_one, hy]; rfl)
      have HLE := Lib.hid (show (l ++ (numB (n : Int) ++ List.flatMap (enc tConstraint) (List.take i x))).length + (enc tConstraint y).length ≤ 140737488355328 from by
        have h1 := HL.out
        have h2 : List.flatMap (enc tConstraint) x = List.flatMap (enc tConstraint) (List.take i x) ++ (enc tConstraint y ++ List.flatMap (enc tConstraint) (List.drop (i + 1) x)) := by
          have : x = List.take i x ++ (y :: List.drop (i + 1) x) := by
            have h3 := List.take_append_drop (i + 1) x
            rw [HT.out] at h3
            simpa using h3.symm
          conv => lhs; rw [this]
          rw [List.flatMap_append, List.flatMap_cons]
        rw [h2] at h1
        simp only [List.length_append] at h1 ⊢; omega)
      clear hget hA hbF hy hr
      obtain ⟨W2, hW2⟩ : ∃ W2, W2 = wr.alloc (.cells #[.int .i64 z0, .slice za1 zn1 zc1] 156) := ⟨_, rfl⟩
      have HW2 := Lib.hid hW2
      have HB2 := Lib.hid (show Below wr.heap.size wr W2 by rw [hW2]; exact (Below.refl _ _).alloc (Nat.le_refl _) _)
      clear hW2
      go_wp2_with fail
      rw [← HW2.out]
      refine (put_Constraint W2 wb v' _ [.int .i64 z0, .slice za1 zn1 zc1] y (HWR.out.keep HB2.out) (rd_low (HB2.out.mono (Nat.le_of_lt HWR.out.lt)) (Nat.le_of_lt HWR.out.lt) HR.out) HLE.out).mono ?_
      rintro e w4 ⟨rfl, v2, hw2, hg2⟩
      have HFIN := Lib.hid (show Wr w4 wb v2 (l ++ (numB (n : Int) ++ List.flatMap (enc tConstraint) (List.take (i + 1) x))) from by rw [HT.out, List.flatMap_append]; simpa using hw2)
      have HGF := Lib.hid ((HG.out.trans (Gw.of_below HB2.out)).trans hg2)
      clear hw2 hg2 q0 q1
      go_wp2
      go_roundg (gk - 1)
      case rel => exact ⟨i + 1, v2, by omega, by have := HGK.out; omega, by go_num, HFIN.out, HGF.out⟩
      case measure => have := HGK.out; omega
    · obtain rfl : i = n := by omega
      have hd1 : decide ((i : Int) < (i : Int)) = false := by simp
      have HFIN := Lib.hid (show Wr wr wb v' (l ++ enc (.list tConstraint) x) from by
        have := HWR.out
        rw [HN.out, List.take_length] at this
        exact this)
      clear hin
      go_wp2
      (first | go_end0 | refine bodyPost_ret (results_none rfl _ _ _) rfl ?_)
      exact ⟨rfl, v', HFIN.out, HG.out⟩

theorem shape_Schema {w : World} {F : Nat → Prop} {cs : List Value} {x : Ty.T tSchema} (h : (Ty.rd tSchema).rd w F cs x) : ∃ (z0 : ByteArray) (za1 : Option Addr) (zn1 zc1 : Nat) (za2 : Option Addr) (zn2 zc2 : Nat) (za3 : Option Addr) (zn3 zc3 : Nat) (za4 : Option Addr) (zn4 zc4 : Nat), cs = [.string z0, .slice za1 zn1 zc1, .slice za2 zn2 zc2, .slice za3 zn3 zc3, .slice za4 zn4 zc4] := by
  obtain ⟨u0, r0, rfl, ⟨rfl, _⟩, u1, r1, rfl, ⟨_, _, _, rfl, _⟩, u2, r2, rfl, ⟨_, _, _, rfl, _⟩, u3, r3, rfl, ⟨_, _, _, rfl, _⟩, ⟨_, _, _, rfl, _⟩⟩ := h
  exact ⟨_, _, _, _, _, _, _, _, _, _, _, _, _, rfl⟩

set_option maxRecDepth 100000 in
set_option maxHeartbeats 4000000 in
theorem put_Schema : PutC 56 tSchema := by
  intro w wb v0 l cs x hw hx hl
  obtain ⟨u0, r0, rfl, h0, u1, r1, rfl, h1, u2, r2, rfl, h2, u3, r3, rfl, h3, h4⟩ := hx
  obtain ⟨c0, rfl⟩ : ∃ c0, u0 = [c0] := by match u0, (Ty.rd .str).len h0 with | [c0], _ => exact ⟨c0, rfl⟩
  obtain ⟨c1, rfl⟩ : ∃ c1, u1 = [c1] := by match u1, (Ty.rd (.list tSchemaVersion)).len h1 with | [c1], _ => exact ⟨c1, rfl⟩
  obtain ⟨c2, rfl⟩ : ∃ c2, u2 = [c2] := by match u2, (Ty.rd (.list .num)).len h2 with | [c2], _ => exact ⟨c2, rfl⟩
  obtain ⟨c3, rfl⟩ : ∃ c3, u3 = [c3] := by match u3, (Ty.rd (.list tForeignKey)).len h3 with | [c3], _ => exact ⟨c3, rfl⟩
  obtain ⟨c4, rfl⟩ : ∃ c4, r3 = [c4] := by match r3, (Ty.rd (.list tConstraint)).len h4 with | [c4], _ => exact ⟨c4, rfl⟩
  show Calls _ _ #[_, .agg #[c0, c1, c2, c3, c4]] _ _
  obtain ⟨e0, he0⟩ : ∃ e, e = enc .str x.1 := ⟨_, rfl⟩
  obtain ⟨e1, he1⟩ : ∃ e, e = enc (.list tSchemaVersion) x.2.1 := ⟨_, rfl⟩
  obtain ⟨e2, he2⟩ : ∃ e, e = enc (.list .num) x.2.2.1 := ⟨_, rfl⟩
  obtain ⟨e3, he3⟩ : ∃ e, e = enc (.list tForeignKey) x.2.2.2.1 := ⟨_, rfl⟩
  obtain ⟨e4, he4⟩ : ∃ e, e = enc (.list tConstraint) x.2.2.2.2 := ⟨_, rfl⟩
  have henc : enc tSchema x = (e0 ++ (e1 ++ (e2 ++ (e3 ++ e4)))) := by rw [he0, he1, he2, he3, he4]; rfl
  rw [henc] at hl ⊢
  simp only [List.length_append] at hl
  have HL := Lib.hid hl
  have HW := Lib.hid hw
  have HE0 := Lib.hid he0
  have HE1 := Lib.hid he1
  have HE2 := Lib.hid he2
  have HE3 := Lib.hid he3
  have HE4 := Lib.hid he4
  obtain ⟨W0, hW0⟩ : ∃ W0, W0 = w.alloc (.cells #[c0, c1, c2, c3, c4] 69) := ⟨_, rfl⟩
  have hb0 : Below w.heap.size w W0 := by rw [hW0]; exact (Below.refl _ _).alloc (Nat.le_refl _) _
  have HB0 := Lib.hid hb0
  have HWW := Lib.hid (hw.keep hb0)
  have HX0 := Lib.hid (rd_low (hb0.mono (Nat.le_of_lt hw.lt)) (Nat.le_of_lt hw.lt) h0)
  have HX1 := Lib.hid (rd_low (hb0.mono (Nat.le_of_lt hw.lt)) (Nat.le_of_lt hw.lt) h1)
  have HX2 := Lib.hid (rd_low (hb0.mono (Nat.le_of_lt hw.lt)) (Nat.le_of_lt hw.lt) h2)
  have HX3 := Lib.hid (rd_low (hb0.mono (Nat.le_of_lt hw.lt)) (Nat.le_of_lt hw.lt) h3)
  have HX4 := Lib.hid (rd_low (hb0.mono (Nat.le_of_lt hw.lt)) (Nat.le_of_lt hw.lt) h4)
  have HBX := Lib.hid (show ∀ w' v', Gw wb v0 v' W0 w' → ∀ (j : Nat) u, ([c0, c1, c2, c3, c4] : List Value)[j]? = some u → w'.cell? ⟨w.heap.size, j, none⟩ = some u from fun w' v' hg j u hu => by
    refine (hg.box HWW.out w.heap.size hw.lt (fun e => Nat.lt_irrefl _ (hw.row.ge _ e).2) (by rw [hW0]; simp) j).trans ?_
    rw [hW0]
    have := new_cells w [c0, c1, c2, c3, c4] 69 j u hu
    rw [Addr.add_mid, Nat.zero_add] at this; exact this)
  have HW0 := Lib.hid hW0
  clear hW0 hb0 hw hl henc he0 he1 he2 he3 he4 h0 h1 h2 h3 h4
  go_enter Tryz.func56, Tryz.ntmps56
  go_wp2_with fail
  rw [← HW0.out]
  refine (put_str W0 wb v0 l [c0] _ HWW.out HX0.out (by rw [← HE0.out]; have := HL.out; (try simp only [List.length_append]); omega)).mono ?_
  rintro e w1 ⟨rfl, v1, hw, hg⟩
  rw [← HE0.out] at hw
  have HW1 := Lib.hid (show Wr w1 wb v1 (l ++ e0) from by simpa only [List.append_assoc] using hw)
  have HG1 := Lib.hid (hg)
  clear hw hg
  have q0 := HBX.out _ _ HG1.out 1 _ rfl
  go_wp2_with fail
  refine (list_SchemaVersion w1 wb v1 (l ++ e0) c1 _ HW1.out (rd_low (HG1.out.below HWW.out) (Nat.le_of_lt HWW.out.lt) HX1.out) (by rw [← HE1.out]; have := HL.out; (try simp only [List.length_append]); omega)).mono ?_
  rintro e w2 ⟨rfl, v2, hw, hg⟩
  rw [← HE1.out] at hw
  have HW2 := Lib.hid (show Wr w2 wb v2 (l ++ (e0 ++ e1)) from by simpa only [List.append_assoc] using hw)
  have HG2 := Lib.hid (HG1.out.trans hg)
  clear hw hg q0
  have q0 := HBX.out _ _ HG2.out 2 _ rfl
  go_wp2_with fail
  refine (put_ints w2 wb v2 (l ++ (e0 ++ e1)) [c2] _ HW2.out (rd_low (HG2.out.below HWW.out) (Nat.le_of_lt HWW.out.lt) HX2.out) (by rw [← HE2.out]; have := HL.out; (try simp only [List.length_append]); omega)).mono ?_
  rintro e w3 ⟨rfl, v3, hw, hg⟩
  rw [← HE2.out] at hw
  have HW3 := Lib.hid (show Wr w3 wb v3 (l ++ (e0 ++ (e1 ++ e2))) from by simpa only [List.append_assoc] using hw)
  have HG3 := Lib.hid (HG2.out.trans hg)
  clear hw hg q0
  have q0 := HBX.out _ _ HG3.out 3 _ rfl
  go_wp2_with fail
  refine (list_ForeignKey w3 wb v3 (l ++ (e0 ++ (e1 ++ e2))) c3 _ HW3.out (rd_low (HG3.out.below HWW.out) (Nat.le_of_lt HWW.out.lt) HX3.out) (by rw [← HE3.out]; have := HL.out; (try simp only [List.length_append]); omega)).mono ?_
  rintro e w4 ⟨rfl, v4, hw, hg⟩
  rw [← HE3.out] at hw
  have HW4 := Lib.hid (show Wr w4 wb v4 (l ++ (e0 ++ (e1 ++ (e2 ++ e3)))) from by simpa only [List.append_assoc] using hw)
  have HG4 := Lib.hid (HG3.out.trans hg)
  clear hw hg q0
  have q0 := HBX.out _ _ HG4.out 4 _ rfl
  go_wp2_with fail
  refine (list_Constraint w4 wb v4 (l ++ (e0 ++ (e1 ++ (e2 ++ e3)))) c4 _ HW4.out (rd_low (HG4.out.below HWW.out) (Nat.le_of_lt HWW.out.lt) HX4.out) (by rw [← HE4.out]; have := HL.out; (try simp only [List.length_append]); omega)).mono ?_
  rintro e w5 ⟨rfl, v5, hw, hg⟩
  rw [← HE4.out] at hw
  have HW5 := Lib.hid (show Wr w5 wb v5 (l ++ (e0 ++ (e1 ++ (e2 ++ (e3 ++ e4))))) from by simpa only [List.append_assoc] using hw)
  have HG5 := Lib.hid (HG4.out.trans hg)
  clear hw hg q0
  go_wp2
  (first | go_end0 | refine bodyPost_ret (results_none rfl _ _ _) rfl ?_)
  exact ⟨rfl, v5, HW5.out, (Gw.of_below HB0.out).trans HG5.out⟩
end Go.Proofs.YtfppjpmflpaffaaGreat
