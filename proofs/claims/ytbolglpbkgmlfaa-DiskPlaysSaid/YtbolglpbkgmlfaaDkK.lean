/-
  The walks of DiskNil and DiskSizes.
-/
import Derived.Test.YtbolglpbkgmlfaaDkJ
namespace Go.Proofs.Ytbolglpbkgmlfaa
open Go.RowKit Go.Maps
set_option linter.unusedVariables false

set_option maxRecDepth 100000 in
set_option maxHeartbeats 4000000 in
theorem nil_walk (n : Int) (dv kv : Value) (W : World) : Calls Try.prog 6 #[.int .i64 n, dv, kv] W (Holds W) := by
  go_enter Try.func6, Try.ntmps6
  go_wp2_with fail
  refine (dn_failAfter n _).mono ?_
  rintro e w1 ⟨rfl, rfl⟩
  go_wp2_with fail
  refine (dn_crash kv _).mono ?_
  rintro e w1 ⟨rfl, rfl⟩
  go_wp2_with fail
  refine (dn_restart _).mono ?_
  rintro e w1 ⟨rfl, rfl⟩
  go_wp2_with fail
  refine (dn_read n _).mono ?_
  rintro e w1 ⟨rfl, rfl⟩
  go_wp2_with fail
  refine (awake_any _).mono ?_
  rintro e w2 ⟨rfl, hb⟩
  have HB := Lib.hid hb
  clear hb
  go_wp2_with fail
  refine (dn_write n dv _).mono ?_
  rintro e w1 ⟨rfl, rfl⟩
  go_wp2_with fail
  refine (dn_sync _).mono ?_
  rintro e w1 ⟨rfl, rfl⟩
  go_wp2_with fail
  refine (dn_pages _).mono ?_
  rintro e w1 ⟨rfl, rfl⟩
  go_wp2_with fail
  refine (dn_down _).mono ?_
  rintro e w1 ⟨rfl, rfl⟩
  go_wp2_with fail
  refine (dn_clone _).mono ?_
  rintro e w1 ⟨rfl, rfl⟩
  go_wp2
  go_ret
  exact ⟨rfl, HB.out⟩

theorem new_facts (k : Nat) (i : Int) (hi : ¬ (i < 0 ∨ (k : Int) ≤ i)) : (DK.new k).chk i = 0 ∧ (DK.new k).read i = zeroPage := by
  have hc : (DK.new k).chk i = 0 := by
    unfold DK.chk DK.new
    simp only [List.length_replicate, Bool.false_eq_true, if_false]
    rw [if_neg hi]
  refine ⟨hc, ?_⟩
  unfold DK.read
  rw [if_pos hc]
  unfold DK.get DK.new
  simp only [Option.getD_none]
  rw [List.getD_eq_getElem?_getD, List.getElem?_replicate, if_pos (by omega)]
  rfl

theorem new_range (k : Nat) (i : Int) (hi : i < 0 ∨ (k : Int) ≤ i) : (DK.new k).chk i = 10 ∧ (DK.new k).read i = [] := by
  have hc : (DK.new k).chk i = 10 := by
    unfold DK.chk DK.new
    simp only [List.length_replicate, Bool.false_eq_true, if_false]
    rw [if_pos hi]
  refine ⟨hc, ?_⟩
  unfold DK.read
  rw [if_neg (by rw [hc]; decide)]

set_option maxRecDepth 100000 in
set_option maxHeartbeats 4000000 in
theorem sizes_out (pages i : Int) (k : Nat) (hk : min (max pages 0) 4096 = (k : Int)) (hwi : (Lit.int .i64 i).wf = true) (hi : i < 0 ∨ (k : Int) ≤ i) (W : World) : Calls Try.prog 3 #[.int .i64 pages, .int .i64 i] W (Holds W) := by
  obtain ⟨f1, f2⟩ := new_range k i hi
  have F1 := Lib.hid f1
  have F2 := Lib.hid f2
  have HN := Lib.hid (fun w => dk_new pages k hk w)
  have HWI := Lib.hid hwi
  have g : (decide (i < 0) = true) ∨ (decide (i < 0) = false ∧ decide ((k : Int) ≤ i) = true) := by
    by_cases h : i < 0
    · exact .inl (by simpa using h)
    · exact .inr ⟨by simpa using h, by simp; omega⟩
  clear f1 f2 hi hwi
  rcases g with g | ⟨g, g2⟩
  all_goals
    go_enter Try.func3, Try.ntmps3
    go_wp2_with fail
    refine (HN.out _).mono ?_
    rintro e w1 ⟨B, rfl, hD, hB1, hb1, hb2, hb3⟩
    have HD1 := Lib.hid hD
    have HB1 := Lib.hid hB1
    clear hD hB1
    unfold DB.ptr
    go_wp2_with fail
    refine (dk_read HD1.out i HWI.out).mono ?_
    rintro e w5 ⟨v, rfl, hr⟩
    rw [F1.out]
    have hdat := read_cells hr
    have HB5 := Lib.hid (HB1.out.trans (hr.2.mono HB1.out.size))
    have HD5 := Lib.hid (HD1.out.below hr.2)
    clear hr
    rw [F2.out] at hdat
    obtain ⟨a, c, rfl⟩ := Sl.len hdat
    clear hdat
    go_wp2_with fail
    refine (awake_any _).mono ?_
    rintro e w6 ⟨rfl, hb⟩
    have HD6 := Lib.hid (HD5.out.below hb)
    have HB6 := Lib.hid (below_chain HB5.out hb)
    clear hb
    go_wp2_with fail
    refine (dk_pages HD6.out).mono ?_
    rintro e w' ⟨rfl, rfl⟩
    rw [show (DK.new k).st.length = k by simp [DK.new]]
    go_wp2
    go_ret
    exact ⟨rfl, HB6.out⟩

set_option maxRecDepth 100000 in
set_option maxHeartbeats 4000000 in
theorem sizes_in (pages i : Int) (k : Nat) (hk : min (max pages 0) 4096 = (k : Int)) (hwi : (Lit.int .i64 i).wf = true) (hi : ¬ (i < 0 ∨ (k : Int) ≤ i)) (W : World) : Calls Try.prog 3 #[.int .i64 pages, .int .i64 i] W (Holds W) := by
  obtain ⟨f1, f2⟩ := new_facts k i hi
  have F1 := Lib.hid f1
  have F2 := Lib.hid f2
  have HN := Lib.hid (fun w => dk_new pages k hk w)
  have HWI := Lib.hid hwi
  have g : decide (i < 0) = false := by simp; omega
  have g2 : decide ((k : Int) ≤ i) = false := by simp; omega
  clear f1 f2 hi hwi
  go_enter Try.func3, Try.ntmps3
  go_wp2_with fail
  refine (HN.out _).mono ?_
  rintro e w1 ⟨B, rfl, hD, hB1, hb1, hb2, hb3⟩
  have HD1 := Lib.hid hD
  have HB1 := Lib.hid hB1
  clear hD hB1
  unfold DB.ptr
  go_wp2_with fail
  refine (dk_read HD1.out i HWI.out).mono ?_
  rintro e w5 ⟨v, rfl, hr⟩
  rw [F1.out]
  have hdat := read_cells hr
  have HB5 := Lib.hid (HB1.out.trans (hr.2.mono HB1.out.size))
  have HD5 := Lib.hid (HD1.out.below hr.2)
  clear hr
  rw [F2.out] at hdat
  obtain ⟨g0, off, c, rfl, hnc, hg, hcl⟩ := Sl.some_ hdat (by show 0 < 128; omega)
  rw [show zeroPage.length = 128 from rfl] at hnc ⊢
  have HCL := Lib.hid (show ∀ j, j < 128 → w5.cell? ⟨g0, off + j, none⟩ = some (.int .u8 0) from fun j hj => hcl j _ (by rw [show pc zeroPage = List.replicate 128 (.int .u8 0) from rfl, List.getElem?_replicate, if_pos hj]))
  clear hcl hdat
  go_wp2
  go_loopg [48] 128 (fun gk t wr => ∃ j : Nat, j ≤ 128 ∧ gk + j = 128 ∧ t = .int .i64 (j : Int) ∧ wr = w5)
  case atStart => exact ⟨0, by omega, by omega, rfl, rfl⟩
  case round =>
    obtain ⟨j, hj, hgk, rfl, rfl⟩ := hrel
    have HGK := Lib.hid hgk
    clear hgk
    by_cases hjk : j < 128
    · have hd : decide ((j : Int) < 128) = true := by simp; omega
      have hcj := HCL.out j hjk
      have hj0 : (0 : Int) ≤ (j : Int) := by omega
      have hj1 : (j : Int) < 128 := by omega
      go_wp2
      go_roundg (gk - 1)
      case rel => exact ⟨j + 1, by omega, by have := HGK.out; omega, rfl, rfl⟩
      case measure => have := HGK.out; omega
    · have hd : decide ((j : Int) < 128) = false := by simp; omega
      go_wp2_with fail
      refine (awake_any _).mono ?_
      rintro e w6 ⟨rfl, hb⟩
      have HD6 := Lib.hid (HD5.out.below hb)
      have HB6 := Lib.hid (below_chain HB5.out hb)
      clear hb
      go_wp2_with fail
      refine (dk_pages HD6.out).mono ?_
      rintro e w' ⟨rfl, rfl⟩
      rw [show (DK.new k).st.length = k by simp [DK.new]]
      go_wp2
      go_ret
      exact ⟨rfl, HB6.out⟩

theorem sizes_walk (pages i : Int) (hwp : (Lit.int .i64 pages).wf = true) (hwi : (Lit.int .i64 i).wf = true) (W : World) : Calls Try.prog 3 #[.int .i64 pages, .int .i64 i] W (Holds W) := by
  obtain ⟨k, hk⟩ : ∃ k : Nat, min (max pages 0) 4096 = (k : Int) := ⟨(min (max pages 0) 4096).toNat, by omega⟩
  by_cases hi : i < 0 ∨ (k : Int) ≤ i
  · exact sizes_out pages i k hk hwi hi W
  · exact sizes_in pages i k hk hwi hi W

end Go.Proofs.Ytbolglpbkgmlfaa
