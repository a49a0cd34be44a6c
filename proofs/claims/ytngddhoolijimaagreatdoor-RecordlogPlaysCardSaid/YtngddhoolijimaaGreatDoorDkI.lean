/-
  The disk's Restart and Clone; a nil disk.
-/
import Derived.Test.YtngddhoolijimaaGreatDoorDkH
namespace Go.Proofs.YtngddhoolijimaaGreatDoor
open Go.RowKit Go.Maps
set_option linter.unusedVariables false

theorem keep_nil (w : World) (B : DB) : Keep w B (.slice none 0 0) [] := ⟨fun z h => (by cases h), none, 0, rfl, fun k z h => (by simp at h)⟩

section
variable {w : World} {B : DB} {d : DK}

set_option maxRecDepth 100000 in
theorem dk_restart (h : IsDisk w B d) : Calls Tryz.prog 9 #[B.ptr] w fun e w' => e = .returned (.tuple #[]) ∧ Turns B w w' d.restart := by
  have c2 := h.hd
  cases hd : d.down with
  | false =>
    rw [hd] at c2
    have c3 := h.hf
    have f3 := h.fr 3
    have hr : d.restart = { d with fuse := 0 } := by unfold DK.restart; rw [if_neg (by simp [hd])]
    have H := Lib.hid (show Turns B w (w.setCell ⟨B.db, 3, none⟩ (.int .i64 0)) d.restart from ⟨by rw [hr]; exact h.setFuse (n := 0) (wf_small (by omega)), Chg.setCell _ _ (.inl rfl)⟩)
    clear h hr hd
    unfold DB.ptr
    go_enter Tryz.func9, Tryz.ntmps9
    go_wp2
    first | go_end0 | refine bodyPost_ret (results_none rfl _ _ _) rfl ?_
    exact ⟨rfl, H.out⟩
  | true =>
    rw [hd] at c2
    have hr : d.restart = { d.crash [] with down := false, fuse := 0 } := by unfold DK.restart; rw [if_pos hd]
    have hk := Lib.hid (dk_crash h (.slice none 0 0) [] (keep_nil w B) (by simp))
    have HR := Lib.hid hr
    clear h hr hd
    unfold DB.ptr at *
    go_enter Tryz.func9, Tryz.ntmps9
    go_wp2_with fail
    refine hk.out.mono ?_
    rintro e w1 ⟨rfl, ht⟩
    have d2 := ht.1.hd
    have f2 := ht.1.fr 2
    have d3 := ht.1.hf
    have f3 := ht.1.fr 3
    have H := Lib.hid (show Turns B w ((w1.setCell ⟨B.db, 2, none⟩ (.bool false)).setCell ⟨B.db, 3, none⟩ (.int .i64 0)) d.restart from
      ⟨by rw [HR.out]; exact (ht.1.setDown false).setFuse (n := 0) (wf_small (by omega)), (ht.2.trans (Chg.setCell _ _ (.inl rfl))).trans (Chg.setCell _ _ (.inl rfl))⟩)
    clear ht hk c2
    go_wp2
    first | go_end0 | refine bodyPost_ret (results_none rfl _ _ _) rfl ?_
    exact ⟨rfl, H.out⟩

theorem dk_sync (h : IsDisk w B d) : Calls Tryz.prog 79 #[B.ptr] w fun e w' => e = .returned (.int .i64 d.sync.2) ∧ Turns B w w' d.sync.1 := by
  cases hd : d.down with
  | true => exact dk_sync_down h hd
  | false =>
    cases hb : d.burn.2 with
    | true => exact dk_sync_fall h hd hb
    | false => exact dk_sync_ok h hd hb

end

/-- A nil disk. -/
theorem dn_failAfter (n : Int) (w : World) : Calls Tryz.prog 10 #[.pointer none, .int .i64 n] w fun e w' => e = .returned (.tuple #[]) ∧ w' = w := by
  go_enter Tryz.func10, Tryz.ntmps10
  go_wp2
  first | go_end0 | refine bodyPost_ret (results_none rfl _ _ _) rfl ?_
  exact ⟨rfl, rfl⟩

theorem dn_crash (kv : Value) (w : World) : Calls Tryz.prog 12 #[.pointer none, kv] w fun e w' => e = .returned (.tuple #[]) ∧ w' = w := by
  go_enter Tryz.func12, Tryz.ntmps12
  go_wp2
  first | go_end0 | refine bodyPost_ret (results_none rfl _ _ _) rfl ?_
  exact ⟨rfl, rfl⟩

theorem dn_restart (w : World) : Calls Tryz.prog 9 #[.pointer none] w fun e w' => e = .returned (.tuple #[]) ∧ w' = w := by
  go_enter Tryz.func9, Tryz.ntmps9
  go_wp2
  first | go_end0 | refine bodyPost_ret (results_none rfl _ _ _) rfl ?_
  exact ⟨rfl, rfl⟩

theorem dn_check (n : Int) (w : World) : Calls Tryz.prog 59 #[.pointer none, .int .i64 n] w fun e w' => e = .returned (.int .i64 1) ∧ w' = w := by
  go_enter Tryz.func59, Tryz.ntmps59
  go_wp2
  go_ret
  exact ⟨rfl, rfl⟩

theorem dn_read (n : Int) (w : World) : Calls Tryz.prog 40 #[.pointer none, .int .i64 n] w fun e w' => e = .returned (.tuple #[.slice none 0 0, .int .i64 1]) ∧ w' = w := by
  have hk := Lib.hid (dn_check n w)
  go_enter Tryz.func40, Tryz.ntmps40
  go_wp2_with fail
  refine hk.out.mono ?_
  rintro e w' ⟨rfl, rfl⟩
  go_wp2
  go_ret2
  exact ⟨rfl, rfl⟩

theorem dn_write (n : Int) (v : Value) (w : World) : Calls Tryz.prog 78 #[.pointer none, .int .i64 n, v] w fun e w' => e = .returned (.int .i64 1) ∧ w' = w := by
  have hk := Lib.hid (dn_check n w)
  go_enter Tryz.func78, Tryz.ntmps78
  go_wp2_with fail
  refine hk.out.mono ?_
  rintro e w' ⟨rfl, rfl⟩
  go_wp2
  go_ret
  exact ⟨rfl, rfl⟩

theorem dn_sync (w : World) : Calls Tryz.prog 79 #[.pointer none] w fun e w' => e = .returned (.int .i64 1) ∧ w' = w := by
  go_enter Tryz.func79, Tryz.ntmps79
  go_wp2
  go_ret
  exact ⟨rfl, rfl⟩

theorem dn_pages (w : World) : Calls Tryz.prog 22 #[.pointer none] w fun e w' => e = .returned (.int .i64 0) ∧ w' = w := by
  go_enter Tryz.func22, Tryz.ntmps22
  go_wp2
  go_ret
  exact ⟨rfl, rfl⟩

theorem dn_down (w : World) : Calls Tryz.prog 23 #[.pointer none] w fun e w' => e = .returned (.bool false) ∧ w' = w := by
  go_enter Tryz.func23, Tryz.ntmps23
  go_wp2
  go_ret
  exact ⟨rfl, rfl⟩

end Go.Proofs.YtngddhoolijimaaGreatDoor
