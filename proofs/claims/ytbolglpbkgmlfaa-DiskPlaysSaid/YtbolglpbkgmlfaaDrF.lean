/-
  The reference's disk: Sync (every way), Restart.
-/
import Derived.Test.YtbolglpbkgmlfaaDrE
namespace Go.Proofs.Ytbolglpbkgmlfaa
open Go.RowKit Go.Maps
set_option linter.unusedVariables false

section
variable {w : World} {R : RB} {d : DK} {Bad : Nat → Prop}

theorem burn_len (d : DK) : d.burn.1.st.length = d.st.length := by unfold DK.burn; split <;> rfl

set_option maxRecDepth 100000 in
theorem rf_sync (h : IsRef w R d Bad) : Calls Try.prog 27 #[R.ptr] w fun e w' => e = .returned (.int .i64 d.sync.2) ∧ RTurns R Bad w w' d d.sync.1 := by
  cases hd : d.down with
  | true =>
    have hr : d.sync = (d, 13) := by unfold DK.sync; rw [if_pos hd]
    have H := Lib.hid h
    have c2 := h.hd
    rw [hd] at c2
    rw [hr]
    clear h hr hd
    unfold RB.ptr
    simp only
    generalize hdb : R.rb = db at *
    clear hdb
    go_enter Try.func27, Try.ntmps27
    go_wp2
    go_ret
    exact ⟨rfl, H.out, Chg.refl _ _, rfl⟩
  | false =>
    cases hb : d.burn.2 with
    | true =>
      have hr : d.sync = (d.burn.1, 13) := by unfold DK.sync; rw [if_neg (by simp [hd]), if_pos hb]
      have c2 := h.hd
      have hk := Lib.hid (rf_burn h)
      rw [hb] at hk
      rw [hd] at c2
      rw [hr]
      clear h hr hd hb
      unfold RB.ptr at *
      simp only
      generalize hdb : R.rb = db at *
      clear hdb
      go_enter Try.func27, Try.ntmps27
      go_wp2_with fail
      refine hk.out.mono ?_
      rintro e w1 ⟨rfl, ht⟩
      go_wp2
      go_ret
      exact ⟨rfl, ht⟩
    | false => exact rf_sync_ok h hd hb

set_option maxRecDepth 100000 in
theorem rf_restart (h : IsRef w R d Bad) (hBad : ∀ b, Bad b → b < w.heap.size) : Calls Try.prog 30 #[R.ptr] w fun e w' => e = .returned (.tuple #[]) ∧ RTurns R Bad w w' d d.restart := by
  have c2 := h.hd
  cases hd : d.down with
  | false =>
    rw [hd] at c2
    have c3 := h.hf
    have f2 := h.fr 3
    have f3 := h.fr 4
    have hr : d.restart = { d with fuse := 0 } := by unfold DK.restart; rw [if_neg (by simp [hd])]
    have H := Lib.hid (show RTurns R Bad w ((w.setCell ⟨R.rb, 3, none⟩ (.bool false)).setCell ⟨R.rb, 4, none⟩ (.int .i64 0)) d d.restart from by
      have := (h.setDown false).setFuse (m := 0) (wf_small (by omega))
      rw [hr]
      refine ⟨?_, (Chg.setCell _ _ (.inl rfl)).trans (Chg.setCell _ _ (.inl rfl)), rfl⟩
      rw [← hd] at this ⊢
      exact this)
    clear h hr hd
    unfold RB.ptr
    go_enter Try.func30, Try.ntmps30
    go_wp2
    first | go_end0 | refine bodyPost_ret (results_none rfl _ _ _) rfl ?_
    exact ⟨rfl, H.out⟩
  | true =>
    rw [hd] at c2
    have hr : d.restart = { d.crash [] with down := false, fuse := 0 } := by unfold DK.restart; rw [if_pos hd]
    have hk := Lib.hid (rf_crash h hBad (.slice none 0 0) [] ⟨fun z h => (by cases h), none, 0, rfl, fun k z h => (by simp at h)⟩)
    have HR := Lib.hid hr
    clear h hr hd
    unfold RB.ptr at *
    go_enter Try.func30, Try.ntmps30
    go_wp2_with fail
    refine hk.out.mono ?_
    rintro e w1 ⟨rfl, ht⟩
    have d2 := ht.1.hd
    have f2 := ht.1.fr 3
    have d3 := ht.1.hf
    have f3 := ht.1.fr 4
    have H := Lib.hid (show RTurns R Bad w ((w1.setCell ⟨R.rb, 3, none⟩ (.bool false)).setCell ⟨R.rb, 4, none⟩ (.int .i64 0)) d d.restart from
      ⟨by rw [HR.out]; exact (ht.1.setDown false).setFuse (m := 0) (wf_small (by omega)), (ht.2.1.trans (Chg.setCell _ _ (.inl rfl))).trans (Chg.setCell _ _ (.inl rfl)), by rw [HR.out]; exact ht.2.2⟩)
    clear ht hk c2
    go_wp2
    first | go_end0 | refine bodyPost_ret (results_none rfl _ _ _) rfl ?_
    exact ⟨rfl, H.out⟩
end

end Go.Proofs.Ytbolglpbkgmlfaa
