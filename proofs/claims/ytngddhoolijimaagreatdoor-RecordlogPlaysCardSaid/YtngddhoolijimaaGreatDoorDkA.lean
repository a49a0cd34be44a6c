/-
  The disk's small functions: check, Pages, Down, burn, FailAfter.
-/
import Derived.Test.YtngddhoolijimaaGreatDoorDkR
namespace Go.Proofs.YtngddhoolijimaaGreatDoor
open Go.RowKit
set_option linter.unusedVariables false

/-- A pointer to a disk. -/
abbrev DB.ptr (B : DB) : Value := .pointer (some ⟨B.db, 0, none⟩)

section
variable {w : World} {B : DB} {d : DK}

set_option maxRecDepth 100000 in
theorem dk_check (h : IsDisk w B d) (i : Int) : Calls Tryz.prog 59 #[B.ptr, .int .i64 i] w fun e w' => e = .returned (.int .i64 (d.chk i)) ∧ w' = w := by
  obtain ⟨c, c0, hc⟩ := h.hs
  have c1 := h.hd
  have hv : d.chk i = (if d.down then 13 else if i < 0 ∨ (d.st.length : Int) ≤ i then 10 else 0) := rfl
  have hV := Lib.hid hv
  clear hv h
  unfold DB.ptr
  generalize B.db = db at *
  generalize B.sb = sb at *
  generalize d.st.length = n at *
  generalize d.down = dn at *
  generalize d.chk i = v at *
  cases dn with
  | true =>
    go_enter Tryz.func59, Tryz.ntmps59
    go_wp2
    go_ret
    exact ⟨by rw [hV.out]; rfl, rfl⟩
  | false =>
    by_cases h1 : i < 0
    · have g1 : decide (i < 0) = true := by simpa using h1
      go_enter Tryz.func59, Tryz.ntmps59
      go_wp2
      go_ret
      exact ⟨by rw [hV.out]; simp [h1], rfl⟩
    · have g1 : decide (i < 0) = false := by simpa using h1
      by_cases h2 : (n : Int) ≤ i
      · have g2 : decide ((n : Int) ≤ i) = true := by simpa using h2
        go_enter Tryz.func59, Tryz.ntmps59
        go_wp2
        go_ret
        exact ⟨by rw [hV.out]; simp [h2], rfl⟩
      · have g2 : decide ((n : Int) ≤ i) = false := by simpa using h2
        go_enter Tryz.func59, Tryz.ntmps59
        go_wp2
        go_ret
        exact ⟨by rw [hV.out]; simp [h1, h2], rfl⟩

set_option maxRecDepth 100000 in
theorem dk_pages (h : IsDisk w B d) : Calls Tryz.prog 22 #[B.ptr] w fun e w' => e = .returned (.int .i64 (d.st.length : Int)) ∧ w' = w := by
  obtain ⟨c, c0, hc⟩ := h.hs
  clear h
  unfold DB.ptr
  generalize B.db = db at *
  go_enter Tryz.func22, Tryz.ntmps22
  go_wp2
  go_ret
  exact ⟨rfl, rfl⟩

set_option maxRecDepth 100000 in
theorem dk_down (h : IsDisk w B d) : Calls Tryz.prog 23 #[B.ptr] w fun e w' => e = .returned (.bool d.down) ∧ w' = w := by
  have c1 := h.hd
  clear h
  unfold DB.ptr
  generalize B.db = db at *
  go_enter Tryz.func23, Tryz.ntmps23
  go_wp2
  go_ret
  exact ⟨rfl, rfl⟩

/-- What a call comes to that turns nothing but the disk. -/
def Turns (B : DB) (w w' : World) (d' : DK) : Prop := IsDisk w' B d' ∧ Chg B.has w w'

set_option maxRecDepth 100000 in
theorem dk_failAfter (h : IsDisk w B d) (n : Int) (hn : (Lit.int .i64 n).wf = true) : Calls Tryz.prog 10 #[B.ptr, .int .i64 n] w fun e w' => e = .returned (.tuple #[]) ∧ Turns B w w' (d.arm n) := by
  have hf := h.hf
  have f3 := h.fr 3
  have hmax : max n 0 = ((max n 0).toNat : Int) := by omega
  have hwf : (Lit.int .i64 (max n 0)).wf = true := by have := bounds_i64 hn; exact WalkArith.wf_i64 (by omega)
  have H := Lib.hid (show IsDisk (w.setCell ⟨B.db, 3, none⟩ (.int .i64 (max n 0))) B (d.arm n) from by rw [hmax]; exact h.setFuse (by rw [← hmax]; exact hwf))
  have HC := Lib.hid (show Chg B.has w (w.setCell ⟨B.db, 3, none⟩ (.int .i64 (max n 0))) from Chg.setCell _ _ (.inl rfl))
  unfold Turns DB.ptr
  clear h hmax hwf
  go_enter Tryz.func10, Tryz.ntmps10
  go_wp2
  all_goals (first | go_end0 | refine bodyPost_ret (results_none rfl _ _ _) rfl ?_)
  · rw [show max n 0 = 0 by omega] at H HC
    exact ⟨rfl, H.out, HC.out⟩
  · rw [show max n 0 = n by omega] at H HC
    exact ⟨rfl, H.out, HC.out⟩

set_option maxRecDepth 100000 in
theorem dk_burn (h : IsDisk w B d) : Calls Tryz.prog 95 #[B.ptr] w fun e w' => e = .returned (.bool d.burn.2) ∧ Turns B w w' d.burn.1 := by
  have hf := h.hf
  have hd := h.hd
  have f3 := h.fr 3
  have f2 := h.fr 2
  have hb := bounds_i64 h.ok.fuse
  have hbd : d.burn = if d.fuse = 0 then (d, false) else ({ d with fuse := d.fuse - 1, down := decide (d.fuse = 1) }, decide (d.fuse = 1)) := rfl
  by_cases h0 : d.fuse = 0
  · have g0 : decide ((d.fuse : Int) = 0) = true := by simp [h0]
    rw [hbd, if_pos h0]
    have H := Lib.hid h
    clear h hbd hb
    unfold Turns DB.ptr
    generalize hdb : B.db = db at *
    clear hdb
    generalize d.fuse = f at *
    go_enter Tryz.func95, Tryz.ntmps95
    go_wp2
    go_ret
    exact ⟨rfl, H.out, Chg.refl _ _⟩
  · have g0 : decide ((d.fuse : Int) = 0) = false := by simp; omega
    rw [hbd, if_neg h0]
    have h1 : IsDisk (w.setCell ⟨B.db, 3, none⟩ (.int .i64 ((d.fuse - 1 : Nat) : Int))) B { d with fuse := d.fuse - 1 } := h.setFuse (WalkArith.wf_i64 (n := ((d.fuse - 1 : Nat) : Int)) (by omega))
    have hcast : ((d.fuse - 1 : Nat) : Int) = (d.fuse : Int) - 1 := by omega
    have h2 := h1.setDown ((d.fuse : Int) - 1 == 0)
    have hdec : ((d.fuse : Int) - 1 == 0) = decide (d.fuse = 1) := by rw [Bool.eq_iff_iff]; simp; omega
    rw [hcast] at h2
    have HC : Chg B.has w ((w.setCell ⟨B.db, 3, none⟩ (.int .i64 ((d.fuse : Int) - 1))).setCell ⟨B.db, 2, none⟩ (.bool ((d.fuse : Int) - 1 == 0))) := (Chg.setCell _ _ (.inl rfl)).trans (Chg.setCell _ _ (.inl rfl))
    have H := Lib.hid h2
    have HC := Lib.hid HC
    have HD := Lib.hid hdec
    clear h h1 h2 hbd hdec hcast
    unfold Turns DB.ptr
    rw [← HD.out]
    go_enter Tryz.func95, Tryz.ntmps95
    go_wp2
    go_ret
    exact ⟨rfl, by simpa [HD.out] using H.out, HC.out⟩
end

end Go.Proofs.YtngddhoolijimaaGreatDoor
