/-
  The page file's small functions: Capacity, journal, head, Capacity of a file, check.
-/
import Derived.Test.YtngddhoolijimaaGreatDoorDkI
import Derived.Test.YtngddhoolijimaaGreatDoorPf
namespace Go.Proofs.YtngddhoolijimaaGreatDoor
open Go.RowKit
set_option linter.unusedVariables false

/-- A file in memory, on a disk. -/
structure IsFile (w : World) (fb : Nat) (B : DB) (f : PF) : Prop where
  ne : ¬ B.has fb
  hd : w.cell? ⟨fb, 0, none⟩ = some (.pointer (some ⟨B.db, 0, none⟩))
  hn : w.cell? ⟨fb, 1, none⟩ = some (.int .i64 (f.n : Int))
  hf : w.cell? ⟨fb, 2, none⟩ = some (.bool f.failed)
  fr : ∀ j, w.frozen? ⟨fb, j, none⟩ = false
  few : f.n ≤ 4096

section
variable {w w' : World} {fb : Nat} {B : DB} {f : PF} {d : DK}

theorem cell_lt {w : World} {a : Addr} {v : Value} (h : w.cell? a = some v) : a.block < w.heap.size := by
  unfold World.cell? at h
  split at h
  · rename_i hb; exact (Array.getElem?_eq_some_iff.1 hb).1
  · cases h

theorem IsFile.lt (h : IsFile w fb B f) : fb < w.heap.size := cell_lt h.hd

theorem IsFile.keep (h : IsFile w fb B f) {F : Nat → Prop} (hc : Chg F w w') (hF : ¬ F fb) : IsFile w' fb B f :=
  ⟨h.ne, (hc.cell (a := ⟨fb, 0, none⟩) hF h.lt).trans h.hd, (hc.cell (a := ⟨fb, 1, none⟩) hF h.lt).trans h.hn, (hc.cell (a := ⟨fb, 2, none⟩) hF h.lt).trans h.hf, fun j => (hc.frozen (a := ⟨fb, j, none⟩) hF h.lt).trans (h.fr j), h.few⟩

theorem IsFile.turns (h : IsFile w fb B f) {d' : DK} (hc : Turns B w w' d') : IsFile w' fb B f := h.keep hc.2 h.ne

abbrev pfPtr (fb : Nat) : Value := .pointer (some ⟨fb, 0, none⟩)

/-- Capacity, of any number. -/
def capI (n : Int) : Int := if n < 7 then 0 else (min n 4096 - 4).tdiv 3

theorem capI_nat (n : Nat) : capI (n : Int) = (capN n : Int) := by
  unfold capI capN
  by_cases h : n < 7
  · rw [if_pos h, if_pos (by omega)]; rfl
  · rw [if_neg h, if_neg (by omega), Int.tdiv_eq_ediv_of_nonneg (by omega)]
    omega

set_option maxRecDepth 100000 in
theorem pf_Capacity (n : Int) (w : World) : Calls Tryz.prog 21 #[.int .i64 n] w fun e w' => e = .returned (.int .i64 (capI n)) ∧ w' = w := by
  by_cases h : n < 7
  · have g : decide (n < 7) = true := by simpa using h
    rw [show capI n = 0 from if_pos h]
    go_enter Tryz.func21, Tryz.ntmps21
    go_wp2
    go_ret
    exact ⟨rfl, rfl⟩
  · have g : decide (n < 7) = false := by simpa using h
    rw [show capI n = (min n 4096 - 4).tdiv 3 from if_neg h]
    have hr : 7 ≤ n := by omega
    have hb : 3 ≤ min n 4096 - 4 ∧ min n 4096 - 4 ≤ 4092 := by omega
    have hq : 0 ≤ (min n 4096 - 4).tdiv 3 ∧ (min n 4096 - 4).tdiv 3 ≤ 4092 := by rw [Int.tdiv_eq_ediv_of_nonneg (by omega)]; omega
    go_enter Tryz.func21, Tryz.ntmps21
    go_wp2
    go_ret
    exact ⟨rfl, rfl⟩

set_option maxRecDepth 100000 in
theorem pf_journal (h : IsFile w fb B f) (i : Nat) (hi : i ≤ 100000) : Calls Tryz.prog 42 #[pfPtr fb, .int .i64 (i : Int)] w fun e w' => e = .returned (.int .i64 ((f.n + i : Nat) : Int)) ∧ w' = w := by
  have c1 := h.hn
  have hb : 0 ≤ (f.n : Int) ∧ (f.n : Int) ≤ 4096 := by have := h.few; omega
  have e1 : ((f.n + i : Nat) : Int) = (f.n : Int) + (i : Int) := by omega
  rw [e1]
  clear h
  generalize (f.n : Int) = n at *
  have hi' : 0 ≤ (i : Int) ∧ (i : Int) ≤ 100000 := by omega
  generalize (i : Int) = k at *
  have hs : 0 ≤ n + k ∧ n + k ≤ 104096 := by omega
  unfold pfPtr
  go_enter Tryz.func42, Tryz.ntmps42
  go_wp2
  go_ret
  exact ⟨rfl, rfl⟩

set_option maxRecDepth 100000 in
theorem pf_head (h : IsFile w fb B f) : Calls Tryz.prog 41 #[pfPtr fb] w fun e w' => e = .returned (.int .i64 ((2 * f.n : Nat) : Int)) ∧ w' = w := by
  have c1 := h.hn
  have hb : 0 ≤ (f.n : Int) ∧ (f.n : Int) ≤ 4096 := by have := h.few; omega
  have e1 : ((2 * f.n : Nat) : Int) = 2 * (f.n : Int) := by omega
  rw [e1]
  clear h
  generalize (f.n : Int) = n at *
  have hs : 0 ≤ 2 * n ∧ 2 * n ≤ 8192 := by omega
  unfold pfPtr
  go_enter Tryz.func41, Tryz.ntmps41
  go_wp2
  go_ret
  exact ⟨rfl, rfl⟩

set_option maxRecDepth 100000 in
theorem pf_cap (h : IsFile w fb B f) : Calls Tryz.prog 27 #[pfPtr fb] w fun e w' => e = .returned (.int .i64 (f.n : Int)) ∧ w' = w := by
  have c1 := h.hn
  clear h
  unfold pfPtr
  go_enter Tryz.func27, Tryz.ntmps27
  go_wp2
  go_ret
  exact ⟨rfl, rfl⟩

/-- What a call comes to that turns nothing but the disk and the file. -/
def PTurns (fb : Nat) (B : DB) (w w' : World) (f' : PF) (d' : DK) : Prop := IsFile w' fb B f' ∧ IsDisk w' B d' ∧ Chg (fun b => B.has b ∨ b = fb) w w'

theorem IsFile.fail (h : IsFile w fb B f) : IsFile (w.setCell ⟨fb, 2, none⟩ (.bool true)) fb B { f with failed := true } := by
  have h0 := h.hd
  have h1 := h.hn
  have h2 := h.hf
  exact ⟨h.ne, by go_simp, by go_simp, by go_simp, fun j => by have := h.fr j; go_simp, h.few⟩

theorem fail_turns (h : IsFile w fb B f) (hd : IsDisk w B d) : PTurns fb B w (w.setCell ⟨fb, 2, none⟩ (.bool true)) { f with failed := true } d :=
  ⟨h.fail, hd.keep (F := fun b => b = fb) (Chg.setCell _ _ rfl) (fun b hb e => h.ne (e ▸ hb)), Chg.setCell _ _ (.inr rfl)⟩

set_option maxRecDepth 100000 in
theorem pf_check (h : IsFile w fb B f) (hd : IsDisk w B d) : Calls Tryz.prog 51 #[pfPtr fb] w fun e w' => e = .returned (.int .i64 (if f.down d then 13 else 0)) ∧ PTurns fb B w w' { f with failed := f.down d } d := by
  have c0 := h.hd
  have c2 := h.hf
  have hfr := h.fr 2
  have d2 := hd.hd
  have HQ := Lib.hid (And.intro h hd)
  have hn : ¬ fb = B.db := fun e => h.ne (.inl e)
  clear h hd
  unfold pfPtr PF.down
  generalize hf : f.failed = ff at *
  generalize hdn : d.down = dn at *
  cases ff with
  | true =>
    go_enter Tryz.func51, Tryz.ntmps51
    go_wp2
    go_ret
    exact ⟨rfl, by simpa [hf] using fail_turns HQ.out.1 HQ.out.2⟩
  | false =>
    cases dn with
    | true =>
      go_enter Tryz.func51, Tryz.ntmps51
      go_wp2
      go_ret
      exact ⟨rfl, by simpa using fail_turns HQ.out.1 HQ.out.2⟩
    | false =>
      go_enter Tryz.func51, Tryz.ntmps51
      go_wp2
      go_ret
      refine ⟨rfl, ?_, HQ.out.2, Chg.refl _ _⟩
      have : { f with failed := false } = f := by cases f; simp_all
      simpa [this] using HQ.out.1
end
end Go.Proofs.YtngddhoolijimaaGreatDoor
