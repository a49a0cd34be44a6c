/-
  The reference's decoder in memory; fail.
-/
import Derived.Test.YtfppjpmflpaffaaGreatCdD
namespace Go.Proofs.YtfppjpmflpaffaaGreat
open Go.RowKit
set_option linter.unusedVariables false
set_option linter.unusedSimpArgs false

/-- The reference's reader: all the bytes, a place, an error. -/
structure RefP (w : World) (rb : Nat) (B : List UInt8) (i : Nat) (err : Int) : Prop where
  lt : rb < w.heap.size
  free : ∀ j, w.frozen? ⟨rb, j, none⟩ = false
  c0 : ∃ v, w.cell? ⟨rb, 0, none⟩ = some v ∧ Dat w v B ∧ Low rb v
  c1 : w.cell? ⟨rb, 1, none⟩ = some (.int .i64 (i : Int))
  c2 : w.cell? ⟨rb, 2, none⟩ = some (.int .i64 err)
  le : i ≤ B.length
  max : B.length ≤ 1073741824

/-- What is left, or the error. -/
def RefS (B : List UInt8) (i : Nat) (err : Int) (s : St) : Prop := (∀ r, s = .ok r → err = 0 ∧ r = B.drop i) ∧ (∀ e, s = .error e → err = e ∧ (e = 2 ∨ e = 5))
structure RefR (w : World) (rb : Nat) (B : List UInt8) (s : St) : Prop where
  at_ : ∃ i err, RefP w rb B i err ∧ RefS B i err s

section
variable {w w' : World} {rb i : Nat} {B : List UInt8} {err : Int} {s : St}

theorem RefP.keep (h : RefP w rb B i err) (hc : Chg (fun b => rb < b) w w') : RefP w' rb B i err := by
  have c : ∀ j, w'.cell? ⟨rb, j, none⟩ = w.cell? ⟨rb, j, none⟩ := fun j => hc.cell (a := ⟨rb, j, none⟩) (Nat.lt_irrefl rb) h.lt
  obtain ⟨v, h0, h1, h2⟩ := h.c0
  exact ⟨Nat.lt_of_lt_of_le h.lt hc.size, fun j => (hc.frozen (a := ⟨rb, j, none⟩) (Nat.lt_irrefl rb) h.lt).trans (h.free j), ⟨v, (c 0).trans h0, dat_chg h1 h2 hc (fun b hb => by omega), h2⟩, (c 1).trans h.c1, (c 2).trans h.c2, h.le, h.max⟩

theorem RefP.set1 (h : RefP w rb B i err) (j : Nat) (hj : j ≤ B.length) : RefP (w.setCell ⟨rb, 1, none⟩ (.int .i64 (j : Int))) rb B j err ∧ Chg (fun b => b = rb) w (w.setCell ⟨rb, 1, none⟩ (.int .i64 (j : Int))) := by
  have g : Chg (fun b => b = rb) w (w.setCell ⟨rb, 1, none⟩ (.int .i64 (j : Int))) := Chg.setCell _ _ rfl
  obtain ⟨v, h0, h1, h2⟩ := h.c0
  exact ⟨⟨by have := h.lt; simpa using this, fun j => by rw [World.frozen?_setCell]; exact h.free j, ⟨v, by rw [World.cell?_setCell_other _ _ _ _ (by simp)]; exact h0, dat_chg h1 h2 g (fun b hb => by omega), h2⟩, World.cell?_setCell_same _ _ _ h.c1, by rw [World.cell?_setCell_other _ _ _ _ (by simp)]; exact h.c2, hj, h.max⟩, g⟩

theorem RefP.set2 (h : RefP w rb B i err) (e : Int) : RefP (w.setCell ⟨rb, 2, none⟩ (.int .i64 e)) rb B i e ∧ Chg (fun b => b = rb) w (w.setCell ⟨rb, 2, none⟩ (.int .i64 e)) := by
  have g : Chg (fun b => b = rb) w (w.setCell ⟨rb, 2, none⟩ (.int .i64 e)) := Chg.setCell _ _ rfl
  obtain ⟨v, h0, h1, h2⟩ := h.c0
  exact ⟨⟨by have := h.lt; simpa using this, fun j => by rw [World.frozen?_setCell]; exact h.free j, ⟨v, by rw [World.cell?_setCell_other _ _ _ _ (by simp)]; exact h0, dat_chg h1 h2 g (fun b hb => by omega), h2⟩, by rw [World.cell?_setCell_other _ _ _ _ (by simp)]; exact h.c1, World.cell?_setCell_same _ _ _ h.c2, h.le, h.max⟩, g⟩

theorem RefR.lt (h : RefR w rb B s) : rb < w.heap.size := by obtain ⟨i, err, hp, _⟩ := h.at_; exact hp.lt
theorem RefR.keep (h : RefR w rb B s) (hc : Chg (fun b => rb < b) w w') : RefR w' rb B s := by
  obtain ⟨i, err, hp, hs⟩ := h.at_
  exact ⟨⟨i, err, hp.keep hc, hs⟩⟩
theorem RefR.below (h : RefR w rb B s) (hb : Below w.heap.size w w') : RefR w' rb B s := h.keep (Chg.of_below hb)
theorem RefP.drewN (h : RefP w rb B i err) (n : Nat) : RefP (w.drewN n) rb B i err := h.keep ((Chg.refl _ _).drewN n)
end

/-- What a decoder of the reference promises of its function. -/
def RGetC (f : Nat) (t : Ty) : Prop := ∀ (w : World) (rb : Nat) (B : List UInt8) (s : St), RefR w rb B s → Mod t s →
  Calls Tryz.prog f #[.pointer (some ⟨rb, 0, none⟩)] w fun e w' => ∃ cs : List Value, e = .returned (goV cs) ∧ t.rd.rd w' (w.heap.size ≤ ·) cs (dec t s).1 ∧ RefR w' rb B (dec t s).2 ∧ Chg (fun b => b = rb) w w'

set_option maxRecDepth 100000 in
theorem rcd_fail {w : World} {rb i : Nat} {B : List UInt8} {err : Int} (h : RefP w rb B i err) (e : Int) : Calls Tryz.prog 123 #[.pointer (some ⟨rb, 0, none⟩), .int .i64 e] w fun e' w' => e' = .returned (.tuple #[]) ∧ RefP w' rb B i (if err = 0 then e else err) ∧ Chg (fun b => b = rb) w w' := by
  have f2 := h.free 2
  have c2 := h.c2
  by_cases he : err = 0
  · subst he
    rw [if_pos rfl]
    have H := Lib.hid (h.set2 e)
    clear h
    go_enter Tryz.func123, Tryz.ntmps123
    go_wp2
    all_goals (first | go_end0 | refine bodyPost_ret (results_none rfl _ _ _) rfl ?_)
    exact ⟨rfl, H.out.1, H.out.2⟩
  · rw [if_neg he]
    have g0 : (err == 0) = false := beq_eq_false_iff_ne.2 he
    have H := Lib.hid h
    clear h he
    go_enter Tryz.func123, Tryz.ntmps123
    go_wp2
    all_goals (first | go_end0 | refine bodyPost_ret (results_none rfl _ _ _) rfl ?_)
    exact ⟨rfl, H.out, Chg.refl _ _⟩
end Go.Proofs.YtfppjpmflpaffaaGreat
