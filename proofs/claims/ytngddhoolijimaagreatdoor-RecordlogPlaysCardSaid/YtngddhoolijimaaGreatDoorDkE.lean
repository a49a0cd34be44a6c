/-
  The disk's Sync.
-/
import Derived.Test.YtngddhoolijimaaGreatDoorDkD
namespace Go.Proofs.YtngddhoolijimaaGreatDoor
open Go.RowKit Go.Maps
set_option linter.unusedVariables false

theorem over_step {st : List Page} {buf : Nat → Option Page} {S : Nat → Bool} {i : Nat} {p : Page} (hb : buf i = some p) : (over st buf S).set i p = over st buf (fun j => S j || decide (j = i)) := by
  apply List.ext_getElem?
  intro j
  by_cases hj : j < st.length
  · have hq := List.getElem?_eq_getElem hj
    rw [over_get hq]
    by_cases e : i = j
    · subst e
      rw [List.getElem?_set_self (by rw [over_len]; exact hj), hb]; simp
    · rw [List.getElem?_set_ne e, over_get hq]
      have : decide (j = i) = false := by simp; omega
      rw [this, Bool.or_false]
  · rw [List.getElem?_eq_none (by rw [List.length_set, over_len]; omega), List.getElem?_eq_none (by rw [over_len]; omega)]

theorem over_same {st : List Page} {buf : Nat → Option Page} {S S' : Nat → Bool} (h : ∀ i p, buf i = some p → S i = S' i) : over st buf S = over st buf S' := by
  apply List.ext_getElem?
  intro j
  by_cases hj : j < st.length
  · have hq := List.getElem?_eq_getElem hj
    rw [over_get hq, over_get hq]
    cases hb : buf j with
    | none => simp
    | some p => rw [h j p hb]
  · rw [List.getElem?_eq_none (by rw [over_len]; omega), List.getElem?_eq_none (by rw [over_len]; omega)]

theorem over_nothing {st : List Page} {buf : Nat → Option Page} {S : Nat → Bool} (h : ∀ i p, buf i = some p → S i = false) : over st buf S = st := by
  rw [over_same (S' := fun _ => false) h]
  apply List.ext_getElem?
  intro j
  by_cases hj : j < st.length
  · have hq := List.getElem?_eq_getElem hj
    rw [over_get hq, hq]; simp
  · rw [List.getElem?_eq_none (by rw [over_len]; omega), List.getElem?_eq_none (by omega)]

theorem DK.Ok.over {d : DK} (h : d.Ok) (S : Nat → Bool) : DK.Ok { d with st := over d.st d.buf S } := by
  refine ⟨fun p hp => ?_, fun i p hp => ?_, by simpa [over_len] using h.few, h.fuse⟩
  · obtain ⟨i, hi⟩ := mem_of_get_ hp
    have hl : i < d.st.length := by have := (List.getElem?_eq_some_iff.1 hi).1; rwa [over_len] at this
    have hq := List.getElem?_eq_getElem hl
    rw [over_get hq] at hi
    cases hi
    split
    · cases hb : d.buf i with
      | none => exact h.page hq
      | some b => exact (h.inside i b hb).2
    · exact h.page hq
  · have := h.inside i p hp
    exact ⟨by simpa [over_len] using this.1, this.2⟩

/-- What the round's entry is. -/
theorem entry_of {D : DataW Unit} {buf : Nat → Option Page} (h : MapOf D buf) {x : Int} {p : Page} (hat : ∀ zd, D.atKey (.int .i64 x) zd = .lit (.string p)) : ∃ i : Nat, x = (i : Int) ∧ buf i = some p := by
  have hhas := has_true_of_atKey hat
  have h0 : 0 ≤ x := by
    rcases Int.lt_or_le x 0 with hx | hx
    · rw [h.neg x hx] at hhas; cases hhas
    · exact hx
  obtain ⟨i, rfl⟩ : ∃ i : Nat, x = (i : Int) := ⟨x.toNat, by omega⟩
  refine ⟨i, rfl, ?_⟩
  rw [h.has] at hhas
  obtain ⟨q, hq⟩ := Option.isSome_iff_exists.1 hhas
  have := (h.at_ i q .nil hq).symm.trans (hat .nil)
  rw [hq]
  injection this with this
  injection this with this
  rw [this]

theorem grown_setCells (w : World) (b o : Nat) (vs : List Value) : w.grownBy (w.setCells b o vs) (some b) := by
  obtain ⟨h1, h2, h3, h4⟩ := setCells_same b vs o w
  exact ⟨h1, h2, h3, by rw [h4]; exact Nat.le_refl _, fun j _ hj => heap_setCells b vs o w j (fun e => hj (by rw [e]))⟩

theorem grown_drew (w : World) : w.grownBy w.drew none := ⟨rfl, rfl, rfl, Nat.le_refl _, fun _ _ _ => rfl⟩

section
variable {w : World} {B : DB} {d : DK}

set_option maxRecDepth 100000 in
theorem dk_sync_down (h : IsDisk w B d) (hd : d.down = true) : Calls Tryz.prog 79 #[B.ptr] w fun e w' => e = .returned (.int .i64 d.sync.2) ∧ Turns B w w' d.sync.1 := by
  have hr : d.sync = (d, 13) := by unfold DK.sync; rw [if_pos hd]
  have H := Lib.hid h
  have c2 := h.hd
  rw [hd] at c2
  rw [hr]
  clear h hr hd
  unfold DB.ptr
  simp only
  generalize hdb : B.db = db at *
  clear hdb
  go_enter Tryz.func79, Tryz.ntmps79
  go_wp2
  go_ret
  exact ⟨rfl, H.out, Chg.refl _ _⟩

set_option maxRecDepth 100000 in
theorem dk_sync_fall (h : IsDisk w B d) (hd : d.down = false) (hb : d.burn.2 = true) : Calls Tryz.prog 79 #[B.ptr] w fun e w' => e = .returned (.int .i64 d.sync.2) ∧ Turns B w w' d.sync.1 := by
  have hr : d.sync = (d.burn.1, 13) := by unfold DK.sync; rw [if_neg (by simp [hd]), if_pos hb]
  have c2 := h.hd
  have hk := Lib.hid (dk_burn h)
  rw [hb] at hk
  rw [hd] at c2
  rw [hr]
  clear h hr hd hb
  unfold DB.ptr at *
  simp only
  generalize hdb : B.db = db at *
  clear hdb
  go_enter Tryz.func79, Tryz.ntmps79
  go_wp2_with fail
  refine hk.out.mono ?_
  rintro e w1 ⟨rfl, ht⟩
  go_wp2
  go_ret
  exact ⟨rfl, ht⟩
end

end Go.Proofs.YtngddhoolijimaaGreatDoor
