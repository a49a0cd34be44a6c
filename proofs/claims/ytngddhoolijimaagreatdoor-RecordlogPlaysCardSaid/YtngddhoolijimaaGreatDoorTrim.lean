/-
  bytes.Trim of zeros: whether a page is blank.
-/
import Derived.Test.YtngddhoolijimaaGreatDoorDkSh
import Derived.Test.YtngddhoolijimaaGreatDoorPfJ
import Derived.Shelf.Bytes.SlTrim
import Derived.Ground.SlbvProg
namespace Go.Proofs.YtngddhoolijimaaGreatDoor
open Go.RowKit Go.Shelf
set_option linter.unusedVariables false

shelf_lay SlLaysV.n6 Slbv 6 at Tryz as Sh.trim

theorem left_len (p : Option Addr) (k c j : Nat) : ∃ a c', Lib.leftV p k c j = .slice a (k - j) c' := by
  unfold Lib.leftV Lib.fromV
  split
  · exact ⟨_, _, by congr 1; omega⟩
  · exact ⟨_, _, rfl⟩

theorem dropWhile_len (q : UInt8 → Bool) (l : List UInt8) : (l.dropWhile q).length ≤ l.length := by
  induction l with
  | nil => exact Nat.le_refl _
  | cons a l ih =>
    rw [List.dropWhile_cons]
    split
    · rw [List.length_cons]; omega
    · exact Nat.le_refl _

theorem dropWhile_all {q : UInt8 → Bool} {l : List UInt8} : l.dropWhile q = [] ↔ l.all q = true := by
  induction l with
  | nil => simp
  | cons a l ih =>
    rw [List.dropWhile_cons, List.all_cons]
    by_cases h : q a = true
    · rw [if_pos h, ih, h]; simp
    · rw [if_neg h]; simp [h]

theorem trim_blank (l : List UInt8) : (Lib.trimRightS l [0]).length - ((Lib.trimRightS l [0]).length - (Lib.trimS l [0]).length) = 0 ↔ blank l = true := by
  have hq : (fun b : UInt8 => ([0] : List UInt8).contains b) = (fun b => b == 0) := by
    funext b
    rw [List.contains_cons, List.contains_nil, Bool.or_false]
  have h1 : (Lib.trimS l [0]).length ≤ (Lib.trimRightS l [0]).length := dropWhile_len _ _
  have h2 : blank l = true ↔ Lib.trimS l [0] = [] := by
    unfold Lib.trimS Lib.trimLeftS Lib.trimRightS blank
    rw [dropWhile_all]
    simp only [hq]
    rw [List.all_reverse]
    constructor
    · intro h
      rw [dropWhile_all.2 (by rw [List.all_reverse]; exact h)]; rfl
    · intro h
      have : l.reverse.dropWhile (fun b => b == 0) = [] := by
        refine Decidable.byContradiction fun hne => ?_
        obtain ⟨a, r, hr⟩ := List.exists_cons_of_ne_nil hne
        have ha : (a == 0) = false := by
          have := List.head?_dropWhile_not (fun b : UInt8 => b == 0) l.reverse
          rw [hr] at this
          simpa using this
        rw [hr, List.all_cons, ha] at h
        simp at h
      have := dropWhile_all.1 this
      rwa [List.all_reverse] at this
  rw [h2, ← List.length_eq_zero_iff]
  omega

theorem trim_call {w : World} {p : Option Addr} {n c : Nat} {l : List UInt8} (h : Data w (.slice p n c) l) (hnc : n ≤ c) (hc : c ≤ maxLen) :
    Calls Tryz.prog 46 #[.slice p n c, .string ⟨#[0]⟩] w fun e w' => ∃ a n' c', e = .returned (.slice a n' c') ∧ (n' = 0 ↔ blank l = true) ∧ Below w.heap.size w w' := by
  have hz := zero_of_info (P := Tryz.prog) (t := Sh.trim_ren.t 27) (v := .agg (Array.replicate 256 (.bool false))) (n := 256) (by kernel_rfl)
  have hn : l.length = n := by
    rcases h.2 with ⟨h0, a, c', e⟩ | ⟨b, off, c', e, _⟩
    · cases e; exact h0
    · cases e; rfl
  refine (Any.bytes_Trim_ascii Sh.trim hz.1 hz.2 p n c l ⟨#[0]⟩ w hn hnc (by unfold maxLen at hc; omega) ?_ (by decide) (fun j b hb => by
    have hm : b ∈ ([0] : List UInt8) := List.mem_of_getElem? hb
    rw [List.mem_singleton.1 hm]; decide)).mono ?_
  · intro hpos
    rcases h.2 with ⟨h0, _⟩ | ⟨g, off, c', e, hnc, hg, hx⟩
    · omega
    · cases e
      refine ⟨g, off, rfl, fun i hi => ?_⟩
      rw [Lib.getD_lt_sl l i 0 (by omega)]
      exact hx i _ (pc_get (List.getElem?_eq_getElem (by omega)))
  · rintro e w' ⟨rfl, hb⟩
    obtain ⟨a, c', e⟩ := left_len p (Lib.trimRightS l [0]).length c ((Lib.trimRightS l [0]).length - (Lib.trimS l [0]).length)
    exact ⟨a, _, c', by rw [← e], trim_blank l, hb⟩

end Go.Proofs.YtngddhoolijimaaGreatDoor
