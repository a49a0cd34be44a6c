/-
  Sort and Compact of slices of ints that a call owns; what comes back as a list of ints.
-/
import Derived.Test.YtpgaldkedeohaaaChkI
import Derived.Test.YtpgaldkedeohaaaExpD
import Derived.Test.YtpgaldkedeohaaaShelf
import Derived.Test.YtpgaldkedeohaaaMem
namespace Go.Proofs.Ytpgaldkedeohaaa
open Go.RowKit Go.Sort
set_option linter.unusedVariables false

/-- The result is a slice of these ints. -/
def IntsPost (l : List Int) (w : World) (e : Ending) (w' : World) : Prop := ∃ v, e = .returned v ∧ Sl w' 1 v l.length (l.map (Value.int .i64)) ∧ Below w.heap.size w w'

def srt (l : List Int) : List Int := l.mergeSort fun x y => decide (x ≤ y)
theorem srt_len (l : List Int) : (srt l).length = l.length := List.length_mergeSort l

def SortedAt (w : World) (S : Nat) (v : Value) (l : List Int) : Prop :=
  (l = [] ∧ ∃ a c, v = .slice a 0 c) ∨ (l ≠ [] ∧ ∃ g cap, v = .slice (some ⟨g, 0, none⟩) l.length cap ∧ l.length ≤ cap ∧ S ≤ g ∧ g < w.heap.size ∧ Go.Sort.Holds (Value.int .i64) w g 0 (srt l).toArray)

def SortPost (S : Nat) (v : Value) (l : List Int) (w : World) (e : Ending) (w' : World) : Prop := e = .returned (.tuple #[]) ∧ Below S w w' ∧ SortedAt w' S v l

theorem below_mapBlock {S g : Nat} (w : World) (f : Array Value → Array Value) (h : S ≤ g) : Below S w (mapBlock w g f) := by
  refine ⟨rfl, rfl, rfl, by simp [mapBlock], fun k hk => ?_⟩
  simp only [mapBlock, Array.getElem?_modify]
  rw [if_neg (by omega)]

theorem below_putRow {S g : Nat} (w : World) (off : Nat) (d : Array Int) (h : S ≤ g) : Below S w (putRow (Value.int .i64) w g off d) := below_mapBlock w _ h
theorem below_ahead {S : Nat} (w : World) (n : Nat) : Below S w (Sort.ahead w n) := ⟨rfl, rfl, rfl, Nat.le_refl _, fun _ _ => rfl⟩
theorem below_grow {S : Nat} (w : World) (os : Array Obj) (h : S ≤ w.heap.size) : Below S w (grow w os) := ⟨rfl, rfl, rfl, by simp, fun k hk => heap_grow_old w os (by omega)⟩

theorem own_holds {w : World} {S g cap n : Nat} {t : TypeId} {l : List Int} (h : w.ownsRow S t 1 (.slice (some ⟨g, 0, none⟩) n cap) n (l.map (Value.int .i64))) : Go.Sort.Holds (Value.int .i64) w g 0 l.toArray := by
  intro j hj
  have hn : l.length = n := by have := h.1; simpa using this
  have hj' : j < l.length := by simpa using hj
  have hc : w.cell? ⟨g, j, none⟩ = (l.map (Value.int .i64))[j]? := h.cellAt j (by omega)
  refine ⟨?_, ?_⟩
  · rw [Nat.zero_add, hc, List.getElem?_map, List.getElem?_eq_getElem hj', getElem!_pos l.toArray j hj]
    rfl
  · rw [Nat.zero_add]
    exact h.frozenAt j

theorem sort_own (S : Nat) (v : Value) (l : List Int) (w : World) (h : w.ownsRow S 3 1 v l.length (l.map (Value.int .i64))) (hS : S ≤ w.heap.size) (hl : l.length ≤ 1000000) :
    Calls Try.prog 27 #[v] w (SortPost S v l w) := by
  by_cases hl0 : l = []
  · subst hl0
    obtain ⟨a, c, hv⟩ : ∃ a c, v = .slice a 0 c := by
      rcases h.2 with ⟨rfl, _⟩ | ⟨g, cap, cur, rfl, _⟩
      · exact ⟨none, 0, rfl⟩
      · exact ⟨_, _, rfl⟩
    subst hv
    exact (Sh.slices_Sort_int_none a c w).mono fun e w' ⟨h1, h2⟩ => ⟨h1, by rw [h2]; exact Below.refl _ _, .inl ⟨rfl, a, c, rfl⟩⟩
  · have hpos : 0 < l.length := List.length_pos_iff.2 hl0
    obtain ⟨g, cap, rfl, hg, hgl⟩ := own_form h hpos
    have hh := own_holds h
    have hcap := own_len_cap h
    refine (Sh.slices_Sort_int g 0 cap l w hh hgl (by omega)).mono ?_
    rintro e w' ⟨h1, n, os, h2⟩
    refine ⟨h1, ?_, .inr ⟨hl0, g, cap, rfl, hcap, hg, ?_, ?_⟩⟩
    · rw [h2]
      exact ((below_ahead w n).trans (below_putRow _ _ _ hg)).trans (below_grow _ _ (by simp; exact hS))
    · rw [h2]; simp; omega
    · rw [h2]
      refine holds_grow _ _ _ _ _ _ (by simp; exact hgl) ?_
      exact holds_putRow _ _ _ _ l.toArray _ (holds_ahead _ _ _ _ _ _ hh) (by simp)

theorem compact_own (S : Nat) (v : Value) (l : List Int) (w : World) (h : SortedAt w S v l) (hl : l.length ≤ 1000000) :
    Calls Try.prog 28 #[v] w fun e w' => ∃ v', e = .returned v' ∧ Sl w' 1 v' (Xp.mrg l).length ((Xp.mrg l).map (Value.int .i64)) ∧ Below S w w' := by
  rcases h with ⟨rfl, a, c, rfl⟩ | ⟨hl0, g, cap, rfl, hcap, hg, hgl, hh⟩
  · exact (Sh.slices_Compact_int_empty a c w).mono fun e w' ⟨h1, h2⟩ => ⟨_, h1, ⟨rfl, .inl ⟨rfl, a, c, rfl⟩⟩, by rw [h2]; exact Below.refl _ _⟩
  · have hc := Sh.slices_Compact_int g 0 cap (srt l) w hh (by rw [srt_len]; omega) (by rw [srt_len]; exact hcap)
    rw [srt_len, show Lib.compact (srt l) = Xp.mrg l from Xp.compact_sort l] at hc
    refine hc.mono ?_
    rintro e w' ⟨h1, q, h2⟩
    have hle := Xp.mrg_len l
    have hsz : (Xp.mrg l ++ List.replicate (l.length - (Xp.mrg l).length) 0).toArray.size = (srt l).toArray.size := by
      simp [srt_len]; omega
    have hold := holds_putRow (Value.int .i64) (Sort.ahead w q) g 0 (srt l).toArray _ (holds_ahead _ _ q _ _ _ hh) hsz
    rw [← h2] at hold
    refine ⟨_, h1, ⟨by simp, ?_⟩, by rw [h2]; exact (below_ahead w q).trans (below_putRow _ _ _ hg)⟩
    refine .inr ⟨g, 0, cap, rfl, by omega, by rw [h2]; simp; exact hgl, fun j u hu => ?_⟩
    have hj : j < (Xp.mrg l).length := by have := (List.getElem?_eq_some_iff.1 hu).1; simpa using this
    have hd := (hold j (by simp; omega)).1
    rw [hd]
    rw [List.getElem?_map, List.getElem?_eq_getElem hj] at hu
    rw [← Option.some.inj hu, getElem!_pos _ j (by simp; omega)]
    simp [hj]

theorem sl_drew {w : World} {size n m : Nat} {v : Value} {xs : List Value} (h : Sl w size v n xs) : Sl (w.drewN m) size v n xs := h.keep (below_drewN (Below.refl _ _) m)

end Go.Proofs.Ytpgaldkedeohaaa
