/-
  Arrays that a call makes, of elements of any number of cells: what they hold, element by element. No program in sight.
-/
import Derived.Test.YtngddhoolijimaaGreatDoorBase
namespace Go.Proofs.YtngddhoolijimaaGreatDoor
open Go.RowKit

/-- How an element lies in memory. -/
structure Enc (α : Type) where
  cells : α → List Value
  size : Nat
  pos : 0 < size
  len : ∀ a, (cells a).length = size

def Enc.all {α : Type} (E : Enc α) (l : List α) : List Value := l.flatMap E.cells

theorem Enc.all_len {α : Type} (E : Enc α) (l : List α) : (E.all l).length = l.length * E.size := by
  unfold Enc.all
  induction l with
  | nil => simp
  | cons v l ih => rw [List.flatMap_cons, List.length_append, ih, E.len, List.length_cons, Nat.succ_mul]; omega

theorem Enc.all_cons {α : Type} (E : Enc α) (a : α) (l : List α) : E.all (a :: l) = E.cells a ++ E.all l := List.flatMap_cons
theorem Enc.all_append {α : Type} (E : Enc α) (a b : List α) : E.all (a ++ b) = E.all a ++ E.all b := List.flatMap_append

theorem Enc.all_get {α : Type} (E : Enc α) {l : List α} {i : Nat} {a : α} (h : l[i]? = some a) {j : Nat} (hj : j < E.size) : (E.all l)[i * E.size + j]? = (E.cells a)[j]? := by
  induction l generalizing i with
  | nil => cases h
  | cons u l ih =>
    rw [E.all_cons]
    cases i with
    | zero =>
      obtain rfl : u = a := by simpa using h
      rw [Nat.zero_mul, Nat.zero_add, List.getElem?_append_left (by rw [E.len]; exact hj)]
    | succ i =>
      have h' : l[i]? = some a := by simpa using h
      rw [List.getElem?_append_right (by rw [E.len, Nat.succ_mul]; omega), E.len, show (i + 1) * E.size + j - E.size = i * E.size + j by rw [Nat.succ_mul]; omega]
      exact ih h'

/-- Block g is the call's own array; these are its elements. -/
def OwnA {α : Type} (E : Enc α) (t : TypeId) (w : World) (base g n : Nat) (l : List α) : Prop := l.length = n ∧ w.ownsRow base t E.size (.slice (some ⟨g, 0, none⟩) n n) n (E.all l)

section
variable {α : Type} {E : Enc α} {t : TypeId} {w w' : World} {base g n : Nat} {l : List α}

theorem OwnA.cell (h : OwnA E t w base g n l) {i j : Nat} {a : α} {u : Value} (hi : l[i]? = some a) (hu : (E.cells a)[j]? = some u) : w.cell? ⟨g, i * E.size + j, none⟩ = some u := by
  have hl : i < l.length := (List.getElem?_eq_some_iff.1 hi).1
  have hj : j < E.size := by have := (List.getElem?_eq_some_iff.1 hu).1; rwa [E.len] at this
  have h1 := h.1
  have h2 : i * E.size + j < n * E.size := by
    have : (i + 1) * E.size ≤ n * E.size := Nat.mul_le_mul_right _ (by omega)
    rw [Nat.succ_mul] at this; omega
  have hc : w.cell? ⟨g, i * E.size + j, none⟩ = (E.all l)[i * E.size + j]? := h.2.cellAt _ h2
  exact hc.trans ((E.all_get hi hj).trans hu)

theorem OwnA.free (h : OwnA E t w base g n l) (j : Nat) : w.frozen? ⟨g, j, none⟩ = false := h.2.frozenAt j

theorem OwnA.lt (h : OwnA E t w base g n l) : g < w.heap.size ∧ base ≤ g := by
  rcases h.2.2 with ⟨e, _⟩ | ⟨g', cap, cur, e, hb, hg, _⟩
  · cases e
  · simp only [Value.slice.injEq, Option.some.injEq, Addr.mk.injEq, and_true, true_and] at e
    obtain ⟨rfl, rfl⟩ := e
    exact ⟨(Array.getElem?_eq_some_iff.1 hg).1, hb⟩

theorem OwnA.keep (h : OwnA E t w base g n l) (hb : w'.heap[g]? = w.heap[g]?) : OwnA E t w' base g n l := by
  refine ⟨h.1, h.2.1, ?_⟩
  rcases h.2.2 with h2 | ⟨g', cap, cur, e, hB, hg, rest⟩
  · exact .inl h2
  · refine .inr ⟨g', cap, cur, e, hB, ?_, rest⟩
    simp only [Value.slice.injEq, Option.some.injEq, Addr.mk.injEq, and_true, true_and] at e
    obtain ⟨rfl, _⟩ := e
    rw [hb]; exact hg

theorem OwnA.below (h : OwnA E t w base g n l) (hb : Below w.heap.size w w') : OwnA E t w' base g n l := h.keep (hb.block g h.lt.1)

theorem OwnA.far (h : OwnA E t w base g n l) {p : Addr} (hp : g ≠ p.block) (u : Value) : OwnA E t (w.setCell p u) base g n l := h.keep (Below.heap_setCell w p u g hp)

theorem OwnA.put1 (h : OwnA E t w base g n l) {i : Nat} (a : α) {u0 : Value} (he : ∀ (l : List α) (i : Nat), i < l.length → (E.all l).set (i * E.size) u0 = E.all (l.set i a)) (hi : i < n) :
    OwnA E t (w.setCell ⟨g, i * E.size, none⟩ u0) base g n (l.set i a) := by
  refine ⟨by rw [List.length_set]; exact h.1, ?_⟩
  rw [← he l i (by rw [h.1]; exact hi)]
  exact (h.2.stored _ _).1

theorem OwnA.put2 (h : OwnA E t w base g n l) {i : Nat} (a : α) {u0 u1 : Value} (he : ∀ (l : List α) (i : Nat), i < l.length → ((E.all l).set (i * E.size) u0).set (i * E.size + 1) u1 = E.all (l.set i a)) (hi : i < n) :
    OwnA E t ((w.setCell ⟨g, i * E.size, none⟩ u0).setCell ⟨g, i * E.size + 1, none⟩ u1) base g n (l.set i a) := by
  refine ⟨by rw [List.length_set]; exact h.1, ?_⟩
  rw [← he l i (by rw [h.1]; exact hi)]
  exact ((h.2.stored _ _).1.stored _ _).1

theorem OwnA.put3 (h : OwnA E t w base g n l) {i : Nat} (a : α) {u0 u1 u2 : Value} (he : ∀ (l : List α) (i : Nat), i < l.length → (((E.all l).set (i * E.size) u0).set (i * E.size + 1) u1).set (i * E.size + 2) u2 = E.all (l.set i a)) (hi : i < n) :
    OwnA E t (((w.setCell ⟨g, i * E.size, none⟩ u0).setCell ⟨g, i * E.size + 1, none⟩ u1).setCell ⟨g, i * E.size + 2, none⟩ u2) base g n (l.set i a) := by
  refine ⟨by rw [List.length_set]; exact h.1, ?_⟩
  rw [← he l i (by rw [h.1]; exact hi)]
  exact (((h.2.stored _ _).1.stored _ _).1.stored _ _).1

end

/-- Elements of one cell. -/
def enc1 {α : Type} (f : α → Value) : Enc α := ⟨fun a => [f a], 1, by decide, fun _ => rfl⟩
def enc2 {α : Type} (f g : α → Value) : Enc α := ⟨fun a => [f a, g a], 2, by decide, fun _ => rfl⟩
def enc3 {α : Type} (f g h : α → Value) : Enc α := ⟨fun a => [f a, g a, h a], 3, by decide, fun _ => rfl⟩

theorem enc1_set {α : Type} (f : α → Value) (a : α) : ∀ (l : List α) (i : Nat), i < l.length → ((enc1 f).all l).set (i * 1) (f a) = (enc1 f).all (l.set i a) := by
  intro l
  induction l with
  | nil => intro i h; simp at h
  | cons u l ih =>
    intro i h
    have e : ∀ (x : α) (t : List α), (enc1 f).all (x :: t) = f x :: (enc1 f).all t := fun _ _ => rfl
    cases i with
    | zero => rw [List.set_cons_zero, e, e]; rfl
    | succ i => rw [List.set_cons_succ, e, e, ← ih i (by simpa using h), show (i + 1) * 1 = i * 1 + 1 by omega]; rfl

theorem enc2_set {α : Type} (f g : α → Value) (a : α) : ∀ (l : List α) (i : Nat), i < l.length → (((enc2 f g).all l).set (i * 2) (f a)).set (i * 2 + 1) (g a) = (enc2 f g).all (l.set i a) := by
  intro l
  induction l with
  | nil => intro i h; simp at h
  | cons u l ih =>
    intro i h
    have e : ∀ (x : α) (t : List α), (enc2 f g).all (x :: t) = f x :: g x :: (enc2 f g).all t := fun _ _ => rfl
    cases i with
    | zero => rw [List.set_cons_zero, e, e]; rfl
    | succ i => rw [List.set_cons_succ, e, e, ← ih i (by simpa using h), show (i + 1) * 2 = i * 2 + 2 by omega]; rfl

theorem enc3_set {α : Type} (f g h : α → Value) (a : α) : ∀ (l : List α) (i : Nat), i < l.length → ((((enc3 f g h).all l).set (i * 3) (f a)).set (i * 3 + 1) (g a)).set (i * 3 + 2) (h a) = (enc3 f g h).all (l.set i a) := by
  intro l
  induction l with
  | nil => intro i h; simp at h
  | cons u l ih =>
    intro i hi
    have e : ∀ (x : α) (t : List α), (enc3 f g h).all (x :: t) = f x :: g x :: h x :: (enc3 f g h).all t := fun _ _ => rfl
    cases i with
    | zero => rw [List.set_cons_zero, e, e]; rfl
    | succ i => rw [List.set_cons_succ, e, e, ← ih i (by simpa using hi), show (i + 1) * 3 = i * 3 + 3 by omega]; rfl

/-- What make lays. -/
theorem made_all {α : Type} (E : Enc α) (z : α) (Z : Value) (hz : Z.cells.toList = E.cells z) (n : Nat) : (madeCells Z.cells (n * E.size)).toList = E.all (List.replicate n z) := by
  have hs : Z.cells.size = E.size := by rw [← E.len z, ← hz, Array.length_toList]
  apply List.ext_getElem?
  intro i
  unfold madeCells
  rw [Array.toList_map, Array.toList_range, List.getElem?_map]
  by_cases hi : i < n * E.size
  · have hq : i / E.size < n := Nat.div_lt_of_lt_mul (by rw [Nat.mul_comm]; exact hi)
    have hm : i % E.size < E.size := Nat.mod_lt _ E.pos
    have hr : (List.replicate n z)[i / E.size]? = some z := by simp [hq]
    have hg := E.all_get hr hm
    have hd : i / E.size * E.size + i % E.size = i := by rw [Nat.mul_comm]; exact Nat.div_add_mod i E.size
    rw [hd] at hg
    rw [hg, List.getElem?_range hi, ← hz, Option.map_some]
    rw [hs]
    have : i % E.size < Z.cells.size := by rw [hs]; exact hm
    simp [this]
  · rw [List.getElem?_eq_none (by rw [List.length_range]; omega), List.getElem?_eq_none (by rw [E.all_len, List.length_replicate]; omega)]
    rfl

/-- The elements after i rounds. -/
def upto {α : Type} (z : α) (f : Nat → α) (n i : Nat) : List α := (List.range n).map fun j => if j < i then f j else z

section
variable {α : Type} {z : α} {f : Nat → α} {n i j : Nat}
theorem upto_len : (upto z f n i).length = n := by simp [upto]
theorem upto_zero : upto z f n 0 = List.replicate n z := by
  unfold upto
  apply List.ext_getElem?
  intro j
  by_cases h : j < n <;> simp [h]
theorem upto_get (h : j < n) : (upto z f n i)[j]? = some (if j < i then f j else z) := by
  unfold upto; simp [h]
theorem upto_set : (upto z f n i).set i (f i) = upto z f n (i + 1) := by
  apply List.ext_getElem?
  intro j
  by_cases h : j < n
  · rw [List.getElem?_set, upto_len, upto_get h]
    by_cases e : i = j
    · subst e
      rw [if_pos rfl, if_pos h, upto_get h, if_pos (by omega)]
    · rw [if_neg e, upto_get h]
      by_cases g : j < i
      · rw [if_pos g, if_pos (by omega)]
      · rw [if_neg g, if_neg (by omega)]
  · rw [List.getElem?_eq_none (by rw [List.length_set, upto_len]; omega), List.getElem?_eq_none (by rw [upto_len]; omega)]
end

theorem below_grown {w w' : World} (h : w.grownBy w' none) : Below w.heap.size w w' := (Below.refl _ _).grown h (Nat.le_refl _) (by simp)

theorem two_op2 {w : World} {B : Nat} {a b : Value} (h0 : w.cell? ⟨B, 0, none⟩ = some a) (h1 : w.cell? ⟨B, 1, none⟩ = some b) (u v : Value) :
    ((w.setCell ⟨B, 0, none⟩ u).setCell ⟨B, 1, none⟩ v).cell? ⟨B, 0, none⟩ = some u ∧ ((w.setCell ⟨B, 0, none⟩ u).setCell ⟨B, 1, none⟩ v).cell? ⟨B, 1, none⟩ = some v := by
  constructor <;> go_simp

end Go.Proofs.YtngddhoolijimaaGreatDoor
