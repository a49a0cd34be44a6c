/-
  Arrays of values that a call makes: what they hold, element by element.
-/
import Derived.Test.YtpgaldkedeohaaaExprL
namespace Go.Proofs.Ytpgaldkedeohaaa
open Go.RowKit

def Vl.cells (v : Vl) : List Value := [.int .i64 v.k, .int .i64 v.n, .string v.s]
def vcells (l : List Vl) : List Value := l.flatMap Vl.cells

theorem vcells_len (l : List Vl) : (vcells l).length = l.length * 3 := by
  unfold vcells
  induction l with
  | nil => rfl
  | cons v l ih =>
    rw [List.flatMap_cons, List.length_append, ih, List.length_cons]
    show 3 + l.length * 3 = _
    omega

theorem vcells_append (a b : List Vl) : vcells (a ++ b) = vcells a ++ vcells b := List.flatMap_append

theorem vcells_get {l : List Vl} {i : Nat} {v : Vl} (h : l[i]? = some v) : (vcells l)[i * 3]? = some (.int .i64 v.k) ∧ (vcells l)[i * 3 + 1]? = some (.int .i64 v.n) ∧ (vcells l)[i * 3 + 2]? = some (.string v.s) := by
  induction l generalizing i with
  | nil => cases h
  | cons u l ih =>
    have e : vcells (u :: l) = u.cells ++ vcells l := List.flatMap_cons
    rw [e]
    cases i with
    | zero =>
      obtain rfl : u = v := by simpa using h
      exact ⟨rfl, rfl, rfl⟩
    | succ i =>
      have h' : l[i]? = some v := by simpa using h
      obtain ⟨a, b, c⟩ := ih h'
      have hl : u.cells.length = 3 := rfl
      refine ⟨?_, ?_, ?_⟩
      · rw [List.getElem?_append_right (by omega), hl, show (i + 1) * 3 - 3 = i * 3 by omega]; exact a
      · rw [List.getElem?_append_right (by omega), hl, show (i + 1) * 3 + 1 - 3 = i * 3 + 1 by omega]; exact b
      · rw [List.getElem?_append_right (by omega), hl, show (i + 1) * 3 + 2 - 3 = i * 3 + 2 by omega]; exact c

theorem vcells_set {l : List Vl} {i : Nat} (v : Vl) (h : i < l.length) : (((vcells l).set (i * 3) (.int .i64 v.k)).set (i * 3 + 1) (.int .i64 v.n)).set (i * 3 + 2) (.string v.s) = vcells (l.set i v) := by
  induction l generalizing i with
  | nil => simp at h
  | cons u l ih =>
    have e : ∀ (x : Vl) (t : List Vl), vcells (x :: t) = .int .i64 x.k :: .int .i64 x.n :: .string x.s :: vcells t := fun _ _ => rfl
    cases i with
    | zero =>
      rw [List.set_cons_zero, e, e]
      rfl
    | succ i =>
      have := ih (i := i) (by simpa using h)
      rw [List.set_cons_succ, e, e, ← this]
      rw [show (i + 1) * 3 = i * 3 + 3 by omega]
      rfl

/-- Block g is the call's own array of values; these are they. -/
def OwnV (w : World) (base g n : Nat) (l : List Vl) : Prop := l.length = n ∧ w.ownsRow base 34 3 (.slice (some ⟨g, 0, none⟩) n n) n (vcells l)

theorem OwnV.at_ {w : World} {base g n : Nat} {l : List Vl} (h : OwnV w base g n l) {i : Nat} {v : Vl} (hi : l[i]? = some v) : VlAt w g (i * 3) v := by
  have hl : i < l.length := (List.getElem?_eq_some_iff.1 hi).1
  obtain ⟨a, b, c⟩ := vcells_get hi
  have := h.1
  refine ⟨?_, ?_, ?_⟩
  · rw [h.2.cellAt _ (by omega)]; exact a
  · rw [h.2.cellAt _ (by omega)]; exact b
  · rw [h.2.cellAt _ (by omega)]; exact c

theorem OwnV.free {w : World} {base g n : Nat} {l : List Vl} (h : OwnV w base g n l) (j : Nat) : w.frozen? ⟨g, j, none⟩ = false := h.2.frozenAt j

theorem OwnV.lt {w : World} {base g n : Nat} {l : List Vl} (h : OwnV w base g n l) : g < w.heap.size ∧ base ≤ g := by
  rcases h.2.2 with ⟨e, _⟩ | ⟨g', cap, cur, e, hb, hg, _⟩
  · cases e
  · simp only [Value.slice.injEq, Option.some.injEq, Addr.mk.injEq, and_true, true_and] at e
    obtain ⟨rfl, rfl⟩ := e
    exact ⟨(Array.getElem?_eq_some_iff.1 hg).1, hb⟩

theorem OwnV.keep {w w' : World} {base g n : Nat} {l : List Vl} (h : OwnV w base g n l) (hb : w'.heap[g]? = w.heap[g]?) : OwnV w' base g n l := by
  refine ⟨h.1, h.2.1, ?_⟩
  rcases h.2.2 with h2 | ⟨g', cap, cur, e, hB, hg, rest⟩
  · exact .inl h2
  · refine .inr ⟨g', cap, cur, e, hB, ?_, rest⟩
    simp only [Value.slice.injEq, Option.some.injEq, Addr.mk.injEq, and_true, true_and] at e
    obtain ⟨rfl, _⟩ := e
    rw [hb]; exact hg

theorem OwnV.below {w w' : World} {base g n : Nat} {l : List Vl} (h : OwnV w base g n l) (hb : Below w.heap.size w w') : OwnV w' base g n l := h.keep (hb.block g h.lt.1)

theorem OwnV.put {w : World} {base g n : Nat} {l : List Vl} (h : OwnV w base g n l) {i : Nat} (v : Vl) (hi : i < n) :
    OwnV (((w.setCell ⟨g, i * 3, none⟩ (.int .i64 v.k)).setCell ⟨g, i * 3 + 1, none⟩ (.int .i64 v.n)).setCell ⟨g, i * 3 + 2, none⟩ (.string v.s)) base g n (l.set i v) := by
  refine ⟨by rw [List.length_set]; exact h.1, ?_⟩
  rw [← vcells_set v (by rw [h.1]; exact hi)]
  exact (((h.2.stored _ _).1).stored _ _).1.stored _ _ |>.1

theorem made_zero (n : Nat) : (madeCells (Value.agg #[.int .i64 0, .int .i64 0, .string ⟨#[]⟩]).cells (n * 3)).toList = vcells (List.replicate n Xp.zero) := by
  induction n with
  | zero => simp [madeCells, vcells]
  | succ n ih =>
    rw [List.replicate_succ', vcells_append, ← ih]
    unfold madeCells
    rw [show (n + 1) * 3 = n * 3 + 1 + 1 + 1 by omega]
    simp only [Array.toList_map, Array.toList_range, List.range_succ, List.map_append, List.append_assoc, List.map_cons, List.map_nil]
    congr 1
    have e0 : n * 3 % 3 = 0 := by omega
    have e1 : (n * 3 + 1) % 3 = 1 := by omega
    have e2 : (n * 3 + 1 + 1) % 3 = 2 := by omega
    have hs : (Value.agg #[.int .i64 0, .int .i64 0, .string ⟨#[]⟩]).cells.size = 3 := rfl
    rw [hs, e0, e1, e2]
    rfl

theorem val_info : (Try.prog.info? 34).map (fun i => (i.zero, i.size, i.bytes)) = some (some (.agg #[.int .i64 0, .int .i64 0, .string ⟨#[]⟩]), 3, 32) := by kernel_rfl

/-- The values after i rounds. -/
def vals (f : Nat → Vl) (n i : Nat) : List Vl := (List.range n).map fun j => if j < i then f j else Xp.zero

theorem vals_len (f : Nat → Vl) (n i : Nat) : (vals f n i).length = n := by simp [vals]
theorem vals_zero (f : Nat → Vl) (n : Nat) : vals f n 0 = List.replicate n Xp.zero := by
  unfold vals
  apply List.ext_getElem?
  intro j
  by_cases h : j < n <;> simp [h]
theorem vals_get {f : Nat → Vl} {n i j : Nat} (h : j < n) : (vals f n i)[j]? = some (if j < i then f j else Xp.zero) := by
  unfold vals; simp [h]
theorem vals_set {f : Nat → Vl} {n i : Nat} : (vals f n i).set i (f i) = vals f n (i + 1) := by
  apply List.ext_getElem?
  intro j
  by_cases h : j < n
  · rw [List.getElem?_set, vals_len, vals_get h]
    by_cases e : i = j
    · subst e
      rw [if_pos rfl, if_pos h, vals_get h, if_pos (by omega)]
    · rw [if_neg e, vals_get h]
      by_cases g : j < i
      · rw [if_pos g, if_pos (by omega)]
      · rw [if_neg g, if_neg (by omega)]
  · rw [List.getElem?_eq_none (by rw [List.length_set, vals_len]; omega), List.getElem?_eq_none (by rw [vals_len]; omega)]
theorem vals_skip {f : Nat → Vl} {n i : Nat} (h : f i = Xp.zero) : vals f n (i + 1) = vals f n i := by
  apply List.ext_getElem?
  intro j
  by_cases hj : j < n
  · rw [vals_get hj, vals_get hj]
    by_cases g : j < i
    · rw [if_pos g, if_pos (by omega)]
    · by_cases e : j = i
      · subst e; rw [if_neg g, if_pos (by omega), h]
      · rw [if_neg g, if_neg (by omega)]
  · rw [List.getElem?_eq_none (by rw [vals_len]; omega), List.getElem?_eq_none (by rw [vals_len]; omega)]

/-- Block B is the cell of a result that is not yet written. -/
structure RetV (w : World) (B : Nat) : Prop where
  lt : B < w.heap.size
  c0 : w.cell? ⟨B, 0, none⟩ = some (.int .i64 0)
  c1 : w.cell? ⟨B, 1, none⟩ = some (.int .i64 0)
  c2 : w.cell? ⟨B, 2, none⟩ = some (.string ⟨#[]⟩)
  f0 : w.frozen? ⟨B, 0, none⟩ = false
  f1 : w.frozen? ⟨B, 1, none⟩ = false
  f2 : w.frozen? ⟨B, 2, none⟩ = false

theorem RetV.below {w w' : World} {B : Nat} (h : RetV w B) (hb : Below w.heap.size w w') : RetV w' B :=
  ⟨Nat.lt_of_lt_of_le h.lt hb.size, (hb.cell (p := ⟨B, 0, none⟩) h.lt).trans h.c0, (hb.cell (p := ⟨B, 1, none⟩) h.lt).trans h.c1, (hb.cell (p := ⟨B, 2, none⟩) h.lt).trans h.c2,
    (hb.frozen (p := ⟨B, 0, none⟩) h.lt).trans h.f0, (hb.frozen (p := ⟨B, 1, none⟩) h.lt).trans h.f1, (hb.frozen (p := ⟨B, 2, none⟩) h.lt).trans h.f2⟩

theorem RetV.far {w : World} {B : Nat} (h : RetV w B) {p : Addr} (hp : B ≠ p.block) (u : Value) : RetV (w.setCell p u) B := by
  have hq : ∀ o, (⟨B, o, none⟩ : Addr) ≠ p := fun o e => hp (by rw [← e])
  have hc : ∀ o, (w.setCell p u).cell? ⟨B, o, none⟩ = w.cell? ⟨B, o, none⟩ := fun o => World.cell?_of_block (a := ⟨B, o, none⟩) (Below.heap_setCell w p u B hp)
  have hf : ∀ o, (w.setCell p u).frozen? ⟨B, o, none⟩ = w.frozen? ⟨B, o, none⟩ := fun o => by
    have := Below.heap_setCell w p u B hp
    unfold World.frozen?
    simp only [this]
  refine ⟨?_, (hc 0).trans h.c0, (hc 1).trans h.c1, (hc 2).trans h.c2, (hf 0).trans h.f0, (hf 1).trans h.f1, (hf 2).trans h.f2⟩
  have := h.lt
  simpa [World.setCell] using this

theorem RetV.new (w : World) (t : TypeId) : RetV (w.alloc (.cells #[.int .i64 0, .int .i64 0, .string ⟨#[]⟩] t)) w.heap.size := by
  refine ⟨by simp, ?_, ?_, ?_, ?_, ?_, ?_⟩ <;> go_simp

theorem below_none {w w' : World} (h : w.grownBy w' none) : Below w.heap.size w w' := (Below.refl _ _).grown h (Nat.le_refl _) (by simp)

theorem OwnV.step {w : World} {base g n i : Nat} {f : Nat → Vl} {rk rn : Int} {rs : ByteArray} (h : OwnV w base g n (vals f n i)) (hi : i < n) (hv : f i = ⟨rk, rn, rs⟩) :
    OwnV (((w.setCell ⟨g, i * 3, none⟩ (.int .i64 rk)).setCell ⟨g, i * 3 + 1, none⟩ (.int .i64 rn)).setCell ⟨g, i * 3 + 2, none⟩ (.string rs)) base g n (vals f n (i + 1)) := by
  have := h.put ⟨rk, rn, rs⟩ hi
  rw [← vals_set, hv]
  exact this

theorem own_form {w : World} {base : Nat} {e : TypeId} {size n : Nat} {v : Value} {xs : List Value} (h : w.ownsRow base e size v n xs) (hn : 0 < n) : ∃ g cap, v = .slice (some ⟨g, 0, none⟩) n cap ∧ base ≤ g ∧ g < w.heap.size := by
  rcases h.2 with ⟨_, h0⟩ | ⟨g, cap, cur, e, hb, hg, _⟩
  · omega
  · exact ⟨g, cap, e, hb, (Array.getElem?_eq_some_iff.1 hg).1⟩

end Go.Proofs.Ytpgaldkedeohaaa
