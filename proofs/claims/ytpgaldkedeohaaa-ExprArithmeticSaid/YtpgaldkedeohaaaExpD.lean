/-
  Columns, plain: the marks and the columns step by step; ascending lists. No program in sight.
-/
import Derived.Test.YtpgaldkedeohaaaExpC
import Derived.Lib.SlicesCompact
namespace Go.Proofs.Ytpgaldkedeohaaa
open Go.RowKit
namespace Xp

def usedL (L : List Ex) (root k : Nat) : List Bool := (List.range (root + 1)).map (fl L root k)

theorem used_len (L : List Ex) (root k : Nat) : (usedL L root k).length = root + 1 := by simp [usedL]
theorem used_get {L : List Ex} {root k j : Nat} (h : j ≤ root) : (usedL L root k)[j]? = some (fl L root k j) := by
  unfold usedL; simp [show j < root + 1 by omega]

theorem used_zero (L : List Ex) (root : Nat) : (List.replicate (root + 1) false).set root true = usedL L root 0 := by
  apply List.ext_getElem?
  intro j
  by_cases h : j ≤ root
  · rw [used_get h, List.getElem?_set]
    by_cases e : root = j
    · subst e; simp [fl]
    · rw [if_neg e]; simp [show j < root + 1 by omega, fl, show ¬ j = root by omega]
  · rw [List.getElem?_eq_none (by simp; omega), List.getElem?_eq_none (by rw [used_len]; omega)]

theorem used_skip {L : List Ex} {root k : Nat} (h : fl L root k (root - k) = false) : usedL L root (k + 1) = usedL L root k := by
  unfold usedL
  apply List.map_congr_left
  intro j _
  show (fl L root k j || (fl L root k (root - k) && _)) = _
  rw [h]; simp

theorem out_skip {L : List Ex} {root k : Nat} (h : fl L root k (root - k) = false) : outc L root (k + 1) = outc L root k := by
  show outc L root k ++ _ = _
  rw [h]; simp

theorem out_no {L : List Ex} {root k m : Nat} {e : Ex} (hm : m = root - k) (he : L[m]? = some e) (h : e.op ≠ 2) : outc L root (k + 1) = outc L root k := by
  show outc L root k ++ _ = _
  rw [← hm, List.getD_eq_getElem?_getD, he, if_neg (fun hh => h hh.2)]; simp

theorem out_col {L : List Ex} {root k m : Nat} {e : Ex} (hm : m = root - k) (hf : fl L root k m = true) (he : L[m]? = some e) (h : e.op = 2) : outc L root (k + 1) = outc L root k ++ [e.col] := by
  show outc L root k ++ _ = _
  rw [← hm, List.getD_eq_getElem?_getD, he, if_pos ⟨hf, h⟩]; rfl

theorem fl_step {L : List Ex} {root k m : Nat} {e : Ex} (hm : m = root - k) (hf : fl L root k m = true) (he : L[m]? = some e) (j : Nat) : fl L root (k + 1) j = (fl L root k j || touch e m j) := by
  show (fl L root k j || (fl L root k (root - k) && touch (L.getD (root - k) zeroE) (root - k) j)) = _
  rw [← hm, List.getD_eq_getElem?_getD, he, hf]; rfl

theorem used_of {L : List Ex} {root k m : Nat} {e : Ex} (hm : m = root - k) (hf : fl L root k m = true) (he : L[m]? = some e) (l : List Bool) (hl : l.length = root + 1)
    (h : ∀ j, j ≤ root → l[j]? = some (fl L root k j || touch e m j)) : usedL L root (k + 1) = l := by
  apply List.ext_getElem?
  intro j
  by_cases hj : j ≤ root
  · rw [used_get hj, h j hj, fl_step hm hf he]
  · rw [List.getElem?_eq_none (by rw [used_len]; omega), List.getElem?_eq_none (by omega)]

theorem touch_0 {e : Ex} (h : arity e.op ≤ 0) (m j : Nat) : touch e m j = false := by
  unfold touch
  simp [show ¬ 1 ≤ arity e.op by omega, show ¬ 2 ≤ arity e.op by omega]
theorem touch_1 {e : Ex} (h : arity e.op = 1) (m j : Nat) : touch e m j = (lgl m e.a && decide (j = e.a.toNat)) := by
  unfold touch
  simp [h]
theorem touch_2 {e : Ex} (h : arity e.op = 2) (m j : Nat) : touch e m j = ((lgl m e.a && decide (j = e.a.toNat)) || (lgl m e.b && decide (j = e.b.toNat))) := by
  unfold touch
  simp [h]

theorem get_set_or {l : List Bool} {i j : Nat} {b : Bool} (hi : i < l.length) (h : l[j]? = some b) : (l.set i true)[j]? = some (b || decide (j = i)) := by
  rw [List.getElem?_set]
  by_cases e : i = j
  · subst e; rw [if_pos rfl, if_pos hi]; simp
  · rw [if_neg e, h]; simp [show ¬ j = i by omega]

section
variable {L : List Ex} {root k m : Nat} {e : Ex}
theorem used_0 (hm : m = root - k) (hf : fl L root k m = true) (he : L[m]? = some e) (h : arity e.op ≤ 0) : usedL L root (k + 1) = usedL L root k :=
  used_of hm hf he _ (used_len _ _ _) fun j hj => by rw [used_get hj, touch_0 h, Bool.or_false]
theorem used_1n (hm : m = root - k) (hf : fl L root k m = true) (he : L[m]? = some e) (h : arity e.op = 1) (la : lgl m e.a = false) : usedL L root (k + 1) = usedL L root k :=
  used_of hm hf he _ (used_len _ _ _) fun j hj => by rw [used_get hj, touch_1 h, la]; simp
theorem used_1y (hm : m = root - k) (hf : fl L root k m = true) (he : L[m]? = some e) (h : arity e.op = 1) {ja : Nat} (ha : e.a = ja) (la : lgl m (ja : Int) = true) : usedL L root (k + 1) = (usedL L root k).set ja true :=
  used_of hm hf he _ (by rw [List.length_set]; exact used_len _ _ _) fun j hj => by
    have := (lgl_iff _ _).1 la
    rw [get_set_or (by rw [used_len]; omega) (used_get hj), touch_1 h, ha, la]; simp
theorem used_2nn (hm : m = root - k) (hf : fl L root k m = true) (he : L[m]? = some e) (h : arity e.op = 2) (la : lgl m e.a = false) (lb : lgl m e.b = false) : usedL L root (k + 1) = usedL L root k :=
  used_of hm hf he _ (used_len _ _ _) fun j hj => by rw [used_get hj, touch_2 h, la, lb]; simp
theorem used_2yn (hm : m = root - k) (hf : fl L root k m = true) (he : L[m]? = some e) (h : arity e.op = 2) {ja : Nat} (ha : e.a = ja) (la : lgl m (ja : Int) = true) (lb : lgl m e.b = false) : usedL L root (k + 1) = (usedL L root k).set ja true :=
  used_of hm hf he _ (by rw [List.length_set]; exact used_len _ _ _) fun j hj => by
    have := (lgl_iff _ _).1 la
    rw [get_set_or (by rw [used_len]; omega) (used_get hj), touch_2 h, ha, la, lb]; simp
theorem used_2ny (hm : m = root - k) (hf : fl L root k m = true) (he : L[m]? = some e) (h : arity e.op = 2) {jb : Nat} (hb : e.b = jb) (la : lgl m e.a = false) (lb : lgl m (jb : Int) = true) : usedL L root (k + 1) = (usedL L root k).set jb true :=
  used_of hm hf he _ (by rw [List.length_set]; exact used_len _ _ _) fun j hj => by
    have := (lgl_iff _ _).1 lb
    rw [get_set_or (by rw [used_len]; omega) (used_get hj), touch_2 h, hb, la, lb]; simp
theorem used_2yy (hm : m = root - k) (hf : fl L root k m = true) (he : L[m]? = some e) (h : arity e.op = 2) {ja jb : Nat} (ha : e.a = ja) (hb : e.b = jb) (la : lgl m (ja : Int) = true) (lb : lgl m (jb : Int) = true) : usedL L root (k + 1) = ((usedL L root k).set ja true).set jb true :=
  used_of hm hf he _ (by rw [List.length_set, List.length_set]; exact used_len _ _ _) fun j hj => by
    have := (lgl_iff _ _).1 la
    have := (lgl_iff _ _).1 lb
    rw [get_set_or (by rw [List.length_set, used_len]; omega) (get_set_or (by rw [used_len]; omega) (used_get hj)), touch_2 h, ha, hb, la, lb]; simp [Bool.or_assoc]
end

/-- x put into an ascending list. -/
def ins (x : Int) : List Int → List Int
  | [] => [x]
  | y :: l => if y < x then y :: ins x l else if y = x then y :: l else x :: y :: l

def mrg (l : List Int) : List Int := l.foldl (fun a x => ins x a) []

theorem mrg_snoc (l : List Int) (x : Int) : mrg (l ++ [x]) = ins x (mrg l) := by unfold mrg; rw [List.foldl_append]; rfl

theorem mem_ins (x z : Int) (l : List Int) : z ∈ ins x l ↔ z = x ∨ z ∈ l := by
  induction l with
  | nil => simp [ins]
  | cons y l ih =>
    unfold ins
    split
    · rw [List.mem_cons, ih, List.mem_cons]
      constructor
      · rintro (h | h | h)
        · exact .inr (.inl h)
        · exact .inl h
        · exact .inr (.inr h)
      · rintro (h | h | h)
        · exact .inr (.inl h)
        · exact .inl h
        · exact .inr (.inr h)
    · split
      · rename_i h; subst h
        simp
      · simp

theorem asc_ins (x : Int) (l : List Int) (h : l.Pairwise (· < ·)) : (ins x l).Pairwise (· < ·) := by
  induction l with
  | nil => simp [ins]
  | cons y l ih =>
    obtain ⟨h1, h2⟩ := List.pairwise_cons.1 h
    unfold ins
    split
    · refine List.pairwise_cons.2 ⟨fun z hz => ?_, ih h2⟩
      rcases (mem_ins x z l).1 hz with rfl | hz
      · assumption
      · exact h1 z hz
    · split
      · exact h
      · refine List.pairwise_cons.2 ⟨fun z hz => ?_, h⟩
        rcases List.mem_cons.1 hz with rfl | hz
        · omega
        · have := h1 z hz; omega

theorem mem_mrg (l : List Int) (z : Int) : z ∈ mrg l ↔ z ∈ l := by
  unfold mrg
  have : ∀ (l a : List Int), z ∈ l.foldl (fun a x => ins x a) a ↔ z ∈ l ∨ z ∈ a := by
    intro l
    induction l with
    | nil => intro a; simp
    | cons x l ih => intro a; rw [List.foldl_cons, ih, mem_ins, List.mem_cons]; constructor
                     · rintro (h | h | h)
                       · exact .inl (.inr h)
                       · exact .inl (.inl h)
                       · exact .inr h
                     · rintro ((h | h) | h)
                       · exact .inr (.inl h)
                       · exact .inl h
                       · exact .inr (.inr h)
  rw [this]; simp

theorem asc_mrg (l : List Int) : (mrg l).Pairwise (· < ·) := by
  unfold mrg
  have : ∀ (l a : List Int), a.Pairwise (· < ·) → (l.foldl (fun a x => ins x a) a).Pairwise (· < ·) := by
    intro l
    induction l with
    | nil => intro a h; exact h
    | cons x l ih => intro a h; exact ih _ (asc_ins x a h)
  exact this l [] List.Pairwise.nil

theorem mrg_len (l : List Int) : (mrg l).length ≤ l.length := by
  unfold mrg
  have hi : ∀ (x : Int) (a : List Int), (ins x a).length ≤ a.length + 1 := by
    intro x a
    induction a with
    | nil => simp [ins]
    | cons y a ih => unfold ins; split
                     · rw [List.length_cons, List.length_cons]; omega
                     · split <;> simp
  have : ∀ (l a : List Int), (l.foldl (fun a x => ins x a) a).length ≤ l.length + a.length := by
    intro l
    induction l with
    | nil => intro a; simp
    | cons x l ih => intro a; rw [List.foldl_cons]; have := ih (ins x a); have := hi x a; simp; omega
  have := this l []
  simpa using this

/-- Merging into what has been merged. -/
theorem mrg_mrg (l : List Int) : mrg (mrg l) = mrg l := asc_eq (asc_mrg _) (asc_mrg _) fun x => by rw [mem_mrg]
theorem mrg_mrg_snoc (l : List Int) (x : Int) : mrg (mrg l ++ [x]) = ins x (mrg l) := by rw [mrg_snoc, mrg_mrg]

/-- compact of an ascending list, plain. -/
theorem compact_asc {l : List Int} (h : l.Pairwise (· ≤ ·)) : (Lib.compact l).Pairwise (· < ·) ∧ ∀ z, z ∈ Lib.compact l ↔ z ∈ l := by
  have hget : ∀ i, i < l.length → l.toArray[i]! = l.getD i 0 := by
    intro i hi
    rw [List.getD_eq_getElem?_getD, List.getElem?_eq_getElem hi, getElem!_pos l.toArray i (by simpa using hi)]
    rfl
  have hle : ∀ i j, i ≤ j → j < l.length → l.getD i 0 ≤ l.getD j 0 := by
    intro i j hij hj
    rcases Nat.lt_or_ge i j with hlt | hge
    · have := List.pairwise_iff_getElem.1 h i j (by omega) hj hlt
      rw [List.getD_eq_getElem?_getD, List.getD_eq_getElem?_getD, List.getElem?_eq_getElem (by omega), List.getElem?_eq_getElem hj]
      exact this
    · obtain rfl : i = j := by omega
      exact Int.le_refl _
  have key : ∀ m, m ≤ l.length → (Lib.compactUpTo l.toArray m).Pairwise (· < ·) ∧ (∀ z, z ∈ Lib.compactUpTo l.toArray m ↔ ∃ i, i < m ∧ z = l.getD i 0) := by
    intro m
    induction m with
    | zero => intro _; unfold Lib.compactUpTo; simp
    | succ m ih =>
      intro hm
      obtain ⟨i1, i2⟩ := ih (by omega)
      rw [Lib.compactUpTo_succ, hget m (by omega)]
      by_cases hk : Lib.keeps l.toArray m = true
      · rw [if_pos hk]
        constructor
        · refine List.pairwise_append.2 ⟨i1, by simp, fun a ha b hb => ?_⟩
          obtain rfl : b = l.getD m 0 := by simpa using hb
          obtain ⟨i, hi, rfl⟩ := (i2 a).1 ha
          have h1 := hle i (m - 1) (by omega) (by omega)
          have h2 := hle (m - 1) m (by omega) (by omega)
          have h3 : l.getD (m - 1) 0 ≠ l.getD m 0 := by
            unfold Lib.keeps at hk
            simp only [decide_eq_true_eq] at hk
            rcases hk with hk | hk
            · omega
            · rw [hget m (by omega), hget (m - 1) (by omega)] at hk
              exact fun e => hk e.symm
          omega
        · intro z
          rw [List.mem_append, i2]
          constructor
          · rintro (⟨i, hi, rfl⟩ | hz)
            · exact ⟨i, by omega, rfl⟩
            · exact ⟨m, by omega, by simpa using hz⟩
          · rintro ⟨i, hi, rfl⟩
            by_cases e : i = m
            · subst e; exact .inr (by simp)
            · exact .inl ⟨i, by omega, rfl⟩
      · rw [if_neg hk, List.append_nil]
        refine ⟨i1, fun z => ?_⟩
        rw [i2]
        constructor
        · rintro ⟨i, hi, rfl⟩; exact ⟨i, by omega, rfl⟩
        · rintro ⟨i, hi, rfl⟩
          by_cases e : i = m
          · subst e
            unfold Lib.keeps at hk
            simp only [decide_eq_true_eq, not_or, Classical.not_not] at hk
            obtain ⟨h1, h2⟩ := hk
            rw [hget i (by omega), hget (i - 1) (by omega)] at h2
            exact ⟨i - 1, by omega, h2⟩
          · exact ⟨i, by omega, rfl⟩
  obtain ⟨k1, k2⟩ := key l.length (Nat.le_refl _)
  refine ⟨k1, fun z => ?_⟩
  rw [show Lib.compact l = Lib.compactUpTo l.toArray l.length from rfl, k2]
  constructor
  · rintro ⟨i, hi, rfl⟩
    rw [List.getD_eq_getElem?_getD, List.getElem?_eq_getElem hi]
    exact List.getElem_mem hi
  · intro hz
    obtain ⟨i, hi, rfl⟩ := List.getElem_of_mem hz
    exact ⟨i, hi, by rw [List.getD_eq_getElem?_getD, List.getElem?_eq_getElem hi]; rfl⟩

theorem compact_sort (l : List Int) : Lib.compact (l.mergeSort fun x y => decide (x ≤ y)) = mrg l := by
  have hs : (l.mergeSort fun x y => decide (x ≤ y)).Pairwise (· ≤ ·) := by
    have := List.pairwise_mergeSort (le := fun x y : Int => decide (x ≤ y)) (by intro a b c; simp; omega) (by intro a b; simp; omega) l
    exact this.imp (by intro a b h; simpa using h)
  obtain ⟨h1, h2⟩ := compact_asc hs
  refine asc_eq h1 (asc_mrg l) fun z => ?_
  rw [h2, mem_mrg, List.mem_mergeSort]

/-- The columns. -/
def colS (L : List Ex) (root : Nat) : List Int := mrg (outc L root (root + 1))

end Xp
end Go.Proofs.Ytpgaldkedeohaaa
