/-
  Expressions, plain laws: typed values, prefixes, the columns that are reported. No program in sight.
-/
import Derived.Test.YtpgaldkedeohaaaExp
namespace Go.Proofs.Ytpgaldkedeohaaa
open Go.RowKit
namespace Xp

theorem arith_kind (op : Int) (x y : Vl) : (arith op x y).k = 1 ∨ (arith op x y).k = 0 := by
  unfold arith
  split
  · split
    · split
      · exact .inl rfl
      · exact .inr rfl
    · split
      · split
        · exact .inl rfl
        · exact .inr rfl
      · split
        · exact .inl rfl
        · exact .inr rfl
  · exact .inr rfl

/-- The type of an operator that is accepted. -/
theorem cmb_kind {e : Ex} {cols : List Int} {ka kb : Int} (h : (cmb e cols ka kb).2 = 0) (h1 : e.op ≠ 1) (h2 : e.op ≠ 2) : (cmb e cols ka kb).1 = (if 3 ≤ e.op ∧ e.op ≤ 5 ∨ e.op < 1 then 1 else 3) := by
  unfold cmb at h ⊢
  rw [if_neg h1, if_neg h2] at h ⊢
  have k1 : 3 ≤ e.op ∧ e.op ≤ 5 ∨ e.op < 1 → (if 3 ≤ e.op ∧ e.op ≤ 5 ∨ e.op < 1 then (1 : Int) else 3) = 1 := fun g => if_pos g
  have k3 : ¬ (3 ≤ e.op ∧ e.op ≤ 5 ∨ e.op < 1) → (if 3 ≤ e.op ∧ e.op ≤ 5 ∨ e.op < 1 then (1 : Int) else 3) = 3 := fun g => if_neg g
  by_cases c1 : e.op = 11
  · rw [if_pos c1, k3 (by omega)]
  rw [if_neg c1] at h ⊢
  by_cases c2 : e.op = 6 ∨ e.op = 7
  · rw [if_pos c2] at h ⊢
    rw [k3 (by omega)]
    split at h
    · rename_i g; rw [if_pos g]
    · cases h
  rw [if_neg c2] at h ⊢
  by_cases c3 : e.op = 10
  · rw [if_pos c3] at h ⊢
    rw [k3 (by omega)]
    split at h
    · rename_i g; rw [if_pos g]
    · cases h
  rw [if_neg c3] at h ⊢
  by_cases c4 : e.op ≤ 5
  · rw [if_pos c4] at h ⊢
    rw [k1 (by omega)]
    split at h
    · rename_i g; rw [if_pos g]
    · cases h
  · rw [if_neg c4] at h ⊢
    rw [k3 (by omega)]
    split at h
    · rename_i g; rw [if_pos g]
    · cases h

/-- A checked expression evaluates to a value of its type, or Null. -/
theorem typed {L : List Ex} {cols : List Int} {row : List Vl} (hl : cols.length = row.length) (hr : ∀ i, i < row.length → (row.getD i zero).k = cols.getD i 0 ∨ (row.getD i zero).k = 0) (i : Nat) (h : (ck L cols i).2 = 0) :
    (ev L row i).k = (ck L cols i).1 ∨ (ev L row i).k = 0 := by
  rw [ck_eq] at h ⊢
  rw [ev_eq]
  unfold ckS at h ⊢
  unfold evS
  generalize L.getD i zeroE = e at *
  by_cases c1 : badOp e = true
  · rw [if_pos c1] at h; cases h
  rw [if_neg c1] at h ⊢
  by_cases c2 : badIx e i = true
  · rw [if_pos c2] at h; cases h
  rw [if_neg c2] at h ⊢
  by_cases c3 : badCol e cols.length = true
  · rw [if_pos c3] at h; cases h
  rw [if_neg c3] at h ⊢
  by_cases c4 : 1 ≤ arity e.op ∧ (ck L cols e.a.toNat).2 ≠ 0
  · rw [if_pos c4] at h; exact absurd h c4.2
  rw [if_neg c4] at h ⊢
  by_cases c5 : 2 ≤ arity e.op ∧ (ck L cols e.b.toNat).2 ≠ 0
  · rw [if_pos c5] at h; exact absurd h c5.2
  rw [if_neg c5] at h ⊢
  have hn : ¬ arity e.op < 0 := fun g => c1 (by unfold badOp; simp [g])
  rw [if_neg hn, if_neg c2]
  generalize ev L row e.a.toNat = x
  generalize ev L row e.b.toNat = y
  generalize (ck L cols e.a.toNat).1 = ka at *
  generalize (ck L cols e.b.toNat).1 = kb at *
  by_cases o1 : e.op = 1
  · refine .inl ?_
    unfold ap cmb
    rw [if_pos o1, if_pos o1]
  by_cases o2 : e.op = 2
  · unfold ap cmb
    rw [if_neg o1, if_pos o2, if_neg o1, if_pos o2]
    have hc : 0 ≤ e.col ∧ e.col < cols.length := by
      unfold badCol at c3
      simpa [o2] using c3
    have hc2 : 0 ≤ e.col ∧ e.col < row.length := by omega
    rw [if_pos hc2]
    exact hr e.col.toNat (by omega)
  rw [cmb_kind h o1 o2]
  have hrange : 3 ≤ e.op ∧ e.op ≤ 11 := by
    rcases arity_cases e.op with ⟨e1, e2⟩ | ⟨e1, e2⟩ | ⟨e1, e2⟩ | ⟨e1, e2⟩ | ⟨e1, e1', e2⟩ | ⟨e1, e2⟩ <;> omega
  have k1 : 3 ≤ e.op ∧ e.op ≤ 5 ∨ e.op < 1 → (if 3 ≤ e.op ∧ e.op ≤ 5 ∨ e.op < 1 then (1 : Int) else 3) = 1 := fun g => if_pos g
  have k3 : ¬ (3 ≤ e.op ∧ e.op ≤ 5 ∨ e.op < 1) → (if 3 ≤ e.op ∧ e.op ≤ 5 ∨ e.op < 1 then (1 : Int) else 3) = 3 := fun g => if_neg g
  unfold ap
  rw [if_neg o1, if_neg o2]
  by_cases o3 : e.op ≤ 5
  · rw [if_pos o3, k1 (by omega)]
    exact arith_kind _ _ _
  · rw [if_neg o3, k3 (by omega)]
    refine .inl ?_
    split
    · rfl
    · split
      · rfl
      · split
        · rfl
        · split
          · rfl
          · split <;> rfl

/-- Expressions behind the root do not count. -/
theorem ck_prefix (L M : List Ex) (cols : List Int) : ∀ i, i < L.length → ck (L ++ M) cols i = ck L cols i := by
  intro i
  induction i using Nat.strongRecOn with
  | _ i ih =>
    intro hi
    rw [ck_eq, ck_eq, ckS_congr (g := ck L cols) (fun j hj => ih j hj (by omega))]
    unfold ckS
    have e : (L ++ M).getD i zeroE = L.getD i zeroE := by
      rw [List.getD_eq_getElem?_getD, List.getElem?_append_left hi, List.getD_eq_getElem?_getD]
    rw [e]

theorem ev_prefix (L M : List Ex) (row : List Vl) : ∀ i, i < L.length → ev (L ++ M) row i = ev L row i := by
  intro i
  induction i using Nat.strongRecOn with
  | _ i ih =>
    intro hi
    rw [ev_eq, ev_eq, evS_congr (g := ev L row) (fun j hj => ih j hj (by omega))]
    unfold evS
    have e : (L ++ M).getD i zeroE = L.getD i zeroE := by
      rw [List.getD_eq_getElem?_getD, List.getElem?_append_left hi, List.getD_eq_getElem?_getD]
    rw [e]

/-! ### The columns on which an expression depends -/

/-- Expression e at index i has the operand j. -/
def touch (e : Ex) (i j : Nat) : Bool := (decide (1 ≤ arity e.op) && (lgl i e.a && decide (j = e.a.toNat))) || (decide (2 ≤ arity e.op) && (lgl i e.b && decide (j = e.b.toNat)))

/-- The marks after the k greatest indexes have been looked at. -/
def fl (L : List Ex) (root : Nat) : Nat → Nat → Bool
  | 0, j => decide (j = root)
  | k + 1, j => fl L root k j || (fl L root k (root - k) && touch (L.getD (root - k) zeroE) (root - k) j)

/-- The columns met so far. -/
def outc (L : List Ex) (root : Nat) : Nat → List Int
  | 0 => []
  | k + 1 => outc L root k ++ (if fl L root k (root - k) = true ∧ (L.getD (root - k) zeroE).op = 2 then [(L.getD (root - k) zeroE).col] else [])

theorem fl_mono {L : List Ex} {root j k : Nat} (h : fl L root k j = true) : ∀ k', k ≤ k' → fl L root k' j = true := by
  intro k' hk
  induction k' with
  | zero => obtain rfl : k = 0 := by omega
            exact h
  | succ n ih =>
    by_cases e : k = n + 1
    · subst e; exact h
    · unfold fl; rw [ih (by omega)]; rfl

theorem outc_mono {L : List Ex} {root k : Nat} {c : Int} (h : c ∈ outc L root k) : ∀ k', k ≤ k' → c ∈ outc L root k' := by
  intro k' hk
  induction k' with
  | zero => obtain rfl : k = 0 := by omega
            exact h
  | succ n ih =>
    by_cases e : k = n + 1
    · subst e; exact h
    · unfold outc; exact List.mem_append_left _ (ih (by omega))

/-- What a row holds at a column. -/
def colOf (row : List Vl) (c : Int) : Vl := if 0 ≤ c ∧ c < row.length then row.getD c.toNat zero else zero

/-- The value depends only on the columns that are reported. -/
theorem local_ {L : List Ex} {root : Nat} {r1 r2 : List Vl} (h : ∀ c ∈ outc L root (root + 1), colOf r1 c = colOf r2 c) :
    ∀ i, i ≤ root → fl L root (root - i) i = true → ev L r1 i = ev L r2 i := by
  intro i
  induction i using Nat.strongRecOn with
  | _ i ih =>
    intro hi hm
    rw [ev_eq, ev_eq]
    unfold evS
    have hri : root - (root - i) = i := by omega
    have hop : (L.getD i zeroE).op = 2 → (L.getD i zeroE).col ∈ outc L root (root + 1) := by
      intro ho
      refine outc_mono (k := root - i + 1) ?_ _ (by omega)
      unfold outc
      rw [hri, if_pos ⟨hm, ho⟩]
      exact List.mem_append_right _ (by simp)
    have htouch : ∀ j, j < i → touch (L.getD i zeroE) i j = true → ev L r1 j = ev L r2 j := by
      intro j hj ht
      refine ih j hj (by omega) (fl_mono (k := root - i + 1) ?_ _ (by omega))
      unfold fl
      rw [hri, hm, ht]
      simp
    generalize L.getD i zeroE = e at *
    by_cases c1 : arity e.op < 0
    · rw [if_pos c1, if_pos c1]
    rw [if_neg c1, if_neg c1]
    by_cases c2 : badIx e i = true
    · rw [if_pos c2, if_pos c2]
    rw [if_neg c2, if_neg c2]
    obtain ⟨h1, h2⟩ := badIx_no (by simpa using c2)
    have ta : 1 ≤ arity e.op → ev L r1 e.a.toNat = ev L r2 e.a.toNat := fun g => by
      have := h1 g
      refine htouch _ (by omega) ?_
      unfold touch
      simp [g, (lgl_iff i e.a).2 this]
    have tb : 2 ≤ arity e.op → ev L r1 e.b.toNat = ev L r2 e.b.toNat := fun g => by
      have := h2 g
      refine htouch _ (by omega) ?_
      unfold touch
      simp [g, (lgl_iff i e.b).2 this]
    rcases arity_cases e.op with ⟨e1, e2⟩ | ⟨e1, e2⟩ | ⟨e1, e2⟩ | ⟨e1, e2⟩ | ⟨e1, e1', e2⟩ | ⟨e1, e2⟩
    · unfold ap; rw [e1]; rfl
    · have := h e.col (hop e1)
      unfold ap; rw [e1]
      exact this
    · rw [ta (by omega)]
      unfold ap
      simp only [e1]
      rfl
    · rw [ta (by omega)]
      unfold ap
      simp only [e1]
      rfl
    · rw [ta (by omega), tb (by omega)]
      have q1 : ¬ e.op = 1 := by omega
      have q2 : ¬ e.op = 2 := by omega
      unfold ap
      rw [if_neg q1, if_neg q2, if_neg q1, if_neg q2]
    · omega

/-- Strictly ascending lists with the same members are equal. -/
theorem asc_eq : ∀ {a b : List Int}, a.Pairwise (· < ·) → b.Pairwise (· < ·) → (∀ x, x ∈ a ↔ x ∈ b) → a = b := by
  intro a
  induction a with
  | nil =>
    intro b _ _ h
    cases b with
    | nil => rfl
    | cons y b => exact absurd ((h y).2 (by simp)) (by simp)
  | cons x a ih =>
    intro b ha hb h
    cases b with
    | nil => exact absurd ((h x).1 (by simp)) (by simp)
    | cons y b =>
      obtain ⟨a1, a2⟩ := List.pairwise_cons.1 ha
      obtain ⟨b1, b2⟩ := List.pairwise_cons.1 hb
      have hxy : x = y := by
        rcases List.mem_cons.1 ((h x).1 (by simp)) with e | e
        · exact e
        · rcases List.mem_cons.1 ((h y).2 (by simp)) with e' | e'
          · exact e'.symm
          · have := b1 x e; have := a1 y e'; omega
      subst hxy
      rw [ih a2 b2 fun z => ?_]
      constructor
      · intro hz
        rcases List.mem_cons.1 ((h z).1 (by simp [hz])) with e | e
        · subst e; have := a1 z hz; omega
        · exact e
      · intro hz
        rcases List.mem_cons.1 ((h z).2 (by simp [hz])) with e | e
        · subst e; have := b1 z hz; omega
        · exact e

end Xp
end Go.Proofs.Ytpgaldkedeohaaa
