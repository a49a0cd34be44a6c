/-
  Expressions, plain laws: the operators on numbers; shared operands. No program in sight.
-/
import Derived.Test.YtpgaldkedeohaaaExpB
namespace Go.Proofs.Ytpgaldkedeohaaa
open Go.RowKit
namespace Xp

theorem ev_op {L : List Ex} {row : List Vl} {i : Nat} {e : Ex} (h : L.getD i zeroE = e) (h1 : badIx e i = false) (h2 : 0 ≤ arity e.op) : ev L row i = ap e row (ev L row e.a.toNat) (ev L row e.b.toNat) := by
  rw [ev_eq]
  unfold evS
  rw [h, if_neg (by omega), h1]
  rfl

theorem ev_bad {L : List Ex} {row : List Vl} {i : Nat} {e : Ex} (h : L.getD i zeroE = e) (h1 : badIx e i = true ∨ arity e.op < 0) : ev L row i = zero := by
  rw [ev_eq]
  unfold evS
  rw [h]
  by_cases c : arity e.op < 0
  · rw [if_pos c]
  · rw [if_neg c, if_pos (h1.resolve_right c)]

theorem ck_op {L : List Ex} {cols : List Int} {i : Nat} {e : Ex} (h : L.getD i zeroE = e) (h1 : badIx e i = false) (h2 : badOp e = false) (h3 : badCol e cols.length = false) (ha : 1 ≤ arity e.op → (ck L cols e.a.toNat).2 = 0) (hb : 2 ≤ arity e.op → (ck L cols e.b.toNat).2 = 0) :
    ck L cols i = cmb e cols (ck L cols e.a.toNat).1 (ck L cols e.b.toNat).1 := by
  rw [ck_eq]
  unfold ckS
  rw [h, h1, h2, h3, if_neg (by simp), if_neg (by simp), if_neg (by simp), if_neg (fun g => g.2 (ha g.1)), if_neg (fun g => g.2 (hb g.1))]

/-- Seven expressions over two columns. -/
def seven : List Ex := [⟨2, 0, 0, 0, zero⟩, ⟨2, 0, 0, 1, zero⟩, ⟨3, 0, 1, 0, zero⟩, ⟨4, 2, 1, 0, zero⟩, ⟨5, 0, 1, 0, zero⟩, ⟨7, 0, 1, 0, zero⟩, ⟨6, 0, 1, 0, zero⟩]

theorem seven_ev (x y : Vl) : ev seven [x, y] 2 = arith 3 x y ∧ ev seven [x, y] 3 = arith 4 (arith 3 x y) y ∧ ev seven [x, y] 4 = arith 5 x y ∧
    ev seven [x, y] 5 = bool (decide (x.k ≠ 0) && (decide (x.k = y.k) && decide (vcmp x y < 0))) ∧ ev seven [x, y] 6 = bool (decide (x.k ≠ 0) && (decide (y.k ≠ 0) && decide (vcmp x y = 0))) := by
  have e0 : ev seven [x, y] 0 = x := (ev_op (e := ⟨2, 0, 0, 0, zero⟩) rfl (by decide) (by decide)).trans rfl
  have e1 : ev seven [x, y] 1 = y := (ev_op (e := ⟨2, 0, 0, 1, zero⟩) rfl (by decide) (by decide)).trans rfl
  have e2 : ev seven [x, y] 2 = arith 3 x y := by
    refine (ev_op (e := ⟨3, 0, 1, 0, zero⟩) rfl (by decide) (by decide)).trans ?_
    show arith 3 (ev seven [x, y] 0) (ev seven [x, y] 1) = _
    rw [e0, e1]
  refine ⟨e2, ?_, ?_, ?_, ?_⟩
  · refine (ev_op (e := ⟨4, 2, 1, 0, zero⟩) rfl (by decide) (by decide)).trans ?_
    show arith 4 (ev seven [x, y] 2) (ev seven [x, y] 1) = _
    rw [e2, e1]
  · refine (ev_op (e := ⟨5, 0, 1, 0, zero⟩) rfl (by decide) (by decide)).trans ?_
    show arith 5 (ev seven [x, y] 0) (ev seven [x, y] 1) = _
    rw [e0, e1]
  · refine (ev_op (e := ⟨7, 0, 1, 0, zero⟩) rfl (by decide) (by decide)).trans ?_
    rw [show (⟨7, 0, 1, 0, zero⟩ : Ex).a.toNat = 0 from rfl, show (⟨7, 0, 1, 0, zero⟩ : Ex).b.toNat = 1 from rfl, e0, e1]
    rfl
  · refine (ev_op (e := ⟨6, 0, 1, 0, zero⟩) rfl (by decide) (by decide)).trans ?_
    rw [show (⟨6, 0, 1, 0, zero⟩ : Ex).a.toNat = 0 from rfl, show (⟨6, 0, 1, 0, zero⟩ : Ex).b.toNat = 1 from rfl, e0, e1]
    rfl

/-- One column, then k doublings. -/
def chain : Nat → List Ex
  | 0 => [⟨2, 0, 0, 0, zero⟩]
  | k + 1 => chain k ++ [⟨3, k, k, 0, zero⟩]

theorem chain_len (k : Nat) : (chain k).length = k + 1 := by
  induction k with
  | zero => rfl
  | succ k ih => simp [chain, ih]

theorem chain_zero (k : Nat) : (chain k).getD 0 zeroE = ⟨2, 0, 0, 0, zero⟩ := by
  induction k with
  | zero => rfl
  | succ k ih =>
    rw [chain, List.getD_eq_getElem?_getD, List.getElem?_append_left (by rw [chain_len]; omega), ← List.getD_eq_getElem?_getD, ih]

theorem chain_at (k i : Nat) (h : i < k) : (chain k).getD (i + 1) zeroE = ⟨3, i, i, 0, zero⟩ := by
  induction k with
  | zero => omega
  | succ k ih =>
    rw [chain, List.getD_eq_getElem?_getD]
    by_cases e : i = k
    · subst e
      rw [List.getElem?_append_right (by rw [chain_len]; exact Nat.le_refl _), chain_len, Nat.sub_self]
      rfl
    · rw [List.getElem?_append_left (by rw [chain_len]; omega), ← List.getD_eq_getElem?_getD, ih (by omega)]

/-- x doubled i times, or Null. -/
def dbl (x : Vl) : Nat → Vl
  | 0 => x
  | i + 1 => arith 3 (dbl x i) (dbl x i)

theorem chain_ix (i : Nat) : badIx ⟨3, i, i, 0, zero⟩ (i + 1) = false := by
  unfold badIx
  have : lgl (i + 1) (i : Int) = true := (lgl_iff _ _).2 (by omega)
  simp [this]

theorem chain_ev (x : Vl) (k : Nat) : ∀ i, i ≤ k → ev (chain k) [x] i = dbl x i := by
  intro i
  induction i with
  | zero =>
    intro _
    exact (ev_op (e := ⟨2, 0, 0, 0, zero⟩) (chain_zero k) (by decide) (by decide)).trans rfl
  | succ i ih =>
    intro h
    refine (ev_op (e := ⟨3, i, i, 0, zero⟩) (chain_at k i (by omega)) (chain_ix i) (show (0 : Int) ≤ arity 3 by decide)).trans ?_
    show arith 3 (ev (chain k) [x] (i : Int).toNat) (ev (chain k) [x] (i : Int).toNat) = _
    rw [show ((i : Nat) : Int).toNat = i from Int.toNat_natCast i, ih (by omega)]
    rfl

theorem chain_ck (k : Nat) : ∀ i, i ≤ k → ck (chain k) [1] i = (1, 0) := by
  intro i
  induction i with
  | zero =>
    intro _
    exact (ck_op (e := ⟨2, 0, 0, 0, zero⟩) (chain_zero k) (by decide) (by decide) (by decide) (fun g => absurd g (show ¬ (1 : Int) ≤ arity 2 by decide)) (fun g => absurd g (show ¬ (2 : Int) ≤ arity 2 by decide))).trans rfl
  | succ i ih =>
    intro h
    have e : ck (chain k) [1] (i : Int).toNat = (1, 0) := by rw [Int.toNat_natCast]; exact ih (by omega)
    refine (ck_op (e := ⟨3, i, i, 0, zero⟩) (chain_at k i (by omega)) (chain_ix i) (by show badOp ⟨3, i, i, 0, zero⟩ = false; rfl) (by rfl) (fun _ => by rw [e]) (fun _ => by rw [e])).trans ?_
    rw [show (⟨3, i, i, 0, zero⟩ : Ex).a.toNat = (i : Int).toNat from rfl, show (⟨3, i, i, 0, zero⟩ : Ex).b.toNat = (i : Int).toNat from rfl, e]
    rfl

theorem touch_chain (i j : Nat) : touch ⟨3, i, i, 0, zero⟩ (i + 1) j = decide (j = i) := by
  unfold touch
  have : lgl (i + 1) (i : Int) = true := (lgl_iff _ _).2 (by omega)
  have e : decide ((2 : Int) ≤ arity 3) = true := by decide
  have e' : decide ((1 : Int) ≤ arity 3) = true := by decide
  simp [this, e, e']

theorem chain_out (k : Nat) : ∀ i, i ≤ k → fl (chain k) k i (k - i) = true ∧ outc (chain k) k i = [] := by
  intro i
  induction i with
  | zero => intro _; exact ⟨by simp [fl], rfl⟩
  | succ i ih =>
    intro h
    obtain ⟨h1, h2⟩ := ih (by omega)
    obtain ⟨m, hm⟩ : ∃ m, k - i = m + 1 := ⟨k - i - 1, by omega⟩
    have e : (chain k).getD (k - i) zeroE = ⟨3, m, m, 0, zero⟩ := by rw [hm]; exact chain_at k m (by omega)
    constructor
    · show (fl (chain k) k i (k - (i + 1)) || (fl (chain k) k i (k - i) && touch ((chain k).getD (k - i) zeroE) (k - i) (k - (i + 1)))) = true
      rw [h1, e, hm, touch_chain]
      have : k - (i + 1) = m := by omega
      simp [this]
    · show outc (chain k) k i ++ (if fl (chain k) k i (k - i) = true ∧ ((chain k).getD (k - i) zeroE).op = 2 then [((chain k).getD (k - i) zeroE).col] else []) = []
      rw [h2, e, if_neg (by simp)]
      rfl

theorem chain_cols (k : Nat) : outc (chain k) k (k + 1) = [0] := by
  obtain ⟨h1, h2⟩ := chain_out k k (Nat.le_refl _)
  show outc (chain k) k k ++ (if fl (chain k) k k (k - k) = true ∧ ((chain k).getD (k - k) zeroE).op = 2 then [((chain k).getD (k - k) zeroE).col] else []) = [0]
  rw [h2, h1, Nat.sub_self, chain_zero]
  rfl

end Xp
end Go.Proofs.Ytpgaldkedeohaaa
