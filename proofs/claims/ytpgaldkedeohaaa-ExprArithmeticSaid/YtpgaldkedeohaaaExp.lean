/-
  Expressions, plain: what Check, Eval and Columns return. No program in sight.
-/
import Derived.Test.YtpgaldkedeohaaaRd
namespace Go.Proofs.Ytpgaldkedeohaaa
open Go.RowKit

/-- A value: its kind, its number, its text. -/
structure Vl where
  k : Int
  n : Int
  s : ByteArray

structure Ex where
  op : Int
  a : Int
  b : Int
  col : Int
  c : Vl

namespace Xp

def zero : Vl := ⟨0, 0, ⟨#[]⟩⟩
def zeroE : Ex := ⟨0, 0, 0, 0, zero⟩
def bool (b : Bool) : Vl := ⟨3, if b = true then 1 else 0, ⟨#[]⟩⟩

def arity (op : Int) : Int := if op = 1 ∨ op = 2 then 0 else if op = 10 ∨ op = 11 then 1 else if 3 ≤ op ∧ op ≤ 9 then 2 else -1

/-- The value is valid. -/
def vv (v : Vl) : Bool :=
  if v.k = 0 then decide (v.n = 0) && decide (v.s.size = 0) else if v.k = 1 then decide (v.s.size = 0)
  else if v.k = 2 then decide (v.n = 0) && decide (v.s.size ≤ 200) else if v.k = 3 then (decide (v.n = 0) || decide (v.n = 1)) && decide (v.s.size = 0) else false

def lgl (i : Nat) (o : Int) : Bool := decide (0 ≤ o) && decide (o < i)

def acc (k r : Int) : Bool := decide (k = 0) || decide (k = r)

/-- The type of an operator, out of those of its operands. -/
def cmb (e : Ex) (cols : List Int) (ka kb : Int) : Int × Int :=
  if e.op = 1 then (e.c.k, 0) else if e.op = 2 then (cols.getD e.col.toNat 0, 0) else if e.op = 11 then (3, 0)
  else if e.op = 6 ∨ e.op = 7 then (if acc ka kb = true ∨ acc kb ka = true then (3, 0) else (0, 7))
  else if e.op = 10 then (if acc ka 3 = true then (3, 0) else (0, 7))
  else if e.op ≤ 5 then (if acc ka 1 = true ∧ acc kb 1 = true then (1, 0) else (0, 7))
  else (if acc ka 3 = true ∧ acc kb 3 = true then (3, 0) else (0, 7))

/-- Some operand's index is not legal, or the column's. -/
def badIx (e : Ex) (i : Nat) : Bool := (decide (1 ≤ arity e.op) && !lgl i e.a) || (decide (2 ≤ arity e.op) && !lgl i e.b)
def badCol (e : Ex) (n : Nat) : Bool := decide (e.op = 2) && !(decide (0 ≤ e.col) && decide (e.col < n))
def badOp (e : Ex) : Bool := decide (arity e.op < 0) || (decide (e.op = 1) && !vv e.c)

/-- Check of expression i, out of the results for the expressions before it. -/
def ckS (L : List Ex) (cols : List Int) (i : Nat) (f : Nat → Int × Int) : Int × Int :=
  if badOp (L.getD i zeroE) = true then (0, 5)
  else if badIx (L.getD i zeroE) i = true then (0, 10)
  else if badCol (L.getD i zeroE) cols.length = true then (0, 10)
  else if 1 ≤ arity (L.getD i zeroE).op ∧ (f (L.getD i zeroE).a.toNat).2 ≠ 0 then (0, (f (L.getD i zeroE).a.toNat).2)
  else if 2 ≤ arity (L.getD i zeroE).op ∧ (f (L.getD i zeroE).b.toNat).2 ≠ 0 then (0, (f (L.getD i zeroE).b.toNat).2)
  else cmb (L.getD i zeroE) cols (f (L.getD i zeroE).a.toNat).1 (f (L.getD i zeroE).b.toNat).1

/-- The results for the expressions below i. -/
def tab {α : Type} (z : α) (S : Nat → (Nat → α) → α) : Nat → Nat → α
  | 0 => fun _ => z
  | i + 1 => fun j => if j = i then S i (tab z S i) else tab z S i j

theorem tab_lt {α : Type} (z : α) (S : Nat → (Nat → α) → α) : ∀ (i j : Nat), j < i → tab z S i j = S j (tab z S j) := by
  intro i
  induction i with
  | zero => intro j h; omega
  | succ i ih =>
    intro j h
    show (if j = i then S i (tab z S i) else tab z S i j) = _
    by_cases e : j = i
    · subst e; rw [if_pos rfl]
    · rw [if_neg e]; exact ih j (by omega)

def ck (L : List Ex) (cols : List Int) (i : Nat) : Int × Int := ckS L cols i (tab (0, 0) (ckS L cols) i)

theorem lgl_iff (i : Nat) (o : Int) : lgl i o = true ↔ 0 ≤ o ∧ o < i := by unfold lgl; simp

theorem arity_cases (op : Int) : (op = 1 ∧ arity op = 0) ∨ (op = 2 ∧ arity op = 0) ∨ (op = 10 ∧ arity op = 1) ∨ (op = 11 ∧ arity op = 1) ∨ (3 ≤ op ∧ op ≤ 9 ∧ arity op = 2) ∨
    (¬ (1 ≤ op ∧ op ≤ 11) ∧ arity op = -1) := by
  unfold arity
  split
  · omega
  · split
    · omega
    · split <;> omega

theorem badIx_no {e : Ex} {i : Nat} (h : badIx e i = false) : (1 ≤ arity e.op → 0 ≤ e.a ∧ e.a < i) ∧ (2 ≤ arity e.op → 0 ≤ e.b ∧ e.b < i) := by
  unfold badIx at h
  simp only [Bool.or_eq_false_iff, Bool.and_eq_false_iff, decide_eq_false_iff_not, Bool.not_eq_false'] at h
  refine ⟨fun g => ?_, fun g => ?_⟩
  · rcases h.1 with h | h
    · exact absurd g h
    · exact (lgl_iff _ _).1 h
  · rcases h.2 with h | h
    · exact absurd g h
    · exact (lgl_iff _ _).1 h

/-- Check reads the results of the operands alone. -/
theorem ckS_congr {L : List Ex} {cols : List Int} {i : Nat} {f g : Nat → Int × Int} (h : ∀ j, j < i → f j = g j) : ckS L cols i f = ckS L cols i g := by
  unfold ckS
  generalize L.getD i zeroE = e
  by_cases c1 : badOp e = true
  · rw [if_pos c1, if_pos c1]
  rw [if_neg c1, if_neg c1]
  by_cases c2 : badIx e i = true
  · rw [if_pos c2, if_pos c2]
  rw [if_neg c2, if_neg c2]
  by_cases c3 : badCol e cols.length = true
  · rw [if_pos c3, if_pos c3]
  rw [if_neg c3, if_neg c3]
  obtain ⟨h1, h2⟩ := badIx_no (by simpa using c2)
  rcases arity_cases e.op with ⟨e1, e2⟩ | ⟨e1, e2⟩ | ⟨e1, e2⟩ | ⟨e1, e2⟩ | ⟨e1, e1', e2⟩ | ⟨e1, e2⟩
  · rw [e2]
    simp only [show ¬ (1 : Int) ≤ 0 by omega, show ¬ (2 : Int) ≤ 0 by omega, false_and, if_false]
    unfold cmb; rw [e1]; rfl
  · rw [e2]
    simp only [show ¬ (1 : Int) ≤ 0 by omega, show ¬ (2 : Int) ≤ 0 by omega, false_and, if_false]
    unfold cmb; rw [e1]; rfl
  · have ha := h1 (by omega)
    rw [h e.a.toNat (by omega), e2]
    simp only [show ¬ (2 : Int) ≤ 1 by omega, false_and, if_false]
    unfold cmb
    simp only [e1]
    rfl
  · have ha := h1 (by omega)
    rw [h e.a.toNat (by omega), e2]
    simp only [show ¬ (2 : Int) ≤ 1 by omega, false_and, if_false]
    unfold cmb
    simp only [e1]
    rfl
  · have ha := h1 (by omega)
    have hb := h2 (by omega)
    rw [h e.a.toNat (by omega), h e.b.toNat (by omega)]
  · have : badOp e = true := by unfold badOp; rw [e2]; rfl
    exact absurd this c1

theorem ck_eq (L : List Ex) (cols : List Int) (i : Nat) : ck L cols i = ckS L cols i (ck L cols) :=
  ckS_congr fun j hj => tab_lt _ _ i j hj

/-! ### Values -/

def i64 (n : Int) : Bool := decide (-9223372036854775808 ≤ n) && decide (n ≤ 9223372036854775807)

def arith (op : Int) (x y : Vl) : Vl :=
  if x.k = 1 ∧ y.k = 1 then
    (if op = 3 then (if i64 (x.n + y.n) = true then ⟨1, x.n + y.n, ⟨#[]⟩⟩ else zero)
     else if op = 4 then (if i64 (x.n - y.n) = true then ⟨1, x.n - y.n, ⟨#[]⟩⟩ else zero)
     else (if i64 (x.n * y.n) = true then ⟨1, x.n * y.n, ⟨#[]⟩⟩ else zero))
  else zero

def sgn (a b : Int) : Int := if a < b then -1 else if a = b then 0 else 1
/-- The order of two texts. -/
def scmp (a b : ByteArray) : Int := if a.toList = b.toList then 0 else if Op.bytesLess a.toList b.toList = true then -1 else 1
def vcmp (x y : Vl) : Int := if sgn x.k y.k ≠ 0 then sgn x.k y.k else if sgn x.n y.n ≠ 0 then sgn x.n y.n else scmp x.s y.s

def isT (v : Vl) : Bool := decide (v.k = 3) && decide (v.n = 1)

/-- An operator applied to values. -/
def ap (e : Ex) (row : List Vl) (x y : Vl) : Vl :=
  if e.op = 1 then e.c else if e.op = 2 then (if 0 ≤ e.col ∧ e.col < row.length then row.getD e.col.toNat zero else zero)
  else if e.op ≤ 5 then arith e.op x y
  else if e.op = 6 then bool (decide (x.k ≠ 0) && (decide (y.k ≠ 0) && decide (vcmp x y = 0)))
  else if e.op = 7 then bool (decide (x.k ≠ 0) && (decide (x.k = y.k) && decide (vcmp x y < 0)))
  else if e.op = 8 then bool (isT x && isT y)
  else if e.op = 9 then bool (isT x || isT y)
  else if e.op = 10 then bool (!isT x)
  else bool (decide (x.k = 0))

/-- Eval of expression i, out of the values of the expressions before it. -/
def evS (L : List Ex) (row : List Vl) (i : Nat) (f : Nat → Vl) : Vl :=
  if arity (L.getD i zeroE).op < 0 then zero
  else if badIx (L.getD i zeroE) i = true then zero
  else ap (L.getD i zeroE) row (f (L.getD i zeroE).a.toNat) (f (L.getD i zeroE).b.toNat)

def ev (L : List Ex) (row : List Vl) (i : Nat) : Vl := evS L row i (tab zero (evS L row) i)

theorem evS_congr {L : List Ex} {row : List Vl} {i : Nat} {f g : Nat → Vl} (h : ∀ j, j < i → f j = g j) : evS L row i f = evS L row i g := by
  unfold evS
  generalize L.getD i zeroE = e
  by_cases c1 : arity e.op < 0
  · rw [if_pos c1, if_pos c1]
  rw [if_neg c1, if_neg c1]
  by_cases c2 : badIx e i = true
  · rw [if_pos c2, if_pos c2]
  rw [if_neg c2, if_neg c2]
  obtain ⟨h1, h2⟩ := badIx_no (by simpa using c2)
  rcases arity_cases e.op with ⟨e1, e2⟩ | ⟨e1, e2⟩ | ⟨e1, e2⟩ | ⟨e1, e2⟩ | ⟨e1, e1', e2⟩ | ⟨e1, e2⟩
  · unfold ap; rw [e1]; rfl
  · unfold ap; rw [e1]; rfl
  · have ha := h1 (by omega)
    rw [h e.a.toNat (by omega)]
    unfold ap
    simp only [e1]
    rfl
  · have ha := h1 (by omega)
    rw [h e.a.toNat (by omega)]
    unfold ap
    simp only [e1]
    rfl
  · have ha := h1 (by omega)
    have hb := h2 (by omega)
    rw [h e.a.toNat (by omega), h e.b.toNat (by omega)]
  · omega

theorem ev_eq (L : List Ex) (row : List Vl) (i : Nat) : ev L row i = evS L row i (ev L row) :=
  evS_congr fun j hj => tab_lt _ _ i j hj

end Xp

end Go.Proofs.Ytpgaldkedeohaaa
