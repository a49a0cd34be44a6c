/-
  apply of package expr, for every expression; rows and lists of expressions in memory.
-/
import Derived.Test.YtpgaldkedeohaaaExprK
namespace Go.Proofs.Ytpgaldkedeohaaa
open Go.RowKit

def rVal : Rd Vl := rVia (rPair (rInt .i64) (rPair (rInt .i64) rStr)) (fun v => (v.k, v.n, v.s))
def rExpr : Rd Ex := rVia (rPair (rInt .i64) (rPair (rInt .i64) (rPair (rInt .i64) (rPair (rInt .i64) rVal)))) (fun e => (e.op, e.a, e.b, e.col, e.c))

theorem rInt_inv {k : IntKind} {w : World} {F : Nat → Prop} {cs : List Value} {n : Int} (h : (rInt k).rd w F cs n) : cs = [.int k n] ∧ (Lit.int k n).wf = true := h

theorem wf_i64 {n : Int} (h : (Lit.int .i64 n).wf = true) : -9223372036854775808 ≤ n ∧ n ≤ 9223372036854775807 := by
  simp [Lit.wf, IntKind.min, IntKind.max, IntKind.signed, IntKind.bits] at h
  omega

theorem rVal_inv {w : World} {F : Nat → Prop} {cs : List Value} {v : Vl} (h : rVal.rd w F cs v) : cs = [.int .i64 v.k, .int .i64 v.n, .string v.s] ∧ v.wf ∧ v.s.size ≤ maxLen := by
  obtain ⟨u, u', rfl, h1, h2⟩ := h
  obtain ⟨v1, v2, rfl, h3, h4⟩ := h2
  obtain ⟨rfl, _⟩ := rInt_inv h1
  obtain ⟨rfl, hw⟩ := rInt_inv h3
  obtain ⟨rfl, hs⟩ := h4
  exact ⟨rfl, wf_i64 hw, hs⟩

theorem rExpr_inv {w : World} {F : Nat → Prop} {cs : List Value} {e : Ex} (h : rExpr.rd w F cs e) :
    cs = [.int .i64 e.op, .int .i64 e.a, .int .i64 e.b, .int .i64 e.col, .int .i64 e.c.k, .int .i64 e.c.n, .string e.c.s] ∧ e.c.wf := by
  obtain ⟨u1, r1, rfl, h1, h2⟩ := h
  obtain ⟨u2, r2, rfl, h3, h4⟩ := h2
  obtain ⟨u3, r3, rfl, h5, h6⟩ := h4
  obtain ⟨u4, r4, rfl, h7, h8⟩ := h6
  obtain ⟨rfl, _⟩ := rInt_inv h1
  obtain ⟨rfl, _⟩ := rInt_inv h3
  obtain ⟨rfl, _⟩ := rInt_inv h5
  obtain ⟨rfl, _⟩ := rInt_inv h7
  obtain ⟨rfl, hw, _⟩ := rVal_inv h8
  exact ⟨rfl, hw⟩

/-- A row in memory: a slice of values; each of its blocks lies below B. -/
def RowAt (w : World) (B : Nat) (v : Value) (row : List Vl) : Prop := (rSlice rVal).rd w (· < B) [v] row
def ExsAt (w : World) (B : Nat) (v : Value) (L : List Ex) : Prop := (rSlice rExpr).rd w (· < B) [v] L
def IntsAt (w : World) (B : Nat) (v : Value) (l : List Int) : Prop := (rSlice (rInt .i64)).rd w (· < B) [v] l

theorem rd_below {α : Type} {R : Rd α} {w w' : World} {B : Nat} {cs : List Value} {a : α} (h : R.rd w (· < B) cs a) (hb : Below B w w') : R.rd w' (· < B) cs a :=
  R.keep (Kept.of_below hb fun _ h => h) hb.size h

theorem RowAt.view {w : World} {B : Nat} {v : Value} {row : List Vl} (h : RowAt w B v row) : ∃ a n c, v = .slice a n c ∧ n = row.length ∧ n ≤ c ∧ c ≤ maxLen ∧
    (n = 0 ∨ ∃ b off, a = some ⟨b, off, none⟩ ∧ b < B ∧ b < w.heap.size ∧ ∀ (i : Nat) (x : Vl), row[i]? = some x → VlAt w b (off + i * 3) x ∧ x.wf) := by
  obtain ⟨a, n, c, e, h1, h2, h3, h4⟩ := h
  refine ⟨a, n, c, by simpa using e, h1, h2, h3, ?_⟩
  rcases h4 with h4 | ⟨b, off, ea, hB, hb, h⟩
  · exact .inl h4
  · refine .inr ⟨b, off, ea, hB, hb, fun i x hx => ?_⟩
    obtain ⟨ys, hy, hr⟩ := h i x hx
    obtain ⟨rfl, hw, _⟩ := rVal_inv hr
    exact ⟨⟨hy 0 _ rfl, hy 1 _ rfl, hy 2 _ rfl⟩, hw⟩

/-- An expression's seven cells lie there. -/
def ExAt (w : World) (g o : Nat) (e : Ex) : Prop := w.cell? ⟨g, o, none⟩ = some (.int .i64 e.op) ∧ w.cell? ⟨g, o + 1, none⟩ = some (.int .i64 e.a) ∧ w.cell? ⟨g, o + 2, none⟩ = some (.int .i64 e.b) ∧
  w.cell? ⟨g, o + 3, none⟩ = some (.int .i64 e.col) ∧ w.cell? ⟨g, o + 4, none⟩ = some (.int .i64 e.c.k) ∧ w.cell? ⟨g, o + 5, none⟩ = some (.int .i64 e.c.n) ∧ w.cell? ⟨g, o + 6, none⟩ = some (.string e.c.s)

theorem ExsAt.view {w : World} {B : Nat} {v : Value} {L : List Ex} (h : ExsAt w B v L) : ∃ a n c, v = .slice a n c ∧ n = L.length ∧ n ≤ c ∧ c ≤ maxLen ∧
    (n = 0 ∨ ∃ b off, a = some ⟨b, off, none⟩ ∧ b < B ∧ b < w.heap.size ∧ ∀ (i : Nat) (x : Ex), L[i]? = some x → ExAt w b (off + i * 7) x ∧ x.c.wf) := by
  obtain ⟨a, n, c, e, h1, h2, h3, h4⟩ := h
  refine ⟨a, n, c, by simpa using e, h1, h2, h3, ?_⟩
  rcases h4 with h4 | ⟨b, off, ea, hB, hb, h⟩
  · exact .inl h4
  · refine .inr ⟨b, off, ea, hB, hb, fun i x hx => ?_⟩
    obtain ⟨ys, hy, hr⟩ := h i x hx
    obtain ⟨rfl, hw⟩ := rExpr_inv hr
    exact ⟨⟨hy 0 _ rfl, hy 1 _ rfl, hy 2 _ rfl, hy 3 _ rfl, hy 4 _ rfl, hy 5 _ rfl, hy 6 _ rfl⟩, hw⟩

theorem IntsAt.view {w : World} {B : Nat} {v : Value} {l : List Int} (h : IntsAt w B v l) : ∃ a n c, v = .slice a n c ∧ n = l.length ∧ n ≤ c ∧ c ≤ maxLen ∧
    (n = 0 ∨ ∃ b off, a = some ⟨b, off, none⟩ ∧ b < B ∧ b < w.heap.size ∧ ∀ (i : Nat) (x : Int), l[i]? = some x → w.cell? ⟨b, off + i, none⟩ = some (.int .i64 x) ∧ -9223372036854775808 ≤ x ∧ x ≤ 9223372036854775807) := by
  obtain ⟨a, n, c, e, h1, h2, h3, h4⟩ := h
  refine ⟨a, n, c, by simpa using e, h1, h2, h3, ?_⟩
  rcases h4 with h4 | ⟨b, off, ea, hB, hb, h⟩
  · exact .inl h4
  · refine .inr ⟨b, off, ea, hB, hb, fun i x hx => ?_⟩
    obtain ⟨ys, hy, hr⟩ := h i x hx
    obtain ⟨rfl, hw⟩ := rInt_inv hr
    have := hy 0 _ rfl
    rw [show i * (rInt .i64).size = i from Nat.mul_one i, Nat.add_zero] at this
    exact ⟨this, wf_i64 hw⟩

/-- The operands' values in memory, one behind the other. -/
def ArgsAt (w : World) (av : Value) (n : Nat) (x y : Vl) : Prop := 1 ≤ n → ∃ g c, av = .slice (some ⟨g, 0, none⟩) n c ∧ g < w.heap.size ∧ VlAt w g 0 x ∧ x.wf ∧ (2 ≤ n → VlAt w g 3 y ∧ y.wf)

/-- apply of an expression with legal operands. -/
def apR (e : Ex) (row : List Vl) (x y : Vl) : Vl := if Xp.arity e.op < 0 then Xp.zero else Xp.ap e row x y

theorem expr_apply (e : Ex) (av rv : Value) (row : List Vl) (x y : Vl) (w : World) (B : Nat) (hr : RowAt w B rv row) (ha : ArgsAt w av (nops e.op) x y) :
    Calls Try.prog 25 #[e.go, av, rv] w fun e' w' => e' = .returned (apR e row x y).go ∧ Below w.heap.size w w' := by
  obtain ⟨op, a, b, col, c⟩ := e
  obtain ⟨k, n, s⟩ := c
  unfold Ex.go
  simp only
  have two : ∀ o, (o = 3 ∨ o = 4 ∨ o = 5 ∨ o = 6 ∨ o = 7 ∨ o = 8 ∨ o = 9) → op = o → ∃ g c, av = .slice (some ⟨g, 0, none⟩) 2 c ∧ g < w.heap.size ∧ VlAt w g 0 x ∧ x.wf ∧ VlAt w g 3 y ∧ y.wf := by
    intro o ho e
    have hn : nops op = 2 := by rw [e]; rcases ho with rfl | rfl | rfl | rfl | rfl | rfl | rfl <;> rfl
    have ha : ArgsAt w av (nops op) x y := ha
    rw [hn] at ha
    obtain ⟨g, c, q1, q2, q3, q4, q5⟩ := ha (by omega)
    exact ⟨g, c, q1, q2, q3, q4, q5 (by omega)⟩
  have one : ∀ o, (o = 10 ∨ o = 11) → op = o → ∃ g c, av = .slice (some ⟨g, 0, none⟩) 1 c ∧ g < w.heap.size ∧ VlAt w g 0 x := by
    intro o ho e
    have hn : nops op = 1 := by rw [e]; rcases ho with rfl | rfl <;> rfl
    have ha : ArgsAt w av (nops op) x y := ha
    rw [hn] at ha
    obtain ⟨g, c, q1, q2, q3, q4, _⟩ := ha (by omega)
    exact ⟨g, c, q1, q2, q3⟩
  rcases op_cases op with rfl | rfl | rfl | rfl | rfl | rfl | rfl | rfl | rfl | rfl | rfl | h | h
  · exact apply_const a b col k n s av rv w
  · obtain ⟨ra, rn, rc, rfl, q1, q2, q3, q4⟩ := hr.view
    by_cases h1 : col < 0
    · have e : apR ⟨2, a, b, col, ⟨k, n, s⟩⟩ row x y = Xp.zero := by
        show (if 0 ≤ col ∧ col < row.length then row.getD col.toNat Xp.zero else Xp.zero) = Xp.zero
        rw [if_neg (by omega)]
      rw [e]
      exact apply_col_neg a b col k n s av ra rn rc w h1
    · by_cases h2 : (rn : Int) ≤ col
      · have e : apR ⟨2, a, b, col, ⟨k, n, s⟩⟩ row x y = Xp.zero := by
          show (if 0 ≤ col ∧ col < row.length then row.getD col.toNat Xp.zero else Xp.zero) = Xp.zero
          rw [if_neg (by omega)]
        rw [e]
        exact apply_col_big a b col k n s av ra rn rc w ⟨h2, by omega⟩
      · obtain ⟨j, rfl⟩ : ∃ j : Nat, col = j := ⟨col.toNat, by omega⟩
        rcases q4 with q4 | ⟨rb, ro, rfl, _, hb, hv⟩
        · omega
        · have hj : row[j]? = some (row[j]'(by omega)) := List.getElem?_eq_getElem (by omega)
          obtain ⟨⟨d0, d1, d2⟩, _⟩ := hv j _ hj
          have e : apR ⟨2, a, b, (j : Int), ⟨k, n, s⟩⟩ row x y = row[j]'(by omega) := by
            show (if 0 ≤ (j : Int) ∧ (j : Int) < row.length then row.getD (j : Int).toNat Xp.zero else Xp.zero) = _
            rw [if_pos (by omega), Int.toNat_natCast, List.getD_eq_getElem?_getD, hj]; rfl
          rw [e]
          exact apply_col a b k n s av _ _ _ j rb ro rn rc w (by omega) hb d0 d1 d2
  · obtain ⟨g, gc, rfl, q1, ⟨c0, c1, c2⟩, q2, ⟨c3, c4, c5⟩, q3⟩ := two 3 (by simp) rfl
    exact apply_add a b col k n s _ _ _ _ _ _ g gc rv w q1 c0 c1 c2 c3 c4 c5 q2.1 q2.2 q3.1 q3.2
  · obtain ⟨g, gc, rfl, q1, ⟨c0, c1, c2⟩, q2, ⟨c3, c4, c5⟩, q3⟩ := two 4 (by simp) rfl
    exact apply_sub a b col k n s _ _ _ _ _ _ g gc rv w q1 c0 c1 c2 c3 c4 c5 q2.1 q2.2 q3.1 q3.2
  · obtain ⟨g, gc, rfl, q1, ⟨c0, c1, c2⟩, q2, ⟨c3, c4, c5⟩, q3⟩ := two 5 (by simp) rfl
    exact apply_mul a b col k n s _ _ _ _ _ _ g gc rv w q1 c0 c1 c2 c3 c4 c5 q2.1 q2.2 q3.1 q3.2
  · obtain ⟨g, gc, rfl, q1, ⟨c0, c1, c2⟩, _, ⟨c3, c4, c5⟩, _⟩ := two 6 (by simp) rfl
    exact apply_eq a b col k n s _ _ _ _ _ _ g gc rv w q1 c0 c1 c2 c3 c4 c5
  · obtain ⟨g, gc, rfl, q1, ⟨c0, c1, c2⟩, _, ⟨c3, c4, c5⟩, _⟩ := two 7 (by simp) rfl
    exact apply_less a b col k n s _ _ _ _ _ _ g gc rv w q1 c0 c1 c2 c3 c4 c5
  · obtain ⟨g, gc, rfl, q1, ⟨c0, c1, c2⟩, _, ⟨c3, c4, c5⟩, _⟩ := two 8 (by simp) rfl
    exact apply_and a b col k n s _ _ _ _ _ _ g gc rv w q1 c0 c1 c2 c3 c4 c5
  · obtain ⟨g, gc, rfl, q1, ⟨c0, c1, c2⟩, _, ⟨c3, c4, c5⟩, _⟩ := two 9 (by simp) rfl
    exact apply_or a b col k n s _ _ _ _ _ _ g gc rv w q1 c0 c1 c2 c3 c4 c5
  · obtain ⟨g, gc, rfl, q1, ⟨c0, c1, c2⟩⟩ := one 10 (by simp) rfl
    exact apply_not a b col k n s _ _ _ g gc rv w q1 c0 c1 c2
  · obtain ⟨g, gc, rfl, q1, ⟨c0, c1, c2⟩⟩ := one 11 (by simp) rfl
    exact apply_isnull a b col k n s _ _ _ g gc rv w q1 c0 c1 c2
  · have e : apR ⟨op, a, b, col, ⟨k, n, s⟩⟩ row x y = Xp.zero := by unfold apR; rw [if_pos (by rw [arity_low h]; decide)]
    rw [e]
    exact apply_low op a b col k n s av rv w h
  · have e : apR ⟨op, a, b, col, ⟨k, n, s⟩⟩ row x y = Xp.zero := by unfold apR; rw [if_pos (by rw [arity_high h]; decide)]
    rw [e]
    exact apply_high op a b col k n s av rv w h

end Go.Proofs.Ytpgaldkedeohaaa
