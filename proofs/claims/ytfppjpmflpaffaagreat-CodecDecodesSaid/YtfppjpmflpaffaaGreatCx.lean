/-
  The codec in memory: a writer, a reader of bytes; data of any depth by its shape.
-/
import Derived.Test.YtfppjpmflpaffaaGreatCz
import Derived.Deep.LoopGhost
namespace Go.Proofs.YtfppjpmflpaffaaGreat
open Go.RowKit
set_option linter.unusedVariables false
set_option linter.unusedSimpArgs false

/-- What lies in memory is in range. -/
theorem ok_rd : ∀ (t : Ty) {w : World} {F : Nat → Prop} {cs : List Value} {x : t.T}, t.rd.rd w F cs x → Ok t x
  | .num, w, F, cs, x, h => by
    obtain ⟨_, h⟩ := h
    have h : -9223372036854775808 ≤ x ∧ x ≤ 9223372036854775807 := by simpa [Lit.wf, IntKind.min, IntKind.max, IntKind.bits, IntKind.signed] using h
    exact ⟨h.1, Int.lt_of_le_of_lt h.2 (by decide)⟩
  | .str, w, F, cs, x, h => by
    obtain ⟨_, h⟩ := h
    show x.size < _
    unfold maxLen at h; omega
  | .list t, w, F, cs, l, h => by
    obtain ⟨a, n, c, _, h1, h2, h3, h4⟩ := h
    refine ⟨by show List.length l < _; unfold maxLen at h3; omega, fun x hx => ?_⟩
    rcases h4 with h4 | ⟨b, off, _, _, _, h⟩
    · have : l = [] := List.eq_nil_of_length_eq_zero (by omega)
      rw [this] at hx; cases hx
    · obtain ⟨i, hi, e⟩ := List.getElem_of_mem hx
      obtain ⟨ys, _, hr⟩ := h i x (by rw [List.getElem?_eq_getElem hi, e])
      exact ok_rd t hr
  | .pair a b, w, F, cs, x, h => by
    obtain ⟨u, v, _, h1, h2⟩ := h
    exact ⟨ok_rd a h1, ok_rd b h2⟩

/-- A writer: a block with bytes of its own behind it; v is its slice. -/
structure Wr (w : World) (wb : Nat) (v : Value) (l : List UInt8) : Prop where
  lt : wb < w.heap.size
  free : w.frozen? ⟨wb, 0, none⟩ = false
  cell : w.cell? ⟨wb, 0, none⟩ = some v
  row : Row w (wb + 1) v l

/-- A writer has gone on. -/
structure Gw (wb : Nat) (v v' : Value) (w w' : World) : Prop where
  chg : Chg (fun b => b = wb ∨ v.ownBlock = some b) w w'
  own : ∀ b, v'.ownBlock = some b → v.ownBlock = some b ∨ w.heap.size ≤ b

section
variable {w w' w'' : World} {wb base : Nat} {v v' v'' : Value} {l l' : List UInt8}

theorem Grw.refl (v : Value) (w : World) : Grw v v w w := ⟨Chg.refl _ _, fun _ h => .inl h⟩
theorem Grw.trans (h : Grw v v' w w') (k : Grw v' v'' w' w'') : Grw v v'' w w'' :=
  ⟨⟨k.chg.os.trans h.chg.os, k.chg.tape.trans h.chg.tape, k.chg.output.trans h.chg.output, Nat.le_trans h.chg.size k.chg.size, fun b hb hn =>
    (k.chg.block b (Nat.lt_of_lt_of_le hb h.chg.size) (fun e => (h.own b e).elim hn (fun e => by omega))).trans (h.chg.block b hb hn)⟩,
   fun b hb => (k.own b hb).elim (h.own b) (fun e => .inr (Nat.le_trans h.chg.size e))⟩
theorem Grw.of_below (h : Below w.heap.size w w') : Grw v v w w' := ⟨Chg.of_below h, fun _ h => .inl h⟩
theorem Grw.cell (h : Grw v v' w w') {a : Addr} (ha : v.ownBlock ≠ some a.block) (hl : a.block < w.heap.size) : w'.cell? a = w.cell? a := h.chg.cell ha hl
theorem Grw.below (h : Grw v v' w w') (hr : Row w base v l) (hb : base ≤ w.heap.size) : Below base w w' := h.chg.below hb (fun b e => (hr.ge b e).1)

theorem Row.chg {F : Nat → Prop} (h : Row w base v l) (hc : Chg F w w') (hne : ∀ b, v.ownBlock = some b → ¬ F b) : Row w' base v l := own_chg h hc hne

theorem Gw.refl (wb : Nat) (v : Value) (w : World) : Gw wb v v w w := ⟨Chg.refl _ _, fun _ h => .inl h⟩
theorem Gw.trans (h : Gw wb v v' w w') (k : Gw wb v' v'' w' w'') : Gw wb v v'' w w'' :=
  ⟨⟨k.chg.os.trans h.chg.os, k.chg.tape.trans h.chg.tape, k.chg.output.trans h.chg.output, Nat.le_trans h.chg.size k.chg.size, fun b hb hn =>
    (k.chg.block b (Nat.lt_of_lt_of_le hb h.chg.size) (fun e => e.elim (fun e => hn (.inl e)) (fun e => (h.own b e).elim (fun e => hn (.inr e)) (fun e => by omega)))).trans (h.chg.block b hb hn)⟩,
   fun b hb => (k.own b hb).elim (h.own b) (fun e => .inr (Nat.le_trans h.chg.size e))⟩
theorem Gw.of_below (h : Below w.heap.size w w') : Gw wb v v w w' := ⟨Chg.of_below h, fun _ h => .inl h⟩
theorem Gw.cell (h : Gw wb v v' w w') {a : Addr} (h1 : a.block ≠ wb) (h2 : v.ownBlock ≠ some a.block) (hl : a.block < w.heap.size) : w'.cell? a = w.cell? a := h.chg.cell (fun e => e.elim h1 h2) hl
theorem Gw.below (h : Gw wb v v' w w') (hw : Wr w wb v l) : Below wb w w' := h.chg.below (Nat.le_of_lt hw.lt) (fun b e => e.elim (fun e => by omega) (fun e => by have := (hw.row.ge b e).1; omega))

/-- A block of another one, made behind the writer. -/
theorem Gw.box (h : Gw wb v v' w w') (hw : Wr w wb v l) (k : Nat) (hk : wb < k) (hn : v.ownBlock ≠ some k) (hl : k < w.heap.size) (j : Nat) : w'.cell? ⟨k, j, none⟩ = w.cell? ⟨k, j, none⟩ := h.cell (a := ⟨k, j, none⟩) (by show k ≠ wb; omega) hn hl

theorem Wr.keep (h : Wr w wb v l) (hb : Below w.heap.size w w') : Wr w' wb v l :=
  ⟨Nat.lt_of_lt_of_le h.lt hb.size, (hb.frozen (p := ⟨wb, 0, none⟩) h.lt).trans h.free, (hb.cell (p := ⟨wb, 0, none⟩) h.lt).trans h.cell, h.row.keep hb⟩

/-- The bytes have grown and are put back. -/
theorem Wr.put (h : Wr w wb v l) (hg : Grw v v' w w') (hr' : Row w' (wb + 1) v' l') : Wr (w'.setCell ⟨wb, 0, none⟩ v') wb v' l' ∧ Gw wb v v' w (w'.setCell ⟨wb, 0, none⟩ v') := by
  have hne : ¬ v.ownBlock = some wb := fun e => by have := (h.row.ge wb e).1; omega
  have hc' : w'.cell? ⟨wb, 0, none⟩ = some v := (hg.chg.cell (a := ⟨wb, 0, none⟩) hne h.lt).trans h.cell
  have hf' : w'.frozen? ⟨wb, 0, none⟩ = false := (hg.chg.frozen (a := ⟨wb, 0, none⟩) hne h.lt).trans h.free
  refine ⟨⟨by have := hg.chg.size; have := h.lt; simp; omega, by rw [World.frozen?_setCell]; exact hf', World.cell?_setCell_same _ _ _ hc', hr'.chg (F := fun b => b = wb) (Chg.setCell _ _ rfl) (fun b hb e => by have := (hr'.ge b hb).1; omega)⟩, ?_, hg.own⟩
  have g : ∀ u : World, Chg (fun b => b = wb) u (u.setCell ⟨wb, 0, none⟩ v') := fun u => Chg.setCell _ _ rfl
  exact (hg.chg.more (fun b _ e => .inr e)).trans ((g w').more (fun b _ e => .inl e))

/-- Data that lie below stay. -/
theorem rd_low {α : Type} {R : Rd α} {cs : List Value} {x : α} (hb : Below wb w w') (hl : wb ≤ w.heap.size) (h : R.rd w (· < wb) cs x) : R.rd w' (· < wb) cs x :=
  R.keep (fun b hk _ => hb.block b hk) hb.size h
end

/-- A value of so many cells. -/
def goV : List Value → Value
  | [v] => v
  | cs => .agg cs.toArray

/-- What an encoder of the program promises of its function. -/
def PutC (f : Nat) (t : Ty) : Prop := ∀ (w : World) (wb : Nat) (v : Value) (l : List UInt8) (cs : List Value) (x : t.T), Wr w wb v l → t.rd.rd w (· < wb) cs x → l.length + (enc t x).length ≤ 140737488355328 →
  Calls Tryz.prog f #[.pointer (some ⟨wb, 0, none⟩), goV cs] w fun e w' => e = .returned (.tuple #[]) ∧ ∃ v', Wr w' wb v' (l ++ enc t x) ∧ Gw wb v v' w w'

/-- What an encoder of the reference promises of its function. -/
def RefC (f : Nat) (t : Ty) : Prop := ∀ (w : World) (base : Nat) (v : Value) (l : List UInt8) (cs : List Value) (x : t.T), base ≤ w.heap.size → Row w base v l → t.rd.rd w (· < base) cs x → l.length + (enc t x).length ≤ 140737488355328 →
  Calls Tryz.prog f #[v, goV cs] w fun e w' => ∃ v', e = .returned v' ∧ Row w' base v' (l ++ enc t x) ∧ Grw v v' w w'

/-- The program's types. -/
abbrev tPeriod : Ty := .pair .num .num
abbrev tValue : Ty := .pair .num (.pair .num .str)
abbrev tExpr : Ty := .pair .num (.pair .num (.pair .num (.pair .num tValue)))
abbrev tRow : Ty := .pair (.list tValue) (.list .num)
abbrev tVersion : Ty := .pair .num (.pair (.list tValue) (.pair tPeriod tPeriod))
abbrev tAssignment : Ty := .pair .num .num
abbrev tColumn : Ty := .pair .num (.pair .str .num)
abbrev tSchemaVersion : Ty := .pair tPeriod (.list tColumn)
abbrev tForeignKey : Ty := .pair (.list .num) (.pair .str (.list .num))
abbrev tConstraint : Ty := .pair .num (.list .num)
abbrev tSchema : Ty := .pair .str (.pair (.list tSchemaVersion) (.pair (.list .num) (.pair (.list tForeignKey) (.list tConstraint))))
abbrev tEdit : Ty := .pair .num (.pair .str (.pair (.list tValue) (.pair tPeriod (.pair (.list tExpr) (.pair .num (.pair (.list tAssignment) (.pair tSchema tColumn)))))))
abbrev tRequest : Ty := .pair .num (.pair .num (.pair .num .str))
abbrev tHold : Ty := .pair .num tPeriod
abbrev tCitation : Ty := .pair .num (.pair tRequest (.list tRow))
abbrev tTable : Ty := .pair tSchema (.list tVersion)
abbrev tCommand : Ty := .pair .num (.pair .num (.pair (.list tEdit) (.pair tRequest tHold)))
abbrev tDatabase : Ty := .pair .num (.pair .num (.pair (.list tTable) (.pair .num (.pair (.list tHold) (.list tCitation)))))
end Go.Proofs.YtfppjpmflpaffaaGreat
