/-
  What the codec's texts need of memory: bytes of a call's own, appends, rows of elements of any depth.
-/
import Derived.Test.YtfppjpmflpaffaaGreatCd
import Derived.Test.YtfppjpmflpaffaaGreatApp
import Derived.Test.YtfppjpmflpaffaaGreatArg
import Derived.Lib.SliceRun
import Derived.Deep.RegionWith
namespace Go.Proofs.YtfppjpmflpaffaaGreat
open Go.RowKit
set_option linter.unusedVariables false
set_option linter.unusedSimpArgs false

/-- Nothing but the blocks of F has turned; new ones may have come. -/
structure Chg (F : Nat → Prop) (w w' : World) : Prop where
  os : w'.os = w.os
  tape : w'.tape = w.tape
  output : w'.output = w.output
  size : w.heap.size ≤ w'.heap.size
  block : ∀ b, b < w.heap.size → ¬ F b → w'.heap[b]? = w.heap[b]?

section
variable {F G : Nat → Prop} {w w' w'' : World}
theorem Chg.refl (F : Nat → Prop) (w : World) : Chg F w w := ⟨rfl, rfl, rfl, Nat.le_refl _, fun _ _ _ => rfl⟩
theorem Chg.trans (h : Chg F w w') (k : Chg F w' w'') : Chg F w w'' :=
  ⟨k.os.trans h.os, k.tape.trans h.tape, k.output.trans h.output, Nat.le_trans h.size k.size, fun b hb hF => (k.block b (Nat.lt_of_lt_of_le hb h.size) hF).trans (h.block b hb hF)⟩
theorem Chg.more (h : Chg F w w') (hG : ∀ b, b < w.heap.size → F b → G b) : Chg G w w' := ⟨h.os, h.tape, h.output, h.size, fun b hb hn => h.block b hb (fun hf => hn (hG b hb hf))⟩
theorem Chg.of_below (h : Below w.heap.size w w') : Chg F w w' := ⟨h.os, h.tape, h.output, h.size, fun b hb _ => h.block b hb⟩
theorem Chg.below (h : Chg F w w') {B : Nat} (hB : B ≤ w.heap.size) (hF : ∀ b, F b → B ≤ b) : Below B w w' := ⟨h.os, h.tape, h.output, h.size, fun b hb => h.block b (by omega) (fun hf => by have := hF b hf; omega)⟩
theorem Chg.setCell (a : Addr) (v : Value) (ha : F a.block) : Chg F w (w.setCell a v) :=
  ⟨rfl, rfl, rfl, by simp, fun b _ hF => RowKit.Below.heap_setCell _ _ _ _ (fun e => hF (by rw [e]; exact ha))⟩
theorem Chg.grown {row : Option Nat} (h : w.grownBy w' row) (hr : ∀ b, row = some b → F b) : Chg F w w' :=
  ⟨h.os, h.tape, h.output, h.size, fun b hb hF => h.block b hb (fun e => hF (hr b e.symm))⟩
theorem Chg.drewN (h : Chg F w w') (n : Nat) : Chg F w (w'.drewN n) := ⟨h.os, h.tape, h.output, h.size, h.block⟩
theorem Chg.cell (h : Chg F w w') {a : Addr} (ha : ¬ F a.block) (hl : a.block < w.heap.size) : w'.cell? a = w.cell? a := World.cell?_of_block (h.block _ hl ha)
theorem Chg.frozen (h : Chg F w w') {a : Addr} (ha : ¬ F a.block) (hl : a.block < w.heap.size) : w'.frozen? a = w.frozen? a := by
  unfold World.frozen?; rw [h.block _ hl ha]
end


/-- The cells of bytes. -/
def pc (p : List UInt8) : List Value := p.map fun b => .int .u8 (b.toNat : Int)
theorem pc_len (p : List UInt8) : (pc p).length = p.length := by simp [pc]
theorem pc_get {p : List UInt8} {j : Nat} {b : UInt8} (h : p[j]? = some b) : (pc p)[j]? = some (.int .u8 (b.toNat : Int)) := by simp [pc, h]
theorem pc_inv {p : List UInt8} {j : Nat} {u : Value} (h : (pc p)[j]? = some u) : ∃ b, p[j]? = some b ∧ u = .int .u8 (b.toNat : Int) := by
  unfold pc at h
  rw [List.getElem?_map] at h
  cases hp : p[j]? with
  | none => rw [hp] at h; cases h
  | some b => rw [hp] at h; cases h; exact ⟨b, rfl, rfl⟩
theorem pc_one (p : List UInt8) : ∀ v ∈ pc p, v.oneCell' = true := by
  intro v hv
  obtain ⟨b, _, rfl⟩ := List.mem_map.1 hv
  rfl
theorem pc_append (a b : List UInt8) : pc (a ++ b) = pc a ++ pc b := by simp [pc]
theorem pc_take (a : List UInt8) (n : Nat) : pc (a.take n) = (pc a).take n := by simp [pc, List.map_take]
theorem pc_drop (a : List UInt8) (n : Nat) : pc (a.drop n) = (pc a).drop n := by simp [pc, List.map_drop]
/-- Data that a call is given. -/
def Data (w : World) (v : Value) (l : List UInt8) : Prop := Sl w 1 v l.length (pc l)
theorem data_of {w : World} {F : Nat → Prop} {v : Value} {l : List UInt8} (h : (rSlice rByte).rd w F [v] l) : Data w v l := by
  obtain ⟨a, n, c, e, rfl, hnc, _, h4⟩ := h
  obtain rfl : v = .slice a l.length c := by simpa using e
  refine ⟨by rw [pc_len]; omega, ?_⟩
  rcases h4 with h0 | ⟨b, off, rfl, _, hb, hx⟩
  · exact .inl ⟨h0, a, c, by rw [h0]⟩
  · refine .inr ⟨b, off, c, rfl, hnc, hb, fun j u hu => ?_⟩
    obtain ⟨x, hx1, rfl⟩ := pc_inv hu
    obtain ⟨ys, hA, rfl⟩ := hx j x hx1
    have := hA 0 _ rfl
    rw [Nat.add_zero] at this
    rwa [show off + j * rByte.size = off + j from by show off + j * 1 = _; omega] at this
theorem row_new (w : World) (base n : Nat) (t : TypeId) (size : Nat) (xs : List Value) (hb : base ≤ w.heap.size) (hm : n ≤ maxLen) (hs : xs.length = n * size) :
    (w.alloc (.cells xs.toArray t)).ownsRow base t size (.slice (some ⟨w.heap.size, 0, none⟩) n n) n xs :=
  ⟨hs, .inr ⟨w.heap.size, n, xs.toArray, rfl, hb, heap_alloc_new w _, Nat.le_refl _, hm, by simpa using hs, by rw [← hs]; simp⟩⟩
theorem own_le {w : World} {base base' size n : Nat} {e : TypeId} {v : Value} {xs : List Value} (h : w.ownsRow base e size v n xs) (hb : base' ≤ base) : w.ownsRow base' e size v n xs :=
  ⟨h.1, h.2.elim Or.inl (fun ⟨g, cap, cur, hv, hg, r⟩ => Or.inr ⟨g, cap, cur, hv, Nat.le_trans hb hg, r⟩)⟩
theorem byte_info2 : (Tryz.prog.info? 5).map (fun i => (i.zero, i.size, i.bytes)) = some (some (.int .u8 0), 1, 1) := by kernel_rfl
theorem own_keep {w w' : World} {base : Nat} {e : TypeId} {v : Value} {n : Nat} {xs : List Value} {row : Option Nat} (h : w.ownsRow base e 1 v n xs) (hg : w.grownBy w' row) (hne : ∀ b, v.ownBlock = some b → some b ≠ row) : w'.ownsRow base e 1 v n xs := by
  refine ⟨h.1, ?_⟩
  rcases h.2 with h2 | ⟨g, cap, cur, rfl, hB, hc, rest⟩
  · exact .inl h2
  · exact .inr ⟨g, cap, cur, rfl, hB, (hg.block g (Array.getElem?_eq_some_iff.1 hc).1 (hne g rfl)).trans hc, rest⟩
theorem own_chg {w w' : World} {base : Nat} {e : TypeId} {v : Value} {n : Nat} {xs : List Value} {F : Nat → Prop} (h : w.ownsRow base e 1 v n xs) (hc : Chg F w w') (hne : ∀ b, v.ownBlock = some b → ¬ F b) : w'.ownsRow base e 1 v n xs := by
  refine ⟨h.1, ?_⟩
  rcases h.2 with h2 | ⟨g, cap, cur, rfl, hB, hcc, rest⟩
  · exact .inl h2
  · exact .inr ⟨g, cap, cur, rfl, hB, (hc.block g (Array.getElem?_eq_some_iff.1 hcc).1 (hne g rfl)).trans hcc, rest⟩
theorem own_at {w w' : World} {base n : Nat} {e : TypeId} {v : Value} {xs : List Value} (h : w.ownsRow base e 1 v n xs) (hb : Below w.heap.size w w') : w'.ownsRow base e 1 v n xs := own_chg h (Chg.of_below (F := fun _ => False) hb) (fun _ _ h => h)
theorem own_base {w : World} {base n : Nat} {e : TypeId} {v : Value} {ys : List Value} (h : w.ownsRow base e 1 v n ys) : ∀ b, v.ownBlock = some b → base ≤ b := by
  intro b hb
  rcases h.2 with ⟨rfl, _⟩ | ⟨g', cap, cur, rfl, hB, _⟩
  · cases hb
  · simp only [Value.ownBlock, Option.some.injEq] at hb
    omega
theorem own_at' {w w' : World} {base n size : Nat} {e : TypeId} {v : Value} {xs : List Value} (h : w.ownsRow base e size v n xs) (hb : Below w.heap.size w w') : w'.ownsRow base e size v n xs :=
  ⟨h.1, h.2.elim .inl fun ⟨g, cap, cur, e, hB, hc, rest⟩ => .inr ⟨g, cap, cur, e, hB, (hb.block g (Array.getElem?_eq_some_iff.1 hc).1).trans hc, rest⟩⟩
theorem own_nil {w : World} {base n : Nat} {e : TypeId} {v : Value} {xs : List Value} (h : w.ownsRow base e 1 v n xs) : ∃ a c, v = .slice a n c := by
  obtain ⟨a, c, e⟩ := Sl.len (Sl.of_own h); exact ⟨a, c, e⟩
theorem own_one {w : World} {base n : Nat} {e : TypeId} {v : Value} {xs : List Value} (h : w.ownsRow base e 1 v n xs) : v.oneCell' = true := by
  obtain ⟨a, c, rfl⟩ := own_nil h; rfl
theorem own_block_lt {w : World} {base n : Nat} {e : TypeId} {v : Value} {xs : List Value} (h : w.ownsRow base e 1 v n xs) : ∀ m, w.heap.size ≤ m → some m ≠ v.ownBlock := by
  intro m hm e1
  rcases h.2 with ⟨rfl, _⟩ | ⟨g, cap, cur, rfl, _, hc, _⟩
  · cases e1
  · have := (Array.getElem?_eq_some_iff.1 hc).1
    simp only [Value.ownBlock, Option.some.injEq] at e1
    omega
theorem own_cap {w : World} {base n m c : Nat} {a : Option Addr} {e : TypeId} {xs : List Value} (h : w.ownsRow base e 1 (.slice a n c) m xs) : n ≤ c := by
  rcases h.2 with ⟨e, _⟩ | ⟨g, cap, cur, e, _, _, hc, _⟩
  · cases e; exact Nat.le_refl _
  · cases e; exact hc
/-- A row of the call's own, read as a slice. -/
theorem rd_own {α : Type} {R : Rd α} {w : World} {F : Nat → Prop} {base n : Nat} {t : TypeId} {v : Value} {xs : List Value} {l : List α} (h : w.ownsRow base t R.size v n xs) (hr : (rArr R n).rd w F xs l) (hF : ∀ b, base ≤ b → b < w.heap.size → F b) : (rSlice R).rd w F [v] l := by
  obtain ⟨_, hl, he⟩ := hr
  rcases h.2 with ⟨rfl, rfl⟩ | ⟨g, cap, cur, rfl, hb, hg, hnc, hcm, _⟩
  · exact ⟨none, 0, 0, rfl, hl.symm, Nat.le_refl _, Nat.zero_le _, .inl rfl⟩
  · have hlt := (Array.getElem?_eq_some_iff.1 hg).1
    refine ⟨_, n, cap, rfl, hl.symm, hnc, hcm, .inr ⟨g, 0, rfl, hF g hb hlt, hlt, fun i x hx => ⟨_, fun j u hu => ?_, he i x hx⟩⟩⟩
    have hcell : ∀ j u, xs[j]? = some u → w.cell? ((⟨g, 0, none⟩ : Addr).add j) = some u := h.cells (g := g) rfl
    have e : ∀ k, (⟨g, 0, none⟩ : Addr).add k = ⟨g, k, none⟩ := by intro k; unfold Addr.add; split <;> simp_all
    rw [List.getElem?_take] at hu
    split at hu
    · rw [List.getElem?_drop] at hu
      have := hcell _ u hu
      rw [e] at this
      rw [Nat.zero_add]; exact this
    · cases hu
theorem rarr_nil {α : Type} (R : Rd α) (w : World) (F : Nat → Prop) : (rArr R 0).rd w F [] [] := ⟨by simp, rfl, fun i x h => by simp at h⟩
theorem rarr_snoc {α : Type} {R : Rd α} {w : World} {F : Nat → Prop} {n : Nat} {xs ys : List Value} {l : List α} {y : α} (h : (rArr R n).rd w F xs l) (hy : R.rd w F ys y) : (rArr R (n + 1)).rd w F (xs ++ ys) (l ++ [y]) := by
  obtain ⟨h1, h2, h3⟩ := h
  have hyl := R.len hy
  refine ⟨by rw [List.length_append, h1, hyl, Nat.add_mul, Nat.one_mul], by simp [h2], fun i x hx => ?_⟩
  by_cases hi : i < n
  · rw [List.getElem?_append_left (by omega)] at hx
    have := h3 i x hx
    have hlen : i * R.size + R.size ≤ xs.length := by
      rw [h1]
      have : (i + 1) * R.size ≤ n * R.size := Nat.mul_le_mul_right _ (by omega)
      rwa [Nat.add_mul, Nat.one_mul] at this
    rw [List.drop_append_of_le_length (by omega), List.take_append_of_le_length (by rw [List.length_drop]; omega)]
    exact this
  · have hi2 : i = n := by
      have := (List.getElem?_eq_some_iff.1 hx).1
      simp at this; omega
    subst hi2
    rw [List.getElem?_append_right (by omega)] at hx
    have : x = y := by simpa [h2] using hx.symm
    subst this
    rw [← h1, List.drop_left, List.take_of_length_le (by omega)]
    exact hy
/-- A slice; a nil one has no room. -/
def rSliceZ {α : Type} (R : Rd α) : Rd (List α) where
  size := 1
  rd := fun w F cs l => (rSlice R).rd w F cs l ∧ ∀ n c, cs = [.slice none n c] → c = 0
  len := fun h => (rSlice R).len h.1
  keep := fun hk hs h => ⟨(rSlice R).keep hk hs h.1, h.2⟩
  more := fun hF h => ⟨(rSlice R).more hF h.1, h.2⟩
theorem opens_sliceZ {α : Type} {P : Program} {t e : TypeId} {R : Rd α} (ht : P.underlying t = some (.slice e)) (hc : P.cellsOf t = 1) (hpos : 0 < R.size) (h : Opens P e R) : Opens P t (rSliceZ R) :=
  ⟨hc, fun {H enc w base spare held fuel cs x} g => by
    obtain ⟨l, hl⟩ := (opens_slice ht hc hpos h).open_ g
    refine ⟨l, hl, fun n c e1 => ?_⟩
    rcases Go.Deep.open_slice ht g with ⟨rfl, _⟩ | ⟨a, len, cap, m, n', D, Pl, rfl, _⟩
    · simp at e1; exact e1.2.symm
    · simp at e1⟩
/-- Bytes; records. -/
abbrev rBy : Rd (List UInt8) := rSliceZ rByte
/-- Bytes of a call's own. -/
def Row (w : World) (base : Nat) (v : Value) (l : List UInt8) : Prop := w.ownsRow base 5 1 v l.length (pc l)
/-- Data; a nil slice has no room. -/
def Dat (w : World) (v : Value) (l : List UInt8) : Prop := Data w v l ∧ ∀ n c, v = .slice none n c → c = 0

section
variable {w w' : World} {base : Nat} {v : Value} {l : List UInt8} {F G : Nat → Prop}
theorem Row.nil (w : World) (base : Nat) : Row w base (.slice none 0 0) [] := World.ownsRow_nil _ _ _ _
theorem Row.dat (h : Row w base v l) : Dat w v l := ⟨Sl.of_own h, fun n c e => by
  rcases h.2 with ⟨e1, _⟩ | ⟨g, cap, cur, e1, _⟩
  · rw [e] at e1; cases e1; rfl
  · rw [e] at e1; cases e1⟩
theorem Row.keep (h : Row w base v l) (hb : Below w.heap.size w w') : Row w' base v l := own_at h hb
theorem Row.low {base' : Nat} (h : Row w base v l) (hb : base' ≤ base) : Row w base' v l := own_le h hb
theorem Row.other {row : Option Nat} (h : Row w base v l) (hg : w.grownBy w' row) (hne : ∀ b, v.ownBlock = some b → some b ≠ row) : Row w' base v l := own_keep h hg hne
theorem Row.ge (h : Row w base v l) : ∀ b, v.ownBlock = some b → base ≤ b ∧ b < w.heap.size := fun b hb => ⟨own_base h b hb, by
  rcases Nat.lt_or_ge b w.heap.size with k | k
  · exact k
  · exact absurd hb.symm (own_block_lt h b k)⟩
theorem Dat.keep (h : Dat w v l) (hb : Below w.heap.size w w') : Dat w' v l := ⟨h.1.keep hb, h.2⟩
theorem Dat.of_rd (h : rBy.rd w F [v] l) : Dat w v l := ⟨data_of h.1, fun n c e => h.2 n c (by rw [e])⟩
theorem Dat.len (h : Dat w v l) : ∃ a c, v = .slice a l.length c := Sl.len h.1
/-- Own bytes, read. -/
theorem Row.rd (h : Row w base v l) (hF : ∀ b, base ≤ b → b < w.heap.size → F b) : rBy.rd w F [v] l := by
  refine ⟨rd_own (R := rByte) h ⟨by rw [pc_len]; exact (Nat.mul_one _).symm, rfl, fun i y hy => ?_⟩ hF, fun n c e => h.dat.2 n c (by simpa using e)⟩
  have e1 : rByte.size = 1 := rfl
  have hl : i < (pc l).length := by rw [pc_len]; exact (List.getElem?_eq_some_iff.1 hy).1
  have e2 : (pc l)[i] = .int .u8 (y.toNat : Int) := by
    have := pc_get hy
    rw [List.getElem?_eq_getElem hl] at this
    exact Option.some.inj this
  rw [e1, Nat.mul_one, List.drop_eq_getElem_cons hl, List.take_succ_cons, List.take_zero, e2]
  rfl
end

/-- append on bytes. -/
theorem wpList_app {ops : Array Oper} {rest : List Oper} {o : Oper} {a : Act} {w : World} {Q : Exit → Act → World → Prop} (hgd : o.guard = none) (s x : Operand)
    (ho : o.op = Op.call { callee := Callee.builtin Builtin.append, args := #[s, x], argTypes := #[31, 31] })
    (base : Nat) (v : Value) (l : List UInt8) (hs : a.eval s = v) (hown : Row w base v l) (xv : Value) (m : List UInt8) (hx : a.eval x = xv) (hd : Dat w xv m) (hl : l.length + m.length ≤ 140737488355328) (hbase : base ≤ w.heap.size)
    (h : ∀ v' w', Row w' base v' (l ++ m) → w.grownBy w' v.ownBlock → Below base w w' → wpList Tryz.prog ops Q rest (a.put o.dst v') w') : wpList Tryz.prog ops Q (o :: rest) a w := by
  obtain ⟨i0, hi0, hz0, hz1, hz2⟩ := info_parts byte_info2
  refine wpList_append_sl hgd s x 31 ho base 5 i0 _ 1 1 Tryz.underlying31 hi0 hz0 hz1 hz2 rfl (by decide) v l.length (pc l) hs hown xv m.length (pc m) hx hd.1 hd.2 (pc_one _) (by unfold maxLen; omega) (by omega) hbase ?_
  intro v' w' h1 h2 h3
  refine h v' w' ?_ h2 h3
  unfold Row
  rw [pc_append, List.length_append]; exact h1
theorem step_app {ops : Array Oper} {o : Oper} {a : Act} {w : World} {K : Act → World → Prop} {Q : Exit → Act → World → Prop} {E : Prop} (hgd : o.guard = none) (s x : Operand)
    (ho : o.op = Op.call { callee := Callee.builtin Builtin.append, args := #[s, x], argTypes := #[31, 31] })
    (base : Nat) (v : Value) (l : List UInt8) (hs : a.eval s = v) (hown : Row w base v l) (xv : Value) (m : List UInt8) (hx : a.eval x = xv) (hd : Dat w xv m) (hl : l.length + m.length ≤ 140737488355328) (hbase : base ≤ w.heap.size) (w0 : World) (hb : Below base w0 w)
    (h : ∀ v' w', Row w' base v' (l ++ m) → w.grownBy w' v.ownBlock → Below base w0 w' → K (a.put o.dst v') w') :
    if Region.wanted o (yielded ops a.tmps) = true then Oper.wp Tryz.prog o a w K Q else E := by
  obtain ⟨i0, hi0, hz0, hz1, hz2⟩ := info_parts byte_info2
  refine step_append_sl hgd s x 31 ho base 5 i0 _ 1 1 Tryz.underlying31 hi0 hz0 hz1 hz2 rfl (by decide) v l.length (pc l) hs hown xv m.length (pc m) hx hd.1 (fun c hc => hd.2 _ c hc) (pc_one _) (by unfold maxLen; omega) (by omega) hbase w0 hb ?_
  intro v' w' h1 h2 h3
  refine h v' w' ?_ h2 h3
  unfold Row
  rw [pc_append, List.length_append]; exact h1
theorem elem_bytes : Tryz.prog.elem 31 = 5 := by kernel_rfl
theorem under_bytes : Tryz.prog.underlying 31 = some (.slice (Tryz.prog.elem 31)) := by kernel_rfl
theorem size_byte (W : World) : (Go.sizeOf (Tryz.prog.elem 31)).run Tryz.prog W = .ok 1 W := by rw [elem_bytes]; exact Tryz.sizeOf5 W

section
variable {w : World} {a : Option Addr} {n c K M : Nat} {l : List UInt8}
theorem Dat.le (h : Dat w (.slice a n c) l) : n = l.length ∧ l.length ≤ c ∧ (0 < l.length → ∃ g off, a = some ⟨g, off, none⟩ ∧ g < w.heap.size) := by
  rcases h.1.2 with ⟨h0, a', c', e⟩ | ⟨g, off, c', e, hn, hg, _⟩
  · cases e; exact ⟨h0.symm, by omega, fun h => by omega⟩
  · cases e; exact ⟨rfl, hn, fun _ => ⟨g, off, rfl, hg⟩⟩
theorem cut_dat (hK : K ≤ M) (hM : M ≤ l.length) (h : Dat w (.slice a n c) l) : Dat w (sliced a K M c 1) ((l.take M).drop K) := by
  have hlen : ((l.take M).drop K).length = M - K := by rw [List.length_drop, List.length_take]; omega
  obtain ⟨rfl, hlc, -⟩ := h.le
  refine ⟨⟨by rw [pc_len]; omega, ?_⟩, fun n' c' e => ?_⟩
  · rw [hlen]
    by_cases h0 : M - K = 0
    · exact .inl ⟨h0, _, c - K, by unfold sliced; rw [h0]⟩
    · rcases h.1.2 with ⟨h1, _⟩ | ⟨g, off, c', e, hn, hg, hc⟩
      · omega
      · cases e
        refine .inr ⟨g, off + K, c - K, ?_, by omega, hg, fun j u hu => ?_⟩
        · unfold sliced
          rw [if_neg (by omega)]
          simp [Addr.add_mid]
        · rw [pc_drop, pc_take, List.getElem?_drop, List.getElem?_take] at hu
          split at hu
          · have := hc _ u hu
            rwa [Nat.add_assoc]
          · cases hu
  · unfold sliced at e
    simp only [Value.slice.injEq] at e
    obtain ⟨e1, _, e3⟩ := e
    cases a with
    | none =>
      have := h.2 _ c rfl
      omega
    | some ad =>
      split at e1
      · cases e1
      · cases e1
end

end Go.Proofs.YtfppjpmflpaffaaGreat
