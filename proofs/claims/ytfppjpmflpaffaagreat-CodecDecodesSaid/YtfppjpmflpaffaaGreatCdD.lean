/-
  Blocks of a decoder's own; what data read there, kept.
-/
import Derived.Test.YtfppjpmflpaffaaGreatCdC
namespace Go.Proofs.YtfppjpmflpaffaaGreat
open Go.RowKit
set_option linter.unusedVariables false
set_option linter.unusedSimpArgs false

/-- A block of the call's own: its cells. -/
structure Blk (w : World) (k : Nat) (cs : List Value) : Prop where
  lt : k < w.heap.size
  free : ∀ j, w.frozen? ⟨k, j, none⟩ = false
  cell : ∀ (j : Nat) u, cs[j]? = some u → w.cell? ⟨k, j, none⟩ = some u

section
variable {w w' : World} {k : Nat} {cs : List Value} {F : Nat → Prop}

theorem Blk.new (w : World) (cs : List Value) (t : TypeId) : Blk (w.alloc (.cells cs.toArray t)) w.heap.size cs := by
  refine ⟨by simp, fun j => by go_simp, fun j u hu => ?_⟩
  have := new_cells w cs t j u hu
  rw [Addr.add_mid, Nat.zero_add] at this; exact this

theorem Blk.chg (h : Blk w k cs) (hc : Chg F w w') (hn : ¬ F k) : Blk w' k cs :=
  ⟨Nat.lt_of_lt_of_le h.lt hc.size, fun j => (hc.frozen (a := ⟨k, j, none⟩) hn h.lt).trans (h.free j), fun j u hu => (hc.cell (a := ⟨k, j, none⟩) hn h.lt).trans (h.cell j u hu)⟩

theorem Blk.set (h : Blk w k cs) (j : Nat) (u : Value) (hj : j < cs.length) : Blk (w.setCell ⟨k, j, none⟩ u) k (cs.set j u) := by
  refine ⟨by simpa using h.lt, fun j => by rw [World.frozen?_setCell]; exact h.free j, fun i v hv => ?_⟩
  by_cases e : j = i
  · subst e
    rw [List.getElem?_set, if_pos rfl, if_pos hj] at hv
    cases hv
    exact World.cell?_setCell_same _ _ _ (h.cell j _ (List.getElem?_eq_getElem hj))
  · rw [List.getElem?_set, if_neg e] at hv
    rw [World.cell?_setCell_other _ _ _ _ (by first | (simp; done) | (simp; omega))]
    exact h.cell i v hv
end

/-- What is read lies in blocks that are there. -/
theorem rd_shrink : ∀ (t : Ty) {w : World} {F G : Nat → Prop} {cs : List Value} {x : t.T}, (∀ b, F b → b < w.heap.size → G b) → t.rd.rd w F cs x → t.rd.rd w G cs x
  | .num, w, F, G, cs, x, hG, h => h
  | .str, w, F, G, cs, x, hG, h => h
  | .list t, w, F, G, cs, l, hG, h => by
    obtain ⟨a, n, c, e, h1, h2, h3, h4⟩ := h
    exact ⟨a, n, c, e, h1, h2, h3, h4.imp id fun ⟨b, off, ea, hF, hl, hx⟩ => ⟨b, off, ea, hG b hF hl, hl, fun i x hi => by
      obtain ⟨ys, k1, k2⟩ := hx i x hi
      exact ⟨ys, k1, rd_shrink t hG k2⟩⟩⟩
  | .pair a b, w, F, G, cs, x, hG, h => by
    obtain ⟨u, v, e, h1, h2⟩ := h
    exact ⟨u, v, e, rd_shrink a hG h1, rd_shrink b hG h2⟩

/-- It is read behind what has turned. -/
theorem rd_chg (t : Ty) {w w' : World} {F G K : Nat → Prop} {cs : List Value} {x : t.T} (hc : Chg K w w') (hk : ∀ b, F b → b < w.heap.size → ¬ K b ∧ G b) (h : t.rd.rd w F cs x) : t.rd.rd w' G cs x :=
  t.rd.more (F := fun b => F b ∧ b < w.heap.size) (fun b hb => (hk b hb.1 hb.2).2) (t.rd.keep (fun b hb hl => hc.block b hl (hk b hb.1 hl).1) hc.size (rd_shrink t (fun b hb hl => ⟨hb, hl⟩) h))

theorem rarr_chg (t : Ty) {w w' : World} {F G K : Nat → Prop} {n : Nat} {xs : List Value} {l : List t.T} (hc : Chg K w w') (hk : ∀ b, F b → b < w.heap.size → ¬ K b ∧ G b) (h : (rArr t.rd n).rd w F xs l) : (rArr t.rd n).rd w' G xs l :=
  ⟨h.1, h.2.1, fun i x hx => rd_chg t hc hk (h.2.2 i x hx)⟩

theorem sl_cells1 (w : World) (cs : List Value) (t : TypeId) {k : Nat} (hk : cs.length = k) : Sl (w.alloc (.cells cs.toArray t)) k (.slice (some ⟨w.heap.size, 0, none⟩) 1 1) 1 cs := by
  refine ⟨by rw [hk, Nat.one_mul], .inr ⟨_, 0, 1, rfl, Nat.le_refl _, by simp, fun j u hu => ?_⟩⟩
  have := new_cells w cs t j u hu
  rw [Addr.add_mid, Nat.zero_add] at this
  rw [Nat.zero_add]; exact this

theorem ownk_chg {w w' : World} {base : Nat} {e : TypeId} {v : Value} {n size : Nat} {xs : List Value} {F : Nat → Prop} (h : w.ownsRow base e size v n xs) (hc : Chg F w w') (hne : ∀ b, v.ownBlock = some b → ¬ F b) : w'.ownsRow base e size v n xs := by
  refine ⟨h.1, ?_⟩
  rcases h.2 with h2 | ⟨g, cap, cur, rfl, hB, hcc, rest⟩
  · exact .inl h2
  · exact .inr ⟨g, cap, cur, rfl, hB, (hc.block g (Array.getElem?_eq_some_iff.1 hcc).1 (hne g rfl)).trans hcc, rest⟩

theorem ownk_ge {w : World} {base n size : Nat} {e : TypeId} {v : Value} {ys : List Value} (h : w.ownsRow base e size v n ys) : ∀ b, v.ownBlock = some b → base ≤ b ∧ b < w.heap.size := by
  intro b hb
  rcases h.2 with ⟨rfl, _⟩ | ⟨g', cap, cur, rfl, hB, hc, _⟩
  · cases hb
  · simp only [Value.ownBlock, Option.some.injEq] at hb
    have := (Array.getElem?_eq_some_iff.1 hc).1
    omega

/-- What a decoder of lists promises: the function that reads an element is its argument. -/
def ReadC (f one : Nat) (t : Ty) : Prop := ∀ (w : World) (rb : Nat) (s : St), Rdr w rb s → Mod (.list t) s →
  Calls Tryz.prog f #[.pointer (some ⟨rb, 0, none⟩), .func (.func one) #[] #[]] w fun e w' => ∃ cs : List Value, e = .returned (goV cs) ∧ (Ty.list t).rd.rd w' (w.heap.size ≤ ·) cs (dec (.list t) s).1 ∧ Rdr w' rb (dec (.list t) s).2 ∧ Chg (fun b => b = rb) w w'

/-- A decoder's list after some elements. -/
structure Rows (t : Ty) (T : TypeId) (size B : Nat) (wr : World) (v : Value) (l : List t.T) (xs : List Value) : Prop where
  row : wr.ownsRow B T size v l.length xs
  arr : (rArr t.rd l.length).rd wr (fun b => B ≤ b ∧ v.ownBlock ≠ some b) xs l

/-- One element more. -/
theorem Rows.snoc {t : Ty} {T : TypeId} {size B : Nat} {wr w2 w3 w4 : World} {v v' : Value} {l : List t.T} {xs cs : List Value} {x : t.T} {rb : Nat} (h : Rows t T size B wr v l xs) (hrb : rb < B) (hB : B ≤ wr.heap.size)
    (hc : Chg (fun b => b = rb) wr w2) (hx : t.rd.rd w2 (wr.heap.size ≤ ·) cs x) (hb3 : Below w2.heap.size w2 w3)
    (hr : w4.ownsRow B T size v' (l.length + 1) (xs ++ cs)) (hg : w3.grownBy w4 v.ownBlock) (ho : ∀ b, v'.ownBlock = some b → v.ownBlock = some b ∨ w3.heap.size ≤ b) : Rows t T size B w4 v' (l ++ [x]) (xs ++ cs) := by
  have hz := hc.size
  have hz3 := hb3.size
  have hown := ownk_ge h.row
  have h24 : Chg (fun b => v.ownBlock = some b) w2 w4 := (Chg.of_below hb3).trans (Chg.grown hg (fun b e => e))
  have h04 : Chg (fun b => b = rb ∨ v.ownBlock = some b) wr w4 := (hc.more (fun b _ e => .inl e)).trans (h24.more (fun b _ e => .inr e))
  refine ⟨by rw [List.length_append]; exact hr, ?_⟩
  rw [List.length_append]
  refine rarr_snoc (rarr_chg t h04 (fun b hb hl => ⟨fun e => e.elim (fun e => by omega) hb.2, hb.1, fun e => (ho b e).elim hb.2 (fun e => by omega)⟩) h.arr) (rd_chg t h24 (fun b hb hl => ⟨fun e => by have := (hown b e).2; have hb : wr.heap.size ≤ b := hb; omega, by have hb : wr.heap.size ≤ b := hb; omega, fun e => ?_⟩) hx)
  have hb : wr.heap.size ≤ b := hb
  rcases ho b e with e | e
  · have := (hown b e).2; omega
  · omega

/-- The zero of a type. -/
def zeroT : (t : Ty) → t.T
  | .num => (0 : Int)
  | .str => ByteArray.empty
  | .list t => []
  | .pair a b => (zeroT a, zeroT b)
def zcells : Ty → List Value
  | .num => [.int .i64 0]
  | .str => [.string ⟨#[]⟩]
  | .list _ => [.slice none 0 0]
  | .pair a b => zcells a ++ zcells b
theorem zero_rd : ∀ (t : Ty) (w : World) (F : Nat → Prop), t.rd.rd w F (zcells t) (zeroT t)
  | .num, w, F => ⟨rfl, rfl⟩
  | .str, w, F => ⟨rfl, Nat.zero_le _⟩
  | .list t, w, F => ⟨none, 0, 0, rfl, rfl, Nat.le_refl _, Nat.zero_le _, .inl rfl⟩
  | .pair a b, w, F => ⟨_, _, rfl, zero_rd a w F, zero_rd b w F⟩

/-- The error of a whole encoding. -/
def endE (s : St) : Int := match s with
  | .error e => e
  | .ok [] => 0
  | .ok (_ :: _) => 3

set_option maxRecDepth 100000 in
theorem cd_end {w : World} {rb : Nat} {s : St} (h : Rdr w rb s) : Calls Tryz.prog 33 #[.pointer (some ⟨rb, 0, none⟩)] w fun e w' => e = .returned (.int .i64 (endE s)) ∧ w' = w := by
  cases s with
  | error a =>
    obtain ⟨c0, c1, ha⟩ := h.bad a rfl
    have g0 : (a == 0) = false := by rcases ha with rfl | rfl <;> rfl
    clear h ha
    show Calls _ _ _ _ fun e w' => e = .returned (.int .i64 a) ∧ w' = w
    go_enter Tryz.func33, Tryz.ntmps33
    go_wp2
    go_ret
    exact ⟨rfl, rfl⟩
  | ok r =>
    obtain ⟨v, c0, c1, hd, _⟩ := h.ok r rfl
    obtain ⟨a, cp, rfl⟩ := hd.len
    cases r with
    | nil =>
      show Calls _ _ _ _ fun e w' => e = .returned (.int .i64 0) ∧ w' = w
      replace c0 : w.cell? ⟨rb, 0, none⟩ = some (.slice a 0 cp) := c0
      clear h hd
      go_enter Tryz.func33, Tryz.ntmps33
      go_wp2
      go_ret
      exact ⟨rfl, rfl⟩
    | cons x r =>
      show Calls _ _ _ _ fun e w' => e = .returned (.int .i64 3) ∧ w' = w
      obtain ⟨n, hn⟩ : ∃ n, n = (x :: r).length := ⟨_, rfl⟩
      rw [← hn] at c0
      have g2 : 0 < n := by rw [hn]; simp
      have g1 : decide (0 < n) = true := decide_eq_true g2
      clear h hd hn
      go_enter Tryz.func33, Tryz.ntmps33
      go_wp2
      go_ret
      exact ⟨rfl, rfl⟩

theorem dec_pair (a b : Ty) (s : St) : dec (.pair a b) s = (((dec a s).1, (dec b (dec a s).2).1), (dec b (dec a s).2).2) := rfl
end Go.Proofs.YtfppjpmflpaffaaGreat
