/-
  Rows of a call's own beside each other. No program in sight.
-/
import Derived.Test.YtngddhoolijimaaGreatDoorDkR
import Derived.Test.YtngddhoolijimaaGreatDoorApp
namespace Go.Proofs.YtngddhoolijimaaGreatDoor
open Go.RowKit
set_option linter.unusedVariables false

theorem own_keep {w w' : World} {base : Nat} {e : TypeId} {v : Value} {n : Nat} {xs : List Value} {row : Option Nat} (h : w.ownsRow base e 1 v n xs) (hg : w.grownBy w' row) (hne : ∀ b, v.ownBlock = some b → some b ≠ row) : w'.ownsRow base e 1 v n xs := by
  refine ⟨h.1, ?_⟩
  rcases h.2 with h2 | ⟨g, cap, cur, rfl, hB, hc, rest⟩
  · exact .inl h2
  · exact .inr ⟨g, cap, cur, rfl, hB, (hg.block g (Array.getElem?_eq_some_iff.1 hc).1 (hne g rfl)).trans hc, rest⟩

theorem rows_apart {w : World} {b1 b2 : Nat} {e1 e2 : TypeId} {v1 v2 : Value} {n1 n2 : Nat} {xs ys : List Value} (h1 : w.ownsRow b1 e1 1 v1 n1 xs) (h2 : w.ownsRow b2 e2 1 v2 n2 ys) (z1 : n1 = 0 → v1 = .slice none 0 0) (z2 : n2 = 0 → v2 = .slice none 0 0)
    (hne : e1 ≠ e2 ∨ (0 < n1 → 0 < n2 → xs[0]? ≠ ys[0]?)) : ∀ b, v1.ownBlock = some b → some b ≠ v2.ownBlock := by
  intro b hb e
  rcases h1.2 with ⟨rfl, _⟩ | ⟨g, cap, cur, rfl, _, hc, hn1, _, hs1, hx⟩
  · cases hb
  · rcases h2.2 with ⟨rfl, _⟩ | ⟨g', cap', cur', rfl, _, hc', _, _, hs2, hy⟩
    · cases e
    · simp only [Value.ownBlock, Option.some.injEq] at hb e
      subst hb
      subst e
      rw [hc] at hc'
      cases hc'
      rcases hne with hne | hne
      · exact hne rfl
      · by_cases hp : 0 < n1
        · by_cases hq : 0 < n2
          · refine hne hp hq ?_
            rw [← hx, ← hy, List.getElem?_take_of_lt (by omega), List.getElem?_take_of_lt (by omega)]
          · cases z2 (by omega)
        · cases z1 (by omega)

theorem own_chg {w w' : World} {base : Nat} {e : TypeId} {v : Value} {n : Nat} {xs : List Value} {F : Nat → Prop} (h : w.ownsRow base e 1 v n xs) (hc : Chg F w w') (hne : ∀ b, v.ownBlock = some b → ¬ F b) : w'.ownsRow base e 1 v n xs := by
  refine ⟨h.1, ?_⟩
  rcases h.2 with h2 | ⟨g, cap, cur, rfl, hB, hcc, rest⟩
  · exact .inl h2
  · exact .inr ⟨g, cap, cur, rfl, hB, (hc.block g (Array.getElem?_eq_some_iff.1 hcc).1 (hne g rfl)).trans hcc, rest⟩

theorem own_at {w w' : World} {base n : Nat} {e : TypeId} {v : Value} {xs : List Value} (h : w.ownsRow base e 1 v n xs) (hb : Below w.heap.size w w') : w'.ownsRow base e 1 v n xs := own_chg h (Chg.of_below (F := fun _ => False) hb) (fun _ _ h => h)

theorem own_base {w : World} {base n : Nat} {e : TypeId} {v : Value} {ys : List Value} (h : w.ownsRow base e 1 v n ys) : ∀ b, v.ownBlock = some b → base ≤ b := by
  intro b hb
  rcases h.2 with ⟨rfl, _⟩ | ⟨g', cap, cur, rfl, hB, _⟩
  · cases hb
  · simp only [Value.ownBlock, Option.some.injEq] at hb
    omega

theorem own_at' {w w' : World} {base n size : Nat} {e : TypeId} {v : Value} {xs : List Value} (h : w.ownsRow base e size v n xs) (hb : Below w.heap.size w w') : w'.ownsRow base e size v n xs :=
  ⟨h.1, h.2.elim .inl fun ⟨g, cap, cur, e, hB, hc, rest⟩ => .inr ⟨g, cap, cur, e, hB, (hb.block g (Array.getElem?_eq_some_iff.1 hc).1).trans hc, rest⟩⟩

theorem own_nil {w : World} {base n : Nat} {e : TypeId} {v : Value} {xs : List Value} (h : w.ownsRow base e 1 v n xs) : ∃ a c, v = .slice a n c := by
  obtain ⟨a, c, e⟩ := Sl.len (Sl.of_own h); exact ⟨a, c, e⟩

theorem own_one {w : World} {base n : Nat} {e : TypeId} {v : Value} {xs : List Value} (h : w.ownsRow base e 1 v n xs) : v.oneCell' = true := by
  obtain ⟨a, c, rfl⟩ := own_nil h; rfl

theorem own_block {w : World} {base n : Nat} {e : TypeId} {v : Value} {xs : List Value} (h : w.ownsRow base e 1 v n xs) : ∃ g c, (∃ a, v = .slice a n c ∧ (0 < n → a = some ⟨g, 0, none⟩)) ∧ (0 < n → base ≤ g ∧ g < w.heap.size ∧ v.ownBlock = some g ∧ (∀ j u, xs[j]? = some u → w.cell? ⟨g, j, none⟩ = some u) ∧ ∀ j, w.frozen? ⟨g, j, none⟩ = false) := by
  rcases h.2 with ⟨rfl, h0⟩ | ⟨g, cap, cur, rfl, hB, hc, rest⟩
  · exact ⟨0, 0, ⟨none, by rw [h0], fun hn => by omega⟩, fun hn => by omega⟩
  · refine ⟨g, cap, ⟨_, rfl, fun _ => rfl⟩, fun hn => ⟨hB, (Array.getElem?_eq_some_iff.1 hc).1, rfl, fun j u hu => ?_, fun j => h.frozenAt j⟩⟩
    have hj := (List.getElem?_eq_some_iff.1 hu).1
    have hl := h.1
    have := h.cellAt j (by omega)
    exact this.trans hu

theorem own_cap {w : World} {base n m c : Nat} {a : Option Addr} {e : TypeId} {xs : List Value} (h : w.ownsRow base e 1 (.slice a n c) m xs) : n ≤ c := by
  rcases h.2 with ⟨e, _⟩ | ⟨g, cap, cur, e, _, _, hc, _⟩
  · cases e; exact Nat.le_refl _
  · cases e; exact hc

theorem row_block {w : World} {base n : Nat} {e : TypeId} {v : Value} {ys : List Value} (h : w.ownsRow base e 1 v n ys) (he : e ≠ 5) {g : Nat} {cs : Array Value} {fr : Nat × Nat} (hg : w.heap[g]? = some (.cells cs 5 fr)) : some g ≠ v.ownBlock := by
  intro e1
  rcases h.2 with ⟨rfl, _⟩ | ⟨g', cap, cur, rfl, _, hc, _⟩
  · cases e1
  · simp only [Value.ownBlock, Option.some.injEq] at e1
    subst e1
    rw [hg] at hc
    cases hc
    exact he rfl

theorem own_block_lt {w : World} {base n : Nat} {e : TypeId} {v : Value} {xs : List Value} (h : w.ownsRow base e 1 v n xs) : ∀ m, w.heap.size ≤ m → some m ≠ v.ownBlock := by
  intro m hm e1
  rcases h.2 with ⟨rfl, _⟩ | ⟨g, cap, cur, rfl, _, hc, _⟩
  · cases e1
  · have := (Array.getElem?_eq_some_iff.1 hc).1
    simp only [Value.ownBlock, Option.some.injEq] at e1
    omega

theorem sl_grown {w w' : World} {g o m c : Nat} {row : Option Nat} {news : List Value} (h : Sl w 1 (.slice (some ⟨g, o, none⟩) m c) m news) (hg : w.grownBy w' row) (hne : some g ≠ row) : Sl w' 1 (.slice (some ⟨g, o, none⟩) m c) m news := by
  refine ⟨h.1, h.2.elim .inl fun ⟨b, off, c', e, hnc, hb, hc⟩ => .inr ⟨b, off, c', e, hnc, Nat.lt_of_lt_of_le hb hg.size, fun j u hu => ?_⟩⟩
  simp only [Value.slice.injEq, Option.some.injEq, Addr.mk.injEq, and_true] at e
  obtain ⟨⟨rfl, rfl⟩, _⟩ := e
  exact (World.cell?_of_block (w := w) (w' := w') (a := ⟨g, o + j, none⟩) (hg.block g hb hne)).trans (hc j u hu)

theorem sl_at {w : World} {x : Value} {t : TypeId} {g : Nat} (hg : g = w.heap.size) : Sl (w.alloc (.cells #[x] t)) 1 (.slice (some ⟨g, 0, none⟩) 1 1) 1 [x] := by subst hg; exact sl_new w x t

theorem sl_keep3 {w w' : World} {size n : Nat} {v : Value} {xs : List Value} (hb : Below w.heap.size w w') (h : Sl w size v n xs) : Sl w' size v n xs := h.keep hb

theorem one_val (v : Value) (h : v.oneCell' = true) : ∀ u ∈ [v], u.oneCell' = true := fun u hu => by rw [List.mem_singleton.1 hu]; exact h

end Go.Proofs.YtngddhoolijimaaGreatDoor
