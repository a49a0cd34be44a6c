/-
  Slices in memory: what they hold, and that it stays. No program in sight.
-/
import Derived.Test.YtfppjpmflpaffaaGreatFrame
namespace Go.Proofs.YtfppjpmflpaffaaGreat
open Go.RowKit

/-- The slice v has n elements of so many cells each; these are the cells xs. -/
def Sl (w : World) (size : Nat) (v : Value) (n : Nat) (xs : List Value) : Prop :=
  xs.length = n * size ∧ ((n = 0 ∧ ∃ a c, v = .slice a 0 c) ∨
    ∃ b off c, v = .slice (some ⟨b, off, none⟩) n c ∧ n ≤ c ∧ b < w.heap.size ∧ ∀ j u, xs[j]? = some u → w.cell? ⟨b, off + j, none⟩ = some u)

theorem Sl.keep {w w' : World} {size : Nat} {v : Value} {n : Nat} {xs : List Value} (h : Sl w size v n xs) (hb : Below w.heap.size w w') : Sl w' size v n xs := by
  refine ⟨h.1, ?_⟩
  rcases h.2 with h2 | ⟨b, off, c, e, hn, hl, hc⟩
  · exact .inl h2
  · exact .inr ⟨b, off, c, e, hn, Nat.lt_of_lt_of_le hl hb.size, fun j u hu => (hb.cell (p := ⟨b, off + j, none⟩) hl).trans (hc j u hu)⟩

/-- A slice that is not empty. -/
theorem Sl.some_ {w : World} {size : Nat} {v : Value} {n : Nat} {xs : List Value} (h : Sl w size v n xs) (hn : 0 < n) :
    ∃ b off c, v = .slice (some ⟨b, off, none⟩) n c ∧ n ≤ c ∧ b < w.heap.size ∧ ∀ j u, xs[j]? = some u → w.cell? ⟨b, off + j, none⟩ = some u := by
  rcases h.2 with ⟨h0, _⟩ | h2
  · omega
  · exact h2

theorem Sl.len {w : World} {size : Nat} {v : Value} {n : Nat} {xs : List Value} (h : Sl w size v n xs) : ∃ a c, v = .slice a n c := by
  rcases h.2 with ⟨rfl, a, c, e⟩ | ⟨b, off, c, e, _⟩
  · exact ⟨a, c, e⟩
  · exact ⟨_, c, e⟩

theorem Sl.of_own {w : World} {base : Nat} {e : TypeId} {size : Nat} {v : Value} {n : Nat} {xs : List Value} (h : w.ownsRow base e size v n xs) : Sl w size v n xs := by
  refine ⟨h.1, ?_⟩
  rcases h.2 with ⟨rfl, rfl⟩ | ⟨g, cap, cur, rfl, _, hg, hn, _, hs, hx⟩
  · exact .inl ⟨rfl, none, 0, rfl⟩
  · refine .inr ⟨g, 0, cap, rfl, hn, (Array.getElem?_eq_some_iff.1 hg).1, fun j u hu => ?_⟩
    rw [← hx, List.getElem?_take] at hu
    split at hu
    · rw [Nat.zero_add]
      simp only [World.cell?, hg]
      simpa using hu
    · cases hu

theorem new_cells (w : World) (xs : List Value) (t : TypeId) : ∀ j u, xs[j]? = some u → (w.alloc (.cells xs.toArray t)).cell? ((⟨w.heap.size, 0, none⟩ : Addr).add j) = some u := by
  intro j u hu
  have e : (⟨w.heap.size, 0, none⟩ : Addr).add j = ⟨w.heap.size, j, none⟩ := by unfold Addr.add; split <;> simp_all
  rw [e, World.cell?_alloc_at _ _ _ _ rfl]
  simpa using hu

theorem below_drewN {B : Nat} {a w : World} (h : Below B a w) (n : Nat) : Below B a (w.drewN n) := ⟨h.os, h.tape, h.output, h.size, h.block⟩

theorem own_below {w w' : World} {base : Nat} {e : TypeId} {size : Nat} {v : Value} {n : Nat} {xs : List Value} (h : w.ownsRow base e size v n xs) (hb : Below w.heap.size w w') : w'.ownsRow base e size v n xs := by
  refine ⟨h.1, ?_⟩
  rcases h.2 with h2 | ⟨g, cap, cur, e, hB, hg, rest⟩
  · exact .inl h2
  · exact .inr ⟨g, cap, cur, e, hB, (hb.block g (Array.getElem?_eq_some_iff.1 hg).1).trans hg, rest⟩

end Go.Proofs.YtfppjpmflpaffaaGreat
