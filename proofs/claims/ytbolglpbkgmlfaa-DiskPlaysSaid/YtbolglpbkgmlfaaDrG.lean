/-
  The reference's NewDisk.
-/
import Derived.Test.YtbolglpbkgmlfaaDrF
namespace Go.Proofs.Ytbolglpbkgmlfaa
open Go.RowKit Go.Maps
set_option linter.unusedVariables false

theorem own_keep {w w' : World} {base : Nat} {e : TypeId} {v : Value} {n : Nat} {xs : List Value} {row : Option Nat} (h : w.ownsRow base e 1 v n xs) (hg : w.grownBy w' row) (hne : ∀ b, v.ownBlock = some b → some b ≠ row) : w'.ownsRow base e 1 v n xs := by
  refine ⟨h.1, ?_⟩
  rcases h.2 with h2 | ⟨g, cap, cur, rfl, hB, hc, rest⟩
  · exact .inl h2
  · exact .inr ⟨g, cap, cur, rfl, hB, (hg.block g (Array.getElem?_eq_some_iff.1 hc).1 (hne g rfl)).trans hc, rest⟩

theorem rows_apart {w : World} {b1 b2 : Nat} {e1 e2 : TypeId} {v1 v2 : Value} {n1 n2 : Nat} {xs ys : List Value} (h1 : w.ownsRow b1 e1 1 v1 n1 xs) (h2 : w.ownsRow b2 e2 1 v2 n2 ys) (z1 : n1 = 0 → v1 = .slice none 0 0) (z2 : n2 = 0 → v2 = .slice none 0 0)
    (hne : e1 ≠ e2 ∨ (0 < n1 → 0 < n2 → xs[0]? ≠ ys[0]?)) : ∀ b, v1.ownBlock = some b → some b ≠ v2.ownBlock := by
  intro b hb e
  rcases h1.2 with ⟨rfl, _⟩ | ⟨g, cap, cur, rfl, _, hc, hn1, _, hs1, hx⟩
  · cases hb
  · rcases h2.2 with ⟨rfl, _⟩ | ⟨g', cap', cur', rfl, _, hc', _, _, hs2, hy⟩
    · cases e
    · simp only [Value.ownBlock, Option.some.injEq] at hb e
      subst hb
      subst e
      rw [hc] at hc'
      cases hc'
      rcases hne with hne | hne
      · exact hne rfl
      · by_cases hp : 0 < n1
        · by_cases hq : 0 < n2
          · refine hne hp hq ?_
            rw [← hx, ← hy, List.getElem?_take_of_lt (by omega), List.getElem?_take_of_lt (by omega)]
          · cases z2 (by omega)
        · cases z1 (by omega)

/-- The disk that is being built. -/
structure Grow (wr : World) (rb i1 i2 i3 : Nat) (sv bv wv : Value) (xs : List Value) : Prop where
  z1 : i1 = 0 → sv = .slice none 0 0
  z2 : i2 = 0 → bv = .slice none 0 0
  z3 : i3 = 0 → wv = .slice none 0 0
  c0 : wr.cell? ⟨rb, 0, none⟩ = some sv
  c1 : wr.cell? ⟨rb, 1, none⟩ = some bv
  c2 : wr.cell? ⟨rb, 2, none⟩ = some wv
  c3 : wr.cell? ⟨rb, 3, none⟩ = some (.bool false)
  c4 : wr.cell? ⟨rb, 4, none⟩ = some (.int .i64 0)
  fr : ∀ j, wr.frozen? ⟨rb, j, none⟩ = false
  os : wr.ownsRow (rb + 1) 24 1 sv i1 xs
  ob : wr.ownsRow (rb + 1) 24 1 bv i2 (List.replicate i2 (.slice none 0 0))
  ow : wr.ownsRow (rb + 1) 4 1 wv i3 (List.replicate i3 (.bool false))
  py : ∀ (j : Nat) v, xs[j]? = some v → ∃ g, v = .slice (some ⟨g, 0, none⟩) 128 128 ∧ rb < g ∧ wr.heap[g]? = some (.cells (pc zeroPage).toArray 5 (0, 0))

section
variable {wr : World} {rb i1 i2 i3 : Nat} {sv bv wv : Value} {xs : List Value}

theorem Grow.lt (h : Grow wr rb i1 i2 i3 sv bv wv xs) : rb < wr.heap.size := World.block_lt_of_cell? wr _ h.c0

theorem Grow.one (h : Grow wr rb i1 i2 i3 sv bv wv xs) : (∃ a n c, sv = .slice a n c) ∧ (∃ a n c, bv = .slice a n c) ∧ (∃ a n c, wv = .slice a n c) := by
  refine ⟨?_, ?_, ?_⟩
  · obtain ⟨a, c, e⟩ := Sl.len (Sl.of_own h.os); exact ⟨a, _, c, e⟩
  · obtain ⟨a, c, e⟩ := Sl.len (Sl.of_own h.ob); exact ⟨a, _, c, e⟩
  · obtain ⟨a, c, e⟩ := Sl.len (Sl.of_own h.ow); exact ⟨a, _, c, e⟩

/-- A row's block is no page. -/
theorem row_block {w : World} {base n : Nat} {e : TypeId} {v : Value} {ys : List Value} (h : w.ownsRow base e 1 v n ys) (he : e ≠ 5) {g : Nat} {cs : Array Value} {fr : Nat × Nat} (hg : w.heap[g]? = some (.cells cs 5 fr)) : some g ≠ v.ownBlock := by
  intro e1
  rcases h.2 with ⟨rfl, _⟩ | ⟨g', cap, cur, rfl, _, hc, _⟩
  · cases e1
  · simp only [Value.ownBlock, Option.some.injEq] at e1
    subst e1
    rw [hg] at hc
    cases hc
    exact he rfl

theorem own_base {w : World} {base n : Nat} {e : TypeId} {v : Value} {ys : List Value} (h : w.ownsRow base e 1 v n ys) : ∀ b, v.ownBlock = some b → base ≤ b := by
  intro b hb
  rcases h.2 with ⟨rfl, _⟩ | ⟨g', cap, cur, rfl, hB, _⟩
  · cases hb
  · simp only [Value.ownBlock, Option.some.injEq] at hb
    omega

/-- The struct's cells behind an append that grows a row of the call's own, and the store of its slice. -/
theorem Grow.cells (h : Grow wr rb i1 i2 i3 sv bv wv xs) {w1 : World} {row : Option Nat} (hg : wr.grownBy w1 row) (hrow : ∀ b, row = some b → rb + 1 ≤ b) : (∀ j, w1.cell? ⟨rb, j, none⟩ = wr.cell? ⟨rb, j, none⟩) ∧ ∀ j, w1.frozen? ⟨rb, j, none⟩ = false := by
  have hb : w1.heap[rb]? = wr.heap[rb]? := hg.block rb h.lt (fun e => by have := hrow rb e.symm; omega)
  refine ⟨fun j => World.cell?_of_block hb, fun j => ?_⟩
  have := h.fr j
  unfold World.frozen? at this ⊢
  rw [hb]; exact this

theorem Grow.grown (h : Grow wr rb i1 i2 i3 sv bv wv xs) {w1 : World} (hg : wr.grownBy w1 none) : Grow w1 rb i1 i2 i3 sv bv wv xs := by
  obtain ⟨c, f⟩ := h.cells hg (fun b e => by cases e)
  exact ⟨h.z1, h.z2, h.z3, (c 0).trans h.c0, (c 1).trans h.c1, (c 2).trans h.c2, (c 3).trans h.c3, (c 4).trans h.c4, f, own_keep h.os hg (by simp), own_keep h.ob hg (by simp), own_keep h.ow hg (by simp),
    fun j v hj => by
      obtain ⟨g, e, h1, h2⟩ := h.py j v hj
      exact ⟨g, e, h1, (hg.block g (Array.getElem?_eq_some_iff.1 h2).1 (by simp)).trans h2⟩⟩

theorem own_set {w : World} {base n : Nat} {e : TypeId} {v : Value} {ys : List Value} (h : w.ownsRow base e 1 v n ys) {a : Addr} (ha : a.block < base) (u : Value) : (w.setCell a u).ownsRow base e 1 v n ys := by
  refine ⟨h.1, ?_⟩
  rcases h.2 with h2 | ⟨g, cap, cur, rfl, hB, hc, rest⟩
  · exact .inl h2
  · exact .inr ⟨g, cap, cur, rfl, hB, (RowKit.Below.heap_setCell _ _ _ _ (by omega)).trans hc, rest⟩

/-- A page more. -/
theorem Grow.step1 (h : Grow wr rb i1 i2 i3 sv bv wv xs) {w1 : World} {v1 v : Value} {g : Nat} (hv : v = .slice (some ⟨g, 0, none⟩) 128 128) (hgr : rb < g) (hz : wr.heap[g]? = some (.cells (pc zeroPage).toArray 5 (0, 0)))
    (hown : w1.ownsRow (rb + 1) 24 1 v1 (i1 + 1) (xs ++ [v])) (hg1 : wr.grownBy w1 sv.ownBlock) : Grow (w1.setCell ⟨rb, 0, none⟩ v1) rb (i1 + 1) i2 i3 v1 bv wv (xs ++ [v]) := by
  obtain ⟨c, f⟩ := h.cells hg1 (own_base h.os)
  have hx : ∀ u, xs[0]? = some u → u ≠ .slice none 0 0 := fun u hu => by
    obtain ⟨g', e, _⟩ := h.py 0 u hu
    subst e; intro e; cases e
  have kb := own_keep h.ob hg1 (rows_apart h.ob h.os h.z2 h.z1 (.inr (fun p1 p2 e => by
    have hl := h.os.1
    obtain ⟨u, hu⟩ : ∃ u, xs[0]? = some u := ⟨_, List.getElem?_eq_getElem (by omega)⟩
    rw [hu] at e
    rw [List.getElem?_replicate, if_pos p1] at e
    exact hx u hu (Option.some.inj e).symm)))
  have kw := own_keep h.ow hg1 (rows_apart h.ow h.os h.z3 h.z1 (.inl (by decide)))
  have e0 : (w1.cell? ⟨rb, 0, none⟩) = some sv := (c 0).trans h.c0
  refine ⟨fun h0 => by omega, h.z2, h.z3, World.cell?_setCell_same _ _ _ e0, ?_, ?_, ?_, ?_, fun j => ?_, own_set hown (by show rb < rb + 1; omega) _, own_set kb (by show rb < rb + 1; omega) _, own_set kw (by show rb < rb + 1; omega) _, fun j u hu => ?_⟩
  · rw [World.cell?_setCell_other _ _ _ _ (by simp)]; exact (c 1).trans h.c1
  · rw [World.cell?_setCell_other _ _ _ _ (by simp)]; exact (c 2).trans h.c2
  · rw [World.cell?_setCell_other _ _ _ _ (by simp)]; exact (c 3).trans h.c3
  · rw [World.cell?_setCell_other _ _ _ _ (by simp)]; exact (c 4).trans h.c4
  · rw [World.frozen?_setCell]; exact f j
  · have keep : ∀ g', rb < g' → wr.heap[g']? = some (.cells (pc zeroPage).toArray 5 (0, 0)) → (w1.setCell ⟨rb, 0, none⟩ v1).heap[g']? = some (.cells (pc zeroPage).toArray 5 (0, 0)) := fun g' h1 h2 => by
      refine (RowKit.Below.heap_setCell _ _ _ _ (by show g' ≠ rb; omega)).trans ?_
      exact (hg1.block g' (Array.getElem?_eq_some_iff.1 h2).1 (row_block h.os (by decide) h2)).trans h2
    by_cases hj : j < xs.length
    · rw [List.getElem?_append_left hj] at hu
      obtain ⟨g', e, h1, h2⟩ := h.py j u hu
      exact ⟨g', e, h1, keep g' h1 h2⟩
    · rw [List.getElem?_append_right (by omega)] at hu
      have hj0 : j - xs.length = 0 := by have := (List.getElem?_eq_some_iff.1 hu).1; simpa using this
      rw [hj0] at hu
      obtain rfl : v = u := by simpa using hu
      exact ⟨g, hv, hgr, keep g hgr hz⟩

theorem Grow.step2 (h : Grow wr rb i1 i2 i3 sv bv wv xs) {w1 : World} {v1 : Value} (hown : w1.ownsRow (rb + 1) 24 1 v1 (i2 + 1) (List.replicate i2 (.slice none 0 0) ++ [.slice none 0 0])) (hg1 : wr.grownBy w1 bv.ownBlock) : Grow (w1.setCell ⟨rb, 1, none⟩ v1) rb i1 (i2 + 1) i3 sv v1 wv xs := by
  obtain ⟨c, f⟩ := h.cells hg1 (own_base h.ob)
  have hx : ∀ u, xs[0]? = some u → u ≠ .slice none 0 0 := fun u hu => by
    obtain ⟨g', e, _⟩ := h.py 0 u hu
    subst e; intro e; cases e
  have ks := own_keep h.os hg1 (rows_apart h.os h.ob h.z1 h.z2 (.inr (fun p1 p2 e => by
    have hl := h.os.1
    obtain ⟨u, hu⟩ : ∃ u, xs[0]? = some u := ⟨_, List.getElem?_eq_getElem (by omega)⟩
    rw [hu] at e
    rw [List.getElem?_replicate, if_pos p2] at e
    exact hx u hu (Option.some.inj e))))
  have kw := own_keep h.ow hg1 (rows_apart h.ow h.ob h.z3 h.z2 (.inl (by decide)))
  have e1 : (w1.cell? ⟨rb, 1, none⟩) = some bv := (c 1).trans h.c1
  refine ⟨h.z1, fun h0 => by omega, h.z3, ?_, World.cell?_setCell_same _ _ _ e1, ?_, ?_, ?_, fun j => ?_, own_set ks (by show rb < rb + 1; omega) _, own_set (by rw [List.replicate_succ']; exact hown) (by show rb < rb + 1; omega) _, own_set kw (by show rb < rb + 1; omega) _, fun j u hu => ?_⟩
  · rw [World.cell?_setCell_other _ _ _ _ (by simp)]; exact (c 0).trans h.c0
  · rw [World.cell?_setCell_other _ _ _ _ (by simp)]; exact (c 2).trans h.c2
  · rw [World.cell?_setCell_other _ _ _ _ (by simp)]; exact (c 3).trans h.c3
  · rw [World.cell?_setCell_other _ _ _ _ (by simp)]; exact (c 4).trans h.c4
  · rw [World.frozen?_setCell]; exact f j
  · obtain ⟨g', e, h1, h2⟩ := h.py j u hu
    refine ⟨g', e, h1, (RowKit.Below.heap_setCell _ _ _ _ (by show g' ≠ rb; omega)).trans ?_⟩
    exact (hg1.block g' (Array.getElem?_eq_some_iff.1 h2).1 (row_block h.ob (by decide) h2)).trans h2

theorem Grow.step3 (h : Grow wr rb i1 i2 i3 sv bv wv xs) {w1 : World} {v1 : Value} (hown : w1.ownsRow (rb + 1) 4 1 v1 (i3 + 1) (List.replicate i3 (.bool false) ++ [.bool false])) (hg1 : wr.grownBy w1 wv.ownBlock) : Grow (w1.setCell ⟨rb, 2, none⟩ v1) rb i1 i2 (i3 + 1) sv bv v1 xs := by
  obtain ⟨c, f⟩ := h.cells hg1 (own_base h.ow)
  have ks := own_keep h.os hg1 (rows_apart h.os h.ow h.z1 h.z3 (.inl (by decide)))
  have kb := own_keep h.ob hg1 (rows_apart h.ob h.ow h.z2 h.z3 (.inl (by decide)))
  have e1 : (w1.cell? ⟨rb, 2, none⟩) = some wv := (c 2).trans h.c2
  refine ⟨h.z1, h.z2, fun h0 => by omega, ?_, ?_, World.cell?_setCell_same _ _ _ e1, ?_, ?_, fun j => ?_, own_set ks (by show rb < rb + 1; omega) _, own_set kb (by show rb < rb + 1; omega) _, own_set (by rw [List.replicate_succ']; exact hown) (by show rb < rb + 1; omega) _, fun j u hu => ?_⟩
  · rw [World.cell?_setCell_other _ _ _ _ (by simp)]; exact (c 0).trans h.c0
  · rw [World.cell?_setCell_other _ _ _ _ (by simp)]; exact (c 1).trans h.c1
  · rw [World.cell?_setCell_other _ _ _ _ (by simp)]; exact (c 3).trans h.c3
  · rw [World.cell?_setCell_other _ _ _ _ (by simp)]; exact (c 4).trans h.c4
  · rw [World.frozen?_setCell]; exact f j
  · obtain ⟨g', e, h1, h2⟩ := h.py j u hu
    refine ⟨g', e, h1, (RowKit.Below.heap_setCell _ _ _ _ (by show g' ≠ rb; omega)).trans ?_⟩
    exact (hg1.block g' (Array.getElem?_eq_some_iff.1 h2).1 (row_block h.ow (by decide) h2)).trans h2

end

end Go.Proofs.Ytbolglpbkgmlfaa
