/-
  The reference's decoders: a loop that fills a field of a box, plainly.
-/
import Derived.Test.YtfppjpmflpaffaaGreatCsF
namespace Go.Proofs.YtfppjpmflpaffaaGreat
open Go.RowKit
set_option linter.unusedVariables false
set_option linter.unusedSimpArgs false

theorem Rows.chg {t : Ty} {T : TypeId} {size BL : Nat} {w w' : World} {v : Value} {l : List t.T} {xs : List Value} {K : Nat → Prop} (h : Rows t T size BL w v l xs) (hc : Chg K w w') (hk : ∀ b, BL ≤ b → b < w.heap.size → ¬ K b) : Rows t T size BL w' v l xs :=
  ⟨ownk_chg h.row hc (fun b hb hK => hk b (ownk_ge h.row b hb).1 (ownk_ge h.row b hb).2 hK), rarr_chg t hc (fun b hb hl => ⟨hk b hb.1 hl, hb⟩) h.arr⟩

theorem ownk_shape {w : World} {base n size : Nat} {e : TypeId} {v : Value} {ys : List Value} (h : w.ownsRow base e size v n ys) : ∃ a m c, v = .slice a m c := by
  rcases h.2 with ⟨rfl, _⟩ | ⟨g', cap, cur, rfl, _⟩
  · exact ⟨_, _, _, rfl⟩
  · exact ⟨_, _, _, rfl⟩

/-- Between two rounds: what is left to read, the rows so far, the box that holds them. -/
structure LoopAt (t : Ty) (T : TypeId) (size BL rb : Nat) (B : List UInt8) (k : Nat) (cs : List Value) (j : Nat) (Xs wr : World) (sc : St) (l : List t.T) (xs : List Value) (v : Value) : Prop where
  r : RefR wr rb B sc
  rows : Rows t T size BL wr v l xs
  blk : Blk wr k (cs.set j v)
  chg : Chg (fun b => b = rb ∨ b = k ∨ BL ≤ b) Xs wr
  ord : rb < k ∧ k < BL ∧ BL ≤ wr.heap.size ∧ BL = Xs.heap.size ∧ j < cs.length

section
variable {t : Ty} {T : TypeId} {size BL rb : Nat} {B : List UInt8} {k : Nat} {cs : List Value} {j : Nat} {Xs wr X w3 w4 : World} {sc s2 : St} {l : List t.T} {xs cl : List Value} {v v' : Value} {x : t.T}

theorem LoopAt.start (hr : RefR Xs rb B sc) (hb : Blk Xs k cs) (hcs : cs.set j (.slice none 0 0) = cs) (hj : j < cs.length) (hk : rb < k) (hBL : BL = Xs.heap.size) : LoopAt t T size BL rb B k cs j Xs Xs sc [] [] (.slice none 0 0) :=
  ⟨hr, ⟨World.ownsRow_nil _ _ _ _, rarr_nil _ _ _⟩, by rw [hcs]; exact hb, Chg.refl _ _, hk, by rw [hBL]; exact hb.lt, Nat.le_of_eq hBL, hBL, hj⟩

theorem LoopAt.turn (h : LoopAt t T size BL rb B k cs j Xs wr sc l xs v) (hc : Chg (fun b => b = rb) wr X) (hr : RefR X rb B s2) : LoopAt t T size BL rb B k cs j Xs X s2 l xs v := by
  obtain ⟨o1, o2, o3, o4, o5⟩ := h.ord
  exact ⟨hr, h.rows.chg hc (fun b hb _ e => by omega), h.blk.chg hc (by omega), h.chg.trans (hc.more (fun b _ e => .inl e)), o1, o2, Nat.le_trans o3 hc.size, o4, o5⟩

theorem LoopAt.drew (h : LoopAt t T size BL rb B k cs j Xs wr sc l xs v) : LoopAt t T size BL rb B k cs j Xs wr.drew sc l xs v := by
  have hb : Below wr.heap.size wr wr.drew := (Below.refl _ _).drew
  exact h.turn (Chg.of_below hb) (h.r.below hb)

theorem LoopAt.below (h : LoopAt t T size BL rb B k cs j Xs wr sc l xs v) (hb : Below wr.heap.size wr X) : LoopAt t T size BL rb B k cs j Xs X sc l xs v := h.turn (Chg.of_below hb) (h.r.below hb)

theorem LoopAt.app (h : LoopAt t T size BL rb B k cs j Xs wr sc l xs v) (h2 : wr.grownBy w4 v.ownBlock) : Blk w4 k (cs.set j v) := by
  obtain ⟨o1, o2, o3, o4, o5⟩ := h.ord
  exact h.blk.chg (Chg.grown (F := fun b => BL ≤ b) h2 (fun b e => (ownk_ge h.rows.row b e).1)) (by omega)

theorem LoopAt.step (h : LoopAt t T size BL rb B k cs j Xs wr sc l xs v) (hc : Chg (fun b => b = rb) wr X) (hr : RefR X rb B s2) (hx : t.rd.rd X (wr.heap.size ≤ ·) cl x) (hb3 : Below X.heap.size X w3)
    (h1 : w4.ownsRow BL T size v' (l.length + 1) (xs ++ cl)) (h2 : w3.grownBy w4 v.ownBlock) (h3 : ∀ b, v'.ownBlock = some b → v.ownBlock = some b ∨ w3.heap.size ≤ b) :
    LoopAt t T size BL rb B k cs j Xs (w4.setCell ⟨k, j, none⟩ v') s2 (l ++ [x]) (xs ++ cl) v' := by
  obtain ⟨o1, o2, o3, o4, o5⟩ := h.ord
  have hrows := h.rows.snoc (by omega) o3 hc hx hb3 h1 h2 h3
  have hx2 := (h.turn hc hr).below hb3
  have h24 : Chg (fun b => BL ≤ b) w3 w4 := Chg.grown h2 (fun b e => (ownk_ge hx2.rows.row b e).1)
  have hs : Chg (fun b => b = k) w4 (w4.setCell ⟨k, j, none⟩ v') := Chg.setCell _ _ rfl
  refine ⟨(hx2.r.keep (h24.more (fun b _ e => by omega))).keep (hs.more (fun b _ e => by omega)), hrows.chg hs (fun b hb _ e => by omega), ?_, (hx2.chg.trans (h24.more (fun b _ e => .inr (.inr e)))).trans (hs.more (fun b _ e => .inr (.inl e))), o1, o2, ?_, o4, o5⟩
  · have := (hx2.app h2).set j v' (by rw [List.length_set]; exact o5)
    rwa [List.set_set] at this
  · have a := hc.size; have b := hb3.size; have c := h24.size; have d := hs.size; omega

theorem LoopAt.list (h : LoopAt t T t.rd.size BL rb B k cs j Xs wr sc l xs v) : ∃ a n c, v = .slice a n c ∧ (Ty.rd (.list t)).rd wr (BL ≤ ·) [.slice a n c] l := by
  have := rd_own h.rows.row (Rd.more _ (fun b hb => hb.1) h.rows.arr) (F := (BL ≤ ·)) (fun b hb _ => hb)
  obtain ⟨a, n, c, e, _⟩ := id this
  cases e
  exact ⟨a, n, c, rfl, this⟩
end
end Go.Proofs.YtfppjpmflpaffaaGreat
