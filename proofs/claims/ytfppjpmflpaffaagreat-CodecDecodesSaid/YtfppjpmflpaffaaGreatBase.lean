/-
  Small words of the walks: results, blocks behind a call. No program in sight.
-/
import Derived.Test.YtfppjpmflpaffaaGreatRd
import Derived.Lib.Hide
import Derived.Deep.QuietTactic
import Derived.BigQuiet
import Derived.Deep.RegionHeld3
import Derived.StillTailTactics
import Derived.Outline
namespace Go.Proofs.YtfppjpmflpaffaaGreat
open Go.RowKit

theorem ret_bool {a b : Bool} (h : a = b) : Ending.returned (.bool a) = .returned (.bool b) := by rw [h]
theorem ret_int {k : IntKind} {a b : Int} (h : a = b) : Ending.returned (.int k a) = .returned (.int k b) := by rw [h]

theorem bcell {W w1 : World} (hb : Below W.heap.size W w1) : (∀ b o, b < W.heap.size → w1.cell? ⟨b, o, none⟩ = W.cell? ⟨b, o, none⟩) ∧ (∀ b o, b < W.heap.size → w1.frozen? ⟨b, o, none⟩ = W.frozen? ⟨b, o, none⟩) :=
  ⟨fun b o h => hb.cell (p := ⟨b, o, none⟩) h, fun b o h => hb.frozen (p := ⟨b, o, none⟩) h⟩

theorem below_new {w w1 : World} {o : Obj} (hb : Below (w.alloc o).heap.size (w.alloc o) w1) : Below w.heap.size w w1 :=
  ((Below.refl _ _).alloc (Nat.le_refl _) o).trans (hb.mono (by simp))

theorem below_chain {w w1 w2 : World} (h : Below w.heap.size w w1) (hb : Below w1.heap.size w1 w2) : Below w.heap.size w w2 := h.trans (hb.mono h.size)

theorem below_alloc {w w1 : World} (h : Below w.heap.size w w1) (o : Obj) : Below w.heap.size w (w1.alloc o) := h.alloc h.size o

/-- A veil that nothing looks through. -/
structure Veil (p : Prop) : Prop where
  out : p

section
variable {P : Program} {ops : Array Oper} {w : World} {Q : Act → Prop} {a : Act} {o : Oper} {rest : List Oper}
/-- A still walk behind a veil: an operation that is wanted. -/
theorem stillH_want (hw : Region.wanted o (yielded ops a.tmps) = true) (h : ∀ K : Act → Prop, (∀ a, Veil (wpStill P ops w Q rest a) → K a) → o.still P a w K) : Veil (wpStill P ops w Q (o :: rest) a) :=
  ⟨wpStill_step fun K hK => by rw [if_pos hw]; exact h K (fun a ha => hK a ha.out)⟩
/-- One that is not. -/
theorem stillH_skip (hw : Region.wanted o (yielded ops a.tmps) = false) (h : ∀ K : Act → Prop, (∀ a, Veil (wpStill P ops w Q rest a) → K a) → K (a.put o.dst undef)) : Veil (wpStill P ops w Q (o :: rest) a) :=
  ⟨wpStill_step fun K hK => by rw [if_neg (by rw [hw]; exact Bool.false_ne_true)]; exact h K (fun a ha => hK a ha.out)⟩
theorem stillH_nil (h : Q a) : Veil (wpStill P ops w Q [] a) := ⟨wpStill_nil h⟩
end

end Go.Proofs.YtfppjpmflpaffaaGreat
