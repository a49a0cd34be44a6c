/-
  An argument of bytes. Printed by gen_cu.py.
-/
import Derived.Test.YtfppjpmflpaffaaGreatCuB
namespace Go.Proofs.YtfppjpmflpaffaaGreat
open Go.RowKit
set_option linter.unusedVariables false
set_option linter.unusedSimpArgs false

open Go.ChangeShapes Go.WideShapes

/-- A slice argument has a reading, whatever the reading says of it. -/
theorem open_argz {α : Type} {P : Program} {H : Type} {enc : TypeId × Value → H} {w : World} {base b0 : Nat} {r : Reach} {spare : Nat → Bool} {held : Bool} {t e : TypeId} {v : Value} {d : DataW H} {ps : List MemPlace} {R : Rd α}
    (ht : P.underlying t = some (.slice e)) (hval : Value.okWide P w r b0 t v) (hd : DataW.Trod enc P w base spare held t v d ps) (ho : Opens P t R) : ∃ l, R.rd w (· < w.heap.size) [v] l := by
  obtain ⟨a, n, c, rfl⟩ := Go.WideShapes.okWide_slice ht hval
  obtain ⟨fuel, hf⟩ := hd
  exact ho.open_ hf

theorem opensBy : Opens Tryz.prog 31 rBy := opens_sliceZ Tryz.underlying31 (by kernel_rfl) (by decide) (opens_byte Tryz.underlying5 (by kernel_rfl))
end Go.Proofs.YtfppjpmflpaffaaGreat
