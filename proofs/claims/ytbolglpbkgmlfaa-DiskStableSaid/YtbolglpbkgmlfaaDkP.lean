/-
  DiskStable, every input.
-/
import Derived.Test.YtbolglpbkgmlfaaDkN
namespace Go.Proofs.Ytbolglpbkgmlfaa
open Go.RowKit Go.Maps
set_option linter.unusedVariables false

theorem stable_walk (ov dv kv : Value) (old data : List UInt8) (keep : List Int) (n : Int) (W : World) (ho : (rSlice rByte).rd W (· < W.heap.size) [ov] old) (hd : (rSlice rByte).rd W (· < W.heap.size) [dv] data) (hk : (rSlice (rInt .i64)).rd W (· < W.heap.size) [kv] keep)
    (hn : (Lit.int .u8 n).wf = true) : Calls Try.prog 4 #[ov, dv, kv, .int .u8 n] W (Holds W) := by
  have hb : 0 ≤ n ∧ n ≤ 255 := by simpa [Lit.wf, IntKind.min, IntKind.max, IntKind.bits, IntKind.signed] using hn
  obtain ⟨nn, rfl⟩ : ∃ nn : Nat, n = (nn : Int) := ⟨n.toNat, by omega⟩
  by_cases h1 : old.length ≤ 128
  · by_cases h2 : data.length ≤ 128
    · by_cases h3 : keep.length ≤ 10
      · exact stable_walk0 ov dv kv old data keep nn _ W ho hd hk h1 h2 h3 (by omega) rfl
      · exact stable_big ov dv kv old data keep nn W ho hd hk (.inr (.inr ⟨h1, h2, by omega⟩))
    · exact stable_big ov dv kv old data keep nn W ho hd hk (.inr (.inl ⟨h1, by omega⟩))
  · exact stable_big ov dv kv old data keep nn W ho hd hk (.inl (by omega))

end Go.Proofs.Ytbolglpbkgmlfaa
