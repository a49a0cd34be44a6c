/-
  Slices of bytes cut.
-/
import Derived.Test.YtngddhoolijimaaGreatDoorDkL
namespace Go.Proofs.YtngddhoolijimaaGreatDoor
open Go.RowKit Go.Maps
set_option linter.unusedVariables false

theorem elem_bytes : Tryz.prog.elem 51 = 5 := by kernel_rfl
theorem under_bytes : Tryz.prog.underlying 51 = some (.slice (Tryz.prog.elem 51)) := by kernel_rfl
theorem size_byte (W : World) : (Go.sizeOf (Tryz.prog.elem 51)).run Tryz.prog W = .ok 1 W := by rw [elem_bytes]; exact Tryz.sizeOf5 W

/-- s[:k] -/
theorem cut_to {z : Int} {g off n c K : Nat} (hz : z = (K : Int)) (hK : K ≤ n) (hn : n ≤ c) : ∃ sv, (∀ W, Sem.run Tryz.prog (Instr.sliceAt 51 (.slice (some ⟨g, off, none⟩) n c) none (some (.int .i64 z)) none) W = .ok sv W) ∧
    (∀ W, Sem.run Tryz.prog (Instr.slice 51 (.slice (some ⟨g, off, none⟩) n c) none (some (.int .i64 z)) none) W = .ok sv W) ∧ ∀ w l, l.length = n → Data w (.slice (some ⟨g, off, none⟩) n c) l → Data w sv (l.take K) := by
  subst hz
  have h2 : ∀ W, Sem.run Tryz.prog (Instr.slice 51 (.slice (some ⟨g, off, none⟩) n c) none (some (.int .i64 (K : Int))) none) W = .ok (sliced (some ⟨g, off, none⟩) 0 K c 1) W := by
    intro W
    rw [run_slice_h W 51 (some ⟨g, off, none⟩) n c under_bytes .i64 (K : Int) (by omega) (by omega), size_byte]
    rfl
  refine ⟨_, fun W => (run_sliceAt_slice W 51 _ _ _ _ under_bytes).trans (h2 W), h2, fun w l hl h => ?_⟩
  have hlk : (l.take K).length = K := by rw [List.length_take]; omega
  have hsv : sliced (some ⟨g, off, none⟩) 0 K c 1 = .slice (some ⟨g, off, none⟩) K c := by
    unfold sliced
    simp [Addr.add]
  rw [hsv]
  refine ⟨by rw [pc_len]; omega, ?_⟩
  rcases h.2 with ⟨h0, _⟩ | ⟨b, off', c', e, hnc, hb, hc⟩
  · exact .inl ⟨by omega, _, c, by rw [show K = 0 by omega]⟩
  · simp only [Value.slice.injEq, Option.some.injEq, Addr.mk.injEq, and_true] at e
    obtain ⟨⟨rfl, rfl⟩, rfl, rfl⟩ := e
    refine .inr ⟨g, off, c, by rw [hlk], by omega, hb, fun j u hu => hc j u ?_⟩
    rw [pc_take, List.getElem?_take] at hu
    split at hu
    · exact hu
    · cases hu

/-- s[k:] -/
theorem cut_from {z : Int} {g off n c K : Nat} (hz : z = (K : Int)) (hK : K ≤ n) (hn : n ≤ c) : ∃ sv, (∀ W, Sem.run Tryz.prog (Instr.sliceAt 51 (.slice (some ⟨g, off, none⟩) n c) (some (.int .i64 z)) none none) W = .ok sv W) ∧
    (∀ W, Sem.run Tryz.prog (Instr.slice 51 (.slice (some ⟨g, off, none⟩) n c) (some (.int .i64 z)) none none) W = .ok sv W) ∧ ∀ w l, l.length = n → Data w (.slice (some ⟨g, off, none⟩) n c) l → Data w sv (l.drop K) := by
  subst hz
  have h2 : ∀ W, Sem.run Tryz.prog (Instr.slice 51 (.slice (some ⟨g, off, none⟩) n c) (some (.int .i64 (K : Int))) none none) W = .ok (sliced (some ⟨g, off, none⟩) K n c 1) W := by
    intro W
    rw [run_slice_l W 51 (some ⟨g, off, none⟩) n c under_bytes .i64 (K : Int) (by omega) (by omega), size_byte]
    rfl
  refine ⟨_, fun W => (run_sliceAt_slice W 51 _ _ _ _ under_bytes).trans (h2 W), h2, fun w l hl h => ?_⟩
  have hlk : (l.drop K).length = n - K := by rw [List.length_drop]; omega
  refine ⟨by rw [pc_len]; omega, ?_⟩
  unfold sliced
  by_cases hKn : K = n
  · refine .inl ⟨by omega, if c = K then some ⟨g, off, none⟩ else (some ⟨g, off, none⟩ : Option Addr).map (·.add (K * 1)), c - K, ?_⟩
    rw [show n - K = 0 by omega]
  · rcases h.2 with ⟨h0, _⟩ | ⟨b, off', c', e, hnc, hb, hc⟩
    · omega
    · simp only [Value.slice.injEq, Option.some.injEq, Addr.mk.injEq, and_true] at e
      obtain ⟨⟨rfl, rfl⟩, rfl, rfl⟩ := e
      refine .inr ⟨g, off + K, c - K, ?_, by omega, hb, fun j u hu => ?_⟩
      · rw [if_neg (by omega), hlk]
        simp [Addr.add_mid]
      · rw [pc_drop, List.getElem?_drop] at hu
        have := hc _ u hu
        rwa [Nat.add_assoc]

end Go.Proofs.YtngddhoolijimaaGreatDoor
