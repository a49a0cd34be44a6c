/-
  Arguments that are slices: their readings, their reach. No program in sight.
-/
import Derived.Test.YtfppjpmflpaffaaGreatBase
import Derived.SizedLaws
namespace Go.Proofs.YtfppjpmflpaffaaGreat
open Go.RowKit Go.WideShapes Go.ChangeShapes
set_option linter.unusedVariables false

/-- A slice argument has a reading. -/
theorem open_arg {α : Type} {P : Program} {H : Type} {enc : TypeId × Value → H} {w : World} {base b0 : Nat} {r : Reach} {spare : Nat → Bool} {held : Bool} {t e : TypeId} {v : Value} {d : DataW H} {ps : List MemPlace} {R : Rd α}
    (ht : P.underlying t = some (.slice e)) (hval : Value.okWide P w r b0 t v) (hd : DataW.Trod enc P w base spare held t v d ps) (ho : Opens P t (rSlice R)) : ∃ l, (rSlice R).rd w (· < w.heap.size) [v] l := by
  obtain ⟨a, n, c, rfl⟩ := okWide_slice ht hval
  obtain ⟨fuel, hf⟩ := hd
  exact ho.open_ hf

/-- A nil argument has no room. -/
theorem arg_nil {P : Program} {H : Type} {enc : TypeId × Value → H} {w : World} {base b0 : Nat} {r : Reach} {spare : Nat → Bool} {held : Bool} {t e : TypeId} {v : Value} {d : DataW H} {ps : List MemPlace}
    (ht : P.underlying t = some (.slice e)) (hval : Value.okWide P w r b0 t v) (hd : DataW.Trod enc P w base spare held t v d ps) : ∀ n c, v = .slice none n c → c = 0 := by
  rintro n c rfl
  obtain ⟨fuel, hf⟩ := hd
  rcases Go.Deep.open_slice ht hf with ⟨h, _⟩ | ⟨a, len, cap, m, n', D, Pl, h, _⟩
  · simp [Value.cells] at h; exact h.2
  · simp [Value.cells] at h

/-- The reach of an argument: how many elements it has at most. -/
theorem arg_size {P : Program} {H : Type} {enc : TypeId × Value → H} {w : World} {base b0 : Nat} {r : Reach} {spare : Nat → Bool} {held : Bool} {t e : TypeId} {v : Value} {d : DataW H} {ps : List MemPlace} {ts : List TypeId} {ds : List (DataW H)} {j B : Nat}
    (hsz : (DataW.weightsEach P ts ds).all (· ≤ reachBytes) = true) (htj : ts[j]? = some t) (hdj : ds[j]? = some d) (ht : P.underlying t = some (.slice e)) (hB : P.bytesOf e = B) (hd : DataW.Trod enc P w base spare held t v d ps) : ∀ a n c, v = .slice a n c → n * B ≤ 140737488351232 := by
  rintro a n c rfl
  obtain ⟨fuel, hf⟩ := hd
  rcases Go.Deep.open_slice ht hf with ⟨h, _⟩ | ⟨a', len, cap, m, n', D, Pl, h, _, _, _, _, hx, _⟩
  · simp [Value.cells] at h
    obtain ⟨_, rfl, _⟩ := h
    omega
  · simp [Value.cells] at h
    obtain ⟨_, rfl, _⟩ := h
    have hd' := (Prod.mk.injEq _ _ _ _ ▸ hx).1
    subst hd'
    have := sized_slice hsz htj hdj ht
    rw [hB] at this
    simp only [List.length_map, List.length_range, reachBytes] at this
    have h2 : n * B ≤ (n + (m - n)) * B := Nat.mul_le_mul_right _ (by omega)
    omega

def rByte : Rd UInt8 where
  size := 1
  rd := fun _ _ cs b => cs = [.int .u8 (b.toNat : Int)]
  len := by rintro _ _ _ _ rfl; rfl
  keep := fun _ _ h => h
  more := fun _ h => h

theorem opens_byte {P : Program} {t : TypeId} (ht : P.underlying t = some (.int .u8)) (hc : P.cellsOf t = 1) : Opens P t rByte :=
  ⟨hc, fun h => by
    obtain ⟨n, rfl, _, hw⟩ := DataW.trod_int ht h
    have hb : 0 ≤ n ∧ n ≤ 255 := by simpa [Lit.wf, IntKind.min, IntKind.max, IntKind.bits, IntKind.signed] using hw
    refine ⟨UInt8.ofNat n.toNat, ?_⟩
    show [Value.int .u8 n] = _
    have : ((UInt8.ofNat n.toNat).toNat : Int) = n := by
      rw [UInt8.toNat_ofNat']
      omega
    rw [this]⟩

end Go.Proofs.YtfppjpmflpaffaaGreat
