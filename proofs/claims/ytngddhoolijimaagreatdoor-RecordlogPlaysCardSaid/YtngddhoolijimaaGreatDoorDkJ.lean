/-
  The laws of package disk: what they share; awake.
-/
import Derived.Test.YtngddhoolijimaaGreatDoorDkI
import Derived.Test.YtngddhoolijimaaGreatDoorArg
namespace Go.Proofs.YtngddhoolijimaaGreatDoor
open Go.RowKit Go.Maps
set_option linter.unusedVariables false

theorem opensBytes : Opens Tryz.prog 51 (rSlice rByte) := opens_slice Tryz.underlying51 (by kernel_rfl) (by decide) (opens_byte Tryz.underlying5 (by kernel_rfl))
theorem opensInts : Opens Tryz.prog 33 (rSlice (rInt .i64)) := opens_slice Tryz.underlying33 (by kernel_rfl) (by decide) (opens_int Tryz.underlying3 (by kernel_rfl))

theorem data_of {w : World} {F : Nat → Prop} {v : Value} {l : List UInt8} (h : (rSlice rByte).rd w F [v] l) : Data w v l := by
  obtain ⟨a, n, c, e, rfl, hnc, _, h4⟩ := h
  obtain rfl : v = .slice a l.length c := by simpa using e
  refine ⟨by rw [pc_len]; omega, ?_⟩
  rcases h4 with h0 | ⟨b, off, rfl, _, hb, hx⟩
  · exact .inl ⟨h0, a, c, by rw [h0]⟩
  · refine .inr ⟨b, off, c, rfl, hnc, hb, fun j u hu => ?_⟩
    obtain ⟨x, hx1, rfl⟩ := pc_inv hu
    obtain ⟨ys, hA, rfl⟩ := hx j x hx1
    have := hA 0 _ rfl
    rw [Nat.add_zero] at this
    rwa [show off + j * rByte.size = off + j from by show off + j * 1 = _; omega] at this

theorem keep_of {w w' : World} {B : DB} {v : Value} {l : List Int} {F : Nat → Prop} (h : (rSlice (rInt .i64)).rd w F [v] l) (hF : ∀ b, F b → b < w.heap.size ∧ b ≠ B.sb) (hb : Below w.heap.size w w') : Keep w' B v l := by
  obtain ⟨a, n, c, e, rfl, hnc, _, h4⟩ := h
  obtain rfl : v = .slice a l.length c := by simpa using e
  have each : ∀ (k : Nat) (z : Int), l[k]? = some z → (Lit.int .i64 z).wf = true ∧ ∃ b off, a = some ⟨b, off, none⟩ ∧ b < w'.heap.size ∧ b ≠ B.sb ∧ w'.cell? ⟨b, off + k, none⟩ = some (.int .i64 z) := by
    intro k z hz
    rcases h4 with h0 | ⟨b, off, rfl, hf, hbl, hx⟩
    · have := (List.getElem?_eq_some_iff.1 hz).1; omega
    · obtain ⟨ys, hA, rfl, hw⟩ := hx k z hz
      have := hA 0 _ rfl
      rw [Nat.add_zero, show off + k * (rInt .i64).size = off + k from by show off + k * 1 = _; omega] at this
      exact ⟨hw, b, off, rfl, Nat.lt_of_lt_of_le hbl hb.size, (hF b hf).2, (hb.cell (p := ⟨b, off + k, none⟩) hbl).trans this⟩
  refine ⟨fun z hz => ?_, a, c, rfl, fun k z hz => (each k z hz).2⟩
  obtain ⟨k, hk⟩ := List.mem_iff_getElem?.1 hz
  exact (each k z hk).1

/-- A slice literal of bytes. -/
theorem data_new (w : World) (l : List UInt8) (n c : Nat) (t : TypeId) (hn : n = l.length) (hc : n ≤ c) : Data (w.alloc (.cells (pc l).toArray t)) (.slice (some ⟨w.heap.size, 0, none⟩) n c) l := by
  subst hn
  exact ⟨by rw [pc_len]; omega, .inr ⟨_, 0, c, rfl, hc, by simp, fun j u hu => new_page j u hu⟩⟩

/-- A slice literal of ints. -/
theorem keep_new (w : World) (B : DB) (l : List Int) (n c : Nat) (t : TypeId) (hn : n = l.length) (hw : ∀ z ∈ l, (Lit.int .i64 z).wf = true) (hB : B.sb < w.heap.size) : Keep (w.alloc (.cells (l.map (Value.int .i64)).toArray t)) B (.slice (some ⟨w.heap.size, 0, none⟩) n c) l := by
  subst hn
  refine ⟨hw, _, _, rfl, fun k z hz => ⟨_, 0, rfl, by simp, by omega, ?_⟩⟩
  rw [World.cell?_alloc_at _ _ _ _ rfl]
  simp [hz]

theorem Turns.below {B : DB} {w w1 w2 : World} {d : DK} (h : Turns B w1 w2 d) (h0 : Below w.heap.size w w1) (h1 : w.heap.size ≤ B.db) (h2 : w.heap.size ≤ B.sb) (h3 : w.heap.size ≤ B.mb) : Below w.heap.size w w2 :=
  h0.trans (h.2.below h0.size (fun b hb => by rcases hb with rfl | rfl | rfl <;> assumption))

/-- What a read page holds. -/
theorem read_cells {w w' : World} {v : Value} {d : DK} {i : Int} (h : ReadOf w w' v d i) : Data w' v (d.read i) := by
  have := Sl.of_own h.1
  exact this

def awA : DK := ((DK.new 3).write 0 [1, 2, 3]).1
def awB : DK := awA.crash [2]
def awC : DK := awB.restart

theorem aw_facts : ((DK.new 3).write 0 [1, 2, 3]).2 = 0 ∧ awB.down = true ∧ awC.chk 0 = 0 ∧ awC.down = false ∧ (awC.write 3 []).2 = 10 ∧ (awC.write 3 []).1.st.length = 3 ∧ (awC.read 0).length = 128 ∧ (awC.read 0)[0]? = some 1 ∧ (awC.read 0)[1]? = some 2 ∧ (awC.read 0)[2]? = some 0 := by
  refine ⟨rfl, rfl, rfl, rfl, rfl, rfl, ?_, ?_, ?_, ?_⟩ <;> decide +kernel

end Go.Proofs.YtngddhoolijimaaGreatDoor
