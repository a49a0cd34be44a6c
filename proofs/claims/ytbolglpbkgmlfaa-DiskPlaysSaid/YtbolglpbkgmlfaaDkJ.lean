/-
  The laws of package disk: what they share; awake.
-/
import Derived.Test.YtbolglpbkgmlfaaDkI
import Derived.Test.YtbolglpbkgmlfaaArg
namespace Go.Proofs.Ytbolglpbkgmlfaa
open Go.RowKit Go.Maps
set_option linter.unusedVariables false

theorem opensBytes : Opens Try.prog 24 (rSlice rByte) := opens_slice Try.underlying24 (by kernel_rfl) (by decide) (opens_byte Try.underlying5 (by kernel_rfl))
theorem opensInts : Opens Try.prog 31 (rSlice (rInt .i64)) := opens_slice Try.underlying31 (by kernel_rfl) (by decide) (opens_int Try.underlying3 (by kernel_rfl))

theorem data_of {w : World} {F : Nat → Prop} {v : Value} {l : List UInt8} (h : (rSlice rByte).rd w F [v] l) : Data w v l := by
  obtain ⟨a, n, c, e, rfl, hnc, _, h4⟩ := h
  obtain rfl : v = .slice a l.length c := by simpa using e
  refine ⟨by rw [pc_len]; omega, ?_⟩
  rcases h4 with h0 | ⟨b, off, rfl, _, hb, hx⟩
  · exact .inl ⟨h0, a, c, by rw [h0]⟩
  · refine .inr ⟨b, off, c, rfl, hnc, hb, fun j u hu => ?_⟩
    obtain ⟨x, hx1, rfl⟩ := pc_inv hu
    obtain ⟨ys, hA, rfl⟩ := hx j x hx1
    have := hA 0 _ rfl
    rw [Nat.add_zero] at this
    rwa [show off + j * rByte.size = off + j from by show off + j * 1 = _; omega] at this

theorem keep_of {w w' : World} {B : DB} {v : Value} {l : List Int} {F : Nat → Prop} (h : (rSlice (rInt .i64)).rd w F [v] l) (hF : ∀ b, F b → b < w.heap.size ∧ b ≠ B.sb) (hb : Below w.heap.size w w') : Keep w' B v l := by
  obtain ⟨a, n, c, e, rfl, hnc, _, h4⟩ := h
  obtain rfl : v = .slice a l.length c := by simpa using e
  have each : ∀ (k : Nat) (z : Int), l[k]? = some z → (Lit.int .i64 z).wf = true ∧ ∃ b off, a = some ⟨b, off, none⟩ ∧ b < w'.heap.size ∧ b ≠ B.sb ∧ w'.cell? ⟨b, off + k, none⟩ = some (.int .i64 z) := by
    intro k z hz
    rcases h4 with h0 | ⟨b, off, rfl, hf, hbl, hx⟩
    · have := (List.getElem?_eq_some_iff.1 hz).1; omega
    · obtain ⟨ys, hA, rfl, hw⟩ := hx k z hz
      have := hA 0 _ rfl
      rw [Nat.add_zero, show off + k * (rInt .i64).size = off + k from by show off + k * 1 = _; omega] at this
      exact ⟨hw, b, off, rfl, Nat.lt_of_lt_of_le hbl hb.size, (hF b hf).2, (hb.cell (p := ⟨b, off + k, none⟩) hbl).trans this⟩
  refine ⟨fun z hz => ?_, a, c, rfl, fun k z hz => (each k z hz).2⟩
  obtain ⟨k, hk⟩ := List.mem_iff_getElem?.1 hz
  exact (each k z hk).1

/-- A slice literal of bytes. -/
theorem data_new (w : World) (l : List UInt8) (n c : Nat) (t : TypeId) (hn : n = l.length) (hc : n ≤ c) : Data (w.alloc (.cells (pc l).toArray t)) (.slice (some ⟨w.heap.size, 0, none⟩) n c) l := by
  subst hn
  exact ⟨by rw [pc_len]; omega, .inr ⟨_, 0, c, rfl, hc, by simp, fun j u hu => new_page j u hu⟩⟩

/-- A slice literal of ints. -/
theorem keep_new (w : World) (B : DB) (l : List Int) (n c : Nat) (t : TypeId) (hn : n = l.length) (hw : ∀ z ∈ l, (Lit.int .i64 z).wf = true) (hB : B.sb < w.heap.size) : Keep (w.alloc (.cells (l.map (Value.int .i64)).toArray t)) B (.slice (some ⟨w.heap.size, 0, none⟩) n c) l := by
  subst hn
  refine ⟨hw, _, _, rfl, fun k z hz => ⟨_, 0, rfl, by simp, by omega, ?_⟩⟩
  rw [World.cell?_alloc_at _ _ _ _ rfl]
  simp [hz]

theorem Turns.below {B : DB} {w w1 w2 : World} {d : DK} (h : Turns B w1 w2 d) (h0 : Below w.heap.size w w1) (h1 : w.heap.size ≤ B.db) (h2 : w.heap.size ≤ B.sb) (h3 : w.heap.size ≤ B.mb) : Below w.heap.size w w2 :=
  h0.trans (h.2.below h0.size (fun b hb => by rcases hb with rfl | rfl | rfl <;> assumption))

/-- What a read page holds. -/
theorem read_cells {w w' : World} {v : Value} {d : DK} {i : Int} (h : ReadOf w w' v d i) : Data w' v (d.read i) := by
  have := Sl.of_own h.1
  exact this

def awA : DK := ((DK.new 3).write 0 [1, 2, 3]).1
def awB : DK := awA.crash [2]
def awC : DK := awB.restart

theorem aw_facts : ((DK.new 3).write 0 [1, 2, 3]).2 = 0 ∧ awB.down = true ∧ awC.chk 0 = 0 ∧ awC.down = false ∧ (awC.write 3 []).2 = 10 ∧ (awC.write 3 []).1.st.length = 3 ∧ (awC.read 0).length = 128 ∧ (awC.read 0)[0]? = some 1 ∧ (awC.read 0)[1]? = some 2 ∧ (awC.read 0)[2]? = some 0 := by
  refine ⟨rfl, rfl, rfl, rfl, rfl, rfl, ?_, ?_, ?_, ?_⟩ <;> decide +kernel

set_option maxRecDepth 100000 in
set_option maxHeartbeats 4000000 in
theorem awake_any (w : World) : Calls Try.prog 9 #[] w (Holds w) := by
  obtain ⟨f1, f2, f3, f4, f5, f6, f7, f8, f9, f10⟩ := aw_facts
  have F1 := Lib.hid f1
  have F2 := Lib.hid f2
  have F3 := Lib.hid f3
  have F4 := Lib.hid f4
  have F5 := Lib.hid f5
  have F6 := Lib.hid f6
  have F7 := Lib.hid f7
  have F8 := Lib.hid (pc_get f8)
  have F9 := Lib.hid (pc_get f9)
  have F10 := Lib.hid (pc_get f10)
  clear f1 f2 f3 f4 f5 f6 f7 f8 f9 f10
  go_enter Try.func9, Try.ntmps9
  go_wp2_with fail
  refine (dk_new 3 3 (by decide) _).mono ?_
  rintro e w1 ⟨B, rfl, hD, hB1, hb1, hb2, hb3⟩
  have HD1 := Lib.hid hD
  have HB1 := Lib.hid hB1
  clear hD hB1
  unfold DB.ptr
  go_wp2_with fail
  have hD2 := HD1.out.below ((Below.refl _ _).alloc (Nat.le_refl _) (.cells (pc [1, 2, 3]).toArray 5))
  refine (dk_write hD2 0 (wf_small (n := 0) (by omega)) _ [1, 2, 3] (data_new w1 [1, 2, 3] 3 3 5 rfl (by omega))).mono ?_
  rintro e w2 ⟨rfl, ht⟩
  rw [F1.out]
  have HB2 := Lib.hid (ht.below (below_alloc HB1.out _) hb1 hb2 hb3)
  have HD2 := Lib.hid (show IsDisk w2 B awA from ht.1)
  clear ht hD2
  go_wp2_with fail
  have hD3 := HD2.out.below ((Below.refl _ _).alloc (Nat.le_refl _) (.cells (([2] : List Int).map (Value.int .i64)).toArray 3))
  refine (dk_crash hD3 _ [2] (keep_new w2 B [2] 1 1 3 rfl (by intro z hz; simp at hz; subst hz; exact wf_small (n := 2) (by omega)) HD2.out.lt.2.1) (by simp)).mono ?_
  rintro e w3 ⟨rfl, ht⟩
  have HB3 := Lib.hid (ht.below (below_alloc HB2.out _) hb1 hb2 hb3)
  have HD3 := Lib.hid (show IsDisk w3 B awB from ht.1)
  clear ht hD3
  go_wp2_with fail
  refine (dk_down HD3.out).mono ?_
  rintro e w' ⟨rfl, rfl⟩
  rw [F2.out]
  go_wp2_with fail
  refine (dk_restart HD3.out).mono ?_
  rintro e w4 ⟨rfl, ht⟩
  have HB4 := Lib.hid (ht.below HB3.out hb1 hb2 hb3)
  have HD4 := Lib.hid (show IsDisk w4 B awC from ht.1)
  clear ht
  go_wp2_with fail
  refine (dk_read HD4.out 0 (wf_small (n := 0) (by omega))).mono ?_
  rintro e w5 ⟨v, rfl, hr⟩
  rw [F3.out]
  have hdat := read_cells hr
  have HB5 := Lib.hid (HB4.out.trans (hr.2.mono HB4.out.size))
  have HD5 := Lib.hid (HD4.out.below hr.2)
  clear hr
  obtain ⟨g, off, c, rfl, hnc, hg, hcl⟩ := Sl.some_ hdat (by rw [F7.out]; omega)
  rw [F7.out] at hnc ⊢
  have x0 := hcl 0 _ F8.out
  have x1 := hcl 1 _ F9.out
  have x2 := hcl 2 _ F10.out
  rw [Nat.add_zero] at x0
  clear hcl hdat
  have hcl0 : w5.cell? ⟨g, off, none⟩ = some (.int .u8 1) := x0
  have hcl1 : w5.cell? ⟨g, off + 1, none⟩ = some (.int .u8 2) := x1
  have hcl2 : w5.cell? ⟨g, off + 2, none⟩ = some (.int .u8 0) := x2
  clear x0 x1 x2
  go_wp2_with fail
  refine (dk_down HD5.out).mono ?_
  rintro e w' ⟨rfl, rfl⟩
  rw [F4.out]
  go_wp2_with fail
  refine (dk_write HD5.out 3 (wf_small (n := 3) (by omega)) _ [] ⟨rfl, .inl ⟨rfl, none, 0, rfl⟩⟩).mono ?_
  rintro e w6 ⟨rfl, ht⟩
  rw [F5.out]
  have HB6 := Lib.hid (ht.below HB5.out hb1 hb2 hb3)
  have HD6 := Lib.hid ht.1
  clear ht
  go_wp2_with fail
  refine (dk_pages HD6.out).mono ?_
  rintro e w' ⟨rfl, rfl⟩
  rw [F6.out]
  go_wp2
  go_ret
  exact ⟨rfl, HB6.out⟩

end Go.Proofs.Ytbolglpbkgmlfaa
