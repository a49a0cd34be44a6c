/-
  A disk beside its model: what a step starts from.
-/
import Derived.Test.YtbolglpbkgmlfaaDrJ
namespace Go.Proofs.Ytbolglpbkgmlfaa
open Go.RowKit Go.Maps Go.ChangeShapes Go.WideShapes
set_option linter.unusedVariables false

/-- A slice; a nil one has no room. -/
def rSliceN {α : Type} (R : Rd α) : Rd (List α) where
  size := 1
  rd := fun w F cs l => (rSlice R).rd w F cs l ∧ ∀ n c, cs = [.slice none n c] → c = 0
  len := fun h => (rSlice R).len h.1
  keep := fun hk hs h => ⟨(rSlice R).keep hk hs h.1, h.2⟩
  more := fun hF h => ⟨(rSlice R).more hF h.1, h.2⟩

theorem opens_sliceN {α : Type} {P : Program} {t e : TypeId} {R : Rd α} (ht : P.underlying t = some (.slice e)) (hc : P.cellsOf t = 1) (hpos : 0 < R.size) (h : Opens P e R) : Opens P t (rSliceN R) :=
  ⟨hc, fun {H enc w base spare held fuel cs x} g => by
    obtain ⟨l, hl⟩ := (opens_slice ht hc hpos h).open_ g
    refine ⟨l, hl, fun n c e1 => ?_⟩
    rcases Go.Deep.open_slice ht g with ⟨rfl, _⟩ | ⟨a, len, cap, m, n', D, Pl, rfl, _⟩
    · simp at e1; exact e1.2.symm
    · simp at e1⟩

/-- The state of the law. -/
structure Inv (W w : World) (B : DB) (R : RB) (d : DK) : Prop where
  disk : IsDisk w B d
  ref : IsRef w R d B.has
  bel : Below W.heap.size W w
  bh : ∀ b, B.has b → W.heap.size ≤ b
  rh : ∀ b, R.has d.st.length b → W.heap.size ≤ b

section
variable {W w w1 : World} {B : DB} {R : RB} {d d' : DK}

theorem Inv.pair (h : Inv W w B R d) : Pair w B R d := ⟨h.disk, h.ref⟩

theorem Inv.grow (h : Inv W w B R d) (hb : Below w.heap.size w w1) : Inv W w1 B R d := ⟨h.disk.below hb, h.ref.below hb, h.bel.trans (hb.mono h.bel.size), h.bh, h.rh⟩

/-- The disk has turned, the model not yet. -/
structure Half (W w : World) (B : DB) (R : RB) (d' d : DK) : Prop where
  disk : IsDisk w B d'
  ref : IsRef w R d B.has
  bel : Below W.heap.size W w
  bh : ∀ b, B.has b → W.heap.size ≤ b
  rh : ∀ b, R.has d.st.length b → W.heap.size ≤ b

theorem Inv.half (h : Inv W w B R d) (ht : Turns B w w1 d') : Half W w1 B R d' d :=
  ⟨ht.1, h.ref.keep ht.2 (fun b hb => .inl hb), h.bel.trans (ht.2.below h.bel.size h.bh), h.bh, h.rh⟩

theorem Half.grow (h : Half W w B R d' d) (hb : Below w.heap.size w w1) : Half W w1 B R d' d := ⟨h.disk.below hb, h.ref.below hb, h.bel.trans (hb.mono h.bel.size), h.bh, h.rh⟩

theorem Half.full (h : Half W w B R d' d) (ht : RTurns R B.has w w1 d d') : Inv W w1 B R d' :=
  ⟨h.disk.keep ht.2.1 (fun b hb hx => (h.ref.good b hx).2 hb), ht.1, h.bel.trans (ht.2.1.below h.bel.size h.rh), h.bh, fun b hb => h.rh b (by rw [← ht.2.2]; exact hb)⟩

theorem Half.bad (h : Half W w B R d' d) : ∀ b, B.has b → b < w.heap.size := by
  rintro b (rfl | rfl | rfl)
  · exact h.disk.lt.1
  · exact h.disk.lt.2.1
  · exact h.disk.lt.2.2
theorem Inv.bad (h : Inv W w B R d) : ∀ b, B.has b → b < w.heap.size := by
  rintro b (rfl | rfl | rfl)
  · exact h.disk.lt.1
  · exact h.disk.lt.2.1
  · exact h.disk.lt.2.2

theorem Inv.keep (h : Inv W w B R d) (kv : Value) (keep : List Int) (hk : (rSlice (rInt .i64)).rd W (· < W.heap.size) [kv] keep) : Keep w B kv keep :=
  keep_of hk (fun b hb => ⟨hb, fun e => by have := h.bh b (by subst e; exact .inr (.inl rfl)); have : b < W.heap.size := hb; omega⟩) h.bel

theorem keep_ref {kv : Value} {keep : List Int} {n : Nat} (hk : (rSlice (rInt .i64)).rd W (· < W.heap.size) [kv] keep) (hb : Below W.heap.size W w) (hr : ∀ b, R.has n b → W.heap.size ≤ b) :
    (∀ z ∈ keep, (Lit.int .i64 z).wf = true) ∧ ∃ a c, kv = .slice a keep.length c ∧ ∀ k z, keep[k]? = some z → ∃ b off, a = some ⟨b, off, none⟩ ∧ b < w.heap.size ∧ ¬ R.has n b ∧ w.cell? ⟨b, off + k, none⟩ = some (.int .i64 z) := by
  obtain ⟨a, n', c, e, rfl, hnc, _, h4⟩ := hk
  obtain rfl : kv = .slice a keep.length c := by simpa using e
  have each : ∀ (k : Nat) (z : Int), keep[k]? = some z → (Lit.int .i64 z).wf = true ∧ ∃ b off, a = some ⟨b, off, none⟩ ∧ b < w.heap.size ∧ ¬ R.has n b ∧ w.cell? ⟨b, off + k, none⟩ = some (.int .i64 z) := by
    intro k z hz
    rcases h4 with h0 | ⟨b, off, rfl, hf, hbl, hx⟩
    · have := (List.getElem?_eq_some_iff.1 hz).1; omega
    · obtain ⟨ys, hA, rfl, hw⟩ := hx k z hz
      have := hA 0 _ rfl
      rw [Nat.add_zero, show off + k * (rInt .i64).size = off + k from by show off + k * 1 = _; omega] at this
      exact ⟨hw, b, off, rfl, Nat.lt_of_lt_of_le hbl hb.size, fun h => by have := hr b h; omega, (hb.cell (p := ⟨b, off + k, none⟩) hbl).trans this⟩
  refine ⟨fun z hz => ?_, a, c, rfl, fun k z hz => (each k z hz).2⟩
  obtain ⟨k, hk⟩ := List.mem_iff_getElem?.1 hz
  exact (each k z hk).1
end

/-- The op that a step is given. -/
structure OpIn (W : World) (n : Int) (dv kv : Value) (data : List UInt8) (keep : List Int) : Prop where
  wn : (Lit.int .i64 n).wf = true
  dd : (rSlice rByte).rd W (· < W.heap.size) [dv] data
  dn : ∀ m c, dv = .slice none m c → c = 0
  kk : (rSlice (rInt .i64)).rd W (· < W.heap.size) [kv] keep
  ld : data.length ≤ 300
  lk : keep.length ≤ 50

/-- What a step comes to. -/
def Stepped (W : World) (R : RB) (d : DK) (e : Ending) (w' : World) : Prop := ∃ (B' : DB) (d' : DK), e = .returned (.tuple #[B'.ptr, .bool true]) ∧ Inv W w' B' R d' ∧ d'.st.length = d.st.length

theorem write_len (d : DK) (i : Int) (l : List UInt8) : (d.write i l).1.st.length = d.st.length := by
  unfold DK.write
  split
  · rfl
  · split
    · rfl
    · rw [burn_len]; rfl
theorem sync_len (d : DK) : d.sync.1.st.length = d.st.length := by
  unfold DK.sync
  split
  · rfl
  · split
    · exact burn_len d
    · rw [show (d.burn.1.flush).st.length = d.burn.1.st.length from over_len _ _ _]; exact burn_len d
theorem restart_len (d : DK) : d.restart.st.length = d.st.length := by
  unfold DK.restart
  split
  · exact fall_len _ _ _ _
  · rfl

section
variable {W w : World} {B : DB} {R : RB} {d : DK} {k n : Int} {dv kv : Value} {data : List UInt8} {keep : List Int}

abbrev opv (k n : Int) (dv kv : Value) : Value := .agg #[.int .i64 k, .int .i64 n, dv, kv]

set_option maxRecDepth 100000 in
set_option maxHeartbeats 4000000 in
theorem step_1 (h : Inv W w B R d) (ho : OpIn W n dv kv data keep) : Calls Try.prog 18 #[B.ptr, R.ptr, opv 1 n dv kv] w (Stepped W R d) := by
  obtain ⟨da, dc, rfl⟩ := Sl.len (data_of ho.dd)
  obtain ⟨_, ka, kc, rfl, _⟩ := h.keep _ _ ho.kk
  have H := Lib.hid h
  clear h ho
  unfold DB.ptr RB.ptr opv
  go_enter Try.func18, Try.ntmps18
  go_wp2_with fail
  have h1 := H.out.grow ((Below.refl _ _).alloc (Nat.le_refl _) (.cells #[.int .i64 1, .int .i64 n, .slice da data.length dc, .slice ka keep.length kc] 41))
  refine (dk_sync h1.disk).mono ?_
  rintro e w1 ⟨rfl, ht⟩
  have H2 := Lib.hid (h1.half ht)
  clear h1 ht
  generalize hsc : d.sync.2 = sc at *
  have HSC := Lib.hid hsc
  clear hsc
  go_wp2_with fail
  refine (rf_sync H2.out.ref).mono ?_
  rintro e w2 ⟨rfl, ht⟩
  rw [HSC.out]
  have H3 := Lib.hid (H2.out.full ht)
  clear ht
  go_wp2
  go_ret2
  exact ⟨B, _, rfl, H3.out, sync_len d⟩

set_option maxRecDepth 100000 in
set_option maxHeartbeats 4000000 in
theorem step_2 (h : Inv W w B R d) (ho : OpIn W n dv kv data keep) : Calls Try.prog 18 #[B.ptr, R.ptr, opv 2 n dv kv] w (Stepped W R d) := by
  obtain ⟨da, dc, rfl⟩ := Sl.len (data_of ho.dd)
  obtain ⟨_, ka, kc, rfl, _⟩ := h.keep _ _ ho.kk
  have H := Lib.hid h
  have HO := Lib.hid ho
  have hsz := h.disk.lt
  have hrl := h.ref.rb_lt
  clear h ho
  unfold DB.ptr RB.ptr opv
  go_enter Try.func18, Try.ntmps18
  go_wp2_with fail
  have h1 := H.out.grow ((Below.refl _ _).alloc (Nat.le_refl _) (.cells #[.int .i64 2, .int .i64 n, .slice da data.length dc, .slice ka keep.length kc] 41))
  refine (dk_failAfter h1.disk n HO.out.wn).mono ?_
  rintro e w1 ⟨rfl, ht⟩
  have hx : w1.cell? ⟨w.heap.size, 1, none⟩ = some (.int .i64 n) := (ht.2.cell (a := ⟨w.heap.size, 1, none⟩) (fun hb => by have := H.out.bad _ hb; have : w.heap.size < w.heap.size := this; omega) (by simp)).trans (by go_simp)
  have hx2 : w.heap.size < w1.heap.size := by have := ht.2.size; simp at this; omega
  have H2 := Lib.hid (h1.half ht)
  clear h1 ht
  go_wp2_with fail
  refine (rf_failAfter H2.out.ref n HO.out.wn).mono ?_
  rintro e w2 ⟨rfl, ht⟩
  have H3 := Lib.hid (H2.out.full ht)
  clear ht
  go_wp2
  go_ret2
  exact ⟨B, _, rfl, H3.out, rfl⟩

set_option maxRecDepth 100000 in
set_option maxHeartbeats 4000000 in
theorem step_3 (h : Inv W w B R d) (ho : OpIn W n dv kv data keep) : Calls Try.prog 18 #[B.ptr, R.ptr, opv 3 n dv kv] w (Stepped W R d) := by
  obtain ⟨da, dc, rfl⟩ := Sl.len (data_of ho.dd)
  obtain ⟨_, ka, kc, rfl, _⟩ := h.keep _ _ ho.kk
  have H := Lib.hid h
  have HO := Lib.hid ho
  clear h ho
  unfold DB.ptr RB.ptr opv
  go_enter Try.func18, Try.ntmps18
  go_wp2_with fail
  have h1 := H.out.grow ((Below.refl _ _).alloc (Nat.le_refl _) (.cells #[.int .i64 3, .int .i64 n, .slice da data.length dc, .slice ka keep.length kc] 41))
  refine (dk_crash h1.disk _ keep (h1.keep _ _ HO.out.kk) (by have := HO.out.lk; omega)).mono ?_
  rintro e w1 ⟨rfl, ht⟩
  have hx : w1.cell? ⟨w.heap.size, 3, none⟩ = some (.slice ka keep.length kc) := (ht.2.cell (a := ⟨w.heap.size, 3, none⟩) (fun hb => by have := H.out.bad _ hb; have : w.heap.size < w.heap.size := this; omega) (by simp)).trans (by go_simp)
  have hx2 : w.heap.size < w1.heap.size := by have := ht.2.size; simp at this; omega
  have H2 := Lib.hid (h1.half ht)
  clear h1 ht
  go_wp2_with fail
  refine (rf_crash H2.out.ref H2.out.bad _ keep (keep_ref HO.out.kk H2.out.bel H2.out.rh)).mono ?_
  rintro e w2 ⟨rfl, ht⟩
  have H3 := Lib.hid (H2.out.full ht)
  clear ht
  go_wp2
  go_ret2
  exact ⟨B, _, rfl, H3.out, fall_len _ _ _ _⟩

set_option maxRecDepth 100000 in
set_option maxHeartbeats 4000000 in
theorem step_4 (h : Inv W w B R d) (ho : OpIn W n dv kv data keep) : Calls Try.prog 18 #[B.ptr, R.ptr, opv 4 n dv kv] w (Stepped W R d) := by
  obtain ⟨da, dc, rfl⟩ := Sl.len (data_of ho.dd)
  obtain ⟨_, ka, kc, rfl, _⟩ := h.keep _ _ ho.kk
  have H := Lib.hid h
  clear h ho
  unfold DB.ptr RB.ptr opv
  go_enter Try.func18, Try.ntmps18
  go_wp2_with fail
  have h1 := H.out.grow ((Below.refl _ _).alloc (Nat.le_refl _) (.cells #[.int .i64 4, .int .i64 n, .slice da data.length dc, .slice ka keep.length kc] 41))
  refine (dk_restart h1.disk).mono ?_
  rintro e w1 ⟨rfl, ht⟩
  have H2 := Lib.hid (h1.half ht)
  clear h1 ht
  go_wp2_with fail
  refine (rf_restart H2.out.ref H2.out.bad).mono ?_
  rintro e w2 ⟨rfl, ht⟩
  have H3 := Lib.hid (H2.out.full ht)
  clear ht
  go_wp2
  go_ret2
  exact ⟨B, _, rfl, H3.out, restart_len d⟩
end

end Go.Proofs.Ytbolglpbkgmlfaa
