/-
  finish.
-/
import Derived.Test.YtngddhoolijimaaGreatDoorPfE
import Derived.Test.YtngddhoolijimaaGreatDoorRow
namespace Go.Proofs.YtngddhoolijimaaGreatDoor
open Go.RowKit
set_option linter.unusedVariables false

theorem int_info : (Tryz.prog.info? 3).map (fun i => (i.zero, i.size, i.bytes)) = some (some (.int .i64 0), 1, 8) := by kernel_rfl

abbrev rPW : Rd (Int × List UInt8) := rPair (rInt .i64) (rSlice rByte)

/-- A write among writes, in memory. -/
theorem pw_get {w : World} {F : Nat → Prop} {v : Value} {l : List (Int × List UInt8)} (h : (rSlice rPW).rd w F [v] l) : ∃ a c, v = .slice a l.length c ∧ ∀ k x, l[k]? = some x → ∃ g off u, a = some ⟨g, off, none⟩ ∧ F g ∧ g < w.heap.size ∧ w.cell? ⟨g, off + k * 2, none⟩ = some (.int .i64 x.1) ∧ w.cell? ⟨g, off + k * 2 + 1, none⟩ = some u ∧ (Lit.int .i64 x.1).wf = true ∧ (rSlice rByte).rd w F [u] x.2 := by
  obtain ⟨a, n, c, e, rfl, hnc, hcm, h4⟩ := h
  obtain rfl : v = .slice a l.length c := by simpa using e
  refine ⟨a, c, rfl, fun k x hx => ?_⟩
  rcases h4 with h4 | ⟨b, off, rfl, hF, hb, h⟩
  · have := (List.getElem?_eq_some_iff.1 hx).1; omega
  · obtain ⟨ys, hA, u1, v1, rfl, ⟨rfl, hw⟩, hd⟩ := h k x hx
    have l1 : v1.length = 1 := (rSlice rByte).len hd
    obtain ⟨u, rfl⟩ : ∃ u, v1 = [u] := by match v1, l1 with | [a], _ => exact ⟨a, rfl⟩
    exact ⟨b, off, u, rfl, hF, hb, hA 0 _ rfl, hA 1 _ rfl, hw, hd⟩

theorem take_snoc {α : Type} {l : List α} {k : Nat} {x : α} (h : l[k]? = some x) : l.take (k + 1) = l.take k ++ [x] := by rw [List.take_add_one, h]; rfl

theorem journalOf_snoc (n k : Nat) : journalOf n (k + 1) = journalOf n k ++ [((n + k : Nat) : Int)] := by unfold journalOf; rw [List.range_succ, List.map_append]; rfl

theorem journalOf_len (n k : Nat) : (journalOf n k).length = k := by simp [journalOf]

theorem journalOf_mem' {n k : Nat} {i : Int} (h : i ∈ journalOf n k) : ∃ j, j < k ∧ i = ((n + j : Nat) : Int) := by
  unfold journalOf at h
  obtain ⟨j, hj, rfl⟩ := List.mem_map.1 h
  exact ⟨j, List.mem_range.1 hj, rfl⟩

theorem home_first {n a b : Nat} {ws : List (Int × List UInt8)} (hno : ∀ x ∈ ws, x.1 < (n : Int)) (h : 0 < ws.length) (h1 : 0 < a) (h2 : 0 < b) : ((ws.take a).map fun x => Value.int .i64 x.1)[0]? ≠ ((journalOf n b).map (Value.int .i64))[0]? := by
  have e1 : ((journalOf n b).map (Value.int .i64))[0]? = some (.int .i64 (n : Int)) := by
    unfold journalOf
    simp [h2]
  have e2 : ((ws.take a).map fun x => Value.int .i64 x.1)[0]? = some (.int .i64 (ws[0]).1) := by
    rw [List.getElem?_map, List.getElem?_take, if_pos h1, List.getElem?_eq_getElem h]; rfl
  have h2 := hno _ (List.getElem_mem h)
  rw [e1, e2]
  intro e
  simp at e
  omega

theorem rarr_ints {w : World} {F : Nat → Prop} {l : List Int} (h : ∀ x ∈ l, (Lit.int .i64 x).wf = true) : (rArr (rInt .i64) l.length).rd w F (l.map (Value.int .i64)) l := by
  have e : (rInt .i64).size = 1 := rfl
  refine ⟨by simp [e], rfl, fun i x hx => ⟨?_, h x (List.mem_of_getElem? hx)⟩⟩
  have hi := (List.getElem?_eq_some_iff.1 hx).1
  rw [e, Nat.mul_one, List.drop_eq_getElem_cons (by simpa using hi), List.take_succ_cons, List.take_zero]
  congr 1
  rw [List.getElem_map]
  congr 1
  exact (List.getElem?_eq_some_iff.1 hx).2

theorem zip_fst_snd (ws : List (Int × List UInt8)) : (ws.map (·.1)).zip (ws.map (·.2)) = ws := by
  induction ws with
  | nil => rfl
  | cons x l ih => rw [List.map_cons, List.map_cons, List.zip_cons_cons, ih]

theorem pw_wf {w : World} {F : Nat → Prop} {v : Value} {l : List (Int × List UInt8)} (h : (rSlice rPW).rd w F [v] l) : ∀ x ∈ l.map (·.1), (Lit.int .i64 x).wf = true := by
  obtain ⟨a, c, rfl, hg⟩ := pw_get h
  intro x hx
  obtain ⟨y, hy, rfl⟩ := List.mem_map.1 hx
  obtain ⟨k, hk, e⟩ := List.getElem_of_mem hy
  obtain ⟨_, _, _, _, _, _, _, _, hw, _⟩ := hg k y (by rw [List.getElem?_eq_getElem hk, e])
  exact hw

section
variable {w : World} {fb : Nat} {B : DB} {f : PF} {d : DK}

set_option maxRecDepth 100000 in
set_option maxHeartbeats 2000000 in
theorem pf_finish (h : IsFile w fb B f) (hd : IsDisk w B d) (wv : Value) (ws : List (Int × List UInt8)) (hw : (rSlice rPW).rd w (fun b => B.off b ∧ b < w.heap.size) [wv] ws) (hlm : ws.length ≤ 100000) (hno : ∀ x ∈ ws, x.1 < (f.n : Int)) :
    Calls Tryz.prog 45 #[pfPtr fb, wv] w fun e w' => e = .returned (.int .i64 (d.finish f.n ws).2) ∧ Turns B w w' (d.finish f.n ws).1 := by
  obtain ⟨wa, wc, rfl, _⟩ := pw_get hw
  have HW := Lib.hid hw
  have HF := Lib.hid h
  have HD := Lib.hid hd
  have HL := Lib.hid (And.intro hlm hno)
  clear hw h hd hlm hno
  generalize hR : d.finish f.n ws = R at *
  have HFIN := Lib.hid (show R = thn (d.writes ws) fun d => thn (d.erase [((2 * f.n : Nat) : Int)]) fun d => d.erase (journalOf f.n ws.length) from hR.symm)
  clear hR
  unfold pfPtr
  go_enter Tryz.func45, Tryz.ntmps45
  go_wp2
  go_loopg [5, 6, 7, 14] (ws.length) (fun gk t5 t6 t7 t14 wr => ∃ (k : Nat) (xs : List Value), k ≤ ws.length ∧ gk + k = ws.length ∧ t14 = .int .i64 (k : Int) ∧ wr.ownsRow w.heap.size 3 1 t5 k ((ws.take k).map fun x => .int .i64 x.1) ∧ wr.ownsRow w.heap.size 3 1 t6 k ((journalOf f.n k).map (Value.int .i64)) ∧
      wr.ownsRow w.heap.size 51 1 t7 k xs ∧ (rArr (rSlice rByte) k).rd wr (fun b => B.off b ∧ b < w.heap.size) xs ((ws.take k).map (·.2)) ∧ Below w.heap.size w wr ∧ (k = 0 → t5 = .slice none 0 0 ∧ t6 = .slice none 0 0 ∧ t7 = .slice none 0 0))
  case atStart => exact ⟨0, [], by omega, by omega, rfl, World.ownsRow_nil _ _ _ _, World.ownsRow_nil _ _ _ _, World.ownsRow_nil _ _ _ _, rarr_nil _ _ _, Below.refl _ _, fun _ => ⟨rfl, rfl, rfl⟩⟩
  case round =>
    obtain ⟨k, xs, hk, hgk, rfl, hO5, hO6, hO7, hX, hB, hz⟩ := hrel
    have HGK := Lib.hid hgk
    have HO5 := Lib.hid hO5
    have HO6 := Lib.hid hO6
    have HO7 := Lib.hid hO7
    have HX := Lib.hid hX
    have HB := Lib.hid hB
    have HZ := Lib.hid hz
    clear hgk hO5 hO6 hO7 hX hB hz
    obtain ⟨a5, c5, rfl⟩ := own_nil HO5.out
    obtain ⟨a6, c6, rfl⟩ := own_nil HO6.out
    obtain ⟨a7, c7, rfl⟩ := own_nil HO7.out
    by_cases hin : k < ws.length
    · have hd1 : decide ((k : Int) < (ws.length : Int)) = true := by simp; omega
      have i0 : (0 : Int) ≤ (k : Int) := by omega
      have i1 : (k : Int) < (ws.length : Int) := by omega
      have i2 : (k : Int) ≤ 100000 := by have := HL.out.1; omega
      obtain ⟨x, hx⟩ : ∃ x, ws[k]? = some x := ⟨_, List.getElem?_eq_getElem hin⟩
      obtain ⟨_, _, e1, hg1⟩ := pw_get (HW.out)
      obtain ⟨g, off, u, rfl, hgF, hgl, c0, c1, hxw, hu⟩ := hg1 k x hx
      cases e1
      obtain ⟨ua, uc, rfl⟩ := Sl.len (data_of hu)
      have hb1 : wr.cell? ⟨g, off + k * 2, none⟩ = some (.int .i64 x.1) := (HB.out.cell (p := ⟨g, off + k * 2, none⟩) hgl).trans c0
      have hb2 : wr.cell? ⟨g, off + k * 2 + 1, none⟩ = some (.slice ua x.2.length uc) := (HB.out.cell (p := ⟨g, off + k * 2 + 1, none⟩) hgl).trans c1
      have HU := Lib.hid hu
      have HX2 := Lib.hid hx
      have hsz : w.heap.size ≤ wr.heap.size := HB.out.size
      clear hg1 c0 c1 hu hx
      go_wp2_with fail
      obtain ⟨i0, hi0, hz0, hz1, hz2⟩ := info_parts int_info
      obtain ⟨j0, hj0, hy0, hy1, hy2⟩ := info_parts bs_info
      have hap75 : ∀ b, (Value.slice a7 k c7).ownBlock = some b → some b ≠ (Value.slice a5 k c5).ownBlock := rows_apart HO7.out HO5.out (fun h => (HZ.out h).2.2) (fun h => (HZ.out h).1) (.inl (by decide))
      have hap65 : ∀ b, (Value.slice a6 k c6).ownBlock = some b → some b ≠ (Value.slice a5 k c5).ownBlock := rows_apart HO6.out HO5.out (fun h => (HZ.out h).2.1) (fun h => (HZ.out h).1) (.inr fun hk1 _ => by
        exact fun e => home_first HL.out.2 (by omega) hk1 hk1 e.symm)
      have hap67 : ∀ b, (Value.slice a6 k c6).ownBlock = some b → some b ≠ (Value.slice a7 k c7).ownBlock := rows_apart HO6.out HO7.out (fun h => (HZ.out h).2.1) (fun h => (HZ.out h).2.2) (.inl (by decide))
      have NB5 := Lib.hid (own_block_lt HO5.out)
      have NB7 := Lib.hid (own_block_lt HO7.out)
      obtain ⟨H, hH⟩ : ∃ H, H = wr.heap.size := ⟨_, rfl⟩
      obtain ⟨W0, hW0⟩ : ∃ W0, W0 = wr.alloc (.cells #[.int .i64 x.1, .slice ua x.2.length uc] 82) := ⟨_, rfl⟩
      have hc0 : W0.cell? ⟨wr.heap.size, 0, none⟩ = some (.int .i64 x.1) := by rw [hW0]; go_simp
      have hc1 : W0.cell? ⟨wr.heap.size, 1, none⟩ = some (.slice ua x.2.length uc) := by rw [hW0]; go_simp
      have hsz0 : W0.heap.size = wr.heap.size + 1 := by rw [hW0]; simp
      have hB0 : Below wr.heap.size wr W0 := by rw [hW0]; exact (Below.refl _ _).alloc (Nat.le_refl _) _
      have H5 := Lib.hid (show W0.ownsRow w.heap.size 3 1 (.slice a5 k c5) k ((ws.take k).map fun x => .int .i64 x.1) from own_at HO5.out hB0)
      have H7 := Lib.hid (show W0.ownsRow w.heap.size 51 1 (.slice a7 k c7) k xs from own_at HO7.out hB0)
      have K7 := Lib.hid (show ∀ W1 w1 : World, W1.ownsRow w.heap.size 51 1 (.slice a7 k c7) k xs → W1.grownBy w1 (Value.slice a5 k c5).ownBlock → w1.ownsRow w.heap.size 51 1 (.slice a7 k c7) k xs from fun _ _ h hg => own_keep h hg hap75)
      have HBW := Lib.hid (show Below w.heap.size w W0 from HB.out.trans (hB0.mono HB.out.size))
      have H6 := Lib.hid (show W0.ownsRow w.heap.size 3 1 (.slice a6 k c6) k ((journalOf f.n k).map (Value.int .i64)) from own_at HO6.out hB0)
      have K6 := Lib.hid (And.intro hap65 hap67)
      rw [← hW0]
      have INIT := Lib.hid (show W0.drew.cell? ⟨wr.heap.size, 0, none⟩ = some (.int .i64 x.1) ∧ W0.drew.cell? ⟨wr.heap.size, 1, none⟩ = some (.slice ua x.2.length uc) ∧ wr.heap.size < W0.drew.heap.size ∧ Below w.heap.size w W0.drew from ⟨hc0, hc1, by show wr.heap.size < W0.heap.size; omega, HBW.out.drew⟩)
      have KEEP := Lib.hid (show ∀ W1 W2 : World, (W1.cell? ⟨wr.heap.size, 0, none⟩ = some (.int .i64 x.1) ∧ W1.cell? ⟨wr.heap.size, 1, none⟩ = some (.slice ua x.2.length uc) ∧ wr.heap.size < W1.heap.size ∧ Below w.heap.size w W1) → Below W1.heap.size W1 W2 → (W2.cell? ⟨wr.heap.size, 0, none⟩ = some (.int .i64 x.1) ∧ W2.cell? ⟨wr.heap.size, 1, none⟩ = some (.slice ua x.2.length uc) ∧ wr.heap.size < W2.heap.size ∧ Below w.heap.size w W2) from
        fun W1 W2 ⟨p0, p1, hs, hB⟩ hb => ⟨(hb.cell (p := ⟨wr.heap.size, 0, none⟩) hs).trans p0, (hb.cell (p := ⟨wr.heap.size, 1, none⟩) hs).trans p1, Nat.lt_of_lt_of_le hs hb.size, hB.trans (hb.mono hB.size)⟩)
      have KEEPG := Lib.hid (show ∀ (W1 W2 : World) (row : Option Nat), (W1.cell? ⟨wr.heap.size, 0, none⟩ = some (.int .i64 x.1) ∧ W1.cell? ⟨wr.heap.size, 1, none⟩ = some (.slice ua x.2.length uc) ∧ wr.heap.size < W1.heap.size ∧ Below w.heap.size w W1) → W1.grownBy W2 row → Below w.heap.size w W2 → some wr.heap.size ≠ row → (W2.cell? ⟨wr.heap.size, 0, none⟩ = some (.int .i64 x.1) ∧ W2.cell? ⟨wr.heap.size, 1, none⟩ = some (.slice ua x.2.length uc) ∧ wr.heap.size < W2.heap.size ∧ Below w.heap.size w W2) from
        fun W1 W2 row ⟨p0, p1, hs, hB⟩ hg hb hne => ⟨(World.cell?_of_block (a := ⟨wr.heap.size, 0, none⟩) (hg.block _ hs hne)).trans p0, (World.cell?_of_block (a := ⟨wr.heap.size, 1, none⟩) (hg.block _ hs hne)).trans p1, Nat.lt_of_lt_of_le hs hg.size, hb⟩)
      have HSZ := Lib.hid hsz0
      clear hW0 hb1 hb2 hc0 hc1 hap75 hap65 hap67 hsz0 hB0
      go_region_held3 (fun W => W.cell? ⟨wr.heap.size, 0, none⟩ = some (.int .i64 x.1) ∧ W.cell? ⟨wr.heap.size, 1, none⟩ = some (.slice ua x.2.length uc) ∧ wr.heap.size < W.heap.size ∧ Below w.heap.size w W)
        (first | assumption | exact INIT.out | exact KEEP.out _ _ (by assumption) ((Below.refl _ _).alloc (Nat.le_refl _) _) | exact KEEPG.out _ _ _ (by assumption) hg1 hb1 (NB5.out _ (Nat.le_refl _)) | exact KEEPG.out _ _ _ (by assumption) hg2 hb2 (NB7.out _ (Nat.le_refl _)))
        (first | (refine step_append_sl (by rfl) (.tmp 19) (.tmp 22) 33 (by rfl) w.heap.size 3 i0 (.int .i64 0) 1 8 Tryz.underlying33 hi0 hz0 hz1 hz2 rfl (by decide) (.slice a5 k c5) k ((ws.take k).map fun x => .int .i64 x.1) (by simp [Act.eval]) (by first | exact (H5.out.alloc _).drew | exact ((H5.out.alloc _).alloc _).drew) _ 1 [.int .i64 x.1] (by simp [Act.eval]; rfl) (by first | exact sl_at (by simp) | exact sl_keep3 (Below.refl _ _).drew (sl_at (by simp)) | exact sl_keep3 ((Below.refl _ _).alloc (Nat.le_refl _) _).drew (sl_at (by simp))) (fun c h => by cases h) (one_val _ rfl) (by unfold maxLen; omega) (by omega) (by have := HSZ.out; simp; omega) w (by first | exact (below_alloc HBW.out _).drew | exact (below_alloc (below_alloc HBW.out _) _).drew) ?_; intro v1 w1 hown1 hg1 hb1) | (refine step_append_sl (by rfl) (.tmp 24) (.tmp 27) 28 (by rfl) w.heap.size 51 j0 (.slice none 0 0) 1 24 Tryz.underlying28 hj0 hy0 hy1 hy2 rfl (by decide) (.slice a7 k c7) k xs (by simp [Act.eval]) (by first | exact K7.out _ _ ((H7.out.alloc _).alloc _).drew hg1 | exact (K7.out _ _ (H7.out.alloc _).drew hg1).alloc _) _ 1 [.slice ua x.2.length uc] (by simp [Act.eval]; rfl) (by first | exact sl_at (by simp) | exact sl_grown (sl_keep3 (Below.refl _ _).drew (sl_at (by simp))) hg1 (NB5.out _ (by have := HSZ.out; simp; omega)) | exact sl_grown (sl_keep3 ((Below.refl _ _).alloc (Nat.le_refl _) _).drew (sl_at (by simp))) hg1 (NB5.out _ (by have := HSZ.out; simp; omega))) (fun c h => by cases h) (one_val _ rfl) (by unfold maxLen; omega) (by omega) (by have := hb1.size; first | omega | (simp; omega)) w (by first | exact hb1 | exact hb1.alloc hb1.size _) ?_; intro v2 w2 hown2 hg2 hb2) | fail)
      all_goals
        have own7 : w1.ownsRow w.heap.size 51 1 (.slice a7 k c7) k xs := by
          first
          | exact K7.out _ _ ((H7.out.alloc _).alloc _).drew hg1
          | exact K7.out _ _ (H7.out.alloc _).drew hg1
        have ap17 := rows_apart hown1 own7 (fun h => by omega) (fun h => (HZ.out h).2.2) (.inl (by decide))
        have O5 := Lib.hid (show w2.ownsRow w.heap.size 3 1 v1 (k + 1) ((ws.take (k + 1)).map fun x => .int .i64 x.1) from by
          rw [take_snoc HX2.out, List.map_append]
          first
          | exact own_keep hown1 hg2 ap17
          | exact own_keep (hown1.alloc _) hg2 ap17)
        have O6 := Lib.hid (show w2.ownsRow w.heap.size 3 1 (.slice a6 k c6) k ((journalOf f.n k).map (Value.int .i64)) from by
          first
          | exact own_keep (own_keep ((H6.out.alloc _).alloc _).drew hg1 K6.out.1) hg2 K6.out.2
          | exact own_keep ((own_keep (H6.out.alloc _).drew hg1 K6.out.1).alloc _) hg2 K6.out.2)
        have O7 := Lib.hid hown2
        have B2 := Lib.hid hb2
        have S2 := Lib.hid (show wr.heap.size < w2.heap.size from (‹_ ∧ _ ∧ _ ∧ Below w.heap.size w w2›).2.2.1)
        clear hown1 hown2 hg1 hg2 hb1 hb2
        have hfile := HF.out.keep (Chg.of_below (B2.out) (F := fun _ => False)) (fun h => h)
        go_wp2_with fail
        refine (pf_journal hfile k (by omega)).mono ?_
        rintro e w3 ⟨rfl, rfl⟩
        clear hfile
        go_wp2_with (at_builtin; refine wpList_append_sl rfl _ _ 33 rfl w.heap.size 3 i0 _ 1 8 Tryz.underlying33 hi0 hz0 hz1 hz2 rfl (by decide) _ k ((journalOf f.n k).map (Value.int .i64)) rfl (O6.out.alloc _) _ 1 [.int .i64 ((f.n + k : Nat) : Int)] rfl (sl_at rfl) (fun _ _ h => by cases h) (one_val _ rfl) (by unfold maxLen; omega) (by omega) (by have := B2.out.size; simp; omega) ?_)
        intro v3 w3 hown3 hg3 hb3
        have ap16 := rows_apart O5.out O6.out (fun h => by omega) (fun h => (HZ.out h).2.1) (.inr (home_first HL.out.2 (by omega)))
        have ap26 := rows_apart O7.out O6.out (fun h => by omega) (fun h => (HZ.out h).2.1) (.inl (by decide))
        have P5 := Lib.hid (own_keep (O5.out.alloc _) hg3 ap16)
        have P7 := Lib.hid (own_keep (O7.out.alloc _) hg3 ap26)
        have P6 := Lib.hid hown3
        have B3 := Lib.hid ((B2.out.alloc B2.out.size _).trans hb3)
        have Z3 := Lib.hid (show wr.heap.size ≤ w3.heap.size from by have := hb3.size; have := S2.out; simp at *; omega)
        clear hown3 hg3 hb3 ap16 ap26 O5 O6 O7 ap17 own7
        go_wp2
        go_roundg (gk - 1)
        case rel =>
          refine ⟨k + 1, xs ++ [.slice ua x.2.length uc], by omega, by have := HGK.out; omega, by go_num, P5.out, ?_, P7.out, ?_, B3.out, fun h => by omega⟩
          · rw [journalOf_snoc, List.map_append]; exact P6.out
          · rw [take_snoc HX2.out, List.map_append]
            refine rarr_snoc ((rArr (rSlice rByte) k).keep (fun b hb _ => ((B3.out.block b hb.2).trans (HB.out.block b hb.2).symm)) ?_ HX.out) ((rSlice rByte).keep (fun b hb _ => B3.out.block b hb.2) B3.out.size HU.out)
            exact Z3.out
        case measure => have := HGK.out; omega
    · have hd1 : decide ((k : Int) < (ws.length : Int)) = false := by simp; omega
      obtain rfl : k = ws.length := by omega
      have hoff : ∀ b, w.heap.size ≤ b → B.off b := fun b hb hB => by
        have := HD.out.lt
        rcases hB with rfl | rfl | rfl <;> omega
      have HOFF := Lib.hid hoff
      have R5 := Lib.hid (show rInts.rd wr B.off [.slice a5 ws.length c5] (ws.map (·.1)) from by
        have h := HO5.out
        rw [List.take_length, show (ws.map fun x => Value.int .i64 x.1) = (ws.map (·.1)).map (Value.int .i64) by rw [List.map_map]; rfl] at h
        exact rd_own h (by have := rarr_ints (w := wr) (F := B.off) (pw_wf HW.out); rwa [List.length_map] at this) (fun b hb _ => hoff b hb))
      have R7 := Lib.hid (show rBs.rd wr B.off [.slice a7 ws.length c7] (ws.map (·.2)) from by
        have h := HX.out
        rw [List.take_length] at h
        exact rd_own HO7.out ((rArr (rSlice rByte) _).more (fun b hb => hb.1) h) (fun b hb _ => hoff b hb))
      have hfile := HF.out.keep (Chg.of_below HB.out (F := fun _ => False)) (fun h => h)
      have hdisk := HD.out.below HB.out
      have hzip := zip_fst_snd ws
      clear hoff
      go_wp2_with fail
      refine (pf_write hfile hdisk _ _ (ws.map (·.1)) (ws.map (·.2)) R5.out R7.out (by simp) (by have := HL.out.1; simp; omega)).mono ?_
      rintro e w2 ⟨rfl, hT⟩
      rw [hzip] at hT ⊢
      have HT := Lib.hid hT
      have HF1 := Lib.hid (hfile.turns hT)
      have P6 := Lib.hid (own_chg HO6.out hT.2 (fun b hb hB => HOFF.out b (own_base HO6.out b hb) hB))
      have Z2 := Lib.hid (show w.heap.size ≤ w2.heap.size from Nat.le_trans HB.out.size hT.2.size)
      clear hT hfile hdisk hzip
      by_cases hc1 : (d.writes ws).2 = 0
      · have HR1 := Lib.hid (show R = thn ((d.writes ws).1.erase [((2 * f.n : Nat) : Int)]) fun d => d.erase (journalOf f.n ws.length) from by rw [HFIN.out]; exact if_pos hc1)
        rw [hc1]
        clear hc1 HFIN
        go_wp2_with fail
        refine (pf_head HF1.out).mono ?_
        rintro e w3 ⟨rfl, rfl⟩
        go_wp2_with fail
        have hA : Below w3.heap.size w3 (w3.alloc (.cells #[.int .i64 ((2 * f.n : Nat) : Int)] 3)) := (Below.refl _ _).alloc (Nat.le_refl _) _
        have hn1 : rInts.rd (w3.alloc (.cells #[.int .i64 ((2 * f.n : Nat) : Int)] 3)) B.off [.slice (some ⟨w3.heap.size, 0, none⟩) 1 1] [((2 * f.n : Nat) : Int)] :=
          rd_own (row_new w3 w3.heap.size 1 3 1 [.int .i64 ((2 * f.n : Nat) : Int)] (Nat.le_refl _) (by unfold maxLen; omega) rfl) (rarr_ints (l := [((2 * f.n : Nat) : Int)]) (fun x hx => by rw [List.mem_singleton.1 hx]; exact wf_small (by have := HF.out.few; omega))) (fun b hb _ => HOFF.out b (Nat.le_trans Z2.out hb))
        have HA := Lib.hid hA
        refine (pf_erase (HF1.out.keep (Chg.of_below hA (F := fun _ => False)) (fun h => h)) (HT.out.1.below hA) _ _ hn1 (by simp)).mono ?_
        rintro e w4 ⟨rfl, hT2⟩
        have HT2 := Lib.hid hT2
        have HF2 := Lib.hid ((HF1.out.keep (Chg.of_below hA (F := fun _ => False)) (fun h => h)).turns hT2)
        have Q6 := Lib.hid (own_chg (own_at P6.out hA) hT2.2 (fun b hb hB => HOFF.out b (own_base P6.out b hb) hB))
        clear hT2 hA hn1
        generalize hE : (d.writes ws).1.erase [((2 * f.n : Nat) : Int)] = E at *
        clear hE
        by_cases hc2 : E.2 = 0
        · have HR2 := Lib.hid (show R = E.1.erase (journalOf f.n ws.length) from by rw [HR1.out]; exact if_pos hc2)
          have R6 := Lib.hid (show rInts.rd w4 B.off [.slice a6 ws.length c6] (journalOf f.n ws.length) from
            rd_own Q6.out (by
              have := rarr_ints (w := w4) (F := B.off) (l := journalOf f.n ws.length) (fun x hx => by
                obtain ⟨j, hj, rfl⟩ := journalOf_mem' hx
                exact wf_small (by have := HF.out.few; have := HL.out.1; omega))
              rwa [journalOf_len] at this) (fun b hb _ => HOFF.out b hb))
          rw [hc2]
          go_wp2_with fail
          refine (pf_erase HF2.out HT2.out.1 _ _ R6.out (by rw [journalOf_len]; have := HL.out.1; omega)).mono ?_
          rintro e w5 ⟨rfl, hT3⟩
          have HT3 := Lib.hid hT3
          clear hT3
          go_wp2
          go_ret
          exact ⟨by rw [HR2.out]; rfl, by rw [HR2.out]; exact HT3.out.1, (((Chg.of_below HB.out).trans HT.out.2).trans ((Chg.of_below HA.out).trans HT2.out.2)).trans HT3.out.2⟩
        · have HR2 := Lib.hid (show R = E from by rw [HR1.out]; exact if_neg hc2)
          have g0 : (E.2 != 0) = true := by simpa using hc2
          go_wp2
          go_ret
          exact ⟨by rw [HR2.out]; rfl, by rw [HR2.out]; exact HT2.out.1, ((Chg.of_below HB.out).trans HT.out.2).trans ((Chg.of_below HA.out).trans HT2.out.2)⟩
      · have HR1 := Lib.hid (show R = d.writes ws from by rw [HFIN.out]; exact if_neg hc1)
        have g0 : ((d.writes ws).2 != 0) = true := by simpa using hc1
        go_wp2
        go_ret
        exact ⟨by rw [HR1.out]; rfl, by rw [HR1.out]; exact HT.out.1, (Chg.of_below HB.out).trans HT.out.2⟩
end
end Go.Proofs.YtngddhoolijimaaGreatDoor
