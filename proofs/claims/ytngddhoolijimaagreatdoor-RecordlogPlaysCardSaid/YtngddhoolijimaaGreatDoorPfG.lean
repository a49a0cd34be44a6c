/-
  commit.
-/
import Derived.Test.YtngddhoolijimaaGreatDoorPfF
import Derived.Test.YtngddhoolijimaaGreatDoorPfS
namespace Go.Proofs.YtngddhoolijimaaGreatDoor
open Go.RowKit
set_option linter.unusedVariables false

theorem pc_cons (b : UInt8) (l : List UInt8) : pc (b :: l) = .int .u8 (b.toNat : Int) :: pc l := rfl

/-- Bytes of a row of the call's own, read as a slice. -/
theorem rd_bytes {w : World} {F : Nat → Prop} {base n : Nat} {u : Value} {l : List UInt8} (h : w.ownsRow base 5 1 u n (pc l)) (hF : ∀ b, base ≤ b → b < w.heap.size → F b) : (rSlice rByte).rd w F [u] l := by
  have hn : n = l.length := by have := h.1; rw [pc_len] at this; omega
  subst hn
  refine rd_own h ⟨by rw [pc_len]; exact (Nat.mul_one _).symm, rfl, fun i x hx => ?_⟩ hF
  have e : rByte.size = 1 := rfl
  have hi := (List.getElem?_eq_some_iff.1 hx).1
  have hp := pc_get hx
  rw [e, Nat.mul_one, List.drop_eq_getElem_cons (by rw [pc_len]; exact hi), List.take_succ_cons, List.take_zero]
  rw [(List.getElem?_eq_some_iff.1 hp).2]
  exact (rfl : rByte.rd w F [.int .u8 (x.toNat : Int)] x)

theorem get_map {α β : Type} {g : α → β} {l : List α} {i : Nat} {y : β} (h : (l.map g)[i]? = some y) : ∃ x, l[i]? = some x ∧ y = g x := by
  rw [List.getElem?_map] at h
  obtain ⟨x, hx, e⟩ := Option.map_eq_some_iff.1 h
  exact ⟨x, hx, e.symm⟩

theorem entries_zip (n : Nat) (ws : List (Int × List UInt8)) : (journalOf n ws.length).zip (ws.map fun x => four x.1.toNat ++ x.2) = entries n ws := by
  apply List.ext_getElem?
  intro k
  by_cases h : k < ws.length
  · obtain ⟨x, hx⟩ : ∃ x, ws[k]? = some x := ⟨_, List.getElem?_eq_getElem h⟩
    rw [entries_get.2 ⟨x, hx, rfl⟩, List.getElem?_zip_eq_some]
    unfold journalOf
    exact ⟨by rw [List.getElem?_map, List.getElem?_range h]; rfl, by rw [List.getElem?_map, hx]; rfl⟩
  · rw [List.getElem?_eq_none (by rw [List.length_zip, journalOf_len, List.length_map]; omega), List.getElem?_eq_none (by simp [entries]; omega)]

section
variable {w : World} {fb : Nat} {B : DB} {f : PF} {d : DK}

set_option maxRecDepth 100000 in
set_option maxHeartbeats 2000000 in
theorem pf_commit (h : IsFile w fb B f) (hd : IsDisk w B d) (wv : Value) (ws : List (Int × List UInt8)) (hw : (rSlice rPW).rd w (fun b => B.off b ∧ b < w.heap.size) [wv] ws) (hlm : ws.length ≤ 100000) (hno : ∀ x ∈ ws, 0 ≤ x.1 ∧ x.1 < (f.n : Int) ∧ x.2.length = 100) :
    Calls Tryz.prog 76 #[pfPtr fb, wv] w fun e w' => e = .returned (.int .i64 (d.commit f.n ws).2) ∧ Turns B w w' (d.commit f.n ws).1 := by
  obtain ⟨wa, wc, rfl, _⟩ := pw_get hw
  have HW := Lib.hid hw
  have HF := Lib.hid h
  have HD := Lib.hid hd
  have HL := Lib.hid (And.intro hlm hno)
  clear hw h hd hlm hno
  generalize hR : d.commit f.n ws = R at *
  have HFIN := Lib.hid (show R = thn (d.writes (entries f.n ws)) fun d => d.writes [(((2 * f.n : Nat) : Int), headOf ws.length)] from hR.symm)
  clear hR
  unfold pfPtr
  go_enter Tryz.func76, Tryz.ntmps76
  go_wp2
  go_loopg [5, 6, 13] (ws.length) (fun gk t5 t6 t13 wr => ∃ (k : Nat) (xs : List Value), k ≤ ws.length ∧ gk + k = ws.length ∧ t13 = .int .i64 (k : Int) ∧ wr.ownsRow w.heap.size 3 1 t5 k ((journalOf f.n k).map (Value.int .i64)) ∧
      wr.ownsRow w.heap.size 51 1 t6 k xs ∧ (∀ j x, ws[j]? = some x → j < k → ∃ u, xs[j]? = some u ∧ wr.ownsRow w.heap.size 5 1 u (4 + x.2.length) (pc (four x.1.toNat ++ x.2))) ∧ Below w.heap.size w wr ∧ (k = 0 → t5 = .slice none 0 0 ∧ t6 = .slice none 0 0))
  case atStart => exact ⟨0, [], by omega, by omega, rfl, World.ownsRow_nil _ _ _ _, World.ownsRow_nil _ _ _ _, fun j x _ hj => by omega, Below.refl _ _, fun _ => ⟨rfl, rfl⟩⟩
  case round =>
    obtain ⟨k, xs, hk, hgk, rfl, hO5, hO6, hX, hB, hz⟩ := hrel
    have HGK := Lib.hid hgk
    have HO5 := Lib.hid hO5
    have HO6 := Lib.hid hO6
    have HX := Lib.hid hX
    have HB := Lib.hid hB
    have HZ := Lib.hid hz
    clear hgk hO5 hO6 hX hB hz
    obtain ⟨a5, c5, rfl⟩ := own_nil HO5.out
    obtain ⟨a6, c6, rfl⟩ := own_nil HO6.out
    by_cases hin : k < ws.length
    · have hd1 : decide ((k : Int) < (ws.length : Int)) = true := by simp; omega
      have i0 : (0 : Int) ≤ (k : Int) := by omega
      have i1 : (k : Int) < (ws.length : Int) := by omega
      have i2 : (k : Int) ≤ 100000 := by have := HL.out.1; omega
      obtain ⟨x, hx⟩ : ∃ x, ws[k]? = some x := ⟨_, List.getElem?_eq_getElem hin⟩
      have HRT := Lib.hid (HL.out.2 x (List.mem_of_getElem? hx))
      obtain ⟨_, _, e1, hg1⟩ := pw_get (HW.out)
      obtain ⟨g, off, u, rfl, hgF, hgl, c0, c1, hxw, hu⟩ := hg1 k x hx
      cases e1
      obtain ⟨ua, uc, rfl⟩ := Sl.len (data_of hu)
      obtain ⟨m, hm⟩ : ∃ m : Nat, x.1 = (m : Int) := ⟨x.1.toNat, by have := HRT.out.1; omega⟩
      have HM := Lib.hid (show x.1.toNat = m by omega)
      have hb1 : wr.cell? ⟨g, off + k * 2, none⟩ = some (.int .i64 (m : Int)) := by rw [← hm]; exact (HB.out.cell (p := ⟨g, off + k * 2, none⟩) hgl).trans c0
      have hb2 : wr.cell? ⟨g, off + k * 2 + 1, none⟩ = some (.slice ua x.2.length uc) := (HB.out.cell (p := ⟨g, off + k * 2 + 1, none⟩) hgl).trans c1
      have hm2 : m ≤ 4096 := by have := HRT.out.2.1; have := HF.out.few; omega
      have hwr : IntKind.u32.wrap (m : Int) = (m : Int) := u32_id (by omega)
      have hxl : x.2.length = 100 := HRT.out.2.2
      have hxl2 : x.2.length ≤ 100 := by omega
      have hxl3 : 0 < x.2.length := by omega
      have HXL := Lib.hid hxl
      have HU := Lib.hid hu
      have HX2 := Lib.hid hx
      have hsz : w.heap.size ≤ wr.heap.size := HB.out.size
      obtain ⟨ug, uo, rfl⟩ : ∃ ug uo, ua = some ⟨ug, uo, none⟩ := by
        obtain ⟨a', n', c', e', _, _, _, h4⟩ := hu
        simp only [List.cons.injEq, Value.slice.injEq, and_true] at e'
        rcases h4 with h4 | ⟨b, o, rfl, _⟩
        · omega
        · exact ⟨b, o, e'.1⟩
      clear hg1 c0 c1 hu hx hm hxl
      go_wp2_with fail
      obtain ⟨W0, hW0⟩ : ∃ W0, W0 = wr.alloc (.cells #[.int .i64 (m : Int), .slice (some ⟨ug, uo, none⟩) x.2.length uc] 82) := ⟨_, rfl⟩
      have hc0 : W0.cell? ⟨wr.heap.size, 0, none⟩ = some (.int .i64 (m : Int)) := by rw [hW0]; go_simp
      have hc1 : W0.cell? ⟨wr.heap.size, 1, none⟩ = some (.slice (some ⟨ug, uo, none⟩) x.2.length uc) := by rw [hW0]; go_simp
      have hsz0 : W0.heap.size = wr.heap.size + 1 := by rw [hW0]; simp
      have hB0 : Below wr.heap.size wr W0 := by rw [hW0]; exact (Below.refl _ _).alloc (Nat.le_refl _) _
      have HBW := Lib.hid (show Below w.heap.size w W0 from HB.out.trans (hB0.mono HB.out.size))
      have HB0 := Lib.hid hB0
      rw [← hW0]
      clear hW0
      refine (pf_appendWord W0.heap.size (.slice none 0 0) 0 [] m W0 (World.ownsRow_nil _ _ _ _) (by omega) (Nat.le_refl _) (by omega)).mono ?_
      rintro e w1 ⟨v9, rfl, hown9, _, hb9⟩
      have NB9 := Lib.hid (show some wr.heap.size ≠ v9.ownBlock from fun e => by have := own_base hown9 _ e.symm; omega)
      have NU9 := Lib.hid (show ∀ u : Value, (∀ b, wr.heap.size ≤ b → some b ≠ u.ownBlock) → ∀ b, u.ownBlock = some b → some b ≠ v9.ownBlock from fun u h b e e2 => by
        have := own_base hown9 b e2.symm
        exact h b (by omega) e.symm)
      have HO9 := Lib.hid (show w1.ownsRow w.heap.size 5 1 v9 4 (pc (four m)) from own_le hown9 (by omega))
      have hB1 : Below wr.heap.size wr w1 := HB0.out.trans (hb9.mono HB0.out.size)
      have q0 : w1.cell? ⟨wr.heap.size, 0, none⟩ = some (.int .i64 (m : Int)) := (hb9.cell (p := ⟨wr.heap.size, 0, none⟩) (by show wr.heap.size < W0.heap.size; omega)).trans hc0
      have q1 : w1.cell? ⟨wr.heap.size, 1, none⟩ = some (.slice (some ⟨ug, uo, none⟩) x.2.length uc) := (hb9.cell (p := ⟨wr.heap.size, 1, none⟩) (by show wr.heap.size < W0.heap.size; omega)).trans hc1
      have HS1 := Lib.hid (show wr.heap.size < w1.heap.size by have := hb9.size; omega)
      have HBW1 := Lib.hid (show Below w.heap.size w w1 from HB.out.trans (hB1.mono HB.out.size))
      have hfile := HF.out.keep (Chg.of_below HBW1.out (F := fun _ => False)) (fun h => h)
      have q2 := hfile.hn
      have HFL := Lib.hid hfile
      have H5 := Lib.hid (own_at HO5.out hB1)
      have H6 := Lib.hid (own_at HO6.out hB1)
      have HXX := Lib.hid (show ∀ j x, ws[j]? = some x → j < k → ∃ u, xs[j]? = some u ∧ (∀ b, wr.heap.size ≤ b → some b ≠ u.ownBlock) ∧ w1.ownsRow w.heap.size 5 1 u (4 + x.2.length) (pc (four x.1.toNat ++ x.2)) from fun j x hx hj => by
        obtain ⟨u, h1, h2⟩ := HX.out j x hx hj
        exact ⟨u, h1, own_block_lt h2, own_at h2 hB1⟩)
      have HUD := Lib.hid (show Data w1 (.slice (some ⟨ug, uo, none⟩) x.2.length uc) x.2 from (data_of HU.out).keep (HBW1.out))
      have hfar : ∀ b, w.heap.size ≤ b → ¬ fb = b := fun b hb e => by have := HF.out.lt; omega
      have HFAR := Lib.hid hfar
      obtain ⟨a9, c9, rfl⟩ := own_nil HO9.out
      clear hown9 hb9 hc0 hc1 hb1 hb2 hB0 hsz0 hB1 hfile HB0 HX HBW hfar hgF hgl
      obtain ⟨i0', hi0, hz0, hz1, hz2⟩ := info_parts int_info
      obtain ⟨j0, hj0, hy0, hy1, hy2⟩ := info_parts bs_info
      obtain ⟨b0, hb0, hx0, hx1, hx2⟩ := info_parts byte_info2
      have INIT := Lib.hid (show (w1.drew.cell? ⟨wr.heap.size, 0, none⟩ = some (.int .i64 (m : Int)) ∧ w1.drew.cell? ⟨wr.heap.size, 1, none⟩ = some (.slice (some ⟨ug, uo, none⟩) x.2.length uc) ∧ wr.heap.size < w1.drew.heap.size ∧ Below w.heap.size w w1.drew ∧ w1.drew.cell? ⟨fb, 1, none⟩ = some (.int .i64 (f.n : Int))) from ⟨q0, q1, HS1.out, HBW1.out.drew, q2⟩)
      have KEEP := Lib.hid (show ∀ W1 W2 : World, (W1.cell? ⟨wr.heap.size, 0, none⟩ = some (.int .i64 (m : Int)) ∧ W1.cell? ⟨wr.heap.size, 1, none⟩ = some (.slice (some ⟨ug, uo, none⟩) x.2.length uc) ∧ wr.heap.size < W1.heap.size ∧ Below w.heap.size w W1 ∧ W1.cell? ⟨fb, 1, none⟩ = some (.int .i64 (f.n : Int))) → Below W1.heap.size W1 W2 → (W2.cell? ⟨wr.heap.size, 0, none⟩ = some (.int .i64 (m : Int)) ∧ W2.cell? ⟨wr.heap.size, 1, none⟩ = some (.slice (some ⟨ug, uo, none⟩) x.2.length uc) ∧ wr.heap.size < W2.heap.size ∧ Below w.heap.size w W2 ∧ W2.cell? ⟨fb, 1, none⟩ = some (.int .i64 (f.n : Int))) from
        fun W1 W2 ⟨p0, p1, hs, hB, p2⟩ hb => ⟨(hb.cell (p := ⟨wr.heap.size, 0, none⟩) hs).trans p0, (hb.cell (p := ⟨wr.heap.size, 1, none⟩) hs).trans p1, Nat.lt_of_lt_of_le hs hb.size, hB.trans (hb.mono hB.size), (hb.cell (p := ⟨fb, 1, none⟩) (cell_lt p2)).trans p2⟩)
      have NB5 := Lib.hid (own_block_lt HO5.out)
      have NB6 := Lib.hid (own_block_lt HO6.out)
      have ap95 := rows_apart HO9.out H5.out (fun h => by omega) (fun h => (HZ.out h).1) (.inl (by decide))
      have ap65 := rows_apart H6.out H5.out (fun h => (HZ.out h).2) (fun h => (HZ.out h).1) (.inl (by decide))
      have ap69 := rows_apart H6.out HO9.out (fun h => (HZ.out h).2) (fun h => by omega) (.inl (by decide))
      have AP := Lib.hid (And.intro ap95 (And.intro ap65 ap69))
      have KEEPG := Lib.hid (show ∀ (W1 W2 : World) (row : Option Nat), (W1.cell? ⟨wr.heap.size, 0, none⟩ = some (.int .i64 (m : Int)) ∧ W1.cell? ⟨wr.heap.size, 1, none⟩ = some (.slice (some ⟨ug, uo, none⟩) x.2.length uc) ∧ wr.heap.size < W1.heap.size ∧ Below w.heap.size w W1 ∧ W1.cell? ⟨fb, 1, none⟩ = some (.int .i64 (f.n : Int))) → W1.grownBy W2 row → Below w.heap.size w W2 → some wr.heap.size ≠ row → (W2.cell? ⟨wr.heap.size, 0, none⟩ = some (.int .i64 (m : Int)) ∧ W2.cell? ⟨wr.heap.size, 1, none⟩ = some (.slice (some ⟨ug, uo, none⟩) x.2.length uc) ∧ wr.heap.size < W2.heap.size ∧ Below w.heap.size w W2 ∧ W2.cell? ⟨fb, 1, none⟩ = some (.int .i64 (f.n : Int))) from
        fun W1 W2 row ⟨p0, p1, hs, hB, p2⟩ hg hb hne => ⟨(World.cell?_of_block (a := ⟨wr.heap.size, 0, none⟩) (hg.block _ hs hne)).trans p0, (World.cell?_of_block (a := ⟨wr.heap.size, 1, none⟩) (hg.block _ hs hne)).trans p1, Nat.lt_of_lt_of_le hs hg.size, hb, (hb.cell (p := ⟨fb, 1, none⟩) HF.out.lt).trans HF.out.hn⟩)
      clear q0 q1 q2 ap95 ap65 ap69
      go_wp2_with fail
      go_region_held3 (fun W => W.cell? ⟨wr.heap.size, 0, none⟩ = some (.int .i64 (m : Int)) ∧ W.cell? ⟨wr.heap.size, 1, none⟩ = some (.slice (some ⟨ug, uo, none⟩) x.2.length uc) ∧ wr.heap.size < W.heap.size ∧ Below w.heap.size w W ∧ W.cell? ⟨fb, 1, none⟩ = some (.int .i64 (f.n : Int))) (first | assumption | exact INIT.out | exact KEEP.out _ _ (by assumption) ((Below.refl _ _).alloc (Nat.le_refl _) _) | exact KEEPG.out _ _ _ (by assumption) hg3 hb3 (NB6.out _ (Nat.le_refl _)) | exact KEEPG.out _ _ _ (by assumption) hg2 hb2 NB9.out | exact KEEPG.out _ _ _ (by assumption) hg1 hb1 (NB5.out _ (Nat.le_refl _)))
        (first | (go_at_call 42; refine (pf_journal (HFL.out.keep (Chg.of_below (Below.refl _ _).drew (F := fun _ => False)) (fun h => h)) k (by omega)).mono ?_; rintro e wJ ⟨rfl, rfl⟩) | (refine step_append_sl (by rfl) (.tmp 22) (.tmp 26) 33 (by rfl) w.heap.size 3 i0' (.int .i64 0) 1 8 Tryz.underlying33 hi0 hz0 hz1 hz2 rfl (by decide) (.slice a5 k c5) k ((journalOf f.n k).map (Value.int .i64)) (by simp [Act.eval]) (by first | exact (H5.out.alloc _).drew | exact H5.out.drew.alloc _) _ 1 [.int .i64 ((f.n + k : Nat) : Int)] (by simp [Act.eval]; rfl) (by first | exact sl_at (by simp) | exact sl_keep3 (Below.refl _ _).drew (sl_at (by simp))) (fun c h => by cases h) (one_val _ rfl) (by unfold maxLen; omega) (by omega) (by have := HS1.out; simp; omega) w (by first | exact (below_alloc HBW1.out _).drew | exact below_alloc HBW1.out.drew _) ?_; intro v1 wA hown1 hg1 hb1) | (refine step_append_sl (by rfl) (.tmp 29) (.tmp 31) 51 (by rfl) w.heap.size 5 b0 (.int .u8 0) 1 1 Tryz.underlying51 hb0 hx0 hx1 hx2 rfl (by decide) (.slice a9 4 c9) 4 (pc (four m)) (by simp [Act.eval]) (by first | exact own_keep ((HO9.out.alloc _).drew) hg1 AP.out.1 | exact own_keep ((HO9.out.drew.alloc _)) hg1 AP.out.1) (.slice (some ⟨ug, uo, none⟩) x.2.length uc) x.2.length (pc x.2) (by simp [Act.eval]) ((data_of HU.out).keep hb1) (fun c h => by cases h) (pc_one _) (by unfold maxLen; omega) (by omega) (by have := hb1.size; omega) w hb1 ?_; intro v2 wB hown2 hg2 hb2; obtain ⟨a2, c2, rfl⟩ := own_nil hown2) | (refine step_append_sl (by rfl) (.tmp 28) (.tmp 33) 28 (by rfl) w.heap.size 51 j0 (.slice none 0 0) 1 24 Tryz.underlying28 hj0 hy0 hy1 hy2 rfl (by decide) (.slice a6 k c6) k xs (by simp [Act.eval]) (by first | exact (own_keep (own_keep ((H6.out.alloc _).drew) hg1 AP.out.2.1) hg2 AP.out.2.2).alloc _ | exact (own_keep (own_keep ((H6.out.drew.alloc _)) hg1 AP.out.2.1) hg2 AP.out.2.2).alloc _) _ 1 [.slice a2 (4 + x.2.length) c2] (by simp [Act.eval]; rfl) (by first | exact sl_at (by simp) | exact sl_keep3 (Below.refl _ _).drew (sl_at (by simp))) (fun c h => by cases h) (one_val _ rfl) (by unfold maxLen; omega) (by omega) (by have := hb2.size; simp; omega) w (hb2.alloc hb2.size _) ?_; intro v3 wC hown3 hg3 hb3) | fail)
      have own6A : wA.ownsRow w.heap.size 51 1 (.slice a6 k c6) k xs := by
        first
        | exact own_keep ((H6.out.alloc _).drew) hg1 AP.out.2.1
        | exact own_keep ((H6.out.drew.alloc _)) hg1 AP.out.2.1
      have own9A : wA.ownsRow w.heap.size 5 1 (.slice a9 4 c9) 4 (pc (four m)) := by
        first
        | exact own_keep ((HO9.out.alloc _).drew) hg1 AP.out.1
        | exact own_keep ((HO9.out.drew.alloc _)) hg1 AP.out.1
      have ap19 := rows_apart hown1 own9A (fun h => by omega) (fun h => by omega) (.inl (by decide))
      have ap16 := rows_apart hown1 own6A (fun h => by omega) (fun h => (HZ.out h).2) (.inl (by decide))
      have own6B := own_keep own6A hg2 AP.out.2.2
      have ap26 := rows_apart hown2 own6B (fun h => by omega) (fun h => (HZ.out h).2) (.inl (by decide))
      have O5 := Lib.hid (show wC.ownsRow w.heap.size 3 1 v1 (k + 1) ((journalOf f.n (k + 1)).map (Value.int .i64)) from by
        rw [journalOf_snoc, List.map_append]
        exact own_keep ((own_keep hown1 hg2 ap19).alloc _) hg3 ap16)
      have O6 := Lib.hid hown3
      have OX := Lib.hid (show ∀ j y, ws[j]? = some y → j < k + 1 → ∃ u, (xs ++ [Value.slice a2 (4 + x.2.length) c2])[j]? = some u ∧ wC.ownsRow w.heap.size 5 1 u (4 + y.2.length) (pc (four y.1.toNat ++ y.2)) from fun j y hy hj => by
        have hxl : xs.length = k := by have := HO6.out.1; omega
        by_cases hjk : j < k
        · obtain ⟨u, h1, h2, h3⟩ := HXX.out j y hy hjk
          refine ⟨u, by rw [List.getElem?_append_left (by omega)]; exact h1, ?_⟩
          have a5 := rows_apart h3 H5.out (fun h => by omega) (fun h => (HZ.out h).1) (.inl (by decide))
          have a6 := rows_apart h3 H6.out (fun h => by omega) (fun h => (HZ.out h).2) (.inl (by decide))
          have hA : wA.ownsRow w.heap.size 5 1 u (4 + y.2.length) (pc (four y.1.toNat ++ y.2)) := by
            first
            | exact own_keep ((h3.alloc _).drew) hg1 a5
            | exact own_keep (h3.drew.alloc _) hg1 a5
          exact own_keep ((own_keep hA hg2 (NU9.out u h2)).alloc _) hg3 a6
        · obtain rfl : j = k := by omega
          have : y = x := Option.some.inj (hy.symm.trans HX2.out)
          subst this
          refine ⟨_, by rw [List.getElem?_append_right (by omega), hxl, Nat.sub_self]; rfl, ?_⟩
          rw [HM.out, pc_append]
          exact own_keep (hown2.alloc _) hg3 ap26)
      have B3 := Lib.hid hb3
      clear hown1 hown2 hown3 hg1 hg2 hg3 hb1 hb2 hb3 own6A own9A own6B ap19 ap16 ap26
      go_wp2
      go_roundg (gk - 1)
      case rel => exact ⟨k + 1, xs ++ [.slice a2 (4 + x.2.length) c2], by omega, by have := HGK.out; omega, by go_num, O5.out, O6.out, OX.out, B3.out, fun h => by omega⟩
      case measure => have := HGK.out; omega
    · have hd1 : decide ((k : Int) < (ws.length : Int)) = false := by simp; omega
      obtain rfl : k = ws.length := by omega
      have hoff : ∀ b, w.heap.size ≤ b → B.off b := fun b hb hB => by
        have := HD.out.lt
        rcases hB with rfl | rfl | rfl <;> omega
      have HOFF := Lib.hid hoff
      have R5 := Lib.hid (show rInts.rd wr B.off [.slice a5 ws.length c5] (journalOf f.n ws.length) from
        rd_own HO5.out (by
          have := rarr_ints (w := wr) (F := B.off) (l := journalOf f.n ws.length) (fun x hx => by
            obtain ⟨j, hj, rfl⟩ := journalOf_mem' hx
            exact wf_small (by have := HF.out.few; have := HL.out.1; omega))
          rwa [journalOf_len] at this) (fun b hb _ => hoff b hb))
      have R6 := Lib.hid (show rBs.rd wr B.off [.slice a6 ws.length c6] (ws.map fun x => four x.1.toNat ++ x.2) from
        rd_own HO6.out ⟨by rw [HO6.out.1]; rfl, by simp, fun i y hy => by
          obtain ⟨x, hx, rfl⟩ := get_map hy
          have hi := (List.getElem?_eq_some_iff.1 hx).1
          obtain ⟨u, h1, h2⟩ := HX.out i x hx hi
          have e : (rSlice rByte).size = 1 := rfl
          have hlt := (List.getElem?_eq_some_iff.1 h1).1
          rw [e, Nat.mul_one, List.drop_eq_getElem_cons hlt, List.take_succ_cons, List.take_zero, (List.getElem?_eq_some_iff.1 h1).2]
          exact rd_bytes h2 (fun b hb _ => hoff b hb)⟩ (fun b hb _ => hoff b hb))
      have hfile := HF.out.keep (Chg.of_below HB.out (F := fun _ => False)) (fun h => h)
      have hdisk := HD.out.below HB.out
      have hzip := entries_zip f.n ws
      clear hoff
      go_wp2_with fail
      refine (pf_write hfile hdisk _ _ (journalOf f.n ws.length) (ws.map fun x => four x.1.toNat ++ x.2) R5.out R6.out (by simp [journalOf_len]) (by have := HL.out.1; rw [journalOf_len]; omega)).mono ?_
      rintro e w2 ⟨rfl, hT⟩
      rw [hzip] at hT ⊢
      have HT := Lib.hid hT
      have HF1 := Lib.hid (hfile.turns hT)
      have Z2 := Lib.hid (show w.heap.size ≤ w2.heap.size from Nat.le_trans HB.out.size hT.2.size)
      clear hT hfile hdisk hzip
      by_cases hc1 : (d.writes (entries f.n ws)).2 = 0
      · have HR1 := Lib.hid (show R = (d.writes (entries f.n ws)).1.writes [(((2 * f.n : Nat) : Int), headOf ws.length)] from by rw [HFIN.out]; exact if_pos hc1)
        rw [hc1]
        clear hc1 HFIN
        have hlw : (0 : Int) ≤ (ws.length : Int) ∧ (ws.length : Int) ≤ 100000 := by have := HL.out.1; omega
        go_wp2_with fail
        refine (pf_head HF1.out).mono ?_
        rintro e w3 ⟨rfl, rfl⟩
        go_wp2_with fail
        refine (pf_encodeHead ws.length (by omega) _).mono ?_
        rintro e w4 ⟨v4, rfl, hown4, hb4⟩
        obtain ⟨a4, c4, rfl⟩ := own_nil hown4
        have hB4 : Below w3.heap.size w3 w4 := ((Below.refl _ _).alloc (Nat.le_refl _) _).trans (hb4.mono (by simp))
        have hz4 : w3.heap.size < w4.heap.size := by have := hb4.size; simp at this; omega
        have hcell : w4.ownsRow w3.heap.size 3 1 (.slice (some ⟨w3.heap.size, 0, none⟩) 1 1) 1 [.int .i64 ((2 * f.n : Nat) : Int)] :=
          own_at (row_new w3 w3.heap.size 1 3 1 [.int .i64 ((2 * f.n : Nat) : Int)] (Nat.le_refl _) (by unfold maxLen; omega) rfl) hb4
        have HC := Lib.hid hcell
        have HO4 := Lib.hid (show w4.ownsRow w3.heap.size 5 1 (.slice a4 12 c4) 12 (pc (headOf ws.length)) from own_le hown4 (by simp))
        have HB4 := Lib.hid hB4
        have HZ4 := Lib.hid hz4
        clear hown4 hb4 hB4 hcell hz4
        go_wp2_with fail
        obtain ⟨w5, hw5⟩ : ∃ w5, w5 = w4.alloc (.cells #[.slice a4 12 c4] 51) := ⟨_, rfl⟩
        rw [← hw5]
        have hB5 : Below w4.heap.size w4 w5 := by rw [hw5]; exact (Below.refl _ _).alloc (Nat.le_refl _) _
        have hn1 : rInts.rd w5 B.off [.slice (some ⟨w3.heap.size, 0, none⟩) 1 1] [((2 * f.n : Nat) : Int)] :=
          rd_own (own_at HC.out hB5) (rarr_ints (l := [((2 * f.n : Nat) : Int)]) (fun x hx => by rw [List.mem_singleton.1 hx]; exact wf_small (by have := HF.out.few; omega))) (fun b hb _ => HOFF.out b (Nat.le_trans Z2.out hb))
        have hs1 : rBs.rd w5 B.off [.slice (some ⟨w4.heap.size, 0, none⟩) 1 1] [headOf ws.length] := by
          rw [hw5]
          refine rd_own (row_new w4 w4.heap.size 1 51 1 [.slice a4 12 c4] (Nat.le_refl _) (by unfold maxLen; omega) rfl) ⟨rfl, rfl, fun i y hy => ?_⟩ (fun b hb _ => HOFF.out b (by have := HZ4.out; have := Z2.out; omega))
          match i, hy with
          | 0, hy =>
            obtain rfl : headOf ws.length = y := by simpa using hy
            exact rd_bytes (HO4.out.alloc _) (fun b hb _ => HOFF.out b (Nat.le_trans Z2.out hb))
        have HBB := Lib.hid (show Below w3.heap.size w3 w5 from HB4.out.trans (hB5.mono HB4.out.size))
        clear hw5 hB5
        refine (pf_write (HF1.out.keep (Chg.of_below HBB.out (F := fun _ => False)) (fun h => h)) (HT.out.1.below HBB.out) _ _ [((2 * f.n : Nat) : Int)] [headOf ws.length] hn1 hs1 rfl (by simp)).mono ?_
        rintro e w6 ⟨rfl, hT2⟩
        have HT2 := Lib.hid hT2
        clear hT2 hn1 hs1
        go_wp2
        go_ret
        exact ⟨by rw [HR1.out]; rfl, by rw [HR1.out]; exact HT2.out.1, (((Chg.of_below HB.out).trans HT.out.2).trans (Chg.of_below HBB.out)).trans HT2.out.2⟩
      · have HR1 := Lib.hid (show R = d.writes (entries f.n ws) from by rw [HFIN.out]; exact if_neg hc1)
        have g0 : ((d.writes (entries f.n ws)).2 != 0) = true := by simpa using hc1
        go_wp2
        go_ret
        exact ⟨by rw [HR1.out]; rfl, by rw [HR1.out]; exact HT.out.1, (Chg.of_below HB.out).trans HT.out.2⟩
end
end Go.Proofs.YtngddhoolijimaaGreatDoor
