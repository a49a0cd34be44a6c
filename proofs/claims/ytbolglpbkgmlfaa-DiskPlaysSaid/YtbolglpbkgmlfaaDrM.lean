/-
  A disk beside its model: a write; every step.
-/
import Derived.Test.YtbolglpbkgmlfaaDrL
namespace Go.Proofs.Ytbolglpbkgmlfaa
open Go.RowKit Go.Maps Go.ChangeShapes Go.WideShapes
set_option linter.unusedVariables false

theorem Half.chg {W w w1 : World} {B : DB} {R : RB} {d d' : DK} (h : Half W w B R d' d) {w0 : World} {F : Nat → Prop} (hr : IsRef w0 R d B.has) (h0 : W.heap.size ≤ w0.heap.size) (hc0 : Chg (fun b => B.has b ∨ w0.heap.size ≤ b) w0 w) (hc : Chg F w w1) (hF : ∀ b, F b → w0.heap.size ≤ b) (hB : ∀ b, B.has b → b < w0.heap.size) : Half W w1 B R d' d := by
  have hall : Chg (fun b => B.has b ∨ w0.heap.size ≤ b) w0 w1 := hc0.trans (hc.more (fun b _ hb => .inr (hF b hb)))
  exact ⟨h.disk.keep hc (fun b hb hf => by have := hF b hf; have := hB b hb; omega), hr.keep hall (fun b hb => hb), h.bel.trans (hc.below h.bel.size (fun b hb => by have := hF b hb; omega)), h.bh, h.rh⟩

section
variable {W w : World} {B : DB} {R : RB} {d : DK} {k n : Int} {dv kv : Value} {data : List UInt8} {keep : List Int}

set_option maxRecDepth 100000 in
set_option maxHeartbeats 8000000 in
theorem step_0 (h : Inv W w B R d) (ho : OpIn W n dv kv data keep) : Calls Try.prog 18 #[B.ptr, R.ptr, opv 0 n dv kv] w (Stepped W R d) := by
  have hdw := (data_of ho.dd).keep h.bel
  obtain ⟨da, dc, rfl⟩ := Sl.len hdw
  obtain ⟨_, ka, kc, rfl, _⟩ := h.keep _ _ ho.kk
  obtain ⟨i0, hi0, hz0, hz1, hz2⟩ := info_parts byte_info
  have H := Lib.hid h
  have HO := Lib.hid ho
  obtain ⟨w0, hw0⟩ : ∃ w0, w0 = w.alloc (.cells #[.int .i64 0, .int .i64 n, .slice da data.length dc, .slice ka keep.length kc] 41) := ⟨_, rfl⟩
  have hb0 : Below w.heap.size w w0 := by rw [hw0]; exact (Below.refl _ _).alloc (Nat.le_refl _) _
  have hs0 : w0.heap.size = w.heap.size + 1 := by rw [hw0]; simp
  have hx1 : w0.cell? ⟨w.heap.size, 1, none⟩ = some (.int .i64 n) := by rw [hw0]; go_simp
  have hx2 : w0.cell? ⟨w.heap.size, 2, none⟩ = some (.slice da data.length dc) := by rw [hw0]; go_simp
  have H0 := Lib.hid (h.grow hb0)
  have HDW := Lib.hid (hdw.keep hb0)
  have hld := ho.ld
  have HB0 := Lib.hid hb0
  clear h ho hdw hb0
  unfold DB.ptr RB.ptr opv
  go_enter Try.func18, Try.ntmps18
  go_wp2_with (at_builtin; refine wpList_append_sl rfl _ _ 24 rfl (w.heap.size + 1) 5 i0 _ 1 1 Try.underlying24 hi0 hz0 hz1 hz2 rfl (by decide) _ _ _ rfl (World.ownsRow_nil _ _ _ _) _ data.length (pc data) rfl (by rw [← hw0]; exact HDW.out) HO.out.dn (pc_one data) (by unfold maxLen; omega) (by omega) (by simp) ?_)
  intro v1 w1 hown _ hb1
  rw [← hw0] at hb1
  have hown1 : w1.ownsRow (w.heap.size + 1) 5 1 v1 data.length (pc data) := by simpa using hown
  have hB1 : Below w0.heap.size w0 w1 := by rw [hs0]; exact hb1
  have H1 := Lib.hid (H0.out.grow hB1)
  have hy1 : w1.cell? ⟨w.heap.size, 1, none⟩ = some (.int .i64 n) := (hB1.cell (p := ⟨w.heap.size, 1, none⟩) (by show w.heap.size < _; omega)).trans hx1
  have hy2 : w1.cell? ⟨w.heap.size, 2, none⟩ = some (.slice da data.length dc) := (hB1.cell (p := ⟨w.heap.size, 2, none⟩) (by show w.heap.size < _; omega)).trans hx2
  have hs1 : w.heap.size < w1.heap.size := by have := hB1.size; omega
  have HO1 := Lib.hid hown1
  have HDAT := Lib.hid (show Data w1 v1 data from Sl.of_own hown1)
  obtain ⟨g, gc, ⟨ga, e1, hga⟩, hgb⟩ := own_block hown1
  subst e1
  have HB1 := Lib.hid hB1
  clear hown hown1 hb1 hB1 hx1 hx2 hw0
  go_wp2_with fail
  refine (dk_write H1.out.disk n HO.out.wn _ data HDAT.out).mono ?_
  rintro e w2 ⟨rfl, ht⟩
  have H2 := Lib.hid (H1.out.half ht)
  have HC2 := Lib.hid (show Chg (fun b => B.has b ∨ w.heap.size ≤ b) w w2 from ((Chg.of_below HB0.out).trans (Chg.of_below HB1.out)).trans (ht.2.more (fun b _ hb => .inl hb)))
  have HBB := Lib.hid (show ∀ b, B.has b → b < w.heap.size from H.out.bad)
  have HO2 := Lib.hid (own_chg HO1.out ht.2 (fun b hb hB => by have := own_base HO1.out b hb; have := HBB.out b hB; omega))
  have hz1 : w2.cell? ⟨w.heap.size, 1, none⟩ = some (.int .i64 n) := (ht.2.cell (a := ⟨w.heap.size, 1, none⟩) (fun hb => by have := HBB.out _ hb; have : w.heap.size < w.heap.size := this; omega) hs1).trans hy1
  have hz2 : w2.cell? ⟨w.heap.size, 2, none⟩ = some (.slice da data.length dc) := (ht.2.cell (a := ⟨w.heap.size, 2, none⟩) (fun hb => by have := HBB.out _ hb; have : w.heap.size < w.heap.size := this; omega) hs1).trans hy2
  have hs2 : w.heap.size < w2.heap.size := by have := ht.2.size; omega
  have HGA := Lib.hid hga
  have HGB := Lib.hid (show 0 < data.length → w.heap.size + 1 ≤ g from fun hp => (hgb hp).1)
  clear ht hy1 hy2 hga hgb
  generalize hwc : (d.write n data).2 = wc at *
  have HWC := Lib.hid hwc
  clear hwc
  go_wp2
  go_loopg [55] (data.length) (fun gk t wr => ∃ j : Nat, j ≤ data.length ∧ gk + j = data.length ∧ t = .int .i64 (j : Int) ∧ Chg (fun b => b = g ∧ 0 < data.length) w2 wr ∧ ∃ zs : List Int, zs.length = data.length ∧ wr.ownsRow (w.heap.size + 1) 5 1 (.slice ga data.length gc) data.length (zs.map (Value.int .u8)))
  case atStart => exact ⟨0, by omega, by omega, rfl, Chg.refl _ _, data.map (fun b => (b.toNat : Int)), by simp, by rw [List.map_map]; exact HO2.out⟩
  case round =>
    obtain ⟨j, hj, hgk, rfl, hch, zs, hzs, hown⟩ := hrel
    have HGK := Lib.hid hgk
    have HCH := Lib.hid hch
    have hx1 : wr.cell? ⟨w.heap.size, 1, none⟩ = some (.int .i64 n) := (hch.cell (a := ⟨w.heap.size, 1, none⟩) (fun hb => by have := HGB.out hb.2; have : w.heap.size = g := hb.1; omega) hs2).trans hz1
    have hx2 : wr.cell? ⟨w.heap.size, 2, none⟩ = some (.slice da data.length dc) := (hch.cell (a := ⟨w.heap.size, 2, none⟩) (fun hb => by have := HGB.out hb.2; have : w.heap.size = g := hb.1; omega) hs2).trans hz2
    have hsr : w.heap.size < wr.heap.size := Nat.lt_of_lt_of_le hs2 hch.size
    clear hgk hch
    by_cases hjm : j < data.length
    · obtain rfl := HGA.out (by omega)
      have hd3 : decide ((j : Int) < (data.length : Int)) = true := by simp; omega
      obtain ⟨z, hz⟩ : ∃ z, zs[j]? = some z := ⟨_, List.getElem?_eq_getElem (by omega)⟩
      have hcell : wr.cell? ⟨g, j, none⟩ = some (.int .u8 z) := by
        have := hown.cellAt j (by omega)
        have h2 : (zs.map (Value.int .u8))[j]? = some (.int .u8 z) := by rw [List.getElem?_map, hz]; rfl
        exact (show wr.cell? ⟨g, j, none⟩ = _ from this).trans h2
      have hfz : wr.frozen? ⟨g, j, none⟩ = false := hown.frozenAt j
      have HST := Lib.hid (show ∀ u : Int, ∃ zs : List Int, zs.length = data.length ∧ (wr.setCell ⟨g, j, none⟩ (.int .u8 u)).ownsRow (w.heap.size + 1) 5 1 (.slice (some ⟨g, 0, none⟩) data.length gc) data.length (zs.map (Value.int .u8)) from fun u => ⟨zs.set j u, by simp [hzs], by
        have := (hown.stored j (.int .u8 u)).1
        rw [List.map_set]; exact this⟩)
      have HSC := Lib.hid (show ∀ u : Int, Chg (fun b => b = g ∧ 0 < data.length) w2 (wr.setCell ⟨g, j, none⟩ (.int .u8 u)) from fun u => HCH.out.trans (Chg.setCell _ _ ⟨rfl, by omega⟩))
      have hj0 : (0 : Int) ≤ (j : Int) := by omega
      have hj1 : (j : Int) < (data.length : Int) := by omega
      clear hown hz hx1 hx2
      go_wp2
      go_roundg (gk - 1)
      case rel => exact ⟨j + 1, by omega, by have := HGK.out; omega, rfl, HSC.out _, HST.out _⟩
      case measure => have := HGK.out; omega
    · have hd3 : decide ((j : Int) < (data.length : Int)) = false := by simp; omega
      have HF := Lib.hid (H2.out.chg H.out.ref H.out.bel.size HC2.out HCH.out (fun b hb => by have := HGB.out hb.2; omega) HBB.out)
      clear hown
      go_wp2_with fail
      refine (rf_write HF.out.ref HF.out.bad n _ data ((data_of HO.out.dd).keep HF.out.bel)).mono ?_
      rintro e w3 ⟨rfl, ht⟩
      rw [HWC.out]
      have HE := Lib.hid (HF.out.full ht)
      clear ht
      go_wp2
      go_ret2
      exact ⟨B, _, rfl, HE.out, write_len _ _ _⟩

theorem step_any (h : Inv W w B R d) (ho : OpIn W n dv kv data keep) (k : Int) : Calls Try.prog 18 #[B.ptr, R.ptr, opv k n dv kv] w (Stepped W R d) := by
  by_cases h0 : k = 0
  · subst h0; exact step_0 h ho
  by_cases h1 : k = 1
  · subst h1; exact step_1 h ho
  by_cases h2 : k = 2
  · subst h2; exact step_2 h ho
  by_cases h3 : k = 3
  · subst h3; exact step_3 h ho
  by_cases h4 : k = 4
  · subst h4; exact step_4 h ho
  by_cases h5 : k = 5
  · subst h5; exact step_5 h ho
  exact step_6 h ho h0 h1 h2 h3 h4 h5
end

end Go.Proofs.Ytbolglpbkgmlfaa
