/-
  A disk beside its model: the other steps.
-/
import Derived.Test.YtbolglpbkgmlfaaDrK
namespace Go.Proofs.Ytbolglpbkgmlfaa
open Go.RowKit Go.Maps Go.ChangeShapes Go.WideShapes
set_option linter.unusedVariables false

theorem region_all {P : Program} {id : Nat} {Q : Exit → Act → World → Prop} {a : Act} {w : World} {l : List Oper} (hm : P.follows .mixedOrders = true) (hB : Region.lexB .any l.toArray = true)
    (h : ∀ W', W' = w.drew → Veil (wpStill P l.toArray W' (fun a' => Q .normal a' W') l a)) : (Code.region id l.toArray true).wp P Q a w := wp_region_still_lit hm hB (h _ rfl).out

theorem own_chg {w w' : World} {base : Nat} {e : TypeId} {v : Value} {n : Nat} {xs : List Value} {F : Nat → Prop} (h : w.ownsRow base e 1 v n xs) (hc : Chg F w w') (hne : ∀ b, v.ownBlock = some b → ¬ F b) : w'.ownsRow base e 1 v n xs := by
  refine ⟨h.1, ?_⟩
  rcases h.2 with h2 | ⟨g, cap, cur, rfl, hB, hcc, rest⟩
  · exact .inl h2
  · exact .inr ⟨g, cap, cur, rfl, hB, (hc.block g (Array.getElem?_eq_some_iff.1 hcc).1 (hne g rfl)).trans hcc, rest⟩

section
variable {W w : World} {B : DB} {R : RB} {d : DK} {k n : Int} {dv kv : Value} {data : List UInt8} {keep : List Int}

set_option maxRecDepth 100000 in
set_option maxHeartbeats 4000000 in
theorem step_5 (h : Inv W w B R d) (ho : OpIn W n dv kv data keep) : Calls Try.prog 18 #[B.ptr, R.ptr, opv 5 n dv kv] w (Stepped W R d) := by
  obtain ⟨da, dc, rfl⟩ := Sl.len (data_of ho.dd)
  obtain ⟨_, ka, kc, rfl, _⟩ := h.keep _ _ ho.kk
  have H := Lib.hid h
  clear h ho
  unfold DB.ptr RB.ptr opv
  go_enter Try.func18, Try.ntmps18
  go_wp2_with fail
  obtain ⟨w0, hw0⟩ : ∃ w0, w0 = w.alloc (.cells #[.int .i64 5, .int .i64 n, .slice da data.length dc, .slice ka keep.length kc] 41) := ⟨_, rfl⟩
  rw [← hw0]
  have H1 := Lib.hid (show Inv W w0 B R d from by rw [hw0]; exact H.out.grow ((Below.refl _ _).alloc (Nat.le_refl _) _))
  clear hw0
  refine (dk_clone H1.out.disk).mono ?_
  rintro e w1 ⟨B', rfl, hM⟩
  have HM := Lib.hid hM
  have HR := Lib.hid (show IsRef w1 R d (fun b => B.has b ∨ B'.has b) from ((H1.out.ref.rebad (Bad' := fun b => B.has b ∨ B'.has b) (fun b hb hx => by
    rcases hx with hx | hx
    · exact hx
    · have := hM.2.2.1; have := hM.2.2.2.1; have := hM.2.2.2.2
      rcases hx with rfl | rfl | rfl <;> omega)).below hM.2.1))
  have HO1 := Lib.hid (H1.out.disk.below hM.2.1)
  have HW1 := Lib.hid (H1.out.bel.trans (hM.2.1.mono H1.out.bel.size))
  have HBL := Lib.hid (show ∀ b, B'.has b → ¬ B.has b from fun b hb hx => by
    have h1 := H1.out.bad b hx
    have := hM.2.2.1; have := hM.2.2.2.1; have := hM.2.2.2.2
    rcases hb with rfl | rfl | rfl <;> omega)
  have HBW := Lib.hid (show ∀ b, B'.has b → W.heap.size ≤ b from fun b hb => by
    have h0 := H1.out.bel.size
    have := hM.2.2.1; have := hM.2.2.2.1; have := hM.2.2.2.2
    rcases hb with rfl | rfl | rfl <;> omega)
  clear hM
  unfold DB.ptr
  go_wp2_with fail
  have hD2 := HO1.out.below ((Below.refl _ _).alloc (Nat.le_refl _) (.cells (pc [77]).toArray 5))
  refine (dk_write hD2 0 (wf_small (n := 0) (by omega)) _ [77] (data_new w1 [77] 1 1 5 rfl (by omega))).mono ?_
  rintro e w2 ⟨rfl, ht⟩
  generalize (d.write 0 [77]).2 = wc
  have HC2 := Lib.hid (((Chg.of_below ((Below.refl _ _).alloc (Nat.le_refl _) (.cells (pc [77]).toArray 5)) : Chg B.has w1 _)).trans ht.2)
  have HO2 := Lib.hid ht.1
  clear ht hD2
  go_wp2_with fail
  have hD3 := HO2.out.below ((Below.refl _ _).alloc (Nat.le_refl _) (.cells (([5] : List Int).map (Value.int .i64)).toArray 3))
  refine (dk_crash hD3 _ [5] (keep_new w2 B [5] 1 1 3 rfl (by intro z hz; simp at hz; subst hz; exact wf_small (n := 5) (by omega)) HO2.out.lt.2.1) (by simp)).mono ?_
  rintro e w3 ⟨rfl, ht⟩
  have HC3 := Lib.hid (HC2.out.trans (((Chg.of_below ((Below.refl _ _).alloc (Nat.le_refl _) (.cells (([5] : List Int).map (Value.int .i64)).toArray 3)) : Chg B.has w2 _)).trans ht.2))
  clear ht hD3
  have HF := Lib.hid (show Inv W w3 B' R d from ⟨HM.out.1.keep HC3.out HBL.out, ((HR.out.keep HC3.out (fun b hb => .inl (.inl hb))).rebad (fun b _ hx => .inr hx)), HW1.out.trans (HC3.out.below HW1.out.size H.out.bh), HBW.out, H.out.rh⟩)
  go_wp2
  go_ret2
  exact ⟨B', d, rfl, HF.out, rfl⟩

set_option maxRecDepth 100000 in
set_option maxHeartbeats 4000000 in
theorem step_6 (h : Inv W w B R d) (ho : OpIn W n dv kv data keep) (h0 : k ≠ 0) (h1 : k ≠ 1) (h2 : k ≠ 2) (h3 : k ≠ 3) (h4 : k ≠ 4) (h5 : k ≠ 5) : Calls Try.prog 18 #[B.ptr, R.ptr, opv k n dv kv] w (Stepped W R d) := by
  obtain ⟨da, dc, rfl⟩ := Sl.len (data_of ho.dd)
  obtain ⟨_, ka, kc, rfl, _⟩ := h.keep _ _ ho.kk
  have H := Lib.hid h
  have HO := Lib.hid ho
  have g0 : (k == 0) = false := by simpa using h0
  have g1 : (k == 1) = false := by simpa using h1
  have g2 : (k == 2) = false := by simpa using h2
  have g3 : (k == 3) = false := by simpa using h3
  have g4 : (k == 4) = false := by simpa using h4
  have g5 : (k == 5) = false := by simpa using h5
  clear h ho h0 h1 h2 h3 h4 h5
  unfold DB.ptr RB.ptr opv
  go_enter Try.func18, Try.ntmps18
  go_wp2_with fail
  have h1 := H.out.grow ((Below.refl _ _).alloc (Nat.le_refl _) (.cells #[.int .i64 k, .int .i64 n, .slice da data.length dc, .slice ka keep.length kc] 41))
  refine (dk_read h1.disk n HO.out.wn).mono ?_
  rintro e w1 ⟨va, rfl, hr1⟩
  have hx : w1.cell? ⟨w.heap.size, 1, none⟩ = some (.int .i64 n) := (hr1.2.cell (p := ⟨w.heap.size, 1, none⟩) (by simp)).trans (by go_simp)
  have hx2 : w.heap.size < w1.heap.size := by have := hr1.2.size; simp at this; omega
  have HR1 := Lib.hid hr1
  have H1 := Lib.hid (h1.grow hr1.2)
  clear h1 hr1
  generalize hci : d.chk n = ci at *
  have HCI := Lib.hid hci
  clear hci
  go_wp2_with fail
  refine (rf_read H1.out.ref n).mono ?_
  rintro e w2 ⟨vb, rfl, hr2⟩
  rw [HCI.out]
  have H2 := Lib.hid (H1.out.grow hr2.2)
  have HCA := Lib.hid (convert_data ((read_cells HR1.out).keep hr2.2.drew))
  have HCB := Lib.hid (convert_data ((read_cells hr2).keep (Below.refl _ _).drew))
  obtain ⟨ba, bc, rfl⟩ := Sl.len (read_cells hr2)
  obtain ⟨aa, ac, rfl⟩ := Sl.len (read_cells HR1.out)
  clear hr2 hx hx2
  go_wp2_with fail
  refine region_all (by kernel_rfl) (by kernel_rfl) ?_
  intro wD hWD
  have hcA := HCA.out
  have hcB := HCB.out
  rw [← hWD] at hcA hcB
  unfold txt at hcA hcB
  generalize (⟨(d.read n).toArray⟩ : ByteArray) = S1 at hcA hcB
  have H3 := Lib.hid (show Inv W wD B R d from by rw [hWD]; exact H2.out.grow (Below.refl _ _).drew)
  clear hWD
  refine stillH_want (by kernel_rfl) (fun K hK => ?_); go_simp; refine hK _ ?_; clear hK K
  refine stillH_want (by kernel_rfl) (fun K hK => ?_); go_simp; refine hK _ ?_; clear hK K
  refine stillH_want (by kernel_rfl) (fun K hK => ?_); go_simp; refine hK _ ?_; clear hK K
  refine stillH_want (by kernel_rfl) (fun K hK => ?_); go_simp; refine hK _ ?_; clear hK K
  refine stillH_want (by kernel_rfl) (fun K hK => ?_); go_simp; refine hK _ ?_; clear hK K
  refine stillH_want (by kernel_rfl) (fun K hK => ?_); go_simp; refine hK _ ?_; clear hK K
  refine stillH_want (by kernel_rfl) (fun K hK => ?_); go_simp; refine hK _ ?_; clear hK K
  refine stillH_want (by kernel_rfl) (fun K hK => ?_); go_simp; refine hK _ ?_; clear hK K
  refine stillH_want (by kernel_rfl) (fun K hK => ?_); go_simp; refine hK _ ?_; clear hK K
  refine stillH_want (by kernel_rfl) (fun K hK => ?_); go_simp; refine hK _ ?_; clear hK K
  refine stillH_want (by kernel_rfl) (fun K hK => ?_); go_simp; refine hK _ ?_; clear hK K
  refine stillH_want (by kernel_rfl) (fun K hK => ?_); go_simp; refine hK _ ?_; clear hK K
  refine stillH_want (by kernel_rfl) (fun K hK => ?_); go_simp; refine hK _ ?_; clear hK K
  refine stillH_nil ?_
  go_wp2
  go_ret2
  exact ⟨B, d, rfl, H3.out, rfl⟩
end

end Go.Proofs.Ytbolglpbkgmlfaa
