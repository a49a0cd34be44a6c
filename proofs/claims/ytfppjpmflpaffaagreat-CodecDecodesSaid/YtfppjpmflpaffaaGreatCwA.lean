/-
  Law 34: sameCommand, sameDatabase. Printed by gen_cw.py.
-/
import Derived.Test.YtfppjpmflpaffaaGreatCrH
import Derived.Test.YtfppjpmflpaffaaGreatCdJ
namespace Go.Proofs.YtfppjpmflpaffaaGreat
open Go.RowKit
set_option linter.unusedVariables false
set_option linter.unusedSimpArgs false

theorem held_turn3 {P : Program} {md : Region.Mode} {ops : Array Oper} {Q : Exit → Act → World → Prop} {S S' : World → Prop} (hSS : ∀ w, S' w → S w) : ∀ (fuel : Nat) (listed : Array Bool) (a : Act) (w : World), wpAnyH P md ops Q S' fuel listed a w → wpAnyH P md ops Q S fuel listed a w
  | 0, _, _, _, h => h
  | fuel + 1, _, _, _, h => ⟨h.1, fun i hi => wpOp_mono (fun a' w' h' => ⟨hSS _ h'.1, held_turn3 hSS fuel _ a' w' h'.2⟩) (h.2 i hi)⟩


set_option maxRecDepth 100000 in
set_option maxHeartbeats 4000000 in
theorem same_Command (w : World) (cs1 cs2 : List Value) (x : Ty.T tCommand) (h1 : (Ty.rd tCommand).rd w (· < w.heap.size) cs1 x) (h2 : (Ty.rd tCommand).rd w (· < w.heap.size) cs2 x) (hl : (enc tCommand x).length ≤ 140737488355328) :
    Calls Tryz.prog 46 #[goV cs1, goV cs2] w fun e w' => e = .returned (.bool true) ∧ Below w.heap.size w w' := by
  obtain ⟨c0, c1, c2, c3, c4, c5, c6, c7, c8, c9, rfl⟩ : ∃ c0 c1 c2 c3 c4 c5 c6 c7 c8 c9, cs1 = [c0, c1, c2, c3, c4, c5, c6, c7, c8, c9] := by match cs1, (Ty.rd tCommand).len h1 with | [c0, c1, c2, c3, c4, c5, c6, c7, c8, c9], _ => exact ⟨c0, c1, c2, c3, c4, c5, c6, c7, c8, c9, rfl⟩
  obtain ⟨d0, d1, d2, d3, d4, d5, d6, d7, d8, d9, rfl⟩ : ∃ d0 d1 d2 d3 d4 d5 d6 d7 d8 d9, cs2 = [d0, d1, d2, d3, d4, d5, d6, d7, d8, d9] := by match cs2, (Ty.rd tCommand).len h2 with | [d0, d1, d2, d3, d4, d5, d6, d7, d8, d9], _ => exact ⟨d0, d1, d2, d3, d4, d5, d6, d7, d8, d9, rfl⟩
  show Calls _ _ #[.agg #[c0, c1, c2, c3, c4, c5, c6, c7, c8, c9], .agg #[d0, d1, d2, d3, d4, d5, d6, d7, d8, d9]] _ _
  obtain ⟨W1, hW1⟩ : ∃ W1, W1 = w.alloc (.cells #[c0, c1, c2, c3, c4, c5, c6, c7, c8, c9] 47) := ⟨_, rfl⟩
  obtain ⟨W0, hW0⟩ : ∃ W0, W0 = W1.alloc (.cells #[d0, d1, d2, d3, d4, d5, d6, d7, d8, d9] 47) := ⟨_, rfl⟩
  obtain ⟨k1, hk1⟩ : ∃ k1, k1 = w.heap.size + 1 := ⟨_, rfl⟩
  have hz1 : W1.heap.size = w.heap.size + 1 := by rw [hW1]; simp
  have hz0 : W0.heap.size = w.heap.size + 2 := by rw [hW0]; simp; omega
  have hb1 : Below w.heap.size w W1 := by rw [hW1]; exact (Below.refl _ _).alloc (Nat.le_refl _) _
  have hb2 : Below W1.heap.size W1 W0 := by rw [hW0]; exact (Below.refl _ _).alloc (Nat.le_refl _) _
  have HB := Lib.hid (show Below w.heap.size w W0.drew from (hb1.trans (hb2.mono hb1.size)).drew)
  have HK := Lib.hid (show ∀ W', Below W0.drew.heap.size W0.drew W' → (W'.cell? ⟨w.heap.size, 0, none⟩ = some c0 ∧ W'.cell? ⟨w.heap.size, 1, none⟩ = some c1 ∧ W'.cell? ⟨w.heap.size, 2, none⟩ = some c2 ∧ W'.cell? ⟨w.heap.size, 3, none⟩ = some c3 ∧ W'.cell? ⟨w.heap.size, 4, none⟩ = some c4 ∧ W'.cell? ⟨w.heap.size, 5, none⟩ = some c5 ∧ W'.cell? ⟨w.heap.size, 6, none⟩ = some c6 ∧ W'.cell? ⟨w.heap.size, 7, none⟩ = some c7 ∧ W'.cell? ⟨w.heap.size, 8, none⟩ = some c8 ∧ W'.cell? ⟨w.heap.size, 9, none⟩ = some c9 ∧ W'.cell? ⟨k1, 0, none⟩ = some d0 ∧ W'.cell? ⟨k1, 1, none⟩ = some d1 ∧ W'.cell? ⟨k1, 2, none⟩ = some d2 ∧ W'.cell? ⟨k1, 3, none⟩ = some d3 ∧ W'.cell? ⟨k1, 4, none⟩ = some d4 ∧ W'.cell? ⟨k1, 5, none⟩ = some d5 ∧ W'.cell? ⟨k1, 6, none⟩ = some d6 ∧ W'.cell? ⟨k1, 7, none⟩ = some d7 ∧ W'.cell? ⟨k1, 8, none⟩ = some d8 ∧ W'.cell? ⟨k1, 9, none⟩ = some d9) from fun W' hb => by
    have e1 : ∀ j u, ([c0, c1, c2, c3, c4, c5, c6, c7, c8, c9] : List Value)[j]? = some u → W'.cell? ⟨w.heap.size, j, none⟩ = some u := fun j u hu => by
      refine (hb.cell (p := ⟨w.heap.size, j, none⟩) (show w.heap.size < W0.heap.size by omega)).trans ((hb2.cell (p := ⟨w.heap.size, j, none⟩) (show w.heap.size < W1.heap.size by omega)).trans ?_)
      rw [hW1]
      have := new_cells w [c0, c1, c2, c3, c4, c5, c6, c7, c8, c9] 47 j u hu
      rw [Addr.add_mid, Nat.zero_add] at this; exact this
    have e2 : ∀ j u, ([d0, d1, d2, d3, d4, d5, d6, d7, d8, d9] : List Value)[j]? = some u → W'.cell? ⟨k1, j, none⟩ = some u := fun j u hu => by
      refine (hb.cell (p := ⟨k1, j, none⟩) (show k1 < W0.heap.size by omega)).trans ?_
      rw [hW0, show k1 = W1.heap.size by omega]
      have := new_cells W1 [d0, d1, d2, d3, d4, d5, d6, d7, d8, d9] 47 j u hu
      rw [Addr.add_mid, Nat.zero_add] at this; exact this
    exact ⟨e1 0 _ rfl, e1 1 _ rfl, e1 2 _ rfl, e1 3 _ rfl, e1 4 _ rfl, e1 5 _ rfl, e1 6 _ rfl, e1 7 _ rfl, e1 8 _ rfl, e1 9 _ rfl, e2 0 _ rfl, e2 1 _ rfl, e2 2 _ rfl, e2 3 _ rfl, e2 4 _ rfl, e2 5 _ rfl, e2 6 _ rfl, e2 7 _ rfl, e2 8 _ rfl, e2 9 _ rfl⟩)
  have HX1 := Lib.hid (show (Ty.rd tCommand).rd W0.drew (· < w.heap.size) _ x from rd_low HB.out (Nat.le_refl _) h1)
  have HX2 := Lib.hid (show (Ty.rd tCommand).rd W0.drew (· < w.heap.size) _ x from rd_low HB.out (Nat.le_refl _) h2)
  have HL := Lib.hid hl
  have HZ := Lib.hid (show w.heap.size ≤ W0.drew.heap.size by show w.heap.size ≤ W0.heap.size; omega)
  have HW1 := Lib.hid hW1
  have HW0 := Lib.hid hW0
  have HK1 := Lib.hid hk1
  obtain ⟨sE, hsE⟩ : ∃ sE : ByteArray, sE = ⟨(enc tCommand x).toArray⟩ := ⟨_, rfl⟩
  have HSE := Lib.hid hsE
  clear hW1 hW0 hk1 hz1 hz0 hb1 hb2 h1 h2 hl hsE
  go_enter Tryz.func46, Tryz.ntmps46
  go_wp2_with fail
  rw [← HW1.out, ← HK1.out, ← HW0.out]
  have hS0' := HK.out _ (Below.refl _ _)
  refine wp_region_noPanic ?_
  refine wp_region_held_drew (S := fun W => W.cell? ⟨w.heap.size, 0, none⟩ = some c0 ∧ W.cell? ⟨w.heap.size, 1, none⟩ = some c1 ∧ W.cell? ⟨w.heap.size, 2, none⟩ = some c2 ∧ W.cell? ⟨w.heap.size, 3, none⟩ = some c3 ∧ W.cell? ⟨w.heap.size, 4, none⟩ = some c4 ∧ W.cell? ⟨w.heap.size, 5, none⟩ = some c5 ∧ W.cell? ⟨w.heap.size, 6, none⟩ = some c6 ∧ W.cell? ⟨w.heap.size, 7, none⟩ = some c7 ∧ W.cell? ⟨w.heap.size, 8, none⟩ = some c8 ∧ W.cell? ⟨w.heap.size, 9, none⟩ = some c9 ∧ W.cell? ⟨k1, 0, none⟩ = some d0 ∧ W.cell? ⟨k1, 1, none⟩ = some d1 ∧ W.cell? ⟨k1, 2, none⟩ = some d2 ∧ W.cell? ⟨k1, 3, none⟩ = some d3 ∧ W.cell? ⟨k1, 4, none⟩ = some d4 ∧ W.cell? ⟨k1, 5, none⟩ = some d5 ∧ W.cell? ⟨k1, 6, none⟩ = some d6 ∧ W.cell? ⟨k1, 7, none⟩ = some d7 ∧ W.cell? ⟨k1, 8, none⟩ = some d8 ∧ W.cell? ⟨k1, 9, none⟩ = some d9) (by kernel_rfl) hS0' ?_
  intro hS0
  clear hS0'
  refine wpAnyH_take (i := 0) (v := .agg #[c0, c1, c2, c3, c4, c5, c6, c7, c8, c9]) (by simp only [List.getElem?_toArray, List.getElem?_cons_succ, List.getElem?_cons_zero] <;> rfl) (by kernel_rfl) (by kernel_rfl) (by kernel_rfl) (fun _ _ _ h => h) (Or.inl ⟨by rfl, ?_⟩) (by assumption) ?_
  · intro w hSw
    (try dsimp only at hSw)
    go_simp
    (try with_reducible rfl)
  (try simp only [Act.put, List.setIfInBounds_toArray, List.set_cons_zero, List.set_cons_succ])
  refine wpAnyH_take (i := 3) (v := .agg #[d0, d1, d2, d3, d4, d5, d6, d7, d8, d9]) (by simp only [List.getElem?_toArray, List.getElem?_cons_succ, List.getElem?_cons_zero] <;> rfl) (by kernel_rfl) (by kernel_rfl) (by kernel_rfl) (fun _ _ _ h => h) (Or.inl ⟨by rfl, ?_⟩) (by assumption) ?_
  · intro w hSw
    (try dsimp only at hSw)
    go_simp
    (try with_reducible rfl)
  (try simp only [Act.put, List.setIfInBounds_toArray, List.set_cons_zero, List.set_cons_succ])
  refine wpAnyH_ready (rs := [1]) (by kernel_rfl) (by simp) ?_
  refine AllReadyH.cons (by simp only [List.getElem?_toArray, List.getElem?_cons_succ, List.getElem?_cons_zero] <;> rfl) (fun K hK => ?_) AllReadyH.nil
  rw [if_pos (by kernel_rfl)]
  go_wp2_with fail
  refine (rf_EncodeCommand W0.drew _ x (Rd.more _ (fun b hb => Nat.lt_of_lt_of_le hb HZ.out) HX1.out) HL.out).mono ?_
  rintro e w1 ⟨v1, rfl, hr1, hb1⟩
  obtain ⟨va, vn, vc, rfl⟩ := hr1.any
  have hSJ := HK.out _ hb1
  have cv1 := convert_dat hr1.dat
  rw [← HSE.out] at cv1
  have HR1 := Lib.hid hr1
  have HB1 := Lib.hid hb1
  clear hr1 hb1 hS0
  dsimp only
  refine hK.out _ _ hSJ ?_
  intro hS1
  clear hK
  refine held_turn3 (S' := fun W => (W.cell? ⟨w.heap.size, 0, none⟩ = some c0 ∧ W.cell? ⟨w.heap.size, 1, none⟩ = some c1 ∧ W.cell? ⟨w.heap.size, 2, none⟩ = some c2 ∧ W.cell? ⟨w.heap.size, 3, none⟩ = some c3 ∧ W.cell? ⟨w.heap.size, 4, none⟩ = some c4 ∧ W.cell? ⟨w.heap.size, 5, none⟩ = some c5 ∧ W.cell? ⟨w.heap.size, 6, none⟩ = some c6 ∧ W.cell? ⟨w.heap.size, 7, none⟩ = some c7 ∧ W.cell? ⟨w.heap.size, 8, none⟩ = some c8 ∧ W.cell? ⟨w.heap.size, 9, none⟩ = some c9 ∧ W.cell? ⟨k1, 0, none⟩ = some d0 ∧ W.cell? ⟨k1, 1, none⟩ = some d1 ∧ W.cell? ⟨k1, 2, none⟩ = some d2 ∧ W.cell? ⟨k1, 3, none⟩ = some d3 ∧ W.cell? ⟨k1, 4, none⟩ = some d4 ∧ W.cell? ⟨k1, 5, none⟩ = some d5 ∧ W.cell? ⟨k1, 6, none⟩ = some d6 ∧ W.cell? ⟨k1, 7, none⟩ = some d7 ∧ W.cell? ⟨k1, 8, none⟩ = some d8 ∧ W.cell? ⟨k1, 9, none⟩ = some d9) ∧ Sem.run Tryz.prog (convert 31 9 (.slice va vn vc)) W = .ok (.string sE) W) (fun _ h => h.1) _ _ _ _ ?_
  have hS2 := And.intro hSJ cv1
  clear hS1 hSJ cv1
  refine wpAnyH_take (i := 2) (v := .string sE) (by simp only [List.getElem?_toArray, List.getElem?_cons_succ, List.getElem?_cons_zero] <;> rfl) (by kernel_rfl) (by kernel_rfl) (by kernel_rfl) (fun _ _ _ h => h) (Or.inl ⟨by rfl, ?_⟩) (by assumption) ?_
  · intro w hSw
    (try dsimp only at hSw)
    go_simp
    (try with_reducible rfl)
  (try simp only [Act.put, List.setIfInBounds_toArray, List.set_cons_zero, List.set_cons_succ])
  refine wpAnyH_ready (rs := [4]) (by kernel_rfl) (by simp) ?_
  refine AllReadyH.cons (by simp only [List.getElem?_toArray, List.getElem?_cons_succ, List.getElem?_cons_zero] <;> rfl) (fun K hK => ?_) AllReadyH.nil
  rw [if_pos (by kernel_rfl)]
  go_wp2_with fail
  refine (rf_EncodeCommand w1 _ x (Rd.more _ (fun b hb => Nat.lt_of_lt_of_le hb (Nat.le_trans HZ.out HB1.out.size)) (rd_low (HB1.out.mono HZ.out) HZ.out HX2.out)) HL.out).mono ?_
  rintro e w2 ⟨v2, rfl, hr2, hb2⟩
  obtain ⟨ya, yn, yc, rfl⟩ := hr2.any
  have hSJ := HK.out _ (HB1.out.trans (hb2.mono HB1.out.size))
  have cv1 := convert_dat (HR1.out.dat.keep hb2)
  have cv2 := convert_dat hr2.dat
  rw [← HSE.out] at cv1 cv2
  have HFIN := Lib.hid (show Below w.heap.size w w2 from HB.out.trans ((HB1.out.trans (hb2.mono HB1.out.size)).mono HZ.out))
  clear hr2 hb2 hS2
  dsimp only
  refine hK.out _ _ ⟨hSJ, cv1⟩ ?_
  intro hS3
  clear hK
  refine held_turn3 (S' := fun W => ((W.cell? ⟨w.heap.size, 0, none⟩ = some c0 ∧ W.cell? ⟨w.heap.size, 1, none⟩ = some c1 ∧ W.cell? ⟨w.heap.size, 2, none⟩ = some c2 ∧ W.cell? ⟨w.heap.size, 3, none⟩ = some c3 ∧ W.cell? ⟨w.heap.size, 4, none⟩ = some c4 ∧ W.cell? ⟨w.heap.size, 5, none⟩ = some c5 ∧ W.cell? ⟨w.heap.size, 6, none⟩ = some c6 ∧ W.cell? ⟨w.heap.size, 7, none⟩ = some c7 ∧ W.cell? ⟨w.heap.size, 8, none⟩ = some c8 ∧ W.cell? ⟨w.heap.size, 9, none⟩ = some c9 ∧ W.cell? ⟨k1, 0, none⟩ = some d0 ∧ W.cell? ⟨k1, 1, none⟩ = some d1 ∧ W.cell? ⟨k1, 2, none⟩ = some d2 ∧ W.cell? ⟨k1, 3, none⟩ = some d3 ∧ W.cell? ⟨k1, 4, none⟩ = some d4 ∧ W.cell? ⟨k1, 5, none⟩ = some d5 ∧ W.cell? ⟨k1, 6, none⟩ = some d6 ∧ W.cell? ⟨k1, 7, none⟩ = some d7 ∧ W.cell? ⟨k1, 8, none⟩ = some d8 ∧ W.cell? ⟨k1, 9, none⟩ = some d9) ∧ Sem.run Tryz.prog (convert 31 9 (.slice va vn vc)) W = .ok (.string sE) W) ∧ Sem.run Tryz.prog (convert 31 9 (.slice ya yn yc)) W = .ok (.string sE) W) (fun _ h => h.1) _ _ _ _ ?_
  have hS4 := And.intro (And.intro hSJ cv1) cv2
  clear hS3 hSJ cv1 cv2
  refine wpAnyH_take (i := 5) (v := .string sE) (by simp only [List.getElem?_toArray, List.getElem?_cons_succ, List.getElem?_cons_zero] <;> rfl) (by kernel_rfl) (by kernel_rfl) (by kernel_rfl) (fun _ _ _ h => h) (Or.inl ⟨by rfl, ?_⟩) (by assumption) ?_
  · intro w hSw
    (try dsimp only at hSw)
    go_simp
    (try with_reducible rfl)
  (try simp only [Act.put, List.setIfInBounds_toArray, List.set_cons_zero, List.set_cons_succ])
  refine wpAnyH_take (i := 6) (v := .bool true) (by simp only [List.getElem?_toArray, List.getElem?_cons_succ, List.getElem?_cons_zero] <;> rfl) (by kernel_rfl) (by kernel_rfl) (by kernel_rfl) (fun _ _ _ h => h) (Or.inl ⟨by rfl, ?_⟩) (by assumption) ?_
  · intro w hSw
    (try dsimp only at hSw)
    go_simp
    (try with_reducible rfl)
  (try simp only [Act.put, List.setIfInBounds_toArray, List.set_cons_zero, List.set_cons_succ])
  refine wpAnyH_take (i := 7) (v := ?_) (by simp only [List.getElem?_toArray, List.getElem?_cons_succ, List.getElem?_cons_zero] <;> rfl) (by kernel_rfl) (by kernel_rfl) (by kernel_rfl) (fun _ _ _ h => h) (Or.inl ⟨by rfl, ?_⟩) (by assumption) ?_
  rotate_left
  · intro w hSw
    (try dsimp only at hSw)
    go_simp
    (try with_reducible rfl)
  (try simp only [Act.put, List.setIfInBounds_toArray, List.set_cons_zero, List.set_cons_succ])
  refine wpAnyH_done (by kernel_rfl) ?_ _
  refine NoPanic.normal ?_
  go_wp2
  go_ret
  exact ⟨rfl, HFIN.out⟩

set_option maxRecDepth 100000 in
set_option maxHeartbeats 4000000 in
theorem same_Database (w : World) (cs1 cs2 : List Value) (x : Ty.T tDatabase) (h1 : (Ty.rd tDatabase).rd w (· < w.heap.size) cs1 x) (h2 : (Ty.rd tDatabase).rd w (· < w.heap.size) cs2 x) (hl : (enc tDatabase x).length ≤ 140737488355328) :
    Calls Tryz.prog 12 #[goV cs1, goV cs2] w fun e w' => e = .returned (.bool true) ∧ Below w.heap.size w w' := by
  obtain ⟨c0, c1, c2, c3, c4, c5, rfl⟩ : ∃ c0 c1 c2 c3 c4 c5, cs1 = [c0, c1, c2, c3, c4, c5] := by match cs1, (Ty.rd tDatabase).len h1 with | [c0, c1, c2, c3, c4, c5], _ => exact ⟨c0, c1, c2, c3, c4, c5, rfl⟩
  obtain ⟨d0, d1, d2, d3, d4, d5, rfl⟩ : ∃ d0 d1 d2 d3 d4 d5, cs2 = [d0, d1, d2, d3, d4, d5] := by match cs2, (Ty.rd tDatabase).len h2 with | [d0, d1, d2, d3, d4, d5], _ => exact ⟨d0, d1, d2, d3, d4, d5, rfl⟩
  show Calls _ _ #[.agg #[c0, c1, c2, c3, c4, c5], .agg #[d0, d1, d2, d3, d4, d5]] _ _
  obtain ⟨W1, hW1⟩ : ∃ W1, W1 = w.alloc (.cells #[c0, c1, c2, c3, c4, c5] 29) := ⟨_, rfl⟩
  obtain ⟨W0, hW0⟩ : ∃ W0, W0 = W1.alloc (.cells #[d0, d1, d2, d3, d4, d5] 29) := ⟨_, rfl⟩
  obtain ⟨k1, hk1⟩ : ∃ k1, k1 = w.heap.size + 1 := ⟨_, rfl⟩
  have hz1 : W1.heap.size = w.heap.size + 1 := by rw [hW1]; simp
  have hz0 : W0.heap.size = w.heap.size + 2 := by rw [hW0]; simp; omega
  have hb1 : Below w.heap.size w W1 := by rw [hW1]; exact (Below.refl _ _).alloc (Nat.le_refl _) _
  have hb2 : Below W1.heap.size W1 W0 := by rw [hW0]; exact (Below.refl _ _).alloc (Nat.le_refl _) _
  have HB := Lib.hid (show Below w.heap.size w W0.drew from (hb1.trans (hb2.mono hb1.size)).drew)
  have HK := Lib.hid (show ∀ W', Below W0.drew.heap.size W0.drew W' → (W'.cell? ⟨w.heap.size, 0, none⟩ = some c0 ∧ W'.cell? ⟨w.heap.size, 1, none⟩ = some c1 ∧ W'.cell? ⟨w.heap.size, 2, none⟩ = some c2 ∧ W'.cell? ⟨w.heap.size, 3, none⟩ = some c3 ∧ W'.cell? ⟨w.heap.size, 4, none⟩ = some c4 ∧ W'.cell? ⟨w.heap.size, 5, none⟩ = some c5 ∧ W'.cell? ⟨k1, 0, none⟩ = some d0 ∧ W'.cell? ⟨k1, 1, none⟩ = some d1 ∧ W'.cell? ⟨k1, 2, none⟩ = some d2 ∧ W'.cell? ⟨k1, 3, none⟩ = some d3 ∧ W'.cell? ⟨k1, 4, none⟩ = some d4 ∧ W'.cell? ⟨k1, 5, none⟩ = some d5) from fun W' hb => by
    have e1 : ∀ j u, ([c0, c1, c2, c3, c4, c5] : List Value)[j]? = some u → W'.cell? ⟨w.heap.size, j, none⟩ = some u := fun j u hu => by
      refine (hb.cell (p := ⟨w.heap.size, j, none⟩) (show w.heap.size < W0.heap.size by omega)).trans ((hb2.cell (p := ⟨w.heap.size, j, none⟩) (show w.heap.size < W1.heap.size by omega)).trans ?_)
      rw [hW1]
      have := new_cells w [c0, c1, c2, c3, c4, c5] 29 j u hu
      rw [Addr.add_mid, Nat.zero_add] at this; exact this
    have e2 : ∀ j u, ([d0, d1, d2, d3, d4, d5] : List Value)[j]? = some u → W'.cell? ⟨k1, j, none⟩ = some u := fun j u hu => by
      refine (hb.cell (p := ⟨k1, j, none⟩) (show k1 < W0.heap.size by omega)).trans ?_
      rw [hW0, show k1 = W1.heap.size by omega]
      have := new_cells W1 [d0, d1, d2, d3, d4, d5] 29 j u hu
      rw [Addr.add_mid, Nat.zero_add] at this; exact this
    exact ⟨e1 0 _ rfl, e1 1 _ rfl, e1 2 _ rfl, e1 3 _ rfl, e1 4 _ rfl, e1 5 _ rfl, e2 0 _ rfl, e2 1 _ rfl, e2 2 _ rfl, e2 3 _ rfl, e2 4 _ rfl, e2 5 _ rfl⟩)
  have HX1 := Lib.hid (show (Ty.rd tDatabase).rd W0.drew (· < w.heap.size) _ x from rd_low HB.out (Nat.le_refl _) h1)
  have HX2 := Lib.hid (show (Ty.rd tDatabase).rd W0.drew (· < w.heap.size) _ x from rd_low HB.out (Nat.le_refl _) h2)
  have HL := Lib.hid hl
  have HZ := Lib.hid (show w.heap.size ≤ W0.drew.heap.size by show w.heap.size ≤ W0.heap.size; omega)
  have HW1 := Lib.hid hW1
  have HW0 := Lib.hid hW0
  have HK1 := Lib.hid hk1
  obtain ⟨sE, hsE⟩ : ∃ sE : ByteArray, sE = ⟨(enc tDatabase x).toArray⟩ := ⟨_, rfl⟩
  have HSE := Lib.hid hsE
  clear hW1 hW0 hk1 hz1 hz0 hb1 hb2 h1 h2 hl hsE
  go_enter Tryz.func12, Tryz.ntmps12
  go_wp2_with fail
  rw [← HW1.out, ← HK1.out, ← HW0.out]
  have hS0' := HK.out _ (Below.refl _ _)
  refine wp_region_noPanic ?_
  refine wp_region_held_drew (S := fun W => W.cell? ⟨w.heap.size, 0, none⟩ = some c0 ∧ W.cell? ⟨w.heap.size, 1, none⟩ = some c1 ∧ W.cell? ⟨w.heap.size, 2, none⟩ = some c2 ∧ W.cell? ⟨w.heap.size, 3, none⟩ = some c3 ∧ W.cell? ⟨w.heap.size, 4, none⟩ = some c4 ∧ W.cell? ⟨w.heap.size, 5, none⟩ = some c5 ∧ W.cell? ⟨k1, 0, none⟩ = some d0 ∧ W.cell? ⟨k1, 1, none⟩ = some d1 ∧ W.cell? ⟨k1, 2, none⟩ = some d2 ∧ W.cell? ⟨k1, 3, none⟩ = some d3 ∧ W.cell? ⟨k1, 4, none⟩ = some d4 ∧ W.cell? ⟨k1, 5, none⟩ = some d5) (by kernel_rfl) hS0' ?_
  intro hS0
  clear hS0'
  refine wpAnyH_take (i := 0) (v := .agg #[c0, c1, c2, c3, c4, c5]) (by simp only [List.getElem?_toArray, List.getElem?_cons_succ, List.getElem?_cons_zero] <;> rfl) (by kernel_rfl) (by kernel_rfl) (by kernel_rfl) (fun _ _ _ h => h) (Or.inl ⟨by rfl, ?_⟩) (by assumption) ?_
  · intro w hSw
    (try dsimp only at hSw)
    go_simp
    (try with_reducible rfl)
  (try simp only [Act.put, List.setIfInBounds_toArray, List.set_cons_zero, List.set_cons_succ])
  refine wpAnyH_take (i := 3) (v := .agg #[d0, d1, d2, d3, d4, d5]) (by simp only [List.getElem?_toArray, List.getElem?_cons_succ, List.getElem?_cons_zero] <;> rfl) (by kernel_rfl) (by kernel_rfl) (by kernel_rfl) (fun _ _ _ h => h) (Or.inl ⟨by rfl, ?_⟩) (by assumption) ?_
  · intro w hSw
    (try dsimp only at hSw)
    go_simp
    (try with_reducible rfl)
  (try simp only [Act.put, List.setIfInBounds_toArray, List.set_cons_zero, List.set_cons_succ])
  refine wpAnyH_ready (rs := [1]) (by kernel_rfl) (by simp) ?_
  refine AllReadyH.cons (by simp only [List.getElem?_toArray, List.getElem?_cons_succ, List.getElem?_cons_zero] <;> rfl) (fun K hK => ?_) AllReadyH.nil
  rw [if_pos (by kernel_rfl)]
  go_wp2_with fail
  refine (rf_EncodeDatabase W0.drew _ x (Rd.more _ (fun b hb => Nat.lt_of_lt_of_le hb HZ.out) HX1.out) HL.out).mono ?_
  rintro e w1 ⟨v1, rfl, hr1, hb1⟩
  obtain ⟨va, vn, vc, rfl⟩ := hr1.any
  have hSJ := HK.out _ hb1
  have cv1 := convert_dat hr1.dat
  rw [← HSE.out] at cv1
  have HR1 := Lib.hid hr1
  have HB1 := Lib.hid hb1
  clear hr1 hb1 hS0
  dsimp only
  refine hK.out _ _ hSJ ?_
  intro hS1
  clear hK
  refine held_turn3 (S' := fun W => (W.cell? ⟨w.heap.size, 0, none⟩ = some c0 ∧ W.cell? ⟨w.heap.size, 1, none⟩ = some c1 ∧ W.cell? ⟨w.heap.size, 2, none⟩ = some c2 ∧ W.cell? ⟨w.heap.size, 3, none⟩ = some c3 ∧ W.cell? ⟨w.heap.size, 4, none⟩ = some c4 ∧ W.cell? ⟨w.heap.size, 5, none⟩ = some c5 ∧ W.cell? ⟨k1, 0, none⟩ = some d0 ∧ W.cell? ⟨k1, 1, none⟩ = some d1 ∧ W.cell? ⟨k1, 2, none⟩ = some d2 ∧ W.cell? ⟨k1, 3, none⟩ = some d3 ∧ W.cell? ⟨k1, 4, none⟩ = some d4 ∧ W.cell? ⟨k1, 5, none⟩ = some d5) ∧ Sem.run Tryz.prog (convert 31 9 (.slice va vn vc)) W = .ok (.string sE) W) (fun _ h => h.1) _ _ _ _ ?_
  have hS2 := And.intro hSJ cv1
  clear hS1 hSJ cv1
  refine wpAnyH_take (i := 2) (v := .string sE) (by simp only [List.getElem?_toArray, List.getElem?_cons_succ, List.getElem?_cons_zero] <;> rfl) (by kernel_rfl) (by kernel_rfl) (by kernel_rfl) (fun _ _ _ h => h) (Or.inl ⟨by rfl, ?_⟩) (by assumption) ?_
  · intro w hSw
    (try dsimp only at hSw)
    go_simp
    (try with_reducible rfl)
  (try simp only [Act.put, List.setIfInBounds_toArray, List.set_cons_zero, List.set_cons_succ])
  refine wpAnyH_ready (rs := [4]) (by kernel_rfl) (by simp) ?_
  refine AllReadyH.cons (by simp only [List.getElem?_toArray, List.getElem?_cons_succ, List.getElem?_cons_zero] <;> rfl) (fun K hK => ?_) AllReadyH.nil
  rw [if_pos (by kernel_rfl)]
  go_wp2_with fail
  refine (rf_EncodeDatabase w1 _ x (Rd.more _ (fun b hb => Nat.lt_of_lt_of_le hb (Nat.le_trans HZ.out HB1.out.size)) (rd_low (HB1.out.mono HZ.out) HZ.out HX2.out)) HL.out).mono ?_
  rintro e w2 ⟨v2, rfl, hr2, hb2⟩
  obtain ⟨ya, yn, yc, rfl⟩ := hr2.any
  have hSJ := HK.out _ (HB1.out.trans (hb2.mono HB1.out.size))
  have cv1 := convert_dat (HR1.out.dat.keep hb2)
  have cv2 := convert_dat hr2.dat
  rw [← HSE.out] at cv1 cv2
  have HFIN := Lib.hid (show Below w.heap.size w w2 from HB.out.trans ((HB1.out.trans (hb2.mono HB1.out.size)).mono HZ.out))
  clear hr2 hb2 hS2
  dsimp only
  refine hK.out _ _ ⟨hSJ, cv1⟩ ?_
  intro hS3
  clear hK
  refine held_turn3 (S' := fun W => ((W.cell? ⟨w.heap.size, 0, none⟩ = some c0 ∧ W.cell? ⟨w.heap.size, 1, none⟩ = some c1 ∧ W.cell? ⟨w.heap.size, 2, none⟩ = some c2 ∧ W.cell? ⟨w.heap.size, 3, none⟩ = some c3 ∧ W.cell? ⟨w.heap.size, 4, none⟩ = some c4 ∧ W.cell? ⟨w.heap.size, 5, none⟩ = some c5 ∧ W.cell? ⟨k1, 0, none⟩ = some d0 ∧ W.cell? ⟨k1, 1, none⟩ = some d1 ∧ W.cell? ⟨k1, 2, none⟩ = some d2 ∧ W.cell? ⟨k1, 3, none⟩ = some d3 ∧ W.cell? ⟨k1, 4, none⟩ = some d4 ∧ W.cell? ⟨k1, 5, none⟩ = some d5) ∧ Sem.run Tryz.prog (convert 31 9 (.slice va vn vc)) W = .ok (.string sE) W) ∧ Sem.run Tryz.prog (convert 31 9 (.slice ya yn yc)) W = .ok (.string sE) W) (fun _ h => h.1) _ _ _ _ ?_
  have hS4 := And.intro (And.intro hSJ cv1) cv2
  clear hS3 hSJ cv1 cv2
  refine wpAnyH_take (i := 5) (v := .string sE) (by simp only [List.getElem?_toArray, List.getElem?_cons_succ, List.getElem?_cons_zero] <;> rfl) (by kernel_rfl) (by kernel_rfl) (by kernel_rfl) (fun _ _ _ h => h) (Or.inl ⟨by rfl, ?_⟩) (by assumption) ?_
  · intro w hSw
    (try dsimp only at hSw)
    go_simp
    (try with_reducible rfl)
  (try simp only [Act.put, List.setIfInBounds_toArray, List.set_cons_zero, List.set_cons_succ])
  refine wpAnyH_take (i := 6) (v := .bool true) (by simp only [List.getElem?_toArray, List.getElem?_cons_succ, List.getElem?_cons_zero] <;> rfl) (by kernel_rfl) (by kernel_rfl) (by kernel_rfl) (fun _ _ _ h => h) (Or.inl ⟨by rfl, ?_⟩) (by assumption) ?_
  · intro w hSw
    (try dsimp only at hSw)
    go_simp
    (try with_reducible rfl)
  (try simp only [Act.put, List.setIfInBounds_toArray, List.set_cons_zero, List.set_cons_succ])
  refine wpAnyH_take (i := 7) (v := ?_) (by simp only [List.getElem?_toArray, List.getElem?_cons_succ, List.getElem?_cons_zero] <;> rfl) (by kernel_rfl) (by kernel_rfl) (by kernel_rfl) (fun _ _ _ h => h) (Or.inl ⟨by rfl, ?_⟩) (by assumption) ?_
  rotate_left
  · intro w hSw
    (try dsimp only at hSw)
    go_simp
    (try with_reducible rfl)
  (try simp only [Act.put, List.setIfInBounds_toArray, List.set_cons_zero, List.set_cons_succ])
  refine wpAnyH_done (by kernel_rfl) ?_ _
  refine NoPanic.normal ?_
  go_wp2
  go_ret
  exact ⟨rfl, HFIN.out⟩
end Go.Proofs.YtfppjpmflpaffaaGreat
