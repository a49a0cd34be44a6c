/-
  Law 34: the walk of CodecDatabases. Printed by gen_cw.py.
-/
import Derived.Test.YtfppjpmflpaffaaCwC
import Derived.Test.YtfppjpmflpaffaaCfC
namespace Go.Proofs.Ytfppjpmflpaffaa
open Go.RowKit
set_option linter.unusedVariables false
set_option linter.unusedSimpArgs false

set_option maxRecDepth 100000 in
set_option maxHeartbeats 8000000 in
theorem database34_walk (cs : List Value) (x : Ty.T tDatabase) (W : World) (hx : (Ty.rd tDatabase).rd W (· < W.heap.size) cs x) (hl : (enc tDatabase x).length ≤ 1073741824) : Calls Try.prog 4 #[goV cs] W (Holds W) := by
  have HX := Lib.hid hx
  obtain ⟨z0, z1, za2, zn2, zc2, z3, za4, zn4, zc4, za5, zn5, zc5, rfl⟩ := shape_Database hx
  show Calls _ _ #[.agg #[.int .i64 z0, .int .i64 z1, .slice za2 zn2 zc2, .int .i64 z3, .slice za4 zn4 zc4, .slice za5 zn5 zc5]] _ _
  obtain ⟨E, hE⟩ : ∃ E, E = enc tDatabase x := ⟨_, rfl⟩
  have HE := Lib.hid hE
  rw [← hE] at hl
  have HL := Lib.hid hl
  obtain ⟨W0, hW0⟩ : ∃ W0, W0 = W.alloc (.cells #[.int .i64 z0, .int .i64 z1, .slice za2 zn2 zc2, .int .i64 z3, .slice za4 zn4 zc4, .slice za5 zn5 zc5] 44) := ⟨_, rfl⟩
  have HB0 := Lib.hid (show Below W.heap.size W W0 from by rw [hW0]; exact (Below.refl _ _).alloc (Nat.le_refl _) _)
  have HZ0 := Lib.hid (show W.heap.size < W0.heap.size by rw [hW0]; simp)
  have HBX := Lib.hid (show ∀ w', Below W0.heap.size W0 w' → ∀ (j : Nat) u, ([.int .i64 z0, .int .i64 z1, .slice za2 zn2 zc2, .int .i64 z3, .slice za4 zn4 zc4, .slice za5 zn5 zc5] : List Value)[j]? = some u → w'.cell? ⟨W.heap.size, j, none⟩ = some u from fun w' hb j u hu => by
    refine (hb.cell (p := ⟨W.heap.size, j, none⟩) HZ0.out).trans ?_
    rw [hW0]
    have := new_cells W [.int .i64 z0, .int .i64 z1, .slice za2 zn2 zc2, .int .i64 z3, .slice za4 zn4 zc4, .slice za5 zn5 zc5] 44 j u hu
    rw [Addr.add_mid, Nat.zero_add] at this; exact this)
  have HRD := Lib.hid (show ∀ w', Below W0.heap.size W0 w' → (Ty.rd tDatabase).rd w' (· < w'.heap.size) _ x from fun w' hb => Rd.more _ (fun b hb' => Nat.lt_of_lt_of_le hb' (Nat.le_trans HB0.out.size hb.size)) (rd_low (HB0.out.trans (hb.mono HB0.out.size)) (Nat.le_refl _) HX.out))
  have HW0 := Lib.hid hW0
  clear hW0 hx hE hl
  go_enter Try.func4, Try.ntmps4
  go_wp2_with fail
  rw [← HW0.out]
  refine (few_Database W0 [.int .i64 z0, .int .i64 z1, .slice za2 zn2 zc2, .int .i64 z3, .slice za4 zn4 zc4, .slice za5 zn5 zc5] x (HRD.out _ (Below.refl _ _))).mono ?_
  rintro e w1 ⟨r, rfl, hb1⟩
  have HB1 := Lib.hid hb1
  clear hb1
  cases r with
  | false =>
    go_wp2_with fail
    refine (awake34_any _).mono ?_
    rintro e w5 ⟨rfl, hb5⟩
    have HFIN := Lib.hid (show Below W.heap.size W w5 from HB0.out.trans ((HB1.out.trans (hb5.mono HB1.out.size)).mono HB0.out.size))
    clear hb5
    go_wp2
    go_ret
    exact ⟨rfl, HFIN.out⟩
  | true =>
    have q0 := HBX.out _ HB1.out 0 _ rfl
    have q1 := HBX.out _ HB1.out 1 _ rfl
    have q2 := HBX.out _ HB1.out 2 _ rfl
    have q3 := HBX.out _ HB1.out 3 _ rfl
    have q4 := HBX.out _ HB1.out 4 _ rfl
    have q5 := HBX.out _ HB1.out 5 _ rfl
    go_wp2_with fail
    refine (cd_EncodeDatabase w1 [.int .i64 z0, .int .i64 z1, .slice za2 zn2 zc2, .int .i64 z3, .slice za4 zn4 zc4, .slice za5 zn5 zc5] x (HRD.out _ HB1.out) (by rw [← HE.out]; have := HL.out; omega)).mono ?_
    rintro e w2 ⟨v2, rfl, hr2, hb2⟩
    rw [← HE.out] at hr2
    obtain ⟨va, vn, vc, rfl⟩ := hr2.any
    have HR2 := Lib.hid hr2
    have HB2 := Lib.hid (show Below W0.heap.size W0 w2 from HB1.out.trans (hb2.mono HB1.out.size))
    have HDEC := Lib.hid (show dec tDatabase (.ok E) = (x, .ok []) from by have := dec_enc tDatabase x [] (ok_rd tDatabase HX.out); rw [List.append_nil, ← HE.out] at this; exact this)
    clear hr2 hb2 q0 q1 q2 q3 q4 q5
    go_wp2_with fail
    refine (cd_DecodeDatabase w2 _ E HR2.out.dat (by have := HL.out; unfold maxLen; omega) (mod_small tDatabase E HL.out) x (.ok []) HDEC.out).mono ?_
    rintro e w3 ⟨cs4, he, hx4, -, hb3⟩
    have hx4 := hx4 rfl
    obtain ⟨m0, m1, ma2, mn2, mc2, m3, ma4, mn4, mc4, ma5, mn5, mc5, rfl⟩ := shape_Database (id hx4)
    obtain rfl : e = .returned (.tuple #[.agg #[.int .i64 m0, .int .i64 m1, .slice ma2 mn2 mc2, .int .i64 m3, .slice ma4 mn4 mc4, .slice ma5 mn5 mc5], .int .i64 0]) := he
    obtain ⟨X4, hX4⟩ : ∃ X4, X4 = w3.alloc (.cells #[.int .i64 m0, .int .i64 m1, .slice ma2 mn2 mc2, .int .i64 m3, .slice ma4 mn4 mc4, .slice ma5 mn5 mc5] 44) := ⟨_, rfl⟩
    obtain ⟨k4, hk4⟩ : ∃ k4, k4 = w3.heap.size := ⟨_, rfl⟩
    have hb34 : Below w3.heap.size w3 X4 := by rw [hX4]; exact (Below.refl _ _).alloc (Nat.le_refl _) _
    have HB24 := Lib.hid (show Below w2.heap.size w2 X4.drew from (hb3.trans (hb34.mono hb3.size)).drew)
    have HB4 := Lib.hid (show Below W0.heap.size W0 X4.drew from HB2.out.trans (HB24.out.mono HB2.out.size))
    have HX4R := Lib.hid (show (Ty.rd tDatabase).rd X4.drew (· < X4.drew.heap.size) _ x from Rd.more _ (fun b hb => Nat.lt_of_lt_of_le hb.2 (Nat.le_of_lt (show w3.heap.size < X4.heap.size by rw [hX4]; simp))) (Rd.keep _ (fun b hb hl => hb34.drew.block b hl) hb34.drew.size (rd_shrink tDatabase (G := fun b => w2.heap.size ≤ b ∧ b < w3.heap.size) (fun b hb hl => ⟨hb, hl⟩) hx4)))
    have HC4 := Lib.hid (show ∀ w', Below X4.drew.heap.size X4.drew w' → ∀ (j : Nat) u, ([.int .i64 m0, .int .i64 m1, .slice ma2 mn2 mc2, .int .i64 m3, .slice ma4 mn4 mc4, .slice ma5 mn5 mc5] : List Value)[j]? = some u → w'.cell? ⟨k4, j, none⟩ = some u from fun w' hb j u hu => by
      refine (hb.cell (p := ⟨k4, j, none⟩) (show k4 < X4.heap.size by rw [hX4, hk4]; simp)).trans ?_
      show X4.cell? _ = _
      rw [hX4, hk4]
      have := new_cells w3 [.int .i64 m0, .int .i64 m1, .slice ma2 mn2 mc2, .int .i64 m3, .slice ma4 mn4 mc4, .slice ma5 mn5 mc5] 44 j u hu
      rw [Addr.add_mid, Nat.zero_add] at this; exact this)
    have HXX := Lib.hid hX4
    have HKK := Lib.hid hk4
    obtain ⟨sE, hsE⟩ : ∃ sE : ByteArray, sE = ⟨E.toArray⟩ := ⟨_, rfl⟩
    have HSE := Lib.hid hsE
    clear hx4 hb3 hX4 hk4 hb34 hsE
    go_wp2_with fail
    rw [← HKK.out, ← HXX.out]
    have HK := Lib.hid (show ∀ w', Below X4.drew.heap.size X4.drew w' → (w'.cell? ⟨W.heap.size, 0, none⟩ = some (.int .i64 z0) ∧ w'.cell? ⟨W.heap.size, 1, none⟩ = some (.int .i64 z1) ∧ w'.cell? ⟨W.heap.size, 2, none⟩ = some (.slice za2 zn2 zc2) ∧ w'.cell? ⟨W.heap.size, 3, none⟩ = some (.int .i64 z3) ∧ w'.cell? ⟨W.heap.size, 4, none⟩ = some (.slice za4 zn4 zc4) ∧ w'.cell? ⟨W.heap.size, 5, none⟩ = some (.slice za5 zn5 zc5) ∧ w'.cell? ⟨k4, 0, none⟩ = some (.int .i64 m0) ∧ w'.cell? ⟨k4, 1, none⟩ = some (.int .i64 m1) ∧ w'.cell? ⟨k4, 2, none⟩ = some (.slice ma2 mn2 mc2) ∧ w'.cell? ⟨k4, 3, none⟩ = some (.int .i64 m3) ∧ w'.cell? ⟨k4, 4, none⟩ = some (.slice ma4 mn4 mc4) ∧ w'.cell? ⟨k4, 5, none⟩ = some (.slice ma5 mn5 mc5) ∧ Sem.run Try.prog (convert 33 9 (.slice va vn vc)) w' = .ok (.string sE) w') from fun w' hb => by
      have cv := convert_dat ((HR2.out.keep (HB24.out.trans (hb.mono HB24.out.size))).dat)
      rw [← HSE.out] at cv
      exact ⟨HBX.out _ (HB4.out.trans (hb.mono HB4.out.size)) 0 _ rfl, HBX.out _ (HB4.out.trans (hb.mono HB4.out.size)) 1 _ rfl, HBX.out _ (HB4.out.trans (hb.mono HB4.out.size)) 2 _ rfl, HBX.out _ (HB4.out.trans (hb.mono HB4.out.size)) 3 _ rfl, HBX.out _ (HB4.out.trans (hb.mono HB4.out.size)) 4 _ rfl, HBX.out _ (HB4.out.trans (hb.mono HB4.out.size)) 5 _ rfl, HC4.out _ hb 0 _ rfl, HC4.out _ hb 1 _ rfl, HC4.out _ hb 2 _ rfl, HC4.out _ hb 3 _ rfl, HC4.out _ hb 4 _ rfl, HC4.out _ hb 5 _ rfl, cv⟩)
    have hS0' := HK.out _ (Below.refl _ _)
    refine wp_region_noPanic ?_
    refine wp_region_held_drew (S := fun Wv => Wv.cell? ⟨W.heap.size, 0, none⟩ = some (.int .i64 z0) ∧ Wv.cell? ⟨W.heap.size, 1, none⟩ = some (.int .i64 z1) ∧ Wv.cell? ⟨W.heap.size, 2, none⟩ = some (.slice za2 zn2 zc2) ∧ Wv.cell? ⟨W.heap.size, 3, none⟩ = some (.int .i64 z3) ∧ Wv.cell? ⟨W.heap.size, 4, none⟩ = some (.slice za4 zn4 zc4) ∧ Wv.cell? ⟨W.heap.size, 5, none⟩ = some (.slice za5 zn5 zc5) ∧ Wv.cell? ⟨k4, 0, none⟩ = some (.int .i64 m0) ∧ Wv.cell? ⟨k4, 1, none⟩ = some (.int .i64 m1) ∧ Wv.cell? ⟨k4, 2, none⟩ = some (.slice ma2 mn2 mc2) ∧ Wv.cell? ⟨k4, 3, none⟩ = some (.int .i64 m3) ∧ Wv.cell? ⟨k4, 4, none⟩ = some (.slice ma4 mn4 mc4) ∧ Wv.cell? ⟨k4, 5, none⟩ = some (.slice ma5 mn5 mc5) ∧ Sem.run Try.prog (convert 33 9 (.slice va vn vc)) Wv = .ok (.string sE) Wv) (by kernel_rfl) hS0' ?_
    intro hS0
    clear hS0'
    refine wpAnyH_ready (rs := [0]) (by kernel_rfl) (by simp) ?_
    refine AllReadyH.cons (by simp only [List.getElem?_toArray, List.getElem?_cons_succ, List.getElem?_cons_zero] <;> rfl) (fun K hK => ?_) AllReadyH.nil
    rw [if_pos (by kernel_rfl)]
    go_wp2_with fail
    refine (awake34_any _).mono ?_
    rintro e wX ⟨rfl, hbX⟩
    have hSX := HK.out _ hbX
    have HBX4 := Lib.hid hbX
    clear hbX hS0
    dsimp only
    refine hK.out _ _ hSX ?_
    intro hS1
    clear hK
    (try simp only [Act.put, List.setIfInBounds_toArray, List.set_cons_zero, List.set_cons_succ])
    refine wpAnyH_take (i := 1) (v := .bool true) (by simp only [List.getElem?_toArray, List.getElem?_cons_succ, List.getElem?_cons_zero] <;> rfl) (by kernel_rfl) (by kernel_rfl) (by kernel_rfl) (fun _ _ _ h => h) (Or.inl ⟨by rfl, ?_⟩) (by assumption) ?_
    · intro w hSw
      (try dsimp only at hSw)
      go_simp
      (try with_reducible rfl)
    (try simp only [Act.put, List.setIfInBounds_toArray, List.set_cons_zero, List.set_cons_succ])
    refine wpAnyH_take (i := 2) (v := .slice va vn vc) (by simp only [List.getElem?_toArray, List.getElem?_cons_succ, List.getElem?_cons_zero] <;> rfl) (by kernel_rfl) (by kernel_rfl) (by kernel_rfl) (fun _ _ _ h => h) (Or.inl ⟨by rfl, ?_⟩) (by assumption) ?_
    · intro w hSw
      (try dsimp only at hSw)
      go_simp
      (try with_reducible rfl)
    (try simp only [Act.put, List.setIfInBounds_toArray, List.set_cons_zero, List.set_cons_succ])
    refine wpAnyH_take (i := 3) (v := .string sE) (by simp only [List.getElem?_toArray, List.getElem?_cons_succ, List.getElem?_cons_zero] <;> rfl) (by kernel_rfl) (by kernel_rfl) (by kernel_rfl) (fun _ _ _ h => h) (Or.inl ⟨by rfl, ?_⟩) (by assumption) ?_
    · intro w hSw
      (try dsimp only at hSw)
      go_simp
      (try with_reducible rfl)
    (try simp only [Act.put, List.setIfInBounds_toArray, List.set_cons_zero, List.set_cons_succ])
    refine wpAnyH_take (i := 4) (v := .agg #[.int .i64 z0, .int .i64 z1, .slice za2 zn2 zc2, .int .i64 z3, .slice za4 zn4 zc4, .slice za5 zn5 zc5]) (by simp only [List.getElem?_toArray, List.getElem?_cons_succ, List.getElem?_cons_zero] <;> rfl) (by kernel_rfl) (by kernel_rfl) (by kernel_rfl) (fun _ _ _ h => h) (Or.inl ⟨by rfl, ?_⟩) (by assumption) ?_
    · intro w hSw
      (try dsimp only at hSw)
      go_simp
      (try with_reducible rfl)
    (try simp only [Act.put, List.setIfInBounds_toArray, List.set_cons_zero, List.set_cons_succ])
    refine wpAnyH_ready (rs := [5]) (by kernel_rfl) (by simp) ?_
    refine AllReadyH.cons (by simp only [List.getElem?_toArray, List.getElem?_cons_succ, List.getElem?_cons_zero] <;> rfl) (fun K hK => ?_) AllReadyH.nil
    rw [if_pos (by kernel_rfl)]
    go_wp2_with fail
    refine (rf_EncodeDatabase wX [.int .i64 z0, .int .i64 z1, .slice za2 zn2 zc2, .int .i64 z3, .slice za4 zn4 zc4, .slice za5 zn5 zc5] x (HRD.out _ (HB4.out.trans (HBX4.out.mono HB4.out.size))) (by rw [← HE.out]; have := HL.out; omega)).mono ?_
    rintro e wY ⟨vY, rfl, hrY, hbY⟩
    rw [← HE.out] at hrY
    obtain ⟨ya, yn, yc, rfl⟩ := hrY.any
    have HBY := Lib.hid (show Below X4.drew.heap.size X4.drew wY from HBX4.out.trans (hbY.mono HBX4.out.size))
    have hSY := HK.out _ HBY.out
    have cvY := convert_dat hrY.dat
    rw [← HSE.out] at cvY
    have HRY := Lib.hid hrY
    clear hrY hbY hS1 hSX
    dsimp only
    refine hK.out _ _ hSY ?_
    intro hS2
    clear hK
    refine held_turn3 (S' := fun Wv => (Wv.cell? ⟨W.heap.size, 0, none⟩ = some (.int .i64 z0) ∧ Wv.cell? ⟨W.heap.size, 1, none⟩ = some (.int .i64 z1) ∧ Wv.cell? ⟨W.heap.size, 2, none⟩ = some (.slice za2 zn2 zc2) ∧ Wv.cell? ⟨W.heap.size, 3, none⟩ = some (.int .i64 z3) ∧ Wv.cell? ⟨W.heap.size, 4, none⟩ = some (.slice za4 zn4 zc4) ∧ Wv.cell? ⟨W.heap.size, 5, none⟩ = some (.slice za5 zn5 zc5) ∧ Wv.cell? ⟨k4, 0, none⟩ = some (.int .i64 m0) ∧ Wv.cell? ⟨k4, 1, none⟩ = some (.int .i64 m1) ∧ Wv.cell? ⟨k4, 2, none⟩ = some (.slice ma2 mn2 mc2) ∧ Wv.cell? ⟨k4, 3, none⟩ = some (.int .i64 m3) ∧ Wv.cell? ⟨k4, 4, none⟩ = some (.slice ma4 mn4 mc4) ∧ Wv.cell? ⟨k4, 5, none⟩ = some (.slice ma5 mn5 mc5) ∧ Sem.run Try.prog (convert 33 9 (.slice va vn vc)) Wv = .ok (.string sE) Wv) ∧ Sem.run Try.prog (convert 33 9 (.slice ya yn yc)) Wv = .ok (.string sE) Wv) (fun _ h => h.1) _ _ _ _ ?_
    have hS3 := And.intro hSY cvY
    clear hS2 hSY cvY
    refine wpAnyH_take (i := 6) (v := .string sE) (by simp only [List.getElem?_toArray, List.getElem?_cons_succ, List.getElem?_cons_zero] <;> rfl) (by kernel_rfl) (by kernel_rfl) (by kernel_rfl) (fun _ _ _ h => h) (Or.inl ⟨by rfl, ?_⟩) (by assumption) ?_
    · intro w hSw
      (try dsimp only at hSw)
      go_simp
      (try with_reducible rfl)
    (try simp only [Act.put, List.setIfInBounds_toArray, List.set_cons_zero, List.set_cons_succ])
    refine wpAnyH_take (i := 7) (v := .bool true) (by simp only [List.getElem?_toArray, List.getElem?_cons_succ, List.getElem?_cons_zero] <;> rfl) (by kernel_rfl) (by kernel_rfl) (by kernel_rfl) (fun _ _ _ h => h) (Or.inl ⟨by rfl, ?_⟩) (by assumption) ?_
    · intro w hSw
      (try dsimp only at hSw)
      go_simp
      (try with_reducible rfl)
    (try simp only [Act.put, List.setIfInBounds_toArray, List.set_cons_zero, List.set_cons_succ])
    refine wpAnyH_take (i := 8) (v := .bool true) (by simp only [List.getElem?_toArray, List.getElem?_cons_succ, List.getElem?_cons_zero] <;> rfl) (by kernel_rfl) (by kernel_rfl) (by kernel_rfl) (fun _ _ _ h => h) (Or.inl ⟨by rfl, ?_⟩) (by assumption) ?_
    · intro w hSw
      (try dsimp only at hSw)
      go_simp
      (try with_reducible rfl)
    (try simp only [Act.put, List.setIfInBounds_toArray, List.set_cons_zero, List.set_cons_succ])
    refine wpAnyH_take (i := 9) (v := .bool true) (by simp only [List.getElem?_toArray, List.getElem?_cons_succ, List.getElem?_cons_zero] <;> rfl) (by kernel_rfl) (by kernel_rfl) (by kernel_rfl) (fun _ _ _ h => h) (Or.inl ⟨by rfl, ?_⟩) (by assumption) ?_
    · intro w hSw
      (try dsimp only at hSw)
      go_simp
      (try with_reducible rfl)
    (try simp only [Act.put, List.setIfInBounds_toArray, List.set_cons_zero, List.set_cons_succ])
    refine wpAnyH_take (i := 10) (v := .int .i64 0) (by simp only [List.getElem?_toArray, List.getElem?_cons_succ, List.getElem?_cons_zero] <;> rfl) (by kernel_rfl) (by kernel_rfl) (by kernel_rfl) (fun _ _ _ h => h) (Or.inl ⟨by rfl, ?_⟩) (by assumption) ?_
    · intro w hSw
      (try dsimp only at hSw)
      go_simp
      (try with_reducible rfl)
    (try simp only [Act.put, List.setIfInBounds_toArray, List.set_cons_zero, List.set_cons_succ])
    refine wpAnyH_take (i := 11) (v := .bool true) (by simp only [List.getElem?_toArray, List.getElem?_cons_succ, List.getElem?_cons_zero] <;> rfl) (by kernel_rfl) (by kernel_rfl) (by kernel_rfl) (fun _ _ _ h => h) (Or.inl ⟨by rfl, ?_⟩) (by assumption) ?_
    · intro w hSw
      (try dsimp only at hSw)
      go_simp
      (try with_reducible rfl)
    (try simp only [Act.put, List.setIfInBounds_toArray, List.set_cons_zero, List.set_cons_succ])
    refine wpAnyH_take (i := 12) (v := .bool true) (by simp only [List.getElem?_toArray, List.getElem?_cons_succ, List.getElem?_cons_zero] <;> rfl) (by kernel_rfl) (by kernel_rfl) (by kernel_rfl) (fun _ _ _ h => h) (Or.inl ⟨by rfl, ?_⟩) (by assumption) ?_
    · intro w hSw
      (try dsimp only at hSw)
      go_simp
      (try with_reducible rfl)
    (try simp only [Act.put, List.setIfInBounds_toArray, List.set_cons_zero, List.set_cons_succ])
    refine wpAnyH_take (i := 13) (v := .bool true) (by simp only [List.getElem?_toArray, List.getElem?_cons_succ, List.getElem?_cons_zero] <;> rfl) (by kernel_rfl) (by kernel_rfl) (by kernel_rfl) (fun _ _ _ h => h) (Or.inl ⟨by rfl, ?_⟩) (by assumption) ?_
    · intro w hSw
      (try dsimp only at hSw)
      go_simp
      (try with_reducible rfl)
    (try simp only [Act.put, List.setIfInBounds_toArray, List.set_cons_zero, List.set_cons_succ])
    refine wpAnyH_take (i := 14) (v := .agg #[.int .i64 z0, .int .i64 z1, .slice za2 zn2 zc2, .int .i64 z3, .slice za4 zn4 zc4, .slice za5 zn5 zc5]) (by simp only [List.getElem?_toArray, List.getElem?_cons_succ, List.getElem?_cons_zero] <;> rfl) (by kernel_rfl) (by kernel_rfl) (by kernel_rfl) (fun _ _ _ h => h) (Or.inl ⟨by rfl, ?_⟩) (by assumption) ?_
    · intro w hSw
      (try dsimp only at hSw)
      go_simp
      (try with_reducible rfl)
    (try simp only [Act.put, List.setIfInBounds_toArray, List.set_cons_zero, List.set_cons_succ])
    refine wpAnyH_take (i := 15) (v := .agg #[.int .i64 m0, .int .i64 m1, .slice ma2 mn2 mc2, .int .i64 m3, .slice ma4 mn4 mc4, .slice ma5 mn5 mc5]) (by simp only [List.getElem?_toArray, List.getElem?_cons_succ, List.getElem?_cons_zero] <;> rfl) (by kernel_rfl) (by kernel_rfl) (by kernel_rfl) (fun _ _ _ h => h) (Or.inl ⟨by rfl, ?_⟩) (by assumption) ?_
    · intro w hSw
      (try dsimp only at hSw)
      go_simp
      (try with_reducible rfl)
    (try simp only [Act.put, List.setIfInBounds_toArray, List.set_cons_zero, List.set_cons_succ])
    refine wpAnyH_ready (rs := [16]) (by kernel_rfl) (by simp) ?_
    refine AllReadyH.cons (by simp only [List.getElem?_toArray, List.getElem?_cons_succ, List.getElem?_cons_zero] <;> rfl) (fun K hK => ?_) AllReadyH.nil
    rw [if_pos (by kernel_rfl)]
    go_wp2_with fail
    refine (same_Database wY [.int .i64 z0, .int .i64 z1, .slice za2 zn2 zc2, .int .i64 z3, .slice za4 zn4 zc4, .slice za5 zn5 zc5] [.int .i64 m0, .int .i64 m1, .slice ma2 mn2 mc2, .int .i64 m3, .slice ma4 mn4 mc4, .slice ma5 mn5 mc5] x (HRD.out _ (HB4.out.trans (HBY.out.mono HB4.out.size))) (Rd.more _ (fun b hb => Nat.lt_of_lt_of_le hb HBY.out.size) (rd_low HBY.out (Nat.le_refl _) HX4R.out)) (by rw [← HE.out]; have := HL.out; omega)).mono ?_
    rintro e wZ ⟨rfl, hbZ⟩
    have hSZ := HK.out _ (HBY.out.trans (hbZ.mono HBY.out.size))
    have cvZ := convert_dat (HRY.out.keep hbZ).dat
    rw [← HSE.out] at cvZ
    have HFIN := Lib.hid (show Below W.heap.size W wZ from HB0.out.trans ((HB4.out.trans ((HBY.out.trans (hbZ.mono HBY.out.size)).mono HB4.out.size)).mono HB0.out.size))
    clear hbZ hS3
    dsimp only
    refine hK.out _ _ ⟨hSZ, cvZ⟩ ?_
    intro hS4
    clear hK
    (try simp only [Act.put, List.setIfInBounds_toArray, List.set_cons_zero, List.set_cons_succ])
    refine wpAnyH_take (i := 17) (v := .bool true) (by simp only [List.getElem?_toArray, List.getElem?_cons_succ, List.getElem?_cons_zero] <;> rfl) (by kernel_rfl) (by kernel_rfl) (by kernel_rfl) (fun _ _ _ h => h) (Or.inl ⟨by rfl, ?_⟩) (by assumption) ?_
    · intro w hSw
      (try dsimp only at hSw)
      go_simp
      (try with_reducible rfl)
    (try simp only [Act.put, List.setIfInBounds_toArray, List.set_cons_zero, List.set_cons_succ])
    refine wpAnyH_take (i := 18) (v := ?_) (by simp only [List.getElem?_toArray, List.getElem?_cons_succ, List.getElem?_cons_zero] <;> rfl) (by kernel_rfl) (by kernel_rfl) (by kernel_rfl) (fun _ _ _ h => h) (Or.inl ⟨by rfl, ?_⟩) (by assumption) ?_
    rotate_left
    · intro w hSw
      (try dsimp only at hSw)
      go_simp
      (try with_reducible rfl)
    (try simp only [Act.put, List.setIfInBounds_toArray, List.set_cons_zero, List.set_cons_succ])
    refine wpAnyH_done (by kernel_rfl) ?_ _
    refine NoPanic.normal ?_
    go_wp2
    go_ret
    exact ⟨rfl, HFIN.out⟩
end Go.Proofs.Ytfppjpmflpaffaa
