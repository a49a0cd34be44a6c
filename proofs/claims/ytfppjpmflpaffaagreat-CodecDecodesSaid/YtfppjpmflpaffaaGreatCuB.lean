/-
  Law 34: the walk of CodecDecodes. Printed by gen_cu.py.
-/
import Derived.Test.YtfppjpmflpaffaaGreatCuA
namespace Go.Proofs.YtfppjpmflpaffaaGreat
open Go.RowKit
set_option linter.unusedVariables false
set_option linter.unusedSimpArgs false

set_option maxRecDepth 100000 in
set_option maxHeartbeats 16000000 in
theorem decodes34_walk {W : World} (v : Value) (B : List UInt8) (o : rBy.rd W (· < W.heap.size) [v] B) : Calls Tryz.prog 4 #[v] W (Holds W) := by
  have HD := Lib.hid (Dat.of_rd o)
  obtain ⟨va, vn, vc, hvn, rfl⟩ : ∃ a n c, n = B.length ∧ v = .slice a n c := by obtain ⟨a, c, e⟩ := HD.out.len; exact ⟨a, _, c, rfl, e⟩
  have HVN := Lib.hid hvn
  have hn0 : 0 ≤ (vn : Int) := by omega
  clear o hvn
  go_enter Tryz.func4, Tryz.ntmps4
  by_cases hc : 3000 < vn
  · have g1 : decide ((3000 : Int) < (vn : Int)) = true := decide_eq_true (by omega)
    have g2 : decide (3000 < vn) = true := decide_eq_true hc
    go_wp2_with fail
    refine (awake34_any _).mono ?_
    rintro e w5 ⟨rfl, hb5⟩
    have HFIN := Lib.hid hb5
    clear hb5
    go_wp2
    go_ret
    exact ⟨rfl, HFIN.out⟩
  have g1 : decide ((3000 : Int) < (vn : Int)) = false := decide_eq_false (by omega)
  have g2 : decide (3000 < vn) = false := decide_eq_false hc
  have HBB := Lib.hid (show B.length ≤ 3000 by have := HVN.out; omega)
  clear hc
  obtain ⟨x, sn, hx⟩ : ∃ x sn, dec tCommand (.ok B) = (x, sn) := ⟨_, _, rfl⟩
  obtain ⟨y, tn, hy⟩ : ∃ y tn, dec tDatabase (.ok B) = (y, tn) := ⟨_, _, rfl⟩
  obtain ⟨E, hE⟩ : ∃ E, E = endE sn := ⟨_, rfl⟩
  obtain ⟨G, hG⟩ : ∃ G, G = endE tn := ⟨_, rfl⟩
  have HX := Lib.hid hx
  have HY := Lib.hid hy
  have HE := Lib.hid hE
  have HG := Lib.hid hG
  clear hE hG hx hy
  go_wp2_with fail
  refine (cd_DecodeCommand W _ B HD.out (by have := HBB.out; unfold maxLen; omega) (mod_small tCommand B (by have := HBB.out; omega)) x sn HX.out).mono ?_
  rintro e w1 ⟨cs, he, h1, h2, hb⟩
  have hr := out_rd h1 h2
  obtain ⟨z0, z1, za2, zn2, zc2, z3, z4, z5, z6, z7, z8, z9, rfl⟩ := shape_Command (id hr)
  rw [← HE.out] at he
  obtain rfl : e = .returned (.tuple #[.agg #[.int .i64 z0, .int .i64 z1, .slice za2 zn2 zc2, .int .i64 z3, .int .i64 z4, .int .i64 z5, .string z6, .int .i64 z7, .int .i64 z8, .int .i64 z9], .int .i64 E]) := he
  obtain ⟨X1, hX⟩ : ∃ X, X = w1.alloc (.cells #[.int .i64 z0, .int .i64 z1, .slice za2 zn2 zc2, .int .i64 z3, .int .i64 z4, .int .i64 z5, .string z6, .int .i64 z7, .int .i64 z8, .int .i64 z9] 47) := ⟨_, rfl⟩
  obtain ⟨k1, hk⟩ : ∃ k, k = w1.heap.size := ⟨_, rfl⟩
  have hbx : Below w1.heap.size w1 X1 := by rw [hX]; exact (Below.refl _ _).alloc (Nat.le_refl _) _
  have HB1 := Lib.hid (show Below W.heap.size W X1 from hb.trans (hbx.mono hb.size))
  have HS1 := Lib.hid (show Below W.heap.size W X1 from hb.trans (hbx.mono hb.size))
  have HR1 := Lib.hid (show ∀ u, Below X1.heap.size X1 u → (Ty.rd tCommand).rd u (· < u.heap.size) [.int .i64 z0, .int .i64 z1, .slice za2 zn2 zc2, .int .i64 z3, .int .i64 z4, .int .i64 z5, .string z6, .int .i64 z7, .int .i64 z8, .int .i64 z9] (outT tCommand x sn) from fun u hu => by
    have hs : w1.heap.size ≤ X1.heap.size := hbx.size
    have hu' : Below w1.heap.size w1 u := hbx.trans (hu.mono hs)
    exact Rd.more _ (fun b hb => Nat.lt_of_lt_of_le hb.2 hu'.size) (Rd.keep _ (fun b hb hl => hu'.block b hl) hu'.size (rd_shrink tCommand (G := fun b => W.heap.size ≤ b ∧ b < w1.heap.size) (fun b hb hl => ⟨hb, hl⟩) hr)))
  have HC1 := Lib.hid (show ∀ u, Below X1.heap.size X1 u → ∀ (j : Nat) z, ([.int .i64 z0, .int .i64 z1, .slice za2 zn2 zc2, .int .i64 z3, .int .i64 z4, .int .i64 z5, .string z6, .int .i64 z7, .int .i64 z8, .int .i64 z9] : List Value)[j]? = some z → u.cell? ⟨k1, j, none⟩ = some z from fun u hu j z hz => by
    refine (hu.cell (p := ⟨k1, j, none⟩) (show k1 < X1.heap.size by rw [hX, hk]; simp)).trans ?_
    rw [hX, hk]
    have := new_cells w1 [.int .i64 z0, .int .i64 z1, .slice za2 zn2 zc2, .int .i64 z3, .int .i64 z4, .int .i64 z5, .string z6, .int .i64 z7, .int .i64 z8, .int .i64 z9] 47 j z hz
    rw [Addr.add_mid, Nat.zero_add] at this; exact this)
  have HXX1 := Lib.hid hX
  have HKK1 := Lib.hid hk
  clear hr h1 h2 hb hbx hX hk
  go_wp2_with fail
  rw [← HKK1.out, ← HXX1.out]
  refine (cd_DecodeDatabase X1 _ B (HD.out.keep HB1.out) (by have := HBB.out; unfold maxLen; omega) (mod_small tDatabase B (by have := HBB.out; omega)) y tn HY.out).mono ?_
  rintro e w2 ⟨cs, he, h1, h2, hb⟩
  have hr := out_rd h1 h2
  obtain ⟨m0, m1, ma2, mn2, mc2, m3, ma4, mn4, mc4, ma5, mn5, mc5, rfl⟩ := shape_Database (id hr)
  rw [← HG.out] at he
  obtain rfl : e = .returned (.tuple #[.agg #[.int .i64 m0, .int .i64 m1, .slice ma2 mn2 mc2, .int .i64 m3, .slice ma4 mn4 mc4, .slice ma5 mn5 mc5], .int .i64 G]) := he
  obtain ⟨X2, hX⟩ : ∃ X, X = w2.alloc (.cells #[.int .i64 m0, .int .i64 m1, .slice ma2 mn2 mc2, .int .i64 m3, .slice ma4 mn4 mc4, .slice ma5 mn5 mc5] 29) := ⟨_, rfl⟩
  obtain ⟨k2, hk⟩ : ∃ k, k = w2.heap.size := ⟨_, rfl⟩
  have hbx : Below w2.heap.size w2 X2 := by rw [hX]; exact (Below.refl _ _).alloc (Nat.le_refl _) _
  have HB2 := Lib.hid (show Below W.heap.size W X2 from HB1.out.trans ((hb.trans (hbx.mono hb.size)).mono HB1.out.size))
  have HS2 := Lib.hid (show Below X1.heap.size X1 X2 from hb.trans (hbx.mono hb.size))
  have HR2 := Lib.hid (show ∀ u, Below X2.heap.size X2 u → (Ty.rd tDatabase).rd u (· < u.heap.size) [.int .i64 m0, .int .i64 m1, .slice ma2 mn2 mc2, .int .i64 m3, .slice ma4 mn4 mc4, .slice ma5 mn5 mc5] (outT tDatabase y tn) from fun u hu => by
    have hs : w2.heap.size ≤ X2.heap.size := hbx.size
    have hu' : Below w2.heap.size w2 u := hbx.trans (hu.mono hs)
    exact Rd.more _ (fun b hb => Nat.lt_of_lt_of_le hb.2 hu'.size) (Rd.keep _ (fun b hb hl => hu'.block b hl) hu'.size (rd_shrink tDatabase (G := fun b => X1.heap.size ≤ b ∧ b < w2.heap.size) (fun b hb hl => ⟨hb, hl⟩) hr)))
  have HC2 := Lib.hid (show ∀ u, Below X2.heap.size X2 u → ∀ (j : Nat) z, ([.int .i64 m0, .int .i64 m1, .slice ma2 mn2 mc2, .int .i64 m3, .slice ma4 mn4 mc4, .slice ma5 mn5 mc5] : List Value)[j]? = some z → u.cell? ⟨k2, j, none⟩ = some z from fun u hu j z hz => by
    refine (hu.cell (p := ⟨k2, j, none⟩) (show k2 < X2.heap.size by rw [hX, hk]; simp)).trans ?_
    rw [hX, hk]
    have := new_cells w2 [.int .i64 m0, .int .i64 m1, .slice ma2 mn2 mc2, .int .i64 m3, .slice ma4 mn4 mc4, .slice ma5 mn5 mc5] 29 j z hz
    rw [Addr.add_mid, Nat.zero_add] at this; exact this)
  have HXX2 := Lib.hid hX
  have HKK2 := Lib.hid hk
  clear hr h1 h2 hb hbx hX hk
  obtain ⟨sB, hsB⟩ : ∃ sB : ByteArray, sB = ⟨B.toArray⟩ := ⟨_, rfl⟩
  have HSB := Lib.hid hsB
  clear hsB
  have HK := Lib.hid (show ∀ w', Below X2.drew.heap.size X2.drew w' → (w'.cell? ⟨k1, 0, none⟩ = some (.int .i64 z0) ∧ w'.cell? ⟨k1, 1, none⟩ = some (.int .i64 z1) ∧ w'.cell? ⟨k1, 2, none⟩ = some (.slice za2 zn2 zc2) ∧ w'.cell? ⟨k1, 3, none⟩ = some (.int .i64 z3) ∧ w'.cell? ⟨k1, 4, none⟩ = some (.int .i64 z4) ∧ w'.cell? ⟨k1, 5, none⟩ = some (.int .i64 z5) ∧ w'.cell? ⟨k1, 6, none⟩ = some (.string z6) ∧ w'.cell? ⟨k1, 7, none⟩ = some (.int .i64 z7) ∧ w'.cell? ⟨k1, 8, none⟩ = some (.int .i64 z8) ∧ w'.cell? ⟨k1, 9, none⟩ = some (.int .i64 z9) ∧ w'.cell? ⟨k2, 0, none⟩ = some (.int .i64 m0) ∧ w'.cell? ⟨k2, 1, none⟩ = some (.int .i64 m1) ∧ w'.cell? ⟨k2, 2, none⟩ = some (.slice ma2 mn2 mc2) ∧ w'.cell? ⟨k2, 3, none⟩ = some (.int .i64 m3) ∧ w'.cell? ⟨k2, 4, none⟩ = some (.slice ma4 mn4 mc4) ∧ w'.cell? ⟨k2, 5, none⟩ = some (.slice ma5 mn5 mc5) ∧ Sem.run Tryz.prog (convert 31 9 (.slice va vn vc)) w' = .ok (.string sB) w') from fun w' hb => by
    have hb : Below X2.heap.size X2 w' := (Below.refl _ _).drew.trans hb
    have h1 : Below X1.heap.size X1 w' := HS2.out.trans (hb.mono HS2.out.size)
    have cv := convert_dat (HD.out.keep (HB2.out.trans (hb.mono HB2.out.size)))
    rw [← HSB.out] at cv
    exact ⟨HC1.out _ h1 0 _ rfl, HC1.out _ h1 1 _ rfl, HC1.out _ h1 2 _ rfl, HC1.out _ h1 3 _ rfl, HC1.out _ h1 4 _ rfl, HC1.out _ h1 5 _ rfl, HC1.out _ h1 6 _ rfl, HC1.out _ h1 7 _ rfl, HC1.out _ h1 8 _ rfl, HC1.out _ h1 9 _ rfl, HC2.out _ hb 0 _ rfl, HC2.out _ hb 1 _ rfl, HC2.out _ hb 2 _ rfl, HC2.out _ hb 3 _ rfl, HC2.out _ hb 4 _ rfl, HC2.out _ hb 5 _ rfl, cv⟩)
  have HRC := Lib.hid (show E = 0 → ∀ u, Below X2.drew.heap.size X2.drew u → (Ty.rd tCommand).rd u (· < u.heap.size) [.int .i64 z0, .int .i64 z1, .slice za2 zn2 zc2, .int .i64 z3, .int .i64 z4, .int .i64 z5, .string z6, .int .i64 z7, .int .i64 z8, .int .i64 z9] x from fun h u hu => by
    have hb : Below X2.heap.size X2 u := (Below.refl _ _).drew.trans hu
    have := HR1.out u (HS2.out.trans (hb.mono HS2.out.size))
    unfold outT at this
    rwa [if_pos (show endE sn = 0 by rw [← HE.out]; exact h)] at this)
  have HRD := Lib.hid (show G = 0 → ∀ u, Below X2.drew.heap.size X2.drew u → (Ty.rd tDatabase).rd u (· < u.heap.size) [.int .i64 m0, .int .i64 m1, .slice ma2 mn2 mc2, .int .i64 m3, .slice ma4 mn4 mc4, .slice ma5 mn5 mc5] y from fun h u hu => by
    have hb : Below X2.heap.size X2 u := (Below.refl _ _).drew.trans hu
    have := HR2.out u hb
    unfold outT at this
    rwa [if_pos (show endE tn = 0 by rw [← HG.out]; exact h)] at this)
  have HEC := Lib.hid (show E = 0 → B = enc tCommand x from fun h => endE_zero HX.out (by rw [← HE.out]; exact h))
  have HED := Lib.hid (show G = 0 → B = enc tDatabase y from fun h => endE_zero HY.out (by rw [← HG.out]; exact h))
  have HB2d := Lib.hid (show Below W.heap.size W X2.drew from HB2.out.drew)
  clear HC1 HC2 HR1 HR2
  go_wp2_with fail
  rw [← HKK2.out, ← HXX2.out]
  have hS0' := HK.out _ (Below.refl _ _)
  refine wp_region_noPanic ?_
  refine wp_region_held_drew (S := fun Wv => Wv.cell? ⟨k1, 0, none⟩ = some (.int .i64 z0) ∧ Wv.cell? ⟨k1, 1, none⟩ = some (.int .i64 z1) ∧ Wv.cell? ⟨k1, 2, none⟩ = some (.slice za2 zn2 zc2) ∧ Wv.cell? ⟨k1, 3, none⟩ = some (.int .i64 z3) ∧ Wv.cell? ⟨k1, 4, none⟩ = some (.int .i64 z4) ∧ Wv.cell? ⟨k1, 5, none⟩ = some (.int .i64 z5) ∧ Wv.cell? ⟨k1, 6, none⟩ = some (.string z6) ∧ Wv.cell? ⟨k1, 7, none⟩ = some (.int .i64 z7) ∧ Wv.cell? ⟨k1, 8, none⟩ = some (.int .i64 z8) ∧ Wv.cell? ⟨k1, 9, none⟩ = some (.int .i64 z9) ∧ Wv.cell? ⟨k2, 0, none⟩ = some (.int .i64 m0) ∧ Wv.cell? ⟨k2, 1, none⟩ = some (.int .i64 m1) ∧ Wv.cell? ⟨k2, 2, none⟩ = some (.slice ma2 mn2 mc2) ∧ Wv.cell? ⟨k2, 3, none⟩ = some (.int .i64 m3) ∧ Wv.cell? ⟨k2, 4, none⟩ = some (.slice ma4 mn4 mc4) ∧ Wv.cell? ⟨k2, 5, none⟩ = some (.slice ma5 mn5 mc5) ∧ Sem.run Tryz.prog (convert 31 9 (.slice va vn vc)) Wv = .ok (.string sB) Wv) (by kernel_rfl) hS0' ?_
  intro hS0
  clear hS0'
  refine wpAnyH_ready (rs := [0]) (by kernel_rfl) (by simp) ?_
  refine AllReadyH.cons (by simp only [List.getElem?_toArray, List.getElem?_cons_succ, List.getElem?_cons_zero] <;> rfl) (fun K hK => ?_) AllReadyH.nil
  rw [if_pos (by kernel_rfl)]
  go_wp2_with fail
  refine (awake34_any _).mono ?_
  rintro e w3 ⟨rfl, hb3⟩
  have HB3 := Lib.hid hb3
  have hS1 := HK.out _ hb3
  clear hb3 hS0
  dsimp only
  refine hK.out _ _ hS1 ?_
  clear hS1
  intro hS1
  clear hK
  (try simp only [Act.put, List.setIfInBounds_toArray, List.set_cons_zero, List.set_cons_succ])
  refine wpAnyH_take (i := 1) (v := .bool true) (by simp only [List.getElem?_toArray, List.getElem?_cons_succ, List.getElem?_cons_zero] <;> rfl) (by kernel_rfl) (by kernel_rfl) (by kernel_rfl) (fun _ _ _ h => h) (Or.inl ⟨by rfl, ?_⟩) (by assumption) ?_
  · intro w hSw
    (try dsimp only at hSw)
    go_simp
    (try with_reducible rfl)
  (try simp only [Act.put, List.setIfInBounds_toArray, List.set_cons_zero, List.set_cons_succ])
  refine wpAnyH_take (i := 2) (v := .slice va vn vc) (by simp only [List.getElem?_toArray, List.getElem?_cons_succ, List.getElem?_cons_zero] <;> rfl) (by kernel_rfl) (by kernel_rfl) (by kernel_rfl) (fun _ _ _ h => h) (Or.inl ⟨by rfl, ?_⟩) (by assumption) ?_
  · intro w hSw
    (try dsimp only at hSw)
    go_simp
    (try with_reducible rfl)
  (try simp only [Act.put, List.setIfInBounds_toArray, List.set_cons_zero, List.set_cons_succ])
  refine wpAnyH_ready (rs := [3]) (by kernel_rfl) (by simp) ?_
  refine AllReadyH.cons (by simp only [List.getElem?_toArray, List.getElem?_cons_succ, List.getElem?_cons_zero] <;> rfl) (fun K hK => ?_) AllReadyH.nil
  rw [if_pos (by kernel_rfl)]
  go_wp2_with fail
  refine (decodes34 _ _ B (HD.out.keep (HB2d.out.trans (HB3.out.mono HB2d.out.size))) (by have := HBB.out; omega)).mono ?_
  rintro e w4 ⟨rfl, hb4⟩
  have HB4 := Lib.hid (show Below X2.drew.heap.size X2.drew w4 from HB3.out.trans (hb4.mono HB3.out.size))
  have hS2 := HK.out _ HB4.out
  clear hb4 hS1
  dsimp only
  refine hK.out _ _ hS2 ?_
  clear hS2
  intro hS2
  clear hK
  (try simp only [Act.put, List.setIfInBounds_toArray, List.set_cons_zero, List.set_cons_succ])
  refine wpAnyH_take (i := 4) (v := .bool true) (by simp only [List.getElem?_toArray, List.getElem?_cons_succ, List.getElem?_cons_zero] <;> rfl) (by kernel_rfl) (by kernel_rfl) (by kernel_rfl) (fun _ _ _ h => h) (Or.inl ⟨by rfl, ?_⟩) (by assumption) ?_
  · intro w hSw
    (try dsimp only at hSw)
    go_simp
    (try with_reducible rfl)
  (try simp only [Act.put, List.setIfInBounds_toArray, List.set_cons_zero, List.set_cons_succ])
  refine wpAnyH_take (i := 5) (v := .bool true) (by simp only [List.getElem?_toArray, List.getElem?_cons_succ, List.getElem?_cons_zero] <;> rfl) (by kernel_rfl) (by kernel_rfl) (by kernel_rfl) (fun _ _ _ h => h) (Or.inl ⟨by rfl, ?_⟩) (by assumption) ?_
  · intro w hSw
    (try dsimp only at hSw)
    go_simp
    (try with_reducible rfl)
  (try simp only [Act.put, List.setIfInBounds_toArray, List.set_cons_zero, List.set_cons_succ])
  refine wpAnyH_take (i := 6) (v := .int .i64 E) (by simp only [List.getElem?_toArray, List.getElem?_cons_succ, List.getElem?_cons_zero] <;> rfl) (by kernel_rfl) (by kernel_rfl) (by kernel_rfl) (fun _ _ _ h => h) (Or.inl ⟨by rfl, ?_⟩) (by assumption) ?_
  · intro w hSw
    (try dsimp only at hSw)
    go_simp
    (try with_reducible rfl)
  (try simp only [Act.put, List.setIfInBounds_toArray, List.set_cons_zero, List.set_cons_succ])
  by_cases hg : E = 0
  · have g5 : (E == 0) = true := beq_iff_eq.2 hg
    have g6 : (E != 0) = false := by rw [bne, g5]; rfl
    have HE0 := Lib.hid hg
    clear hg
    refine wpAnyH_take (i := 7) (v := .bool false) (by simp only [List.getElem?_toArray, List.getElem?_cons_succ, List.getElem?_cons_zero] <;> rfl) (by kernel_rfl) (by kernel_rfl) (by kernel_rfl) (fun _ _ _ h => h) (Or.inl ⟨by rfl, ?_⟩) (by assumption) ?_
    · intro w hSw
      (try dsimp only at hSw)
      go_simp
      (try with_reducible rfl)
    (try simp only [Act.put, List.setIfInBounds_toArray, List.set_cons_zero, List.set_cons_succ])
    refine wpAnyH_take (i := 8) (v := .bool false) (by simp only [List.getElem?_toArray, List.getElem?_cons_succ, List.getElem?_cons_zero] <;> rfl) (by kernel_rfl) (by kernel_rfl) (by kernel_rfl) (fun _ _ _ h => h) (Or.inl ⟨by rfl, ?_⟩) (by assumption) ?_
    · intro w hSw
      (try dsimp only at hSw)
      go_simp
      (try with_reducible rfl)
    (try simp only [Act.put, List.setIfInBounds_toArray, List.set_cons_zero, List.set_cons_succ])
    refine wpAnyH_take (i := 9) (v := .agg #[.int .i64 z0, .int .i64 z1, .slice za2 zn2 zc2, .int .i64 z3, .int .i64 z4, .int .i64 z5, .string z6, .int .i64 z7, .int .i64 z8, .int .i64 z9]) (by simp only [List.getElem?_toArray, List.getElem?_cons_succ, List.getElem?_cons_zero] <;> rfl) (by kernel_rfl) (by kernel_rfl) (by kernel_rfl) (fun _ _ _ h => h) (Or.inl ⟨by rfl, ?_⟩) (by assumption) ?_
    · intro w hSw
      (try dsimp only at hSw)
      go_simp
      (try with_reducible rfl)
    (try simp only [Act.put, List.setIfInBounds_toArray, List.set_cons_zero, List.set_cons_succ])
    refine wpAnyH_take (i := 12) (v := .slice va vn vc) (by simp only [List.getElem?_toArray, List.getElem?_cons_succ, List.getElem?_cons_zero] <;> rfl) (by kernel_rfl) (by kernel_rfl) (by kernel_rfl) (fun _ _ _ h => h) (Or.inl ⟨by rfl, ?_⟩) (by assumption) ?_
    · intro w hSw
      (try dsimp only at hSw)
      go_simp
      (try with_reducible rfl)
    (try simp only [Act.put, List.setIfInBounds_toArray, List.set_cons_zero, List.set_cons_succ])
    refine wpAnyH_take (i := 13) (v := .string sB) (by simp only [List.getElem?_toArray, List.getElem?_cons_succ, List.getElem?_cons_zero] <;> rfl) (by kernel_rfl) (by kernel_rfl) (by kernel_rfl) (fun _ _ _ h => h) (Or.inl ⟨by rfl, ?_⟩) (by assumption) ?_
    · intro w hSw
      (try dsimp only at hSw)
      go_simp
      (try with_reducible rfl)
    (try simp only [Act.put, List.setIfInBounds_toArray, List.set_cons_zero, List.set_cons_succ])
    refine wpAnyH_ready (rs := [10]) (by kernel_rfl) (by simp) ?_
    refine AllReadyH.cons (by simp only [List.getElem?_toArray, List.getElem?_cons_succ, List.getElem?_cons_zero] <;> rfl) (fun K hK => ?_) AllReadyH.nil
    rw [if_pos (by kernel_rfl)]
    go_wp2_with fail
    refine (cd_EncodeCommand w4 [.int .i64 z0, .int .i64 z1, .slice za2 zn2 zc2, .int .i64 z3, .int .i64 z4, .int .i64 z5, .string z6, .int .i64 z7, .int .i64 z8, .int .i64 z9] x (HRC.out HE0.out _ HB4.out) (by rw [← HEC.out HE0.out]; have := HBB.out; omega)).mono ?_
    rintro e w5 ⟨v5, rfl, hr5, hb5⟩
    rw [← HEC.out HE0.out] at hr5
    obtain ⟨ta, tn', tc, rfl⟩ := hr5.any
    have HB5 := Lib.hid (show Below X2.drew.heap.size X2.drew w5 from HB4.out.trans (hb5.mono HB4.out.size))
    have hSJ := HK.out _ HB5.out
    have cv5 := convert_dat hr5.dat
    rw [← HSB.out] at cv5
    have HR5 := Lib.hid hr5.dat
    clear hr5 hb5 hS2
    dsimp only
    refine hK.out _ _ hSJ ?_
    clear hSJ
    intro hSJ
    clear hK
    refine held_turn3 (S' := fun Wv => (Wv.cell? ⟨k1, 0, none⟩ = some (.int .i64 z0) ∧ Wv.cell? ⟨k1, 1, none⟩ = some (.int .i64 z1) ∧ Wv.cell? ⟨k1, 2, none⟩ = some (.slice za2 zn2 zc2) ∧ Wv.cell? ⟨k1, 3, none⟩ = some (.int .i64 z3) ∧ Wv.cell? ⟨k1, 4, none⟩ = some (.int .i64 z4) ∧ Wv.cell? ⟨k1, 5, none⟩ = some (.int .i64 z5) ∧ Wv.cell? ⟨k1, 6, none⟩ = some (.string z6) ∧ Wv.cell? ⟨k1, 7, none⟩ = some (.int .i64 z7) ∧ Wv.cell? ⟨k1, 8, none⟩ = some (.int .i64 z8) ∧ Wv.cell? ⟨k1, 9, none⟩ = some (.int .i64 z9) ∧ Wv.cell? ⟨k2, 0, none⟩ = some (.int .i64 m0) ∧ Wv.cell? ⟨k2, 1, none⟩ = some (.int .i64 m1) ∧ Wv.cell? ⟨k2, 2, none⟩ = some (.slice ma2 mn2 mc2) ∧ Wv.cell? ⟨k2, 3, none⟩ = some (.int .i64 m3) ∧ Wv.cell? ⟨k2, 4, none⟩ = some (.slice ma4 mn4 mc4) ∧ Wv.cell? ⟨k2, 5, none⟩ = some (.slice ma5 mn5 mc5) ∧ Sem.run Tryz.prog (convert 31 9 (.slice va vn vc)) Wv = .ok (.string sB) Wv) ∧ Sem.run Tryz.prog (convert 31 9 (.slice ta tn' tc)) Wv = .ok (.string sB) Wv) (fun _ h => h.1) _ _ _ _ ?_
    have hS3 := And.intro hSJ cv5
    clear hSJ cv5
    refine wpAnyH_take (i := 11) (v := .string sB) (by simp only [List.getElem?_toArray, List.getElem?_cons_succ, List.getElem?_cons_zero] <;> rfl) (by kernel_rfl) (by kernel_rfl) (by kernel_rfl) (fun _ _ _ h => h) (Or.inl ⟨by rfl, ?_⟩) (by assumption) ?_
    · intro w hSw
      (try dsimp only at hSw)
      go_simp
      (try with_reducible rfl)
    (try simp only [Act.put, List.setIfInBounds_toArray, List.set_cons_zero, List.set_cons_succ])
    refine wpAnyH_take (i := 14) (v := .bool true) (by simp only [List.getElem?_toArray, List.getElem?_cons_succ, List.getElem?_cons_zero] <;> rfl) (by kernel_rfl) (by kernel_rfl) (by kernel_rfl) (fun _ _ _ h => h) (Or.inl ⟨by rfl, ?_⟩) (by assumption) ?_
    · intro w hSw
      (try dsimp only at hSw)
      go_simp
      (try with_reducible rfl)
    (try simp only [Act.put, List.setIfInBounds_toArray, List.set_cons_zero, List.set_cons_succ])
    refine wpAnyH_take (i := 15) (v := .bool true) (by simp only [List.getElem?_toArray, List.getElem?_cons_succ, List.getElem?_cons_zero] <;> rfl) (by kernel_rfl) (by kernel_rfl) (by kernel_rfl) (fun _ _ _ h => h) (Or.inl ⟨by rfl, ?_⟩) (by assumption) ?_
    · intro w hSw
      (try dsimp only at hSw)
      go_simp
      (try with_reducible rfl)
    (try simp only [Act.put, List.setIfInBounds_toArray, List.set_cons_zero, List.set_cons_succ])
    refine wpAnyH_take (i := 16) (v := .bool true) (by simp only [List.getElem?_toArray, List.getElem?_cons_succ, List.getElem?_cons_zero] <;> rfl) (by kernel_rfl) (by kernel_rfl) (by kernel_rfl) (fun _ _ _ h => h) (Or.inl ⟨by rfl, ?_⟩) (by assumption) ?_
    · intro w hSw
      (try dsimp only at hSw)
      go_simp
      (try with_reducible rfl)
    (try simp only [Act.put, List.setIfInBounds_toArray, List.set_cons_zero, List.set_cons_succ])
    refine wpAnyH_take (i := 17) (v := .bool true) (by simp only [List.getElem?_toArray, List.getElem?_cons_succ, List.getElem?_cons_zero] <;> rfl) (by kernel_rfl) (by kernel_rfl) (by kernel_rfl) (fun _ _ _ h => h) (Or.inl ⟨by rfl, ?_⟩) (by assumption) ?_
    · intro w hSw
      (try dsimp only at hSw)
      go_simp
      (try with_reducible rfl)
    (try simp only [Act.put, List.setIfInBounds_toArray, List.set_cons_zero, List.set_cons_succ])
    refine wpAnyH_take (i := 18) (v := .int .i64 G) (by simp only [List.getElem?_toArray, List.getElem?_cons_succ, List.getElem?_cons_zero] <;> rfl) (by kernel_rfl) (by kernel_rfl) (by kernel_rfl) (fun _ _ _ h => h) (Or.inl ⟨by rfl, ?_⟩) (by assumption) ?_
    · intro w hSw
      (try dsimp only at hSw)
      go_simp
      (try with_reducible rfl)
    (try simp only [Act.put, List.setIfInBounds_toArray, List.set_cons_zero, List.set_cons_succ])
    by_cases hg : G = 0
    · have g3 : (G == 0) = true := beq_iff_eq.2 hg
      have g4 : (G != 0) = false := by rw [bne, g3]; rfl
      have HG0 := Lib.hid hg
      clear hg
      refine wpAnyH_take (i := 19) (v := .bool false) (by simp only [List.getElem?_toArray, List.getElem?_cons_succ, List.getElem?_cons_zero] <;> rfl) (by kernel_rfl) (by kernel_rfl) (by kernel_rfl) (fun _ _ _ h => h) (Or.inl ⟨by rfl, ?_⟩) (by assumption) ?_
      · intro w hSw
        (try dsimp only at hSw)
        go_simp
        (try with_reducible rfl)
      (try simp only [Act.put, List.setIfInBounds_toArray, List.set_cons_zero, List.set_cons_succ])
      refine wpAnyH_take (i := 20) (v := .bool false) (by simp only [List.getElem?_toArray, List.getElem?_cons_succ, List.getElem?_cons_zero] <;> rfl) (by kernel_rfl) (by kernel_rfl) (by kernel_rfl) (fun _ _ _ h => h) (Or.inl ⟨by rfl, ?_⟩) (by assumption) ?_
      · intro w hSw
        (try dsimp only at hSw)
        go_simp
        (try with_reducible rfl)
      (try simp only [Act.put, List.setIfInBounds_toArray, List.set_cons_zero, List.set_cons_succ])
      refine wpAnyH_take (i := 21) (v := .agg #[.int .i64 m0, .int .i64 m1, .slice ma2 mn2 mc2, .int .i64 m3, .slice ma4 mn4 mc4, .slice ma5 mn5 mc5]) (by simp only [List.getElem?_toArray, List.getElem?_cons_succ, List.getElem?_cons_zero] <;> rfl) (by kernel_rfl) (by kernel_rfl) (by kernel_rfl) (fun _ _ _ h => h) (Or.inl ⟨by rfl, ?_⟩) (by assumption) ?_
      · intro w hSw
        (try dsimp only at hSw)
        go_simp
        (try with_reducible rfl)
      (try simp only [Act.put, List.setIfInBounds_toArray, List.set_cons_zero, List.set_cons_succ])
      refine wpAnyH_take (i := 24) (v := .slice va vn vc) (by simp only [List.getElem?_toArray, List.getElem?_cons_succ, List.getElem?_cons_zero] <;> rfl) (by kernel_rfl) (by kernel_rfl) (by kernel_rfl) (fun _ _ _ h => h) (Or.inl ⟨by rfl, ?_⟩) (by assumption) ?_
      · intro w hSw
        (try dsimp only at hSw)
        go_simp
        (try with_reducible rfl)
      (try simp only [Act.put, List.setIfInBounds_toArray, List.set_cons_zero, List.set_cons_succ])
      refine wpAnyH_take (i := 25) (v := .string sB) (by simp only [List.getElem?_toArray, List.getElem?_cons_succ, List.getElem?_cons_zero] <;> rfl) (by kernel_rfl) (by kernel_rfl) (by kernel_rfl) (fun _ _ _ h => h) (Or.inl ⟨by rfl, ?_⟩) (by assumption) ?_
      · intro w hSw
        (try dsimp only at hSw)
        go_simp
        (try with_reducible rfl)
      (try simp only [Act.put, List.setIfInBounds_toArray, List.set_cons_zero, List.set_cons_succ])
      refine wpAnyH_ready (rs := [22]) (by kernel_rfl) (by simp) ?_
      refine AllReadyH.cons (by simp only [List.getElem?_toArray, List.getElem?_cons_succ, List.getElem?_cons_zero] <;> rfl) (fun K hK => ?_) AllReadyH.nil
      rw [if_pos (by kernel_rfl)]
      go_wp2_with fail
      refine (cd_EncodeDatabase w5 [.int .i64 m0, .int .i64 m1, .slice ma2 mn2 mc2, .int .i64 m3, .slice ma4 mn4 mc4, .slice ma5 mn5 mc5] y (HRD.out HG0.out _ HB5.out) (by rw [← HED.out HG0.out]; have := HBB.out; omega)).mono ?_
      rintro e w6 ⟨v6, rfl, hr6, hb6⟩
      rw [← HED.out HG0.out] at hr6
      obtain ⟨qa, qn, qc, rfl⟩ := hr6.any
      have HB6 := Lib.hid (show Below X2.drew.heap.size X2.drew w6 from HB5.out.trans (hb6.mono HB5.out.size))
      have hS7 := HK.out _ HB6.out
      have cv6 := convert_dat hr6.dat
      rw [← HSB.out] at cv6
      have HFIN := Lib.hid (show Below W.heap.size W w6 from HB2d.out.trans (HB6.out.mono HB2d.out.size))
      have cv5 := convert_dat (HR5.out.keep hb6)
      rw [← HSB.out] at cv5
      clear hr6 hb6 hS3
      dsimp only
      refine hK.out _ _ ⟨hS7, cv5⟩ ?_
      intro hS8
      clear hK
      refine held_turn3 (S' := fun Wv => ((Wv.cell? ⟨k1, 0, none⟩ = some (.int .i64 z0) ∧ Wv.cell? ⟨k1, 1, none⟩ = some (.int .i64 z1) ∧ Wv.cell? ⟨k1, 2, none⟩ = some (.slice za2 zn2 zc2) ∧ Wv.cell? ⟨k1, 3, none⟩ = some (.int .i64 z3) ∧ Wv.cell? ⟨k1, 4, none⟩ = some (.int .i64 z4) ∧ Wv.cell? ⟨k1, 5, none⟩ = some (.int .i64 z5) ∧ Wv.cell? ⟨k1, 6, none⟩ = some (.string z6) ∧ Wv.cell? ⟨k1, 7, none⟩ = some (.int .i64 z7) ∧ Wv.cell? ⟨k1, 8, none⟩ = some (.int .i64 z8) ∧ Wv.cell? ⟨k1, 9, none⟩ = some (.int .i64 z9) ∧ Wv.cell? ⟨k2, 0, none⟩ = some (.int .i64 m0) ∧ Wv.cell? ⟨k2, 1, none⟩ = some (.int .i64 m1) ∧ Wv.cell? ⟨k2, 2, none⟩ = some (.slice ma2 mn2 mc2) ∧ Wv.cell? ⟨k2, 3, none⟩ = some (.int .i64 m3) ∧ Wv.cell? ⟨k2, 4, none⟩ = some (.slice ma4 mn4 mc4) ∧ Wv.cell? ⟨k2, 5, none⟩ = some (.slice ma5 mn5 mc5) ∧ Sem.run Tryz.prog (convert 31 9 (.slice va vn vc)) Wv = .ok (.string sB) Wv) ∧ Sem.run Tryz.prog (convert 31 9 (.slice ta tn' tc)) Wv = .ok (.string sB) Wv) ∧ Sem.run Tryz.prog (convert 31 9 (.slice qa qn qc)) Wv = .ok (.string sB) Wv) (fun _ h => h.1) _ _ _ _ ?_
      have hS9 := And.intro hS8 cv6
      clear hS7 hS8 cv6
      refine wpAnyH_take (i := 23) (v := .string sB) (by simp only [List.getElem?_toArray, List.getElem?_cons_succ, List.getElem?_cons_zero] <;> rfl) (by kernel_rfl) (by kernel_rfl) (by kernel_rfl) (fun _ _ _ h => h) (Or.inl ⟨by rfl, ?_⟩) (by assumption) ?_
      · intro w hSw
        (try dsimp only at hSw)
        go_simp
        (try with_reducible rfl)
      (try simp only [Act.put, List.setIfInBounds_toArray, List.set_cons_zero, List.set_cons_succ])
      refine wpAnyH_take (i := 26) (v := .bool true) (by simp only [List.getElem?_toArray, List.getElem?_cons_succ, List.getElem?_cons_zero] <;> rfl) (by kernel_rfl) (by kernel_rfl) (by kernel_rfl) (fun _ _ _ h => h) (Or.inl ⟨by rfl, ?_⟩) (by assumption) ?_
      · intro w hSw
        (try dsimp only at hSw)
        go_simp
        (try with_reducible rfl)
      (try simp only [Act.put, List.setIfInBounds_toArray, List.set_cons_zero, List.set_cons_succ])
      refine wpAnyH_take (i := 27) (v := .bool true) (by simp only [List.getElem?_toArray, List.getElem?_cons_succ, List.getElem?_cons_zero] <;> rfl) (by kernel_rfl) (by kernel_rfl) (by kernel_rfl) (fun _ _ _ h => h) (Or.inl ⟨by rfl, ?_⟩) (by assumption) ?_
      · intro w hSw
        (try dsimp only at hSw)
        go_simp
        (try with_reducible rfl)
      (try simp only [Act.put, List.setIfInBounds_toArray, List.set_cons_zero, List.set_cons_succ])
      refine wpAnyH_take (i := 28) (v := .bool true) (by simp only [List.getElem?_toArray, List.getElem?_cons_succ, List.getElem?_cons_zero] <;> rfl) (by kernel_rfl) (by kernel_rfl) (by kernel_rfl) (fun _ _ _ h => h) (Or.inl ⟨by rfl, ?_⟩) (by assumption) ?_
      · intro w hSw
        (try dsimp only at hSw)
        go_simp
        (try with_reducible rfl)
      (try simp only [Act.put, List.setIfInBounds_toArray, List.set_cons_zero, List.set_cons_succ])
      refine wpAnyH_take (i := 29) (v := ?_) (by simp only [List.getElem?_toArray, List.getElem?_cons_succ, List.getElem?_cons_zero] <;> rfl) (by kernel_rfl) (by kernel_rfl) (by kernel_rfl) (fun _ _ _ h => h) (Or.inl ⟨by rfl, ?_⟩) (by assumption) ?_
      rotate_left
      · intro w hSw
        (try dsimp only at hSw)
        go_simp
        (try with_reducible rfl)
      (try simp only [Act.put, List.setIfInBounds_toArray, List.set_cons_zero, List.set_cons_succ])
      refine wpAnyH_done (by kernel_rfl) ?_ _
      refine NoPanic.normal ?_
      go_wp2
      go_ret
      exact ⟨rfl, HFIN.out⟩
    · have g3 : (G == 0) = false := beq_eq_false_iff_ne.2 hg
      have g4 : (G != 0) = true := by rw [bne, g3]; rfl
      clear hg
      refine wpAnyH_take (i := 19) (v := .bool true) (by simp only [List.getElem?_toArray, List.getElem?_cons_succ, List.getElem?_cons_zero] <;> rfl) (by kernel_rfl) (by kernel_rfl) (by kernel_rfl) (fun _ _ _ h => h) (Or.inl ⟨by rfl, ?_⟩) (by assumption) ?_
      · intro w hSw
        (try dsimp only at hSw)
        go_simp
        (try with_reducible rfl)
      (try simp only [Act.put, List.setIfInBounds_toArray, List.set_cons_zero, List.set_cons_succ])
      refine wpAnyH_take (i := 20) (v := .bool true) (by simp only [List.getElem?_toArray, List.getElem?_cons_succ, List.getElem?_cons_zero] <;> rfl) (by kernel_rfl) (by kernel_rfl) (by kernel_rfl) (fun _ _ _ h => h) (Or.inl ⟨by rfl, ?_⟩) (by assumption) ?_
      · intro w hSw
        (try dsimp only at hSw)
        go_simp
        (try with_reducible rfl)
      (try simp only [Act.put, List.setIfInBounds_toArray, List.set_cons_zero, List.set_cons_succ])
      refine wpAnyH_take (i := 21) (v := undef) (by simp only [List.getElem?_toArray, List.getElem?_cons_succ, List.getElem?_cons_zero] <;> rfl) (by kernel_rfl) (by kernel_rfl) (by kernel_rfl) (fun _ _ _ h => h) (Or.inr ⟨by rfl, rfl⟩) (by assumption) ?_
      (try simp only [Act.put, List.setIfInBounds_toArray, List.set_cons_zero, List.set_cons_succ])
      refine wpAnyH_take (i := 22) (v := undef) (by simp only [List.getElem?_toArray, List.getElem?_cons_succ, List.getElem?_cons_zero] <;> rfl) (by kernel_rfl) (by kernel_rfl) (by kernel_rfl) (fun _ _ _ h => h) (Or.inr ⟨by rfl, rfl⟩) (by assumption) ?_
      (try simp only [Act.put, List.setIfInBounds_toArray, List.set_cons_zero, List.set_cons_succ])
      refine wpAnyH_take (i := 23) (v := undef) (by simp only [List.getElem?_toArray, List.getElem?_cons_succ, List.getElem?_cons_zero] <;> rfl) (by kernel_rfl) (by kernel_rfl) (by kernel_rfl) (fun _ _ _ h => h) (Or.inr ⟨by rfl, rfl⟩) (by assumption) ?_
      (try simp only [Act.put, List.setIfInBounds_toArray, List.set_cons_zero, List.set_cons_succ])
      refine wpAnyH_take (i := 24) (v := undef) (by simp only [List.getElem?_toArray, List.getElem?_cons_succ, List.getElem?_cons_zero] <;> rfl) (by kernel_rfl) (by kernel_rfl) (by kernel_rfl) (fun _ _ _ h => h) (Or.inr ⟨by rfl, rfl⟩) (by assumption) ?_
      (try simp only [Act.put, List.setIfInBounds_toArray, List.set_cons_zero, List.set_cons_succ])
      refine wpAnyH_take (i := 25) (v := undef) (by simp only [List.getElem?_toArray, List.getElem?_cons_succ, List.getElem?_cons_zero] <;> rfl) (by kernel_rfl) (by kernel_rfl) (by kernel_rfl) (fun _ _ _ h => h) (Or.inr ⟨by rfl, rfl⟩) (by assumption) ?_
      (try simp only [Act.put, List.setIfInBounds_toArray, List.set_cons_zero, List.set_cons_succ])
      refine wpAnyH_take (i := 26) (v := undef) (by simp only [List.getElem?_toArray, List.getElem?_cons_succ, List.getElem?_cons_zero] <;> rfl) (by kernel_rfl) (by kernel_rfl) (by kernel_rfl) (fun _ _ _ h => h) (Or.inr ⟨by rfl, rfl⟩) (by assumption) ?_
      (try simp only [Act.put, List.setIfInBounds_toArray, List.set_cons_zero, List.set_cons_succ])
      refine wpAnyH_take (i := 27) (v := .bool true) (by simp only [List.getElem?_toArray, List.getElem?_cons_succ, List.getElem?_cons_zero] <;> rfl) (by kernel_rfl) (by kernel_rfl) (by kernel_rfl) (fun _ _ _ h => h) (Or.inl ⟨by rfl, ?_⟩) (by assumption) ?_
      · intro w hSw
        (try dsimp only at hSw)
        go_simp
        (try with_reducible rfl)
      (try simp only [Act.put, List.setIfInBounds_toArray, List.set_cons_zero, List.set_cons_succ])
      refine wpAnyH_take (i := 28) (v := .bool true) (by simp only [List.getElem?_toArray, List.getElem?_cons_succ, List.getElem?_cons_zero] <;> rfl) (by kernel_rfl) (by kernel_rfl) (by kernel_rfl) (fun _ _ _ h => h) (Or.inl ⟨by rfl, ?_⟩) (by assumption) ?_
      · intro w hSw
        (try dsimp only at hSw)
        go_simp
        (try with_reducible rfl)
      (try simp only [Act.put, List.setIfInBounds_toArray, List.set_cons_zero, List.set_cons_succ])
      refine wpAnyH_take (i := 29) (v := ?_) (by simp only [List.getElem?_toArray, List.getElem?_cons_succ, List.getElem?_cons_zero] <;> rfl) (by kernel_rfl) (by kernel_rfl) (by kernel_rfl) (fun _ _ _ h => h) (Or.inl ⟨by rfl, ?_⟩) (by assumption) ?_
      rotate_left
      · intro w hSw
        (try dsimp only at hSw)
        go_simp
        (try with_reducible rfl)
      (try simp only [Act.put, List.setIfInBounds_toArray, List.set_cons_zero, List.set_cons_succ])
      refine wpAnyH_done (by kernel_rfl) ?_ _
      refine NoPanic.normal ?_
      have HFIN := Lib.hid (show Below W.heap.size W w5 from HB2d.out.trans (HB5.out.mono HB2d.out.size))
      go_wp2
      go_ret
      exact ⟨rfl, HFIN.out⟩
  · have g5 : (E == 0) = false := beq_eq_false_iff_ne.2 hg
    have g6 : (E != 0) = true := by rw [bne, g5]; rfl
    clear hg
    refine wpAnyH_take (i := 7) (v := .bool true) (by simp only [List.getElem?_toArray, List.getElem?_cons_succ, List.getElem?_cons_zero] <;> rfl) (by kernel_rfl) (by kernel_rfl) (by kernel_rfl) (fun _ _ _ h => h) (Or.inl ⟨by rfl, ?_⟩) (by assumption) ?_
    · intro w hSw
      (try dsimp only at hSw)
      go_simp
      (try with_reducible rfl)
    (try simp only [Act.put, List.setIfInBounds_toArray, List.set_cons_zero, List.set_cons_succ])
    refine wpAnyH_take (i := 8) (v := .bool true) (by simp only [List.getElem?_toArray, List.getElem?_cons_succ, List.getElem?_cons_zero] <;> rfl) (by kernel_rfl) (by kernel_rfl) (by kernel_rfl) (fun _ _ _ h => h) (Or.inl ⟨by rfl, ?_⟩) (by assumption) ?_
    · intro w hSw
      (try dsimp only at hSw)
      go_simp
      (try with_reducible rfl)
    (try simp only [Act.put, List.setIfInBounds_toArray, List.set_cons_zero, List.set_cons_succ])
    refine wpAnyH_take (i := 9) (v := undef) (by simp only [List.getElem?_toArray, List.getElem?_cons_succ, List.getElem?_cons_zero] <;> rfl) (by kernel_rfl) (by kernel_rfl) (by kernel_rfl) (fun _ _ _ h => h) (Or.inr ⟨by rfl, rfl⟩) (by assumption) ?_
    (try simp only [Act.put, List.setIfInBounds_toArray, List.set_cons_zero, List.set_cons_succ])
    refine wpAnyH_take (i := 10) (v := undef) (by simp only [List.getElem?_toArray, List.getElem?_cons_succ, List.getElem?_cons_zero] <;> rfl) (by kernel_rfl) (by kernel_rfl) (by kernel_rfl) (fun _ _ _ h => h) (Or.inr ⟨by rfl, rfl⟩) (by assumption) ?_
    (try simp only [Act.put, List.setIfInBounds_toArray, List.set_cons_zero, List.set_cons_succ])
    refine wpAnyH_take (i := 11) (v := undef) (by simp only [List.getElem?_toArray, List.getElem?_cons_succ, List.getElem?_cons_zero] <;> rfl) (by kernel_rfl) (by kernel_rfl) (by kernel_rfl) (fun _ _ _ h => h) (Or.inr ⟨by rfl, rfl⟩) (by assumption) ?_
    (try simp only [Act.put, List.setIfInBounds_toArray, List.set_cons_zero, List.set_cons_succ])
    refine wpAnyH_take (i := 12) (v := undef) (by simp only [List.getElem?_toArray, List.getElem?_cons_succ, List.getElem?_cons_zero] <;> rfl) (by kernel_rfl) (by kernel_rfl) (by kernel_rfl) (fun _ _ _ h => h) (Or.inr ⟨by rfl, rfl⟩) (by assumption) ?_
    (try simp only [Act.put, List.setIfInBounds_toArray, List.set_cons_zero, List.set_cons_succ])
    refine wpAnyH_take (i := 13) (v := undef) (by simp only [List.getElem?_toArray, List.getElem?_cons_succ, List.getElem?_cons_zero] <;> rfl) (by kernel_rfl) (by kernel_rfl) (by kernel_rfl) (fun _ _ _ h => h) (Or.inr ⟨by rfl, rfl⟩) (by assumption) ?_
    (try simp only [Act.put, List.setIfInBounds_toArray, List.set_cons_zero, List.set_cons_succ])
    refine wpAnyH_take (i := 14) (v := undef) (by simp only [List.getElem?_toArray, List.getElem?_cons_succ, List.getElem?_cons_zero] <;> rfl) (by kernel_rfl) (by kernel_rfl) (by kernel_rfl) (fun _ _ _ h => h) (Or.inr ⟨by rfl, rfl⟩) (by assumption) ?_
    (try simp only [Act.put, List.setIfInBounds_toArray, List.set_cons_zero, List.set_cons_succ])
    refine wpAnyH_take (i := 15) (v := .bool true) (by simp only [List.getElem?_toArray, List.getElem?_cons_succ, List.getElem?_cons_zero] <;> rfl) (by kernel_rfl) (by kernel_rfl) (by kernel_rfl) (fun _ _ _ h => h) (Or.inl ⟨by rfl, ?_⟩) (by assumption) ?_
    · intro w hSw
      (try dsimp only at hSw)
      go_simp
      (try with_reducible rfl)
    (try simp only [Act.put, List.setIfInBounds_toArray, List.set_cons_zero, List.set_cons_succ])
    refine wpAnyH_take (i := 16) (v := .bool true) (by simp only [List.getElem?_toArray, List.getElem?_cons_succ, List.getElem?_cons_zero] <;> rfl) (by kernel_rfl) (by kernel_rfl) (by kernel_rfl) (fun _ _ _ h => h) (Or.inl ⟨by rfl, ?_⟩) (by assumption) ?_
    · intro w hSw
      (try dsimp only at hSw)
      go_simp
      (try with_reducible rfl)
    (try simp only [Act.put, List.setIfInBounds_toArray, List.set_cons_zero, List.set_cons_succ])
    refine wpAnyH_take (i := 17) (v := .bool true) (by simp only [List.getElem?_toArray, List.getElem?_cons_succ, List.getElem?_cons_zero] <;> rfl) (by kernel_rfl) (by kernel_rfl) (by kernel_rfl) (fun _ _ _ h => h) (Or.inl ⟨by rfl, ?_⟩) (by assumption) ?_
    · intro w hSw
      (try dsimp only at hSw)
      go_simp
      (try with_reducible rfl)
    (try simp only [Act.put, List.setIfInBounds_toArray, List.set_cons_zero, List.set_cons_succ])
    refine wpAnyH_take (i := 18) (v := .int .i64 G) (by simp only [List.getElem?_toArray, List.getElem?_cons_succ, List.getElem?_cons_zero] <;> rfl) (by kernel_rfl) (by kernel_rfl) (by kernel_rfl) (fun _ _ _ h => h) (Or.inl ⟨by rfl, ?_⟩) (by assumption) ?_
    · intro w hSw
      (try dsimp only at hSw)
      go_simp
      (try with_reducible rfl)
    (try simp only [Act.put, List.setIfInBounds_toArray, List.set_cons_zero, List.set_cons_succ])
    by_cases hg : G = 0
    · have g3 : (G == 0) = true := beq_iff_eq.2 hg
      have g4 : (G != 0) = false := by rw [bne, g3]; rfl
      have HG0 := Lib.hid hg
      clear hg
      refine wpAnyH_take (i := 19) (v := .bool false) (by simp only [List.getElem?_toArray, List.getElem?_cons_succ, List.getElem?_cons_zero] <;> rfl) (by kernel_rfl) (by kernel_rfl) (by kernel_rfl) (fun _ _ _ h => h) (Or.inl ⟨by rfl, ?_⟩) (by assumption) ?_
      · intro w hSw
        (try dsimp only at hSw)
        go_simp
        (try with_reducible rfl)
      (try simp only [Act.put, List.setIfInBounds_toArray, List.set_cons_zero, List.set_cons_succ])
      refine wpAnyH_take (i := 20) (v := .bool false) (by simp only [List.getElem?_toArray, List.getElem?_cons_succ, List.getElem?_cons_zero] <;> rfl) (by kernel_rfl) (by kernel_rfl) (by kernel_rfl) (fun _ _ _ h => h) (Or.inl ⟨by rfl, ?_⟩) (by assumption) ?_
      · intro w hSw
        (try dsimp only at hSw)
        go_simp
        (try with_reducible rfl)
      (try simp only [Act.put, List.setIfInBounds_toArray, List.set_cons_zero, List.set_cons_succ])
      refine wpAnyH_take (i := 21) (v := .agg #[.int .i64 m0, .int .i64 m1, .slice ma2 mn2 mc2, .int .i64 m3, .slice ma4 mn4 mc4, .slice ma5 mn5 mc5]) (by simp only [List.getElem?_toArray, List.getElem?_cons_succ, List.getElem?_cons_zero] <;> rfl) (by kernel_rfl) (by kernel_rfl) (by kernel_rfl) (fun _ _ _ h => h) (Or.inl ⟨by rfl, ?_⟩) (by assumption) ?_
      · intro w hSw
        (try dsimp only at hSw)
        go_simp
        (try with_reducible rfl)
      (try simp only [Act.put, List.setIfInBounds_toArray, List.set_cons_zero, List.set_cons_succ])
      refine wpAnyH_take (i := 24) (v := .slice va vn vc) (by simp only [List.getElem?_toArray, List.getElem?_cons_succ, List.getElem?_cons_zero] <;> rfl) (by kernel_rfl) (by kernel_rfl) (by kernel_rfl) (fun _ _ _ h => h) (Or.inl ⟨by rfl, ?_⟩) (by assumption) ?_
      · intro w hSw
        (try dsimp only at hSw)
        go_simp
        (try with_reducible rfl)
      (try simp only [Act.put, List.setIfInBounds_toArray, List.set_cons_zero, List.set_cons_succ])
      refine wpAnyH_take (i := 25) (v := .string sB) (by simp only [List.getElem?_toArray, List.getElem?_cons_succ, List.getElem?_cons_zero] <;> rfl) (by kernel_rfl) (by kernel_rfl) (by kernel_rfl) (fun _ _ _ h => h) (Or.inl ⟨by rfl, ?_⟩) (by assumption) ?_
      · intro w hSw
        (try dsimp only at hSw)
        go_simp
        (try with_reducible rfl)
      (try simp only [Act.put, List.setIfInBounds_toArray, List.set_cons_zero, List.set_cons_succ])
      refine wpAnyH_ready (rs := [22]) (by kernel_rfl) (by simp) ?_
      refine AllReadyH.cons (by simp only [List.getElem?_toArray, List.getElem?_cons_succ, List.getElem?_cons_zero] <;> rfl) (fun K hK => ?_) AllReadyH.nil
      rw [if_pos (by kernel_rfl)]
      go_wp2_with fail
      refine (cd_EncodeDatabase w4 [.int .i64 m0, .int .i64 m1, .slice ma2 mn2 mc2, .int .i64 m3, .slice ma4 mn4 mc4, .slice ma5 mn5 mc5] y (HRD.out HG0.out _ HB4.out) (by rw [← HED.out HG0.out]; have := HBB.out; omega)).mono ?_
      rintro e w6 ⟨v6, rfl, hr6, hb6⟩
      rw [← HED.out HG0.out] at hr6
      obtain ⟨qa, qn, qc, rfl⟩ := hr6.any
      have HB6 := Lib.hid (show Below X2.drew.heap.size X2.drew w6 from HB4.out.trans (hb6.mono HB4.out.size))
      have hS7 := HK.out _ HB6.out
      have cv6 := convert_dat hr6.dat
      rw [← HSB.out] at cv6
      have HFIN := Lib.hid (show Below W.heap.size W w6 from HB2d.out.trans (HB6.out.mono HB2d.out.size))
      clear hr6 hb6 hS2
      dsimp only
      refine hK.out _ _ hS7 ?_
      intro hS8
      clear hK
      refine held_turn3 (S' := fun Wv => (Wv.cell? ⟨k1, 0, none⟩ = some (.int .i64 z0) ∧ Wv.cell? ⟨k1, 1, none⟩ = some (.int .i64 z1) ∧ Wv.cell? ⟨k1, 2, none⟩ = some (.slice za2 zn2 zc2) ∧ Wv.cell? ⟨k1, 3, none⟩ = some (.int .i64 z3) ∧ Wv.cell? ⟨k1, 4, none⟩ = some (.int .i64 z4) ∧ Wv.cell? ⟨k1, 5, none⟩ = some (.int .i64 z5) ∧ Wv.cell? ⟨k1, 6, none⟩ = some (.string z6) ∧ Wv.cell? ⟨k1, 7, none⟩ = some (.int .i64 z7) ∧ Wv.cell? ⟨k1, 8, none⟩ = some (.int .i64 z8) ∧ Wv.cell? ⟨k1, 9, none⟩ = some (.int .i64 z9) ∧ Wv.cell? ⟨k2, 0, none⟩ = some (.int .i64 m0) ∧ Wv.cell? ⟨k2, 1, none⟩ = some (.int .i64 m1) ∧ Wv.cell? ⟨k2, 2, none⟩ = some (.slice ma2 mn2 mc2) ∧ Wv.cell? ⟨k2, 3, none⟩ = some (.int .i64 m3) ∧ Wv.cell? ⟨k2, 4, none⟩ = some (.slice ma4 mn4 mc4) ∧ Wv.cell? ⟨k2, 5, none⟩ = some (.slice ma5 mn5 mc5) ∧ Sem.run Tryz.prog (convert 31 9 (.slice va vn vc)) Wv = .ok (.string sB) Wv) ∧ Sem.run Tryz.prog (convert 31 9 (.slice qa qn qc)) Wv = .ok (.string sB) Wv) (fun _ h => h.1) _ _ _ _ ?_
      have hS9 := And.intro hS8 cv6
      clear hS7 hS8 cv6
      refine wpAnyH_take (i := 23) (v := .string sB) (by simp only [List.getElem?_toArray, List.getElem?_cons_succ, List.getElem?_cons_zero] <;> rfl) (by kernel_rfl) (by kernel_rfl) (by kernel_rfl) (fun _ _ _ h => h) (Or.inl ⟨by rfl, ?_⟩) (by assumption) ?_
      · intro w hSw
        (try dsimp only at hSw)
        go_simp
        (try with_reducible rfl)
      (try simp only [Act.put, List.setIfInBounds_toArray, List.set_cons_zero, List.set_cons_succ])
      refine wpAnyH_take (i := 26) (v := .bool true) (by simp only [List.getElem?_toArray, List.getElem?_cons_succ, List.getElem?_cons_zero] <;> rfl) (by kernel_rfl) (by kernel_rfl) (by kernel_rfl) (fun _ _ _ h => h) (Or.inl ⟨by rfl, ?_⟩) (by assumption) ?_
      · intro w hSw
        (try dsimp only at hSw)
        go_simp
        (try with_reducible rfl)
      (try simp only [Act.put, List.setIfInBounds_toArray, List.set_cons_zero, List.set_cons_succ])
      refine wpAnyH_take (i := 27) (v := .bool true) (by simp only [List.getElem?_toArray, List.getElem?_cons_succ, List.getElem?_cons_zero] <;> rfl) (by kernel_rfl) (by kernel_rfl) (by kernel_rfl) (fun _ _ _ h => h) (Or.inl ⟨by rfl, ?_⟩) (by assumption) ?_
      · intro w hSw
        (try dsimp only at hSw)
        go_simp
        (try with_reducible rfl)
      (try simp only [Act.put, List.setIfInBounds_toArray, List.set_cons_zero, List.set_cons_succ])
      refine wpAnyH_take (i := 28) (v := .bool true) (by simp only [List.getElem?_toArray, List.getElem?_cons_succ, List.getElem?_cons_zero] <;> rfl) (by kernel_rfl) (by kernel_rfl) (by kernel_rfl) (fun _ _ _ h => h) (Or.inl ⟨by rfl, ?_⟩) (by assumption) ?_
      · intro w hSw
        (try dsimp only at hSw)
        go_simp
        (try with_reducible rfl)
      (try simp only [Act.put, List.setIfInBounds_toArray, List.set_cons_zero, List.set_cons_succ])
      refine wpAnyH_take (i := 29) (v := ?_) (by simp only [List.getElem?_toArray, List.getElem?_cons_succ, List.getElem?_cons_zero] <;> rfl) (by kernel_rfl) (by kernel_rfl) (by kernel_rfl) (fun _ _ _ h => h) (Or.inl ⟨by rfl, ?_⟩) (by assumption) ?_
      rotate_left
      · intro w hSw
        (try dsimp only at hSw)
        go_simp
        (try with_reducible rfl)
      (try simp only [Act.put, List.setIfInBounds_toArray, List.set_cons_zero, List.set_cons_succ])
      refine wpAnyH_done (by kernel_rfl) ?_ _
      refine NoPanic.normal ?_
      go_wp2
      go_ret
      exact ⟨rfl, HFIN.out⟩
    · have g3 : (G == 0) = false := beq_eq_false_iff_ne.2 hg
      have g4 : (G != 0) = true := by rw [bne, g3]; rfl
      clear hg
      refine wpAnyH_take (i := 19) (v := .bool true) (by simp only [List.getElem?_toArray, List.getElem?_cons_succ, List.getElem?_cons_zero] <;> rfl) (by kernel_rfl) (by kernel_rfl) (by kernel_rfl) (fun _ _ _ h => h) (Or.inl ⟨by rfl, ?_⟩) (by assumption) ?_
      · intro w hSw
        (try dsimp only at hSw)
        go_simp
        (try with_reducible rfl)
      (try simp only [Act.put, List.setIfInBounds_toArray, List.set_cons_zero, List.set_cons_succ])
      refine wpAnyH_take (i := 20) (v := .bool true) (by simp only [List.getElem?_toArray, List.getElem?_cons_succ, List.getElem?_cons_zero] <;> rfl) (by kernel_rfl) (by kernel_rfl) (by kernel_rfl) (fun _ _ _ h => h) (Or.inl ⟨by rfl, ?_⟩) (by assumption) ?_
      · intro w hSw
        (try dsimp only at hSw)
        go_simp
        (try with_reducible rfl)
      (try simp only [Act.put, List.setIfInBounds_toArray, List.set_cons_zero, List.set_cons_succ])
      refine wpAnyH_take (i := 21) (v := undef) (by simp only [List.getElem?_toArray, List.getElem?_cons_succ, List.getElem?_cons_zero] <;> rfl) (by kernel_rfl) (by kernel_rfl) (by kernel_rfl) (fun _ _ _ h => h) (Or.inr ⟨by rfl, rfl⟩) (by assumption) ?_
      (try simp only [Act.put, List.setIfInBounds_toArray, List.set_cons_zero, List.set_cons_succ])
      refine wpAnyH_take (i := 22) (v := undef) (by simp only [List.getElem?_toArray, List.getElem?_cons_succ, List.getElem?_cons_zero] <;> rfl) (by kernel_rfl) (by kernel_rfl) (by kernel_rfl) (fun _ _ _ h => h) (Or.inr ⟨by rfl, rfl⟩) (by assumption) ?_
      (try simp only [Act.put, List.setIfInBounds_toArray, List.set_cons_zero, List.set_cons_succ])
      refine wpAnyH_take (i := 23) (v := undef) (by simp only [List.getElem?_toArray, List.getElem?_cons_succ, List.getElem?_cons_zero] <;> rfl) (by kernel_rfl) (by kernel_rfl) (by kernel_rfl) (fun _ _ _ h => h) (Or.inr ⟨by rfl, rfl⟩) (by assumption) ?_
      (try simp only [Act.put, List.setIfInBounds_toArray, List.set_cons_zero, List.set_cons_succ])
      refine wpAnyH_take (i := 24) (v := undef) (by simp only [List.getElem?_toArray, List.getElem?_cons_succ, List.getElem?_cons_zero] <;> rfl) (by kernel_rfl) (by kernel_rfl) (by kernel_rfl) (fun _ _ _ h => h) (Or.inr ⟨by rfl, rfl⟩) (by assumption) ?_
      (try simp only [Act.put, List.setIfInBounds_toArray, List.set_cons_zero, List.set_cons_succ])
      refine wpAnyH_take (i := 25) (v := undef) (by simp only [List.getElem?_toArray, List.getElem?_cons_succ, List.getElem?_cons_zero] <;> rfl) (by kernel_rfl) (by kernel_rfl) (by kernel_rfl) (fun _ _ _ h => h) (Or.inr ⟨by rfl, rfl⟩) (by assumption) ?_
      (try simp only [Act.put, List.setIfInBounds_toArray, List.set_cons_zero, List.set_cons_succ])
      refine wpAnyH_take (i := 26) (v := undef) (by simp only [List.getElem?_toArray, List.getElem?_cons_succ, List.getElem?_cons_zero] <;> rfl) (by kernel_rfl) (by kernel_rfl) (by kernel_rfl) (fun _ _ _ h => h) (Or.inr ⟨by rfl, rfl⟩) (by assumption) ?_
      (try simp only [Act.put, List.setIfInBounds_toArray, List.set_cons_zero, List.set_cons_succ])
      refine wpAnyH_take (i := 27) (v := .bool true) (by simp only [List.getElem?_toArray, List.getElem?_cons_succ, List.getElem?_cons_zero] <;> rfl) (by kernel_rfl) (by kernel_rfl) (by kernel_rfl) (fun _ _ _ h => h) (Or.inl ⟨by rfl, ?_⟩) (by assumption) ?_
      · intro w hSw
        (try dsimp only at hSw)
        go_simp
        (try with_reducible rfl)
      (try simp only [Act.put, List.setIfInBounds_toArray, List.set_cons_zero, List.set_cons_succ])
      refine wpAnyH_take (i := 28) (v := .bool true) (by simp only [List.getElem?_toArray, List.getElem?_cons_succ, List.getElem?_cons_zero] <;> rfl) (by kernel_rfl) (by kernel_rfl) (by kernel_rfl) (fun _ _ _ h => h) (Or.inl ⟨by rfl, ?_⟩) (by assumption) ?_
      · intro w hSw
        (try dsimp only at hSw)
        go_simp
        (try with_reducible rfl)
      (try simp only [Act.put, List.setIfInBounds_toArray, List.set_cons_zero, List.set_cons_succ])
      refine wpAnyH_take (i := 29) (v := ?_) (by simp only [List.getElem?_toArray, List.getElem?_cons_succ, List.getElem?_cons_zero] <;> rfl) (by kernel_rfl) (by kernel_rfl) (by kernel_rfl) (fun _ _ _ h => h) (Or.inl ⟨by rfl, ?_⟩) (by assumption) ?_
      rotate_left
      · intro w hSw
        (try dsimp only at hSw)
        go_simp
        (try with_reducible rfl)
      (try simp only [Act.put, List.setIfInBounds_toArray, List.set_cons_zero, List.set_cons_succ])
      refine wpAnyH_done (by kernel_rfl) ?_ _
      refine NoPanic.normal ?_
      have HFIN := Lib.hid (show Below W.heap.size W w4 from HB2d.out.trans (HB4.out.mono HB2d.out.size))
      go_wp2
      go_ret
      exact ⟨rfl, HFIN.out⟩
end Go.Proofs.YtfppjpmflpaffaaGreat
