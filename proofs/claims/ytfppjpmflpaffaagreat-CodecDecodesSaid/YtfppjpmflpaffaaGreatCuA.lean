/-
  Law 34: what decoders hand out, plainly; decodes. Printed by gen_cu.py.
-/
import Derived.Test.YtfppjpmflpaffaaGreatCwC
import Derived.Test.YtfppjpmflpaffaaGreatCsK
namespace Go.Proofs.YtfppjpmflpaffaaGreat
open Go.RowKit
set_option linter.unusedVariables false
set_option linter.unusedSimpArgs false


/-- Errors are 2 or 5. -/
def BadE (s : St) : Prop := ∀ e, s = .error e → e = 2 ∨ e = 5

theorem getN_bad : ∀ (b : List UInt8) (k u : Nat) (e : Int), getN k u b = .error e → e = 2 ∨ e = 5
  | [], k, u, e, h => by rw [getN] at h; cases h; exact .inl rfl
  | c :: r, k, u, e, h => by
    rw [getN] at h
    split at h
    · cases h; exact .inr rfl
    · split at h
      · cases h
      · exact getN_bad r _ _ e h

theorem dnum_bad {s : St} (h : BadE s) : BadE (dnum s).2 := by
  intro e he
  unfold dnum at he
  split at he
  · exact h _ (by simpa using he)
  · split at he
    · rename_i e' hg
      simp only [Except.error.injEq] at he
      subst he
      exact getN_bad _ _ _ _ hg
    · cases he

theorem dsize_bad {s : St} (h : BadE s) : BadE (dsize s).2 := by
  intro e he
  unfold dsize at he
  split at he
  · rename_i hd
    have := dnum_bad h e (by rw [hd]; exact he)
    exact this
  · split at he
    · simp only [Except.error.injEq] at he; exact .inr he.symm
    · split at he
      · simp only [Except.error.injEq] at he; exact .inl he.symm
      · cases he

theorem dec_bad : ∀ (t : Ty) (s : St), BadE s → BadE (dec t s).2
  | .num, s, h => dnum_bad h
  | .str, s, h => by
    show BadE (dstr s).2
    intro e he
    unfold dstr at he
    split at he
    · rename_i hd
      exact dsize_bad h e (by rw [hd]; exact he)
    · cases he
  | .list t, s, h => by
    show BadE (dmany (dec t) (dsize s).1 (dsize s).2).2
    have hm : ∀ (n : Nat) (s : St), BadE s → BadE (dmany (dec t) n s).2 := by
      intro n
      induction n with
      | zero => intro s hs; exact hs
      | succ n ih =>
        intro s hs
        cases s with
        | error e => rw [dmany_error]; exact hs
        | ok r => rw [dmany]; exact ih _ (dec_bad t _ hs)
    exact hm _ _ (dsize_bad h)
  | .pair a b, s, h => dec_bad b _ (dec_bad a s h)

theorem endE_zero {t : Ty} {B : List UInt8} {x : t.T} {sn : St} (hx : dec t (.ok B) = (x, sn)) (h : endE sn = 0) : B = enc t x := by
  have hb : BadE sn := by have := dec_bad t (.ok B) (fun e he => by cases he); rw [hx] at this; exact this
  match sn, h with
  | .error e, h =>
    replace h : e = 0 := h
    have := hb e rfl
    omega
  | .ok [], h =>
    have := (enc_dec t B [] x hx).1
    rw [this, List.append_nil]
  | .ok (_ :: _), h => exact absurd (show (3 : Int) = 0 from h) (by decide)

theorem numB_zero : numB 0 = [0] := by unfold numB; rw [show zz 0 = 0 by rfl, vi_one (by decide)]; rfl
theorem enc_zero : ∀ t : Ty, (enc t (zeroT t)).length = (zcells t).length
  | .num => by show (numB 0).length = _; rw [numB_zero]; rfl
  | .str => by show (numB (0 : Nat) ++ _).length = _; rw [show ((0 : Nat) : Int) = 0 by rfl, numB_zero]; rfl
  | .list t => by show (numB (0 : Nat) ++ _).length = _; rw [show ((0 : Nat) : Int) = 0 by rfl, numB_zero]; rfl
  | .pair a b => by
    show (enc a (zeroT a) ++ enc b (zeroT b)).length = (zcells a ++ zcells b).length
    rw [List.length_append, List.length_append, enc_zero a, enc_zero b]

/-- What a decoder hands out. -/
def outT (t : Ty) (x : t.T) (sn : St) : t.T := if endE sn = 0 then x else zeroT t
theorem out_rd {t : Ty} {x : t.T} {sn : St} {w : World} {F : Nat → Prop} {cs : List Value} (h1 : endE sn = 0 → t.rd.rd w F cs x) (h2 : endE sn ≠ 0 → t.rd.rd w F cs (zeroT t)) : t.rd.rd w F cs (outT t x sn) := by
  unfold outT
  split
  · exact h1 ‹_›
  · exact h2 ‹_›
theorem out_len {t : Ty} {B : List UInt8} {x : t.T} {sn : St} (hx : dec t (.ok B) = (x, sn)) (hB : B.length ≤ 1073741824) (hz : (zcells t).length ≤ 100) : (enc t (outT t x sn)).length ≤ 140737488355328 := by
  unfold outT
  split
  · rw [← endE_zero hx ‹_›]; omega
  · rw [enc_zero]; omega

set_option maxRecDepth 100000 in
set_option maxHeartbeats 8000000 in
theorem decodes34 (w : World) (v : Value) (B : List UInt8) (hd : Dat w v B) (hB : B.length ≤ 1073741824) : Calls Tryz.prog 14 #[v] w fun e w' => e = .returned (.bool true) ∧ Below w.heap.size w w' := by
  obtain ⟨va, vn, vc, rfl⟩ : ∃ a n c, v = .slice a n c := by obtain ⟨a, c, e⟩ := hd.len; exact ⟨a, _, c, e⟩
  obtain ⟨x, sn, hx⟩ : ∃ x sn, dec tCommand (.ok B) = (x, sn) := ⟨_, _, rfl⟩
  obtain ⟨y, tn, hy⟩ : ∃ y tn, dec tDatabase (.ok B) = (y, tn) := ⟨_, _, rfl⟩
  obtain ⟨E, hE⟩ : ∃ E, E = endE sn := ⟨_, rfl⟩
  obtain ⟨G, hG⟩ : ∃ G, G = endE tn := ⟨_, rfl⟩
  have HE := Lib.hid hE
  have HG := Lib.hid hG
  have HX := Lib.hid hx
  have HY := Lib.hid hy
  have HD := Lib.hid hd
  have HBB := Lib.hid hB
  have hEE : (E == E) = true := beq_self_eq_true E
  have hGG : (G == G) = true := beq_self_eq_true G
  clear hE hG hx hy hd hB
  go_enter Tryz.func14, Tryz.ntmps14
  go_wp2_with fail
  refine (cd_DecodeCommand w _ B HD.out (by have := HBB.out; unfold maxLen; omega) (mod_small tCommand B HBB.out) x sn HX.out).mono ?_
  rintro e w1 ⟨cs, he, h1, h2, hb⟩
  have hr := out_rd h1 h2
  obtain ⟨a0, a1, aa2, an2, ac2, a3, a4, a5, a6, a7, a8, a9, rfl⟩ := shape_Command (id hr)
  rw [← HE.out] at he
  obtain rfl : e = .returned (.tuple #[.agg #[.int .i64 a0, .int .i64 a1, .slice aa2 an2 ac2, .int .i64 a3, .int .i64 a4, .int .i64 a5, .string a6, .int .i64 a7, .int .i64 a8, .int .i64 a9], .int .i64 E]) := he
  obtain ⟨X1, hX⟩ : ∃ X, X = w1.alloc (.cells #[.int .i64 a0, .int .i64 a1, .slice aa2 an2 ac2, .int .i64 a3, .int .i64 a4, .int .i64 a5, .string a6, .int .i64 a7, .int .i64 a8, .int .i64 a9] 47) := ⟨_, rfl⟩
  obtain ⟨k1, hk⟩ : ∃ k, k = w1.heap.size := ⟨_, rfl⟩
  have hbx : Below w1.heap.size w1 X1 := by rw [hX]; exact (Below.refl _ _).alloc (Nat.le_refl _) _
  have HB1 := Lib.hid (show Below w.heap.size w X1 from hb.trans (hbx.mono hb.size))
  have HS1 := Lib.hid (show Below w.heap.size w X1 from hb.trans (hbx.mono hb.size))
  have HR1 := Lib.hid (show ∀ u, Below X1.heap.size X1 u → (Ty.rd tCommand).rd u (· < u.heap.size) [.int .i64 a0, .int .i64 a1, .slice aa2 an2 ac2, .int .i64 a3, .int .i64 a4, .int .i64 a5, .string a6, .int .i64 a7, .int .i64 a8, .int .i64 a9] (outT tCommand x sn) from fun u hu => by
    have hs : w1.heap.size ≤ X1.heap.size := hbx.size
    have hu' : Below w1.heap.size w1 u := hbx.trans (hu.mono hs)
    exact Rd.more _ (fun b hb => Nat.lt_of_lt_of_le hb.2 hu'.size) (Rd.keep _ (fun b hb hl => hu'.block b hl) hu'.size (rd_shrink tCommand (G := fun b => w.heap.size ≤ b ∧ b < w1.heap.size) (fun b hb hl => ⟨hb, hl⟩) hr)))
  have HC1 := Lib.hid (show ∀ u, Below X1.heap.size X1 u → ∀ (j : Nat) z, ([.int .i64 a0, .int .i64 a1, .slice aa2 an2 ac2, .int .i64 a3, .int .i64 a4, .int .i64 a5, .string a6, .int .i64 a7, .int .i64 a8, .int .i64 a9] : List Value)[j]? = some z → u.cell? ⟨k1, j, none⟩ = some z from fun u hu j z hz => by
    refine (hu.cell (p := ⟨k1, j, none⟩) (show k1 < X1.heap.size by rw [hX, hk]; simp)).trans ?_
    rw [hX, hk]
    have := new_cells w1 [.int .i64 a0, .int .i64 a1, .slice aa2 an2 ac2, .int .i64 a3, .int .i64 a4, .int .i64 a5, .string a6, .int .i64 a7, .int .i64 a8, .int .i64 a9] 47 j z hz
    rw [Addr.add_mid, Nat.zero_add] at this; exact this)
  have HXX1 := Lib.hid hX
  have HKK1 := Lib.hid hk
  clear hr h1 h2 hb hbx hX hk
  go_wp2_with fail
  rw [← HKK1.out, ← HXX1.out]
  refine (rf_DecodeCommand X1 _ B (HD.out.keep HB1.out) HBB.out (mod_small tCommand B HBB.out) x sn HX.out).mono ?_
  rintro e w2 ⟨cs, he, h1, h2, hb⟩
  have hr := out_rd h1 h2
  obtain ⟨c0, c1, ca2, cn2, cc2, c3, c4, c5, c6, c7, c8, c9, rfl⟩ := shape_Command (id hr)
  rw [← HE.out] at he
  obtain rfl : e = .returned (.tuple #[.agg #[.int .i64 c0, .int .i64 c1, .slice ca2 cn2 cc2, .int .i64 c3, .int .i64 c4, .int .i64 c5, .string c6, .int .i64 c7, .int .i64 c8, .int .i64 c9], .int .i64 E]) := he
  obtain ⟨X2, hX⟩ : ∃ X, X = w2.alloc (.cells #[.int .i64 c0, .int .i64 c1, .slice ca2 cn2 cc2, .int .i64 c3, .int .i64 c4, .int .i64 c5, .string c6, .int .i64 c7, .int .i64 c8, .int .i64 c9] 47) := ⟨_, rfl⟩
  obtain ⟨k2, hk⟩ : ∃ k, k = w2.heap.size := ⟨_, rfl⟩
  have hbx : Below w2.heap.size w2 X2 := by rw [hX]; exact (Below.refl _ _).alloc (Nat.le_refl _) _
  have HB2 := Lib.hid (show Below w.heap.size w X2 from HB1.out.trans ((hb.trans (hbx.mono hb.size)).mono HB1.out.size))
  have HS2 := Lib.hid (show Below X1.heap.size X1 X2 from hb.trans (hbx.mono hb.size))
  have HR2 := Lib.hid (show ∀ u, Below X2.heap.size X2 u → (Ty.rd tCommand).rd u (· < u.heap.size) [.int .i64 c0, .int .i64 c1, .slice ca2 cn2 cc2, .int .i64 c3, .int .i64 c4, .int .i64 c5, .string c6, .int .i64 c7, .int .i64 c8, .int .i64 c9] (outT tCommand x sn) from fun u hu => by
    have hs : w2.heap.size ≤ X2.heap.size := hbx.size
    have hu' : Below w2.heap.size w2 u := hbx.trans (hu.mono hs)
    exact Rd.more _ (fun b hb => Nat.lt_of_lt_of_le hb.2 hu'.size) (Rd.keep _ (fun b hb hl => hu'.block b hl) hu'.size (rd_shrink tCommand (G := fun b => X1.heap.size ≤ b ∧ b < w2.heap.size) (fun b hb hl => ⟨hb, hl⟩) hr)))
  have HC2 := Lib.hid (show ∀ u, Below X2.heap.size X2 u → ∀ (j : Nat) z, ([.int .i64 c0, .int .i64 c1, .slice ca2 cn2 cc2, .int .i64 c3, .int .i64 c4, .int .i64 c5, .string c6, .int .i64 c7, .int .i64 c8, .int .i64 c9] : List Value)[j]? = some z → u.cell? ⟨k2, j, none⟩ = some z from fun u hu j z hz => by
    refine (hu.cell (p := ⟨k2, j, none⟩) (show k2 < X2.heap.size by rw [hX, hk]; simp)).trans ?_
    rw [hX, hk]
    have := new_cells w2 [.int .i64 c0, .int .i64 c1, .slice ca2 cn2 cc2, .int .i64 c3, .int .i64 c4, .int .i64 c5, .string c6, .int .i64 c7, .int .i64 c8, .int .i64 c9] 47 j z hz
    rw [Addr.add_mid, Nat.zero_add] at this; exact this)
  have HXX2 := Lib.hid hX
  have HKK2 := Lib.hid hk
  clear hr h1 h2 hb hbx hX hk
  go_wp2_with fail
  rw [← HKK2.out, ← HXX2.out]
  refine (cd_DecodeDatabase X2 _ B (HD.out.keep HB2.out) (by have := HBB.out; unfold maxLen; omega) (mod_small tDatabase B HBB.out) y tn HY.out).mono ?_
  rintro e w3 ⟨cs, he, h1, h2, hb⟩
  have hr := out_rd h1 h2
  obtain ⟨p0, p1, pa2, pn2, pc2, p3, pa4, pn4, pc4, pa5, pn5, pc5, rfl⟩ := shape_Database (id hr)
  rw [← HG.out] at he
  obtain rfl : e = .returned (.tuple #[.agg #[.int .i64 p0, .int .i64 p1, .slice pa2 pn2 pc2, .int .i64 p3, .slice pa4 pn4 pc4, .slice pa5 pn5 pc5], .int .i64 G]) := he
  obtain ⟨X3, hX⟩ : ∃ X, X = w3.alloc (.cells #[.int .i64 p0, .int .i64 p1, .slice pa2 pn2 pc2, .int .i64 p3, .slice pa4 pn4 pc4, .slice pa5 pn5 pc5] 29) := ⟨_, rfl⟩
  obtain ⟨k3, hk⟩ : ∃ k, k = w3.heap.size := ⟨_, rfl⟩
  have hbx : Below w3.heap.size w3 X3 := by rw [hX]; exact (Below.refl _ _).alloc (Nat.le_refl _) _
  have HB3 := Lib.hid (show Below w.heap.size w X3 from HB2.out.trans ((hb.trans (hbx.mono hb.size)).mono HB2.out.size))
  have HS3 := Lib.hid (show Below X2.heap.size X2 X3 from hb.trans (hbx.mono hb.size))
  have HR3 := Lib.hid (show ∀ u, Below X3.heap.size X3 u → (Ty.rd tDatabase).rd u (· < u.heap.size) [.int .i64 p0, .int .i64 p1, .slice pa2 pn2 pc2, .int .i64 p3, .slice pa4 pn4 pc4, .slice pa5 pn5 pc5] (outT tDatabase y tn) from fun u hu => by
    have hs : w3.heap.size ≤ X3.heap.size := hbx.size
    have hu' : Below w3.heap.size w3 u := hbx.trans (hu.mono hs)
    exact Rd.more _ (fun b hb => Nat.lt_of_lt_of_le hb.2 hu'.size) (Rd.keep _ (fun b hb hl => hu'.block b hl) hu'.size (rd_shrink tDatabase (G := fun b => X2.heap.size ≤ b ∧ b < w3.heap.size) (fun b hb hl => ⟨hb, hl⟩) hr)))
  have HC3 := Lib.hid (show ∀ u, Below X3.heap.size X3 u → ∀ (j : Nat) z, ([.int .i64 p0, .int .i64 p1, .slice pa2 pn2 pc2, .int .i64 p3, .slice pa4 pn4 pc4, .slice pa5 pn5 pc5] : List Value)[j]? = some z → u.cell? ⟨k3, j, none⟩ = some z from fun u hu j z hz => by
    refine (hu.cell (p := ⟨k3, j, none⟩) (show k3 < X3.heap.size by rw [hX, hk]; simp)).trans ?_
    rw [hX, hk]
    have := new_cells w3 [.int .i64 p0, .int .i64 p1, .slice pa2 pn2 pc2, .int .i64 p3, .slice pa4 pn4 pc4, .slice pa5 pn5 pc5] 29 j z hz
    rw [Addr.add_mid, Nat.zero_add] at this; exact this)
  have HXX3 := Lib.hid hX
  have HKK3 := Lib.hid hk
  clear hr h1 h2 hb hbx hX hk
  go_wp2_with fail
  rw [← HKK3.out, ← HXX3.out]
  refine (rf_DecodeDatabase X3 _ B (HD.out.keep HB3.out) HBB.out (mod_small tDatabase B HBB.out) y tn HY.out).mono ?_
  rintro e w4 ⟨cs, he, h1, h2, hb⟩
  have hr := out_rd h1 h2
  obtain ⟨r0, r1, ra2, rn2, rc2, r3, ra4, rn4, rc4, ra5, rn5, rc5, rfl⟩ := shape_Database (id hr)
  rw [← HG.out] at he
  obtain rfl : e = .returned (.tuple #[.agg #[.int .i64 r0, .int .i64 r1, .slice ra2 rn2 rc2, .int .i64 r3, .slice ra4 rn4 rc4, .slice ra5 rn5 rc5], .int .i64 G]) := he
  obtain ⟨X4, hX⟩ : ∃ X, X = w4.alloc (.cells #[.int .i64 r0, .int .i64 r1, .slice ra2 rn2 rc2, .int .i64 r3, .slice ra4 rn4 rc4, .slice ra5 rn5 rc5] 29) := ⟨_, rfl⟩
  obtain ⟨k4, hk⟩ : ∃ k, k = w4.heap.size := ⟨_, rfl⟩
  have hbx : Below w4.heap.size w4 X4 := by rw [hX]; exact (Below.refl _ _).alloc (Nat.le_refl _) _
  have HB4 := Lib.hid (show Below w.heap.size w X4 from HB3.out.trans ((hb.trans (hbx.mono hb.size)).mono HB3.out.size))
  have HS4 := Lib.hid (show Below X3.heap.size X3 X4 from hb.trans (hbx.mono hb.size))
  have HR4 := Lib.hid (show ∀ u, Below X4.heap.size X4 u → (Ty.rd tDatabase).rd u (· < u.heap.size) [.int .i64 r0, .int .i64 r1, .slice ra2 rn2 rc2, .int .i64 r3, .slice ra4 rn4 rc4, .slice ra5 rn5 rc5] (outT tDatabase y tn) from fun u hu => by
    have hs : w4.heap.size ≤ X4.heap.size := hbx.size
    have hu' : Below w4.heap.size w4 u := hbx.trans (hu.mono hs)
    exact Rd.more _ (fun b hb => Nat.lt_of_lt_of_le hb.2 hu'.size) (Rd.keep _ (fun b hb hl => hu'.block b hl) hu'.size (rd_shrink tDatabase (G := fun b => X3.heap.size ≤ b ∧ b < w4.heap.size) (fun b hb hl => ⟨hb, hl⟩) hr)))
  have HC4 := Lib.hid (show ∀ u, Below X4.heap.size X4 u → ∀ (j : Nat) z, ([.int .i64 r0, .int .i64 r1, .slice ra2 rn2 rc2, .int .i64 r3, .slice ra4 rn4 rc4, .slice ra5 rn5 rc5] : List Value)[j]? = some z → u.cell? ⟨k4, j, none⟩ = some z from fun u hu j z hz => by
    refine (hu.cell (p := ⟨k4, j, none⟩) (show k4 < X4.heap.size by rw [hX, hk]; simp)).trans ?_
    rw [hX, hk]
    have := new_cells w4 [.int .i64 r0, .int .i64 r1, .slice ra2 rn2 rc2, .int .i64 r3, .slice ra4 rn4 rc4, .slice ra5 rn5 rc5] 29 j z hz
    rw [Addr.add_mid, Nat.zero_add] at this; exact this)
  have HXX4 := Lib.hid hX
  have HKK4 := Lib.hid hk
  clear hr h1 h2 hb hbx hX hk
  have HT4 := Lib.hid (Below.refl X4.heap.size X4)
  have HT3 := Lib.hid (show Below X3.heap.size X3 X4 from HS4.out)
  have HT2 := Lib.hid (show Below X2.heap.size X2 X4 from HS3.out.trans (HT3.out.mono HS3.out.size))
  have HT1 := Lib.hid (show Below X1.heap.size X1 X4 from HS2.out.trans (HT2.out.mono HS2.out.size))
  go_upto_region 5 with fail
  rw [← HKK4.out, ← HXX4.out]
  have c1_0 := HC1.out _ HT1.out 0 _ rfl
  have c1_1 := HC1.out _ HT1.out 1 _ rfl
  have c1_2 := HC1.out _ HT1.out 2 _ rfl
  have c1_3 := HC1.out _ HT1.out 3 _ rfl
  have c1_4 := HC1.out _ HT1.out 4 _ rfl
  have c1_5 := HC1.out _ HT1.out 5 _ rfl
  have c1_6 := HC1.out _ HT1.out 6 _ rfl
  have c1_7 := HC1.out _ HT1.out 7 _ rfl
  have c1_8 := HC1.out _ HT1.out 8 _ rfl
  have c1_9 := HC1.out _ HT1.out 9 _ rfl
  have c2_0 := HC2.out _ HT2.out 0 _ rfl
  have c2_1 := HC2.out _ HT2.out 1 _ rfl
  have c2_2 := HC2.out _ HT2.out 2 _ rfl
  have c2_3 := HC2.out _ HT2.out 3 _ rfl
  have c2_4 := HC2.out _ HT2.out 4 _ rfl
  have c2_5 := HC2.out _ HT2.out 5 _ rfl
  have c2_6 := HC2.out _ HT2.out 6 _ rfl
  have c2_7 := HC2.out _ HT2.out 7 _ rfl
  have c2_8 := HC2.out _ HT2.out 8 _ rfl
  have c2_9 := HC2.out _ HT2.out 9 _ rfl
  go_wp2_with fail
  refine (same_Command X4 [.int .i64 a0, .int .i64 a1, .slice aa2 an2 ac2, .int .i64 a3, .int .i64 a4, .int .i64 a5, .string a6, .int .i64 a7, .int .i64 a8, .int .i64 a9] [.int .i64 c0, .int .i64 c1, .slice ca2 cn2 cc2, .int .i64 c3, .int .i64 c4, .int .i64 c5, .string c6, .int .i64 c7, .int .i64 c8, .int .i64 c9] (outT tCommand x sn) (HR1.out _ HT1.out) (HR2.out _ HT2.out) (out_len HX.out HBB.out (by decide))).mono ?_
  rintro e w5 ⟨rfl, hb5⟩
  have HB5 := Lib.hid hb5
  clear hb5 c1_0 c1_1 c1_2 c1_3 c1_4 c1_5 c1_6 c1_7 c1_8 c1_9 c2_0 c2_1 c2_2 c2_3 c2_4 c2_5 c2_6 c2_7 c2_8 c2_9
  have c3_0 := HC3.out _ (HT3.out.trans (HB5.out.mono HT3.out.size)) 0 _ rfl
  have c3_1 := HC3.out _ (HT3.out.trans (HB5.out.mono HT3.out.size)) 1 _ rfl
  have c3_2 := HC3.out _ (HT3.out.trans (HB5.out.mono HT3.out.size)) 2 _ rfl
  have c3_3 := HC3.out _ (HT3.out.trans (HB5.out.mono HT3.out.size)) 3 _ rfl
  have c3_4 := HC3.out _ (HT3.out.trans (HB5.out.mono HT3.out.size)) 4 _ rfl
  have c3_5 := HC3.out _ (HT3.out.trans (HB5.out.mono HT3.out.size)) 5 _ rfl
  have c4_0 := HC4.out _ (HT4.out.trans (HB5.out.mono HT4.out.size)) 0 _ rfl
  have c4_1 := HC4.out _ (HT4.out.trans (HB5.out.mono HT4.out.size)) 1 _ rfl
  have c4_2 := HC4.out _ (HT4.out.trans (HB5.out.mono HT4.out.size)) 2 _ rfl
  have c4_3 := HC4.out _ (HT4.out.trans (HB5.out.mono HT4.out.size)) 3 _ rfl
  have c4_4 := HC4.out _ (HT4.out.trans (HB5.out.mono HT4.out.size)) 4 _ rfl
  have c4_5 := HC4.out _ (HT4.out.trans (HB5.out.mono HT4.out.size)) 5 _ rfl
  go_wp2_with fail
  refine (same_Database w5 [.int .i64 p0, .int .i64 p1, .slice pa2 pn2 pc2, .int .i64 p3, .slice pa4 pn4 pc4, .slice pa5 pn5 pc5] [.int .i64 r0, .int .i64 r1, .slice ra2 rn2 rc2, .int .i64 r3, .slice ra4 rn4 rc4, .slice ra5 rn5 rc5] (outT tDatabase y tn) (HR3.out _ (HT3.out.trans (HB5.out.mono HT3.out.size))) (HR4.out _ HB5.out) (out_len HY.out HBB.out (by decide))).mono ?_
  rintro e w6 ⟨rfl, hb6⟩
  have HFIN := Lib.hid (show Below w.heap.size w w6 from HB4.out.trans ((HB5.out.trans (hb6.mono HB5.out.size)).mono HB4.out.size))
  clear hb6
  go_wp2
  go_ret
  exact ⟨rfl, HFIN.out⟩
end Go.Proofs.YtfppjpmflpaffaaGreat
