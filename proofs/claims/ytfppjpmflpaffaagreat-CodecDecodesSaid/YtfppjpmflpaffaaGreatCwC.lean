/-
  Law 34: awake. Printed by gen_cw.py.
-/
import Derived.Test.YtfppjpmflpaffaaGreatCwB
import Derived.Deep.Cut
namespace Go.Proofs.YtfppjpmflpaffaaGreat
open Go.RowKit
set_option linter.unusedVariables false
set_option linter.unusedSimpArgs false

theorem shape_Command {w : World} {F : Nat → Prop} {cs : List Value} {x : Ty.T tCommand} (h : (Ty.rd tCommand).rd w F cs x) : ∃ (z0 : Int) (z1 : Int) (za2 : Option Addr) (zn2 zc2 : Nat) (z3 : Int) (z4 : Int) (z5 : Int) (z6 : ByteArray) (z7 : Int) (z8 : Int) (z9 : Int), cs = [.int .i64 z0, .int .i64 z1, .slice za2 zn2 zc2, .int .i64 z3, .int .i64 z4, .int .i64 z5, .string z6, .int .i64 z7, .int .i64 z8, .int .i64 z9] := by
  obtain ⟨u0, r0, rfl, ⟨rfl, _⟩, u1, r1, rfl, ⟨rfl, _⟩, u2, r2, rfl, ⟨_, _, _, rfl, _⟩, u3, r3, rfl, h3, h4⟩ := h
  obtain ⟨_, _, _, _, rfl⟩ := shape_Request h3
  obtain ⟨_, _, _, rfl⟩ := shape_Hold h4
  exact ⟨_, _, _, _, _, _, _, _, _, _, _, _, rfl⟩

theorem shape_Database {w : World} {F : Nat → Prop} {cs : List Value} {x : Ty.T tDatabase} (h : (Ty.rd tDatabase).rd w F cs x) : ∃ (z0 : Int) (z1 : Int) (za2 : Option Addr) (zn2 zc2 : Nat) (z3 : Int) (za4 : Option Addr) (zn4 zc4 : Nat) (za5 : Option Addr) (zn5 zc5 : Nat), cs = [.int .i64 z0, .int .i64 z1, .slice za2 zn2 zc2, .int .i64 z3, .slice za4 zn4 zc4, .slice za5 zn5 zc5] := by
  obtain ⟨u0, r0, rfl, ⟨rfl, _⟩, u1, r1, rfl, ⟨rfl, _⟩, u2, r2, rfl, ⟨_, _, _, rfl, _⟩, u3, r3, rfl, ⟨rfl, _⟩, u4, r4, rfl, ⟨_, _, _, rfl, _⟩, ⟨_, _, _, rfl, _⟩⟩ := h
  exact ⟨_, _, _, _, _, _, _, _, _, _, _, _, rfl⟩

set_option maxRecDepth 100000 in
set_option maxHeartbeats 4000000 in
theorem awake34_any (w : World) : Calls Tryz.prog 10 #[] w fun e w' => e = .returned (.bool true) ∧ Below w.heap.size w w' := by
  have HA := Lib.hid (awake_rd w (· < w.heap.size))
  go_enter Tryz.func10, Tryz.ntmps10
  go_wp2_with fail
  refine (cd_EncodeCommand w [.int .i64 5, .int .i64 (-1), .slice none 0 0, .int .i64 0, .int .i64 0, .int .i64 0, .string ⟨#[]⟩, .int .i64 0, .int .i64 0, .int .i64 0] xAw HA.out (by rw [awake_enc]; simp)).mono ?_
  rintro e w1 ⟨v1, rfl, hr1, hb1⟩
  rw [awake_enc] at hr1
  obtain ⟨va, vc, hv⟩ := hr1.dat.len
  replace hv : v1 = .slice va 10 vc := hv
  subst hv
  have HR1 := Lib.hid hr1
  have HB1 := Lib.hid hb1
  have HD1 := Lib.hid (show dec tCommand (.ok eAw) = (xAw, .ok []) from by have := awake_dec []; rw [List.append_nil] at this; exact this)
  clear hr1 hb1
  go_wp2_with fail
  refine (cd_DecodeCommand w1 _ eAw HR1.out.dat (by decide) (mod_small tCommand eAw (by decide)) xAw (.ok []) HD1.out).mono ?_
  rintro e w2 ⟨cs, he, hx2, -, hb2⟩
  have hx2 := hx2 rfl
  obtain ⟨_, _, rfl, ⟨rfl, _⟩, _, _, rfl, ⟨rfl, _⟩, _, _, rfl, ⟨la, ln, lc, rfl, hln⟩, _, _, rfl, hq, hh⟩ := hx2
  clear hln
  obtain ⟨q0, q1, q2, q3, rfl⟩ := shape_Request hq
  obtain ⟨p0, p1, p2, rfl⟩ := shape_Hold hh
  obtain rfl : e = .returned (.tuple #[.agg #[.int .i64 5, .int .i64 (-1), .slice la ln lc, .int .i64 q0, .int .i64 q1, .int .i64 q2, .string q3, .int .i64 p0, .int .i64 p1, .int .i64 p2], .int .i64 0]) := he
  obtain ⟨X2, hX2⟩ : ∃ X2, X2 = w2.alloc (.cells #[.int .i64 5, .int .i64 (-1), .slice la ln lc, .int .i64 q0, .int .i64 q1, .int .i64 q2, .string q3, .int .i64 p0, .int .i64 p1, .int .i64 p2] 47) := ⟨_, rfl⟩
  obtain ⟨k2, hk2⟩ : ∃ k2, k2 = w2.heap.size := ⟨_, rfl⟩
  have HBX2 := Lib.hid (show Below w2.heap.size w2 X2 from by rw [hX2]; exact (Below.refl _ _).alloc (Nat.le_refl _) _)
  have HK2 := Lib.hid (show k2 < X2.heap.size ∧ X2.cell? ⟨k2, 0, none⟩ = some (.int .i64 5) ∧ X2.cell? ⟨k2, 1, none⟩ = some (.int .i64 (-1)) from by
    have hc : ∀ (j : Nat) u, ([.int .i64 5, .int .i64 (-1), .slice la ln lc, .int .i64 q0, .int .i64 q1, .int .i64 q2, .string q3, .int .i64 p0, .int .i64 p1, .int .i64 p2] : List Value)[j]? = some u → X2.cell? ⟨k2, j, none⟩ = some u := fun j u hu => by
      rw [hX2, hk2]
      have := new_cells w2 [.int .i64 5, .int .i64 (-1), .slice la ln lc, .int .i64 q0, .int .i64 q1, .int .i64 q2, .string q3, .int .i64 p0, .int .i64 p1, .int .i64 p2] 47 j u hu
      rw [Addr.add_mid, Nat.zero_add] at this; exact this
    exact ⟨by rw [hX2, hk2]; simp, hc 0 _ rfl, hc 1 _ rfl⟩)
  have HX2 := Lib.hid hX2
  have HKK := Lib.hid hk2
  have HW12 := Lib.hid hb2.size
  have HB2 := Lib.hid (show Below w1.heap.size w1 X2 from hb2.trans (HBX2.out.mono hb2.size))
  have HR2 := Lib.hid (HR1.out.keep HB2.out)
  have HBW := Lib.hid (show w.heap.size ≤ X2.heap.size from Nat.le_trans HB1.out.size HB2.out.size)
  clear hq hh hb2 hX2 hk2
  go_upto_region 3 with fail
  rw [← HKK.out, ← HX2.out]
  have HRA := Lib.hid (show Row (X2.alloc (.cells #[.int .u8 0] 5)) w.heap.size _ eAw from HR2.out.keep ((Below.refl _ _).alloc (Nat.le_refl _) _))
  go_wp2_with (at_builtin; refine wpList_app_k rfl _ _ rfl w.heap.size _ eAw rfl HRA.out ⟨X2.heap.size, 0, none⟩ [0] 1 1 rfl rfl (fun j u hu => new_cells X2 [.int .u8 0] 5 j u hu) (by decide) (by have := HBW.out; simp; omega) ?_)
  intro v3 w3 h3 h4 hg3
  obtain ⟨ya, yn, yc, rfl⟩ := h3.any
  have HR3 := Lib.hid h3
  have HR4 := Lib.hid h4
  have HB3 := Lib.hid (show Below w.heap.size X2 w3 from ((Below.refl w.heap.size X2).alloc HBW.out _).grown hg3 (by have := HBW.out; simp; omega) (fun k hk => (HRA.out.ge k hk).1))
  have HK3 := Lib.hid (show k2 < w3.heap.size ∧ w3.cell? ⟨k2, 0, none⟩ = some (.int .i64 5) ∧ w3.cell? ⟨k2, 1, none⟩ = some (.int .i64 (-1)) from by
    have hne : ∀ j, (X2.alloc (.cells #[.int .u8 0] 5)).cell? ⟨k2, j, none⟩ = X2.cell? ⟨k2, j, none⟩ := fun j => ((Below.refl X2.heap.size X2).alloc (Nat.le_refl _) _).cell (p := ⟨k2, j, none⟩) HK2.out.1
    have hc : Chg (fun b => (Value.slice va 10 vc).ownBlock = some b) (X2.alloc (.cells #[.int .u8 0] 5)) w3 := Chg.grown hg3 (fun b e => e)
    have hno : ¬ (Value.slice va 10 vc).ownBlock = some k2 := fun e => by have := (HR1.out.ge _ e).2; have := HKK.out; have := HB2.out.size; have h9 : w1.heap.size ≤ w2.heap.size := HW12.out; omega
    have hlt : k2 < (X2.alloc (.cells #[.int .u8 0] 5)).heap.size := by have := HK2.out.1; simp; omega
    exact ⟨Nat.lt_of_lt_of_le hlt hc.size, ((hc.cell (a := ⟨k2, 0, none⟩) hno hlt).trans (hne 0)).trans HK2.out.2.1, ((hc.cell (a := ⟨k2, 1, none⟩) hno hlt).trans (hne 1)).trans HK2.out.2.2⟩)
  clear h3 h4 hg3
  go_wp2_with fail
  refine (cd_DecodeCommand w3 _ (eAw ++ [0]) HR3.out.dat (by decide) (mod_small tCommand (eAw ++ [0]) (by decide)) xAw (.ok [0]) (awake_dec [0])).mono ?_
  rintro e w4 ⟨cs, he, -, hx4, hb4⟩
  have hx4 := hx4 (by decide)
  obtain ⟨m0, m1, ma2, mn2, mc2, m3, m4, m5, m6, m7, m8, m9, rfl⟩ := shape_Command hx4
  obtain rfl : e = .returned (.tuple #[.agg #[.int .i64 m0, .int .i64 m1, .slice ma2 mn2 mc2, .int .i64 m3, .int .i64 m4, .int .i64 m5, .string m6, .int .i64 m7, .int .i64 m8, .int .i64 m9], .int .i64 3]) := he
  obtain ⟨X4, hX4⟩ : ∃ X4, X4 = w4.alloc (.cells #[.int .i64 m0, .int .i64 m1, .slice ma2 mn2 mc2, .int .i64 m3, .int .i64 m4, .int .i64 m5, .string m6, .int .i64 m7, .int .i64 m8, .int .i64 m9] 47) := ⟨_, rfl⟩
  have HB4 := Lib.hid (show Below w3.heap.size w3 X4 from hb4.trans (by rw [hX4]; exact ((Below.refl _ _).alloc (Nat.le_refl _) _).mono hb4.size))
  have HX4 := Lib.hid hX4
  clear hx4 hb4 hX4
  go_upto_region 4 with fail
  rw [← HX4.out]
  have HN := Lib.hid (Row.nil X4 0)
  obtain ⟨x5, s5, h5⟩ : ∃ x s, dec tDatabase (.ok []) = (x, s) := ⟨_, _, rfl⟩
  have HE5 := Lib.hid (show endE s5 = 2 from by have := awake_dec2; rw [h5] at this; exact this)
  have HD5 := Lib.hid h5
  clear h5
  go_wp2_with fail
  refine (cd_DecodeDatabase X4 _ [] HN.out.dat (by decide) (mod_small tDatabase [] (by decide)) x5 s5 HD5.out).mono ?_
  rintro e w5 ⟨cs, he, -, hx5, hb5⟩
  rw [HE5.out] at he
  have hx5 := hx5 (by rw [HE5.out]; decide)
  obtain ⟨n0, n1, na2, nn2, nc2, n3, na4, nn4, nc4, na5, nn5, nc5, rfl⟩ := shape_Database hx5
  obtain rfl : e = .returned (.tuple #[.agg #[.int .i64 n0, .int .i64 n1, .slice na2 nn2 nc2, .int .i64 n3, .slice na4 nn4 nc4, .slice na5 nn5 nc5], .int .i64 2]) := he
  obtain ⟨X5, hX5⟩ : ∃ X5, X5 = w5.alloc (.cells #[.int .i64 n0, .int .i64 n1, .slice na2 nn2 nc2, .int .i64 n3, .slice na4 nn4 nc4, .slice na5 nn5 nc5] 29) := ⟨_, rfl⟩
  have HB5 := Lib.hid (show Below X4.heap.size X4 X5 from hb5.trans (by rw [hX5]; exact ((Below.refl _ _).alloc (Nat.le_refl _) _).mono hb5.size))
  have HX5 := Lib.hid hX5
  clear hx5 hb5 hX5
  go_upto_region 5 with fail
  rw [← HX5.out]
  have HB35 := Lib.hid (HB4.out.trans (HB5.out.mono HB4.out.size))
  have HBF := Lib.hid (show Below w.heap.size w X5 from ((HB1.out.trans (HB2.out.mono HB1.out.size)).trans HB3.out).trans (HB35.out.mono (Nat.le_trans HBW.out HB3.out.size)))
  have b0 : X5.cell? ⟨k2, 0, none⟩ = some (.int .i64 5) := (HB35.out.cell (p := ⟨k2, 0, none⟩) HK3.out.1).trans HK3.out.2.1
  have b1 : X5.cell? ⟨k2, 1, none⟩ = some (.int .i64 (-1)) := (HB35.out.cell (p := ⟨k2, 1, none⟩) HK3.out.1).trans HK3.out.2.2
  have hd := HR4.out.dat.keep HB35.out
  rcases hd.1.2 with ⟨h0, _⟩ | ⟨g, off, c', e, _, hgl, hcell⟩
  · exact absurd h0 (by decide)
  · simp only [Value.slice.injEq] at e
    obtain ⟨rfl, _, rfl⟩ := e
    have t0 : X5.cell? ⟨g, off, none⟩ = some (.int .u8 10) := hcell 0 _ rfl
    have t1 : X5.cell? ⟨g, off + 1, none⟩ = some (.int .u8 1) := hcell 1 _ rfl
    have HZ := Lib.hid (zero_rd tDatabase X5 (· < X5.heap.size))
    clear hd hcell
    go_wp2_with fail
    refine (cd_EncodeDatabase X5 [.int .i64 0, .int .i64 0, .slice none 0 0, .int .i64 0, .slice none 0 0, .slice none 0 0] (zeroT tDatabase) HZ.out (by rw [awake_enc2]; simp)).mono ?_
    rintro e w6 ⟨v6, rfl, hr6, hb6⟩
    rw [awake_enc2] at hr6
    obtain ⟨ta, tc, hv⟩ := hr6.dat.len
    replace hv : v6 = .slice ta 6 tc := hv
    subst hv
    have HFIN := Lib.hid (show Below w.heap.size w w6 from HBF.out.trans (hb6.mono HBF.out.size))
    clear hr6 hb6 b0 b1 t0 t1
    go_wp2
    go_ret
    exact ⟨rfl, HFIN.out⟩
end Go.Proofs.YtfppjpmflpaffaaGreat
