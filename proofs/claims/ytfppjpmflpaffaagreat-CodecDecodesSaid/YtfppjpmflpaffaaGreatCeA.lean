/-
  The program's encoder of numbers.
-/
import Derived.Test.YtfppjpmflpaffaaGreatCx
namespace Go.Proofs.YtfppjpmflpaffaaGreat
open Go.RowKit
set_option linter.unusedVariables false
set_option linter.unusedSimpArgs false

theorem zz_neg {x : Int} (h1 : -9223372036854775808 ≤ x) (h2 : x < 0) : bits .xor .u64 IntKind.u64.max (IntKind.u64.wrap (IntKind.u64.wrap x * 2)) = (zz x : Int) := by
  have e0 : (IntKind.u64.wrap (IntKind.u64.wrap x * 2)) = 2 * x + 18446744073709551616 := by
    rw [IntKind.wrap_u64, IntKind.wrap_u64]; omega
  have hz : (zz x : Int) = -(2 * x) - 1 := by unfold zz; rw [if_pos h2]; omega
  obtain ⟨k, hk⟩ : ∃ k : Nat, (k : Int) = 2 * x + 18446744073709551616 := ⟨(2 * x + 18446744073709551616).toNat, by omega⟩
  rw [e0, ← hk, hz]
  have hk2 : k < 18446744073709551616 := by omega
  have e : bits .xor .u64 IntKind.u64.max (k : Int) = IntKind.u64.wrap (((BitVec.ofInt 64 IntKind.u64.max) ^^^ (BitVec.ofInt 64 (k : Int))).toNat : Int) := rfl
  have e2 : (BitVec.ofInt 64 IntKind.u64.max) ^^^ (BitVec.ofInt 64 (k : Int)) = ~~~ (BitVec.ofInt 64 (k : Int)) := by
    have : BitVec.ofInt 64 IntKind.u64.max = BitVec.allOnes 64 := by decide
    rw [this, BitVec.allOnes_xor]
  have e3 : (BitVec.ofInt 64 (k : Int)).toNat = k := by rw [BitVec.toNat_ofInt]; omega
  rw [e, e2, BitVec.toNat_not, e3, IntKind.wrap_u64]
  omega

theorem zz_pos {x : Int} (h : 0 ≤ x) : x * 2 = (zz x : Int) := by unfold zz; rw [if_neg (by omega)]; omega

theorem or_128 {u : Nat} : bits .or .u8 ((u : Int) % 256) 128 = ((u % 128 + 128 : Nat) : Int) := by
  have e0 : (u : Int) % 256 = ((u % 256 : Nat) : Int) := by omega
  have h : ∀ a : Fin 256, bits .or .u8 ((a.val : Nat) : Int) 128 = ((a.val % 128 + 128 : Nat) : Int) := by decide +kernel
  rw [e0, h ⟨u % 256, by omega⟩]
  show (((u % 256) % 128 + 128 : Nat) : Int) = _
  congr 2
  omega

theorem wrap_small {u : Nat} (h : u < 128) : IntKind.u8.wrap (u : Int) = (u : Int) := by
  simp [IntKind.wrap, IntKind.bits, IntKind.signed]; omega

set_option maxRecDepth 100000 in
set_option maxHeartbeats 2000000 in
theorem cd_appendInt (w : World) (base : Nat) (v : Value) (l : List UInt8) (x : Int) (hx : -9223372036854775808 ≤ x ∧ x < 9223372036854775808) (hb : base ≤ w.heap.size) (hr : Row w base v l) (hl : l.length + (numB x).length ≤ 140737488355328) :
    Calls Tryz.prog 55 #[v, .int .i64 x] w fun e w' => ∃ v', e = .returned v' ∧ Row w' base v' (l ++ numB x) ∧ Grw v v' w w' := by
  obtain ⟨nb, hnb⟩ : ∃ nb, nb = numB x := ⟨_, rfl⟩
  have HNB := Lib.hid (show nb = vi (zz x) from hnb)
  have HR := Lib.hid hr
  have HL := Lib.hid hl
  have HB := Lib.hid hb
  have hz64 := zz_lt hx.1 hx.2
  rw [← hnb] at HL ⊢
  clear hr hl hb
  go_enter Tryz.func55, Tryz.ntmps55
  by_cases h0 : x < 0
  · have g0 : decide (x < 0) = true := decide_eq_true h0
    have e0 := zz_neg hx.1 h0
    obtain ⟨z, hz⟩ : ∃ z, z = zz x := ⟨_, rfl⟩
    rw [← hz] at e0 HNB hz64
    have HZ64 := Lib.hid hz64
    clear hz hnb hz64 hx
    go_wp2
    go_loopg [0, 5] nb.length (fun gk t0 t5 wr => ∃ (u : Nat) (done : List UInt8), u < 2 ^ 64 ∧ nb = done ++ vi u ∧ (vi u).length ≤ gk ∧ t5 = .int .u64 (u : Int) ∧ Row wr base t0 (l ++ done) ∧ Grw v t0 w wr)
    case atStart => exact ⟨z, [], HZ64.out, HNB.out, by rw [HNB.out]; exact Nat.le_refl _, rfl, by rw [List.append_nil]; exact HR.out, Grw.refl _ _⟩
    case round =>
      obtain ⟨u, done, hu, hd, hk, rfl, hrow, hg⟩ := hrel
      have HU := Lib.hid hu
      have HD := Lib.hid hd
      have HK := Lib.hid hk
      have HROW := Lib.hid hrow
      have HG := Lib.hid hg
      have hu0 : 0 ≤ (u : Int) := by omega
      clear hu hd hk hrow hg
      by_cases h128 : 128 ≤ u
      · have g1 : decide ((128 : Int) ≤ (u : Int)) = true := decide_eq_true (by omega)
        have g1' : (128 : Int) ≤ (u : Int) := by omega
        obtain ⟨b, hb, hv⟩ : ∃ b : UInt8, (b.toNat : Int) = ((u % 128 + 128 : Nat) : Int) ∧ vi u = b :: vi (u / 128) := ⟨UInt8.ofNat (u % 128 + 128), by rw [ofNat_toNat (by omega)], vi_more (by omega)⟩
        have e1 := (or_128 (u := u)).trans hb.symm
        have HV := Lib.hid hv
        have HLL := Lib.hid (show (l ++ done).length + [b].length ≤ 140737488355328 from by
          have h1 := HL.out
          rw [HD.out, HV.out] at h1
          simp only [List.length_append, List.length_cons, List.length_nil] at h1 ⊢; omega)
        clear hb hv
        go_wp2_with (at_builtin; refine wpList_app_o rfl _ _ rfl base _ _ rfl (HROW.out.keep ((Below.refl _ _).alloc (Nat.le_refl _) _)) _ [b] rfl (dat_one _ _) HLL.out (by have := HB.out; have := HG.out.chg.size; simp; omega) ?_)
        intro v' w' hr' hg'
        have HR' := Lib.hid hr'
        have HG' := Lib.hid (HG.out.trans ((Grw.of_below ((Below.refl _ _).alloc (Nat.le_refl _) _)).trans hg'))
        clear hr' hg'
        go_wp2
        go_roundg (gk - 1)
        case rel => exact ⟨u / 128, done ++ [b], by have := HU.out; omega, by rw [HD.out, HV.out]; simp, by have := HK.out; rw [HV.out] at this; simp at this; omega, by go_num, HR'.out, HG'.out⟩
        case measure => have := HK.out; rw [HV.out] at this; simp at this; omega
      · have g1 : decide ((128 : Int) ≤ (u : Int)) = false := decide_eq_false (by omega)
        have g1' : ¬ (128 : Int) ≤ (u : Int) := by omega
        obtain ⟨b, hb, hv⟩ : ∃ b : UInt8, (b.toNat : Int) = (u : Int) ∧ vi u = [b] := ⟨UInt8.ofNat u, by rw [ofNat_toNat (by omega)], vi_one (by omega)⟩
        have e1 := (wrap_small (u := u) (by omega)).trans hb.symm
        have HV := Lib.hid hv
        have HLL := Lib.hid (show (l ++ done).length + [b].length ≤ 140737488355328 from by
          have h1 := HL.out
          rw [HD.out, HV.out] at h1
          simp only [List.length_append, List.length_cons, List.length_nil] at h1 ⊢; omega)
        clear hb hv
        go_wp2_with (at_builtin; refine wpList_app_o rfl _ _ rfl base _ _ rfl (HROW.out.keep ((Below.refl _ _).alloc (Nat.le_refl _) _)) _ [b] rfl (dat_one _ _) HLL.out (by have := HB.out; have := HG.out.chg.size; simp; omega) ?_)
        intro v' w' hr' hg'
        have HR' := Lib.hid hr'
        have HG' := Lib.hid (HG.out.trans ((Grw.of_below ((Below.refl _ _).alloc (Nat.le_refl _) _)).trans hg'))
        clear hr' hg'
        go_wp2
        go_ret
        exact ⟨_, rfl, by rw [HD.out, HV.out]; first | exact HR'.out | (rw [← List.append_assoc]; exact HR'.out), HG'.out⟩
  · have g0 : decide (x < 0) = false := decide_eq_false h0
    have e00 : IntKind.u64.wrap x = x := by rw [IntKind.wrap_u64]; omega
    obtain ⟨z, hz⟩ : ∃ z, z = zz x := ⟨_, rfl⟩
    have e0 : IntKind.u64.wrap (x * 2) = (z : Int) := by rw [hz, ← zz_pos (by omega), IntKind.wrap_u64]; omega
    rw [← hz] at HNB hz64
    have HZ64 := Lib.hid hz64
    clear hz hnb hz64 hx h0
    go_wp2
    go_loopg [0, 5] nb.length (fun gk t0 t5 wr => ∃ (u : Nat) (done : List UInt8), u < 2 ^ 64 ∧ nb = done ++ vi u ∧ (vi u).length ≤ gk ∧ t5 = .int .u64 (u : Int) ∧ Row wr base t0 (l ++ done) ∧ Grw v t0 w wr)
    case atStart => exact ⟨z, [], HZ64.out, HNB.out, by rw [HNB.out]; exact Nat.le_refl _, rfl, by rw [List.append_nil]; exact HR.out, Grw.refl _ _⟩
    case round =>
      obtain ⟨u, done, hu, hd, hk, rfl, hrow, hg⟩ := hrel
      have HU := Lib.hid hu
      have HD := Lib.hid hd
      have HK := Lib.hid hk
      have HROW := Lib.hid hrow
      have HG := Lib.hid hg
      have hu0 : 0 ≤ (u : Int) := by omega
      clear hu hd hk hrow hg
      by_cases h128 : 128 ≤ u
      · have g1 : decide ((128 : Int) ≤ (u : Int)) = true := decide_eq_true (by omega)
        have g1' : (128 : Int) ≤ (u : Int) := by omega
        obtain ⟨b, hb, hv⟩ : ∃ b : UInt8, (b.toNat : Int) = ((u % 128 + 128 : Nat) : Int) ∧ vi u = b :: vi (u / 128) := ⟨UInt8.ofNat (u % 128 + 128), by rw [ofNat_toNat (by omega)], vi_more (by omega)⟩
        have e1 := (or_128 (u := u)).trans hb.symm
        have HV := Lib.hid hv
        have HLL := Lib.hid (show (l ++ done).length + [b].length ≤ 140737488355328 from by
          have h1 := HL.out
          rw [HD.out, HV.out] at h1
          simp only [List.length_append, List.length_cons, List.length_nil] at h1 ⊢; omega)
        clear hb hv
        go_wp2_with (at_builtin; refine wpList_app_o rfl _ _ rfl base _ _ rfl (HROW.out.keep ((Below.refl _ _).alloc (Nat.le_refl _) _)) _ [b] rfl (dat_one _ _) HLL.out (by have := HB.out; have := HG.out.chg.size; simp; omega) ?_)
        intro v' w' hr' hg'
        have HR' := Lib.hid hr'
        have HG' := Lib.hid (HG.out.trans ((Grw.of_below ((Below.refl _ _).alloc (Nat.le_refl _) _)).trans hg'))
        clear hr' hg'
        go_wp2
        go_roundg (gk - 1)
        case rel => exact ⟨u / 128, done ++ [b], by have := HU.out; omega, by rw [HD.out, HV.out]; simp, by have := HK.out; rw [HV.out] at this; simp at this; omega, by go_num, HR'.out, HG'.out⟩
        case measure => have := HK.out; rw [HV.out] at this; simp at this; omega
      · have g1 : decide ((128 : Int) ≤ (u : Int)) = false := decide_eq_false (by omega)
        have g1' : ¬ (128 : Int) ≤ (u : Int) := by omega
        obtain ⟨b, hb, hv⟩ : ∃ b : UInt8, (b.toNat : Int) = (u : Int) ∧ vi u = [b] := ⟨UInt8.ofNat u, by rw [ofNat_toNat (by omega)], vi_one (by omega)⟩
        have e1 := (wrap_small (u := u) (by omega)).trans hb.symm
        have HV := Lib.hid hv
        have HLL := Lib.hid (show (l ++ done).length + [b].length ≤ 140737488355328 from by
          have h1 := HL.out
          rw [HD.out, HV.out] at h1
          simp only [List.length_append, List.length_cons, List.length_nil] at h1 ⊢; omega)
        clear hb hv
        go_wp2_with (at_builtin; refine wpList_app_o rfl _ _ rfl base _ _ rfl (HROW.out.keep ((Below.refl _ _).alloc (Nat.le_refl _) _)) _ [b] rfl (dat_one _ _) HLL.out (by have := HB.out; have := HG.out.chg.size; simp; omega) ?_)
        intro v' w' hr' hg'
        have HR' := Lib.hid hr'
        have HG' := Lib.hid (HG.out.trans ((Grw.of_below ((Below.refl _ _).alloc (Nat.le_refl _) _)).trans hg'))
        clear hr' hg'
        go_wp2
        go_ret
        exact ⟨_, rfl, by rw [HD.out, HV.out]; first | exact HR'.out | (rw [← List.append_assoc]; exact HR'.out), HG'.out⟩
end Go.Proofs.YtfppjpmflpaffaaGreat
