/-
  The reference's Check.
-/
import Derived.Test.YtpgaldkedeohaaaChkC
namespace Go.Proofs.Ytpgaldkedeohaaa
open Go.RowKit
set_option linter.unusedVariables false

/-- An error comes with kind 0. -/
theorem ck_err (L : List Ex) (cols : List Int) (k : Nat) (h : (Xp.ck L cols k).2 ≠ 0) : (Xp.ck L cols k).1 = 0 := by
  rw [Xp.ck_eq] at h ⊢
  unfold Xp.ckS at h ⊢
  generalize Xp.ck L cols = f at *
  generalize L.getD k Xp.zeroE = e at *
  by_cases c1 : Xp.badOp e = true
  · rw [if_pos c1]
  rw [if_neg c1] at h ⊢
  by_cases c2 : Xp.badIx e k = true
  · rw [if_pos c2]
  rw [if_neg c2] at h ⊢
  by_cases c3 : Xp.badCol e cols.length = true
  · rw [if_pos c3]
  rw [if_neg c3] at h ⊢
  by_cases c4 : 1 ≤ Xp.arity e.op ∧ (f e.a.toNat).2 ≠ 0
  · rw [if_pos c4]
  rw [if_neg c4] at h ⊢
  by_cases c5 : 2 ≤ Xp.arity e.op ∧ (f e.b.toNat).2 ≠ 0
  · rw [if_pos c5]
  rw [if_neg c5] at h ⊢
  revert h
  unfold Xp.cmb
  split
  · intro h; exact absurd rfl h
  · split
    · intro h; exact absurd rfl h
    · split
      · intro h; exact absurd rfl h
      · split
        · split
          · intro h; exact absurd rfl h
          · intro _; rfl
        · split
          · split
            · intro h; exact absurd rfl h
            · intro _; rfl
          · split
            · split
              · intro h; exact absurd rfl h
              · intro _; rfl
            · split
              · intro h; exact absurd rfl h
              · intro _; rfl

def encP : Enc (Int × Int) := enc2 (fun p => .int .i64 p.1) (fun p => .int .i64 p.2)

theorem chk_info : (Try.prog.info? 56).map (fun i => (i.zero, i.size, i.bytes)) = some (some (.agg #[.int .i64 0, .int .i64 0]), 2, 16) := by kernel_rfl

set_option maxRecDepth 100000 in
set_option maxHeartbeats 4000000 in
theorem ref_Check_long (a : Option Addr) (n c : Nat) (root : Int) (cv : Value) (w : World) (h : 200 < n) :
    Calls Try.prog 14 #[.slice a n c, .int .i64 root, cv] w fun e w' => e = .returned (.tuple #[.int .i64 0, .int .i64 4]) ∧ w = w' := by
  have h1 : ¬ n ≤ 200 := by omega
  go_enter Try.func14, Try.ntmps14
  go_wp2
  go_ret2
  exact ⟨rfl, rfl⟩

set_option maxRecDepth 100000 in
set_option maxHeartbeats 4000000 in
theorem ref_Check_out (a : Option Addr) (n c : Nat) (root : Int) (cv : Value) (w : World) (h0 : n ≤ 200) (h : root < 0 ∨ (n : Int) ≤ root) :
    Calls Try.prog 14 #[.slice a n c, .int .i64 root, cv] w fun e w' => e = .returned (.tuple #[.int .i64 0, .int .i64 10]) ∧ w = w' := by
  have h1 : ¬ 200 < n := by omega
  rcases h with h | h
  · go_enter Try.func14, Try.ntmps14
    go_wp2
    go_ret2
    exact ⟨rfl, rfl⟩
  · have h0 : 0 ≤ root := by omega
    go_enter Try.func14, Try.ntmps14
    go_wp2
    go_ret2
    exact ⟨rfl, rfl⟩

set_option maxRecDepth 100000 in
set_option maxHeartbeats 4000000 in
theorem ref_Check_in (b off c r : Nat) (L : List Ex) (cv : Value) (cols : List Int) (w : World) (hb : b < w.heap.size) (hr : r < L.length) (hlc : L.length ≤ c) (hlen : L.length ≤ 200)
    (hL : ∀ (i : Nat) (x : Ex), L[i]? = some x → ExAt w b (off + i * 7) x) (hrow : IntsAt w w.heap.size cv cols) :
    Calls Try.prog 14 #[.slice (some ⟨b, off, none⟩) L.length c, .int .i64 r, cv] w fun e w' => e = .returned (.tuple #[.int .i64 (Xp.ck L cols r).1, .int .i64 (Xp.ck L cols r).2]) ∧ Below w.heap.size w w' := by
  obtain ⟨N, hN⟩ : ∃ N, N = L.length := ⟨_, rfl⟩
  rw [← hN] at hr hlc hlen ⊢
  have HN := Lib.hid hN
  clear hN
  have HL := Lib.hid hL
  have HR := Lib.hid hrow
  clear hL hrow
  obtain ⟨i0, hi0, hz0, hz1, hz2⟩ := info_parts chk_info
  obtain ⟨rk0, re0, hres0⟩ : ∃ rk re, Xp.ck L cols r = (rk, re) := ⟨_, _, rfl⟩
  have hre0 := ck_err L cols r
  rw [hres0] at hre0 ⊢
  simp only at hre0 ⊢
  have HRE := Lib.hid hre0
  have HR0 := Lib.hid hres0
  clear hre0 hres0
  have hr0 : (0 : Int) ≤ (r : Int) := by omega
  have hr1 : (r : Int) < (N : Int) := by omega
  have hr2 : ¬ N ≤ r := by omega
  have hr3 : decide (N ≤ r) = false := decide_eq_false hr2
  have hr4 : ¬ 200 < N := by omega
  go_enter Try.func14, Try.ntmps14
  go_wp2_with (refine wpList_make_full _ rfl _ _ 54 rfl w.heap.size 56 i0 _ 2 Try.underlying54 hi0 hz0 hz1 _ _ _ _ (r + 1) rfl rfl ?c1 ?c2 ?c3 ?c4 ?c5 ?_)
  case c1 => omega
  case c2 => omega
  case c3 => rw [hz2]; omega
  case c4 => unfold maxLen; omega
  case c5 => simp
  intro w1 hown hg1
  have hB1 := below_grown hg1
  have hO1 : OwnA encP 56 w1 w.heap.size w.heap.size (r + 1) (upto (0, 0) (Xp.ck L cols) (r + 1) 0) := ⟨by rw [upto_len], by rw [upto_zero, ← made_all encP (0, 0) (.agg #[.int .i64 0, .int .i64 0]) rfl]; exact hown⟩
  have HO1 := Lib.hid hO1
  clear hown hg1 hO1
  go_wp2
  go_loopg [9] (r + 1) (fun gk i wr => ∃ k : Nat, k ≤ r + 1 ∧ gk + k = r + 1 ∧ i = .int .i64 k ∧ Below w.heap.size w wr ∧ OwnA encP 56 wr w.heap.size w.heap.size (r + 1) (upto (0, 0) (Xp.ck L cols) (r + 1) k))
  case atStart => exact ⟨0, by omega, by omega, rfl, hB1, HO1.out⟩
  case round =>
    obtain ⟨k, hk, hgk, rfl, hB, hO⟩ := hrel
    clear HO1 hB1
    have HO := Lib.hid hO
    have hgk := Lib.hid hgk
    have hlt1 := hO.lt.1
    clear hO
    by_cases hkr : k < r + 1
    · obtain ⟨e, he⟩ : ∃ e, L[k]? = some e := ⟨L[k]'(by have := HN.out; omega), List.getElem?_eq_getElem (by have := HN.out; omega)⟩
      have HE := Lib.hid he
      have HX := Lib.hid ((HL.out k e he).below hb hB)
      have hbr : b < wr.heap.size := Nat.lt_of_lt_of_le hb hB.size
      obtain ⟨rk, re, hres⟩ : ∃ rk re, Xp.ck L cols k = (rk, re) := ⟨_, _, rfl⟩
      have HRES := Lib.hid hres
      have HVS := Lib.hid (show ∀ j, j < k → PAt wr w.heap.size (j * 2) (Xp.ck L cols j) from fun j hj => by
        have hg : (upto (0, 0) (Xp.ck L cols) (r + 1) k)[j]? = some (Xp.ck L cols j) := by rw [upto_get (by omega), if_pos hj]
        exact ⟨HO.out.cell (j := 0) hg rfl, HO.out.cell (j := 1) hg rfl⟩)
      clear he hres
      go_wp2_with fail
      refine (rcheck_call b off N c k w.heap.size (r + 1) (r + 1) w.heap.size L cols cv e rk re _ hbr hlt1 (by omega) (by omega) hkr HE.out HX.out HVS.out (rd_below HR.out hB) HRES.out).mono ?_
      rintro e2 w9 ⟨rfl, hb9⟩
      have hB3 : Below w.heap.size w w9 := below_chain hB hb9
      have hO3 := HO.out.below hb9
      have hg3 : (upto (0, 0) (Xp.ck L cols) (r + 1) k)[k]? = some (0, 0) := by rw [upto_get hkr, if_neg (by omega)]
      have s0 : w9.cell? ⟨w.heap.size, k * 2, none⟩ = some (.int .i64 0) := hO3.cell (j := 0) hg3 rfl
      have s1 : w9.cell? ⟨w.heap.size, k * 2 + 1, none⟩ = some (.int .i64 0) := hO3.cell (j := 1) hg3 rfl
      have f0 := hO3.free (k * 2)
      have f1 := hO3.free (k * 2 + 1)
      have hl3 := hO3.lt.1
      have hput := hO3.put2 (i := k) (rk, re) (u0 := .int .i64 rk) (u1 := .int .i64 re) (enc2_set _ _ (rk, re)) hkr
      rw [← HRES.out, upto_set] at hput
      have HPUT := Lib.hid hput
      clear hput hO3 hb9 hg3
      go_wp2_with fail
      go_roundg (gk - 1)
      case measure => have := hgk.out; omega
      case rel => exact ⟨k + 1, by omega, by have := hgk.out; omega, by go_num, (hB3.setCell (by simp) _).setCell (by simp) _, HPUT.out⟩
    · obtain rfl : k = r + 1 := by omega
      have hg : (upto (0, 0) (Xp.ck L cols) (r + 1) (r + 1))[r]? = some (rk0, re0) := by rw [upto_get (by omega), if_pos (by omega), HR0.out]
      have t0 : wr.cell? ⟨w.heap.size, r * 2, none⟩ = some (.int .i64 rk0) := HO.out.cell (j := 0) hg rfl
      have t1 : wr.cell? ⟨w.heap.size, r * 2 + 1, none⟩ = some (.int .i64 re0) := HO.out.cell (j := 1) hg rfl
      clear hg
      by_cases hz : re0 = 0
      · subst hz
        go_wp2_with fail
        go_ret2
        exact ⟨rfl, hB⟩
      · have hz1 : (re0 != 0) = true := by simp; exact hz
        obtain rfl := HRE.out hz
        go_wp2_with fail
        go_quiet (fail)
        go_wp2
        go_ret2
        exact ⟨rfl, below_drewN hB _⟩

end Go.Proofs.Ytpgaldkedeohaaa
