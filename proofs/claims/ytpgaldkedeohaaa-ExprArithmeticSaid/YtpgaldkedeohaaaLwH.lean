/-
  The walk of ExprShared.
-/
import Derived.Test.YtpgaldkedeohaaaLwD
namespace Go.Proofs.Ytpgaldkedeohaaa
open Go.RowKit
set_option linter.unusedVariables false

namespace Xp
/-- Doubling, as the law writes it. -/
def dblW (x : Int) : Nat → Vl
  | 0 => ⟨1, x, ⟨#[]⟩⟩
  | i + 1 => if (dblW x i).k = 1 then (if (dblW x i).n > 4611686018427387903 ∨ (dblW x i).n < -4611686018427387904 then zero else ⟨1, 2 * (dblW x i).n, ⟨#[]⟩⟩) else dblW x i

theorem dblW_form (x : Int) (hx : -128 ≤ x ∧ x ≤ 127) : ∀ i, dblW x i = zero ∨ ∃ n, dblW x i = ⟨1, n, ⟨#[]⟩⟩ ∧ -9223372036854775808 ≤ n ∧ n ≤ 9223372036854775807 := by
  intro i
  induction i with
  | zero => exact .inr ⟨x, rfl, by omega, by omega⟩
  | succ i ih =>
    rcases ih with h | ⟨n, h, h1, h2⟩
    · left
      show (if (dblW x i).k = 1 then _ else dblW x i) = _
      rw [h]; rfl
    · show (if (dblW x i).k = 1 then (if (dblW x i).n > 4611686018427387903 ∨ (dblW x i).n < -4611686018427387904 then zero else ⟨1, 2 * (dblW x i).n, ⟨#[]⟩⟩) else dblW x i) = _ ∨ _
      rw [h]
      simp only [if_true]
      by_cases hc : n > 4611686018427387903 ∨ n < -4611686018427387904
      · left; rw [if_pos hc]
      · right
        refine ⟨2 * n, ?_, by omega, by omega⟩
        show (if (dblW x i).k = 1 then (if (dblW x i).n > 4611686018427387903 ∨ (dblW x i).n < -4611686018427387904 then zero else ⟨1, 2 * (dblW x i).n, ⟨#[]⟩⟩) else dblW x i) = _
        rw [h]
        simp only [if_true]
        rw [if_neg hc]

theorem dbl_eq (x : Int) (hx : -128 ≤ x ∧ x ≤ 127) : ∀ i, dbl ⟨1, x, ⟨#[]⟩⟩ i = dblW x i := by
  intro i
  induction i with
  | zero => rfl
  | succ i ih =>
    show arith 3 (dbl _ i) (dbl _ i) = _
    rw [ih]
    show _ = (if (dblW x i).k = 1 then (if (dblW x i).n > 4611686018427387903 ∨ (dblW x i).n < -4611686018427387904 then zero else ⟨1, 2 * (dblW x i).n, ⟨#[]⟩⟩) else dblW x i)
    rcases dblW_form x hx i with h | ⟨n, h, h1, h2⟩
    · rw [h]; rfl
    · rw [h]
      unfold arith
      simp only [and_self, if_true]
      by_cases hc : n > 4611686018427387903 ∨ n < -4611686018427387904
      · rw [if_pos hc, if_neg (by unfold i64; simp; omega)]
      · rw [if_neg hc, if_pos (by unfold i64; simp; omega)]
        congr 1; omega
end Xp

theorem chain_evX (x : Int) (hx : -128 ≤ x ∧ x ≤ 127) (k : Nat) : evX (Xp.chain k) (k : Int) [⟨1, x, ⟨#[]⟩⟩] = Xp.dblW x k := by
  unfold evX
  rw [if_neg (by rw [Xp.chain_len]; omega), Int.toNat_natCast, Xp.chain_ev _ k k (Nat.le_refl _), Xp.dbl_eq x hx]

theorem chain_chkX (k : Nat) (h : k ≤ 199) : chkX (Xp.chain k) (k : Int) [1] = (1, 0) := by
  unfold chkX
  rw [if_neg (by rw [Xp.chain_len]; omega), if_neg (by rw [Xp.chain_len]; omega), Int.toNat_natCast]
  exact Xp.chain_ck k k (Nat.le_refl _)

theorem chain_colX (k : Nat) : colX (Xp.chain k) (k : Int) = [0] := by
  unfold colX
  rw [if_neg (by rw [Xp.chain_len]; omega), Int.toNat_natCast]
  unfold Xp.colS
  rw [Xp.chain_cols]; rfl

theorem chain_wf : ∀ k, ∀ x ∈ Xp.chain k, x.c.wf := by
  intro k
  induction k with
  | zero => intro x hx; simp [Xp.chain] at hx; subst hx; exact ⟨by decide, by decide⟩
  | succ k ih =>
    intro x hx
    rcases List.mem_append.1 hx with h | h
    · exact ih x h
    · obtain rfl := List.mem_singleton.1 h; exact (show Xp.zero.wf from ⟨by decide, by decide⟩)

theorem sl_newE (w : World) (e : Ex) (t : TypeId) : Sl (w.alloc (.cells #[.int .i64 e.op, .int .i64 e.a, .int .i64 e.b, .int .i64 e.col, .int .i64 e.c.k, .int .i64 e.c.n, .string e.c.s] t)) 7 (.slice (some ⟨w.heap.size, 0, none⟩) 1 1) 1 (encE.all [e]) := by
  refine ⟨rfl, .inr ⟨_, 0, 1, rfl, Nat.le_refl _, by simp, fun j u hu => ?_⟩⟩
  have := new_cells w [.int .i64 e.op, .int .i64 e.a, .int .i64 e.b, .int .i64 e.col, .int .i64 e.c.k, .int .i64 e.c.n, .string e.c.s] t j u hu
  have e : (⟨w.heap.size, 0, none⟩ : Addr).add j = ⟨w.heap.size, j, none⟩ := by unfold Addr.add; split <;> simp_all
  rw [e] at this
  rw [Nat.zero_add]; exact this

/-- A row of one value in a block of its own. -/
theorem row_one {w : World} {g n c : Nat} {x : Vl} (hg : g < w.heap.size) (h0 : w.cell? ⟨g, 0, none⟩ = some (.int .i64 x.k)) (h1 : w.cell? ⟨g, 1, none⟩ = some (.int .i64 x.n)) (h2 : w.cell? ⟨g, 2, none⟩ = some (.string x.s)) (hx : Vok x) : RowAt w w.heap.size (.slice (some ⟨g, 0, none⟩) 1 1) [x] := by
  refine ⟨_, 1, 1, rfl, rfl, Nat.le_refl _, by decide, .inr ⟨g, 0, rfl, hg, hg, fun i y hi => ?_⟩⟩
  have hi0 : i = 0 := by have := (List.getElem?_eq_some_iff.1 hi).1; simp at this; exact this
  subst hi0
  obtain rfl := Option.some.inj hi
  refine ⟨encV.cells x, fun j u hu => ?_, vok_rd hx⟩
  have hj : j < 3 := by have := (List.getElem?_eq_some_iff.1 hu).1; rwa [encV.len] at this
  rcases (show j = 0 ∨ j = 1 ∨ j = 2 by omega) with rfl | rfl | rfl
  all_goals (obtain rfl := Option.some.inj hu; assumption)

theorem ints_one {w : World} {g : Nat} {x : Int} (hg : g < w.heap.size) (h0 : w.cell? ⟨g, 0, none⟩ = some (.int .i64 x)) (hx : (Lit.int .i64 x).wf = true) : IntsAt w w.heap.size (.slice (some ⟨g, 0, none⟩) 1 1) [x] := by
  refine ⟨_, 1, 1, rfl, rfl, Nat.le_refl _, by decide, .inr ⟨g, 0, rfl, hg, hg, fun i y hi => ?_⟩⟩
  have hi0 : i = 0 := by have := (List.getElem?_eq_some_iff.1 hi).1; simp at this; exact this
  subst hi0
  obtain rfl := Option.some.inj hi
  refine ⟨[.int .i64 x], fun j u hu => ?_, rfl, hx⟩
  have hj : j = 0 := by
    have : j < 1 := (List.getElem?_eq_some_iff.1 hu).1
    omega
  subst hj
  obtain rfl := Option.some.inj hu
  exact h0

theorem owns_new (w : World) (cs : Array Value) (t : TypeId) (n size : Nat) (h : cs.size = n * size) (hn : n ≤ maxLen) : (w.alloc (.cells cs t)).ownsRow w.heap.size t size (.slice (some ⟨w.heap.size, 0, none⟩) n n) n cs.toList :=
  ⟨by rw [Array.length_toList, h], .inr ⟨w.heap.size, n, cs, rfl, Nat.le_refl _, heap_new _ _, Nat.le_refl _, hn, h, by rw [← h]; exact List.take_of_length_le (by simp)⟩⟩

theorem vok_int {n : Int} (h1 : -9223372036854775808 ≤ n) (h2 : n ≤ 9223372036854775807) : Vok ⟨1, n, ⟨#[]⟩⟩ :=
  ⟨show (Lit.int .i64 1).wf = true by decide, show (Lit.int .i64 n).wf = true from WalkArith.wf_i64 (by omega), Nat.zero_le _⟩

theorem dblW_stop {x : Int} {i : Nat} (h : Xp.dblW x i = Xp.zero) : ∀ k, i ≤ k → Xp.dblW x k = Xp.zero := by
  intro k
  induction k with
  | zero => intro hk; obtain rfl : i = 0 := by omega
            exact h
  | succ k ih =>
    intro hk
    by_cases e : i = k + 1
    · subst e; exact h
    · have := ih (by omega)
      show (if (Xp.dblW x k).k = 1 then _ else Xp.dblW x k) = _
      rw [this]; rfl

theorem dblW_step {x n : Int} {i : Nat} (h : Xp.dblW x i = ⟨1, n, ⟨#[]⟩⟩) : Xp.dblW x (i + 1) = if n > 4611686018427387903 ∨ n < -4611686018427387904 then Xp.zero else ⟨1, 2 * n, ⟨#[]⟩⟩ := by
  show (if (Xp.dblW x i).k = 1 then (if (Xp.dblW x i).n > 4611686018427387903 ∨ (Xp.dblW x i).n < -4611686018427387904 then Xp.zero else ⟨1, 2 * (Xp.dblW x i).n, ⟨#[]⟩⟩) else Xp.dblW x i) = _
  rw [h]; rfl

/-- The law's own value lies there. -/
def WantAt (w : World) (B : Nat) (v : Vl) : Prop := B < w.heap.size ∧ VlAt w B 0 v ∧ w.frozen? ⟨B, 0, none⟩ = false ∧ w.frozen? ⟨B, 1, none⟩ = false ∧ w.frozen? ⟨B, 2, none⟩ = false

theorem want_new (w : World) (o : Obj) (k n : Int) (s : ByteArray) (t : TypeId) : WantAt ((w.alloc o).alloc (.cells #[.int .i64 k, .int .i64 n, .string s] t)) (w.heap.size + 1) ⟨k, n, s⟩ := by
  refine ⟨by simp, ⟨?_, ?_, ?_⟩, ?_, ?_, ?_⟩ <;> (try simp only) <;> go_simp

theorem val_new (w : World) (o : Obj) (k n : Int) (s : ByteArray) (t : TypeId) : VlAt ((w.alloc (.cells #[.int .i64 k, .int .i64 n, .string s] t)).alloc o) w.heap.size 0 ⟨k, n, s⟩ := by
  refine ⟨?_, ?_, ?_⟩ <;> (try simp only) <;> go_simp

set_option maxRecDepth 100000 in
set_option maxHeartbeats 8000000 in
theorem shared_walk (n x : Int) (w : World) (hn : 0 ≤ n ∧ n ≤ 255) (hx : -128 ≤ x ∧ x ≤ 127) :
    Calls Try.prog 10 #[.int .u8 n, .int .i8 x] w (Holds w) := by
  obtain ⟨hn0, hn1⟩ := hn
  have HX := Lib.hid hx
  obtain ⟨hx0, hx1⟩ := hx
  obtain ⟨k, hk⟩ : ∃ k : Nat, n % 199 = (k : Int) := ⟨(n % 199).toNat, by omega⟩
  have hk199 : k ≤ 198 := by omega
  obtain ⟨ie, hie, hez0, hez1, hezb⟩ := info_parts expr_info
  have hB0 : Below w.heap.size w w := Below.refl _ _
  go_enter Try.func10, Try.ntmps10
  go_wp2_with fail
  rw [hk]
  clear hk hn0 hn1
  have hO1 : (w.alloc (.cells #[.int .i64 2, .int .i64 0, .int .i64 0, .int .i64 0, .int .i64 0, .int .i64 0, .string ⟨#[]⟩] 44)).ownsRow w.heap.size 44 7 (.slice (some ⟨w.heap.size, 0, none⟩) 1 1) 1 (encE.all (Xp.chain 0)) := owns_new _ _ _ 1 7 rfl (by decide)
  have HO1 := Lib.hid hO1
  have hB1 : Below w.heap.size w (w.alloc (.cells #[.int .i64 2, .int .i64 0, .int .i64 0, .int .i64 0, .int .i64 0, .int .i64 0, .string ⟨#[]⟩] 44)) := below_alloc hB0 _
  clear hO1
  go_loopg [6, 7] k (fun gk v i wr => ∃ j : Nat, gk + j = k ∧ i = .int .i64 j ∧ Below w.heap.size w wr ∧ wr.ownsRow w.heap.size 44 7 v (j + 1) (encE.all (Xp.chain j)))
  case atStart => exact ⟨0, by omega, by go_num, hB1, HO1.out⟩
  case round =>
    obtain ⟨j, hgk, rfl, hB, hO⟩ := hrel
    clear HO1 hB1 hB0
    by_cases hj : j < k
    · have HO := Lib.hid hO
      clear hO
      go_wp2_with (at_builtin; refine wpList_append_sl rfl _ _ 22 rfl w.heap.size 44 ie _ 7 64 Try.underlying22 hie hez0 hez1 hezb rfl (by decide) _ _ _ rfl (HO.out.alloc _) _ 1 (encE.all [(⟨3, j, j, 0, Xp.zero⟩ : Ex)]) rfl (sl_newE wr ⟨3, j, j, 0, Xp.zero⟩ 44) (fun _ _ h => by cases h) (one_E _) (by unfold maxLen; omega) (by omega) (by simp; have := hB.size; omega) ?_)
      intro v4 w4 hown4 hg4 hb4
      have HO4 := Lib.hid (show w4.ownsRow w.heap.size 44 7 v4 (j + 1 + 1) (encE.all (Xp.chain (j + 1))) by rw [show Xp.chain (j + 1) = Xp.chain j ++ [⟨3, j, j, 0, Xp.zero⟩] from rfl, encE.all_append]; exact hown4)
      have hB4 : Below w.heap.size w w4 := (below_alloc hB _).trans hb4
      clear hown4 hg4 hb4
      go_wp2_with fail
      go_roundg (gk - 1)
      case measure => omega
      case rel => exact ⟨j + 1, by omega, by go_num, hB4, HO4.out⟩
    obtain rfl : j = k := by omega
    have hvk : Vok ⟨1, x, ⟨#[]⟩⟩ := vok_int (by omega) (by omega)
    have HVK := Lib.hid hvk
    have HL := Lib.hid (exsV_own hO (chain_wf j))
    have hln : (Xp.chain j).length = j + 1 := Xp.chain_len j
    have HLN := Lib.hid (show (Xp.chain j).length ≤ 100000 by omega)
    obtain ⟨rk, rn, rs, hres⟩ : ∃ a b c, Xp.dblW x j = ⟨a, b, c⟩ := ⟨_, _, _, rfl⟩
    have HRES := Lib.hid hres
    clear hO hgk hj hvk hln hres
    generalize u6 = lv at *
    go_wp2_with fail
    have HL1 := Lib.hid (HL.out.keep (below_alloc (Below.refl wr.heap.size wr) (.cells #[.int .i64 1, .int .i64 x, .string ⟨#[]⟩] 34)))
    have HR1 := Lib.hid (row_one (w := wr.alloc (.cells #[.int .i64 1, .int .i64 x, .string ⟨#[]⟩] 34)) (g := wr.heap.size) (n := 0) (c := 0) (x := ⟨1, x, ⟨#[]⟩⟩) (by simp) (by go_simp) (by go_simp) (by go_simp) HVK.out)
    refine (eval_any HL1.out HLN.out HR1.out ((chain_evX x HX.out j).trans HRES.out)).mono ?_
    rintro e1 w5 ⟨rfl, hb5⟩
    have HL5 := Lib.hid (HL1.out.keep hb5)
    have hB5 : Below w.heap.size w w5 := below_chain (below_alloc hB _) hb5
    clear hb5 hB
    go_wp2_with fail
    -- behind Eval
    have hW6 : WantAt ((w5.alloc (.cells #[.int .i64 rk, .int .i64 rn, .string rs] 34)).alloc (.cells #[.int .i64 1, .int .i64 x, .string ⟨#[]⟩] 34)) (w5.heap.size + 1) (Xp.dblW x 0) := want_new w5 _ 1 x ⟨#[]⟩ _
    have hV6 : VlAt ((w5.alloc (.cells #[.int .i64 rk, .int .i64 rn, .string rs] 34)).alloc (.cells #[.int .i64 1, .int .i64 x, .string ⟨#[]⟩] 34)) w5.heap.size 0 ⟨rk, rn, rs⟩ := val_new w5 _ rk rn rs _
    have hb6 : Below w5.heap.size w5 ((w5.alloc (.cells #[.int .i64 rk, .int .i64 rn, .string rs] 34)).alloc (.cells #[.int .i64 1, .int .i64 x, .string ⟨#[]⟩] 34)) := below_alloc (below_alloc (Below.refl _ _) _) _
    have hR6 : w5.heap.size < ((w5.alloc (.cells #[.int .i64 rk, .int .i64 rn, .string rs] 34)).alloc (.cells #[.int .i64 1, .int .i64 x, .string ⟨#[]⟩] 34)).heap.size := by simp; omega
    obtain ⟨R, hRe⟩ : ∃ R, w5.heap.size = R := ⟨_, rfl⟩
    obtain ⟨B, hBe⟩ : ∃ B, w5.heap.size + 1 = B := ⟨_, rfl⟩
    have hw5R : w5.heap.size ≤ R := by omega
    have hRB : R < B := by omega
    rw [hBe] at hW6 ⊢
    generalize ((w5.alloc (.cells #[.int .i64 rk, .int .i64 rn, .string rs] 34)).alloc (.cells #[.int .i64 1, .int .i64 x, .string ⟨#[]⟩] 34)) = w6 at *
    rw [hRe] at hV6 hR6 ⊢
    clear hRe hBe
    have HW6 := Lib.hid hW6
    have HV6 := Lib.hid hV6
    clear hW6 hV6
    go_loopg [10] j (fun gk i wr => ∃ m : Nat, gk + m = j ∧ i = .int .i64 m ∧ Below w5.heap.size w5 wr ∧ VlAt wr R 0 ⟨rk, rn, rs⟩ ∧ R < wr.heap.size ∧ B < wr.heap.size ∧ WantAt wr B (Xp.dblW x m))
    case atStart => exact ⟨0, by omega, by go_num, hb6, HV6.out, hR6, HW6.out.1, HW6.out⟩
    case round =>
      obtain ⟨m, hgk, rfl, hb, hV, hR, hBs, hW⟩ := hrel
      clear HW6 HV6 hb6 hR6
      by_cases hm : m < j
      case neg =>
        obtain rfl : m = j := by omega
        clear hm hgk
        obtain ⟨_, ⟨wc0, wc1, wc2⟩, _⟩ := hW
        rw [HRES.out] at wc0 wc1 wc2
        obtain ⟨vc0, vc1, vc2⟩ := hV
        simp only at wc0 wc1 wc2 vc0 vc1 vc2
        have HL6 := Lib.hid (HL5.out.keep hb)
        have hB6 := below_chain hB5 hb
        have hRl : R < wr.heap.size := hR
        have hBl : B < wr.heap.size := hBs
        clear hB5 hb HL5
        go_wp2_with fail
        have HL7 := Lib.hid (HL6.out.keep (below_alloc (Below.refl wr.heap.size wr) (.cells #[.int .i64 1] 3)))
        have HI7 := Lib.hid (ints_one (w := wr.alloc (.cells #[.int .i64 1] 3)) (g := wr.heap.size) (x := 1) (by simp) (by go_simp) (by decide))
        refine (check_any HL7.out HI7.out (chain_chkX m (by omega))).mono ?_
        rintro e1 w7 ⟨rfl, hb7⟩
        have hc7 : Below wr.heap.size wr w7 := below_new hb7
        have hB7 := below_chain hB6 hc7
        have HL8 := Lib.hid (HL6.out.keep hc7)
        have V7 := Lib.hid (VlAt.below (w := wr) (b := R) (o := 0) (e := ⟨rk, rn, rs⟩) ⟨vc0, vc1, vc2⟩ hRl hc7)
        have W7 := Lib.hid (VlAt.below (w := wr) (b := B) (o := 0) (e := ⟨rk, rn, rs⟩) ⟨wc0, wc1, wc2⟩ hBl hc7)
        have hR7 : R < w7.heap.size := Nat.lt_of_lt_of_le hRl hc7.size
        have hB7l : B < w7.heap.size := Nat.lt_of_lt_of_le hBl hc7.size
        clear hb7 hc7 hB6 vc0 vc1 vc2 wc0 wc1 wc2
        go_wp2_with fail
        refine (columns_any (root := (m : Int)) HL8.out HLN.out).mono ?_
        rintro e1 w8 ⟨v8, rfl, hs8, hb8⟩
        rw [chain_colX] at hs8
        have hB8 := below_chain hB7 hb8
        have HS8 := Lib.hid hs8
        obtain ⟨b6, o6, c6, rfl, _, hl6, hc6⟩ := hs8.some_ (by decide)
        have V8 := Lib.hid (V7.out.below hR7 hb8)
        have W8 := Lib.hid (W7.out.below hB7l hb8)
        have hR8 : R < w8.heap.size := Nat.lt_of_lt_of_le hR7 hb8.size
        have hB8l : B < w8.heap.size := Nat.lt_of_lt_of_le hB7l hb8.size
        clear hb8 hB7 hs8 hc6
        go_wp2_with fail
        refine (awake_call _).mono ?_
        rintro e1 w9 ⟨rfl, hb9⟩
        have hB9 := below_chain hB8 hb9
        obtain ⟨vc0, vc1, vc2⟩ := V8.out.below hR8 hb9
        obtain ⟨wc0, wc1, wc2⟩ := W8.out.below hB8l hb9
        simp only at wc0 wc1 wc2 vc0 vc1 vc2
        obtain ⟨b', o', c', e', _, _, hc9⟩ := (HS8.out.keep hb9).some_ (by decide)
        obtain ⟨⟨rfl, rfl⟩, rfl⟩ : (b6 = b' ∧ o6 = o') ∧ c6 = c' := by simpa using e'
        have hcell : w9.cell? ⟨b6, o6, none⟩ = some (.int .i64 0) := hc9 0 _ rfl
        clear hb9 hB8 hc9 e'
        go_wp2
        go_ret
        exact ⟨rfl, hB9⟩
      rcases Xp.dblW_form x HX.out m with hz | ⟨nn, hz, hn1, hn2⟩
      · have hz2 : Xp.dblW x j = Xp.zero := dblW_stop hz j (by omega)
        rw [hz, ← hz2] at hW
        have hkz : rk = 0 := by have := HRES.out; rw [hz2] at this; exact (congrArg Vl.k this).symm
        subst hkz
        clear hgk hz hz2
        obtain ⟨_, ⟨wc0, wc1, wc2⟩, _⟩ := hW
        rw [HRES.out] at wc0 wc1 wc2
        obtain ⟨vc0, vc1, vc2⟩ := hV
        simp only at wc0 wc1 wc2 vc0 vc1 vc2
        have HL6 := Lib.hid (HL5.out.keep hb)
        have hB6 := below_chain hB5 hb
        have hRl : R < wr.heap.size := hR
        have hBl : B < wr.heap.size := hBs
        clear hB5 hb HL5
        go_wp2_with fail
        have HL7 := Lib.hid (HL6.out.keep (below_alloc (Below.refl wr.heap.size wr) (.cells #[.int .i64 1] 3)))
        have HI7 := Lib.hid (ints_one (w := wr.alloc (.cells #[.int .i64 1] 3)) (g := wr.heap.size) (x := 1) (by simp) (by go_simp) (by decide))
        refine (check_any HL7.out HI7.out (chain_chkX j (by omega))).mono ?_
        rintro e1 w7 ⟨rfl, hb7⟩
        have hc7 : Below wr.heap.size wr w7 := below_new hb7
        have hB7 := below_chain hB6 hc7
        have HL8 := Lib.hid (HL6.out.keep hc7)
        have V7 := Lib.hid (VlAt.below (w := wr) (b := R) (o := 0) (e := ⟨0, rn, rs⟩) ⟨vc0, vc1, vc2⟩ hRl hc7)
        have W7 := Lib.hid (VlAt.below (w := wr) (b := B) (o := 0) (e := ⟨0, rn, rs⟩) ⟨wc0, wc1, wc2⟩ hBl hc7)
        have hR7 : R < w7.heap.size := Nat.lt_of_lt_of_le hRl hc7.size
        have hB7l : B < w7.heap.size := Nat.lt_of_lt_of_le hBl hc7.size
        clear hb7 hc7 hB6 vc0 vc1 vc2 wc0 wc1 wc2
        go_wp2_with fail
        refine (columns_any (root := (j : Int)) HL8.out HLN.out).mono ?_
        rintro e1 w8 ⟨v8, rfl, hs8, hb8⟩
        rw [chain_colX] at hs8
        have hB8 := below_chain hB7 hb8
        have HS8 := Lib.hid hs8
        obtain ⟨b6, o6, c6, rfl, _, hl6, hc6⟩ := hs8.some_ (by decide)
        have V8 := Lib.hid (V7.out.below hR7 hb8)
        have W8 := Lib.hid (W7.out.below hB7l hb8)
        have hR8 : R < w8.heap.size := Nat.lt_of_lt_of_le hR7 hb8.size
        have hB8l : B < w8.heap.size := Nat.lt_of_lt_of_le hB7l hb8.size
        clear hb8 hB7 hs8 hc6
        go_wp2_with fail
        refine (awake_call _).mono ?_
        rintro e1 w9 ⟨rfl, hb9⟩
        have hB9 := below_chain hB8 hb9
        obtain ⟨vc0, vc1, vc2⟩ := V8.out.below hR8 hb9
        obtain ⟨wc0, wc1, wc2⟩ := W8.out.below hB8l hb9
        simp only at wc0 wc1 wc2 vc0 vc1 vc2
        obtain ⟨b', o', c', e', _, _, hc9⟩ := (HS8.out.keep hb9).some_ (by decide)
        obtain ⟨⟨rfl, rfl⟩, rfl⟩ : (b6 = b' ∧ o6 = o') ∧ c6 = c' := by simpa using e'
        have hcell : w9.cell? ⟨b6, o6, none⟩ = some (.int .i64 0) := hc9 0 _ rfl
        clear hb9 hB8 hc9 e'
        go_wp2
        go_ret
        exact ⟨rfl, hB9⟩
      rw [hz] at hW
      obtain ⟨_, ⟨wc0, wc1, wc2⟩, wf0, wf1, wf2⟩ := hW
      simp only at wc0 wc1 wc2
      have HST := Lib.hid (dblW_step hz)
      clear hz
      by_cases hc1 : nn > 4611686018427387903
      · have HC := Lib.hid (show nn > 4611686018427387903 ∨ nn < -4611686018427387904 from .inl hc1)
        have HN := Lib.hid (show Xp.dblW x (m + 1) = ⟨0, 0, ⟨#[]⟩⟩ by rw [HST.out, if_pos (HC.out)]; rfl)
        have hfar : R ≠ B := by omega
        obtain ⟨vc0, vc1, vc2⟩ := hV
        have y0 := far_cell (p := ⟨B, 2, none⟩) (v := .string ⟨#[]⟩) (far_cell (p := ⟨B, 1, none⟩) (v := .int .i64 0) (far_cell (p := ⟨B, 0, none⟩) (v := .int .i64 0) vc0 hfar) hfar) hfar
        have y1 := far_cell (p := ⟨B, 2, none⟩) (v := .string ⟨#[]⟩) (far_cell (p := ⟨B, 1, none⟩) (v := .int .i64 0) (far_cell (p := ⟨B, 0, none⟩) (v := .int .i64 0) vc1 hfar) hfar) hfar
        have y2 := far_cell (p := ⟨B, 2, none⟩) (v := .string ⟨#[]⟩) (far_cell (p := ⟨B, 1, none⟩) (v := .int .i64 0) (far_cell (p := ⟨B, 0, none⟩) (v := .int .i64 0) vc2 hfar) hfar) hfar
        have HY := Lib.hid (And.intro y0 (And.intro y1 y2))
        obtain ⟨sc0, sc1, sc2⟩ := two_ops wc0 wc1 wc2 (.int .i64 0) (.int .i64 0) (.string ⟨#[]⟩)
        have HSC := Lib.hid (And.intro sc0 (And.intro sc1 sc2))
        clear y0 y1 y2 vc0 vc1 vc2 sc0 sc1 sc2
        go_wp2_with fail
        go_roundg (gk - 1)
        case measure => omega
        case rel => exact ⟨m + 1, by omega, by go_num, ((hb.setCell (by simp; omega) _).setCell (by simp; omega) _).setCell (by simp; omega) _, HY.out, by simp [World.setCell]; omega, by simp [World.setCell]; omega, by rw [HN.out]; exact ⟨by simp [World.setCell]; omega, HSC.out, by simp [wf0], by simp [wf1], by simp [wf2]⟩⟩
      by_cases hc2 : nn < -4611686018427387904
      · have HC := Lib.hid (show nn > 4611686018427387903 ∨ nn < -4611686018427387904 from .inr hc2)
        have HN := Lib.hid (show Xp.dblW x (m + 1) = ⟨0, 0, ⟨#[]⟩⟩ by rw [HST.out, if_pos (HC.out)]; rfl)
        have hfar : R ≠ B := by omega
        obtain ⟨vc0, vc1, vc2⟩ := hV
        have y0 := far_cell (p := ⟨B, 2, none⟩) (v := .string ⟨#[]⟩) (far_cell (p := ⟨B, 1, none⟩) (v := .int .i64 0) (far_cell (p := ⟨B, 0, none⟩) (v := .int .i64 0) vc0 hfar) hfar) hfar
        have y1 := far_cell (p := ⟨B, 2, none⟩) (v := .string ⟨#[]⟩) (far_cell (p := ⟨B, 1, none⟩) (v := .int .i64 0) (far_cell (p := ⟨B, 0, none⟩) (v := .int .i64 0) vc1 hfar) hfar) hfar
        have y2 := far_cell (p := ⟨B, 2, none⟩) (v := .string ⟨#[]⟩) (far_cell (p := ⟨B, 1, none⟩) (v := .int .i64 0) (far_cell (p := ⟨B, 0, none⟩) (v := .int .i64 0) vc2 hfar) hfar) hfar
        have HY := Lib.hid (And.intro y0 (And.intro y1 y2))
        obtain ⟨sc0, sc1, sc2⟩ := two_ops wc0 wc1 wc2 (.int .i64 0) (.int .i64 0) (.string ⟨#[]⟩)
        have HSC := Lib.hid (And.intro sc0 (And.intro sc1 sc2))
        clear y0 y1 y2 vc0 vc1 vc2 sc0 sc1 sc2
        go_wp2_with fail
        go_roundg (gk - 1)
        case measure => omega
        case rel => exact ⟨m + 1, by omega, by go_num, ((hb.setCell (by simp; omega) _).setCell (by simp; omega) _).setCell (by simp; omega) _, HY.out, by simp [World.setCell]; omega, by simp [World.setCell]; omega, by rw [HN.out]; exact ⟨by simp [World.setCell]; omega, HSC.out, by simp [wf0], by simp [wf1], by simp [wf2]⟩⟩
      have HN := Lib.hid (show Xp.dblW x (m + 1) = ⟨1, 2 * nn, ⟨#[]⟩⟩ by rw [HST.out, if_neg (by omega)])
      have hfar : R ≠ B := by omega
      obtain ⟨vc0, vc1, vc2⟩ := hV
      have HY := Lib.hid (And.intro (far_cell (p := ⟨B, 1, none⟩) (v := .int .i64 (2 * nn)) vc0 hfar) (And.intro (far_cell (p := ⟨B, 1, none⟩) (v := .int .i64 (2 * nn)) vc1 hfar) (far_cell (p := ⟨B, 1, none⟩) (v := .int .i64 (2 * nn)) vc2 hfar)))
      have sc0 : (wr.setCell ⟨B, 1, none⟩ (.int .i64 (2 * nn))).cell? ⟨B, 0, none⟩ = some (.int .i64 1) := by go_simp
      have sc1 : (wr.setCell ⟨B, 1, none⟩ (.int .i64 (2 * nn))).cell? ⟨B, 1, none⟩ = some (.int .i64 (2 * nn)) := by go_simp
      have sc2 : (wr.setCell ⟨B, 1, none⟩ (.int .i64 (2 * nn))).cell? ⟨B, 2, none⟩ = some (.string ⟨#[]⟩) := by go_simp
      have HSC := Lib.hid (And.intro sc0 (And.intro sc1 sc2))
      clear vc0 vc1 vc2 sc0 sc1 sc2
      go_wp2_with fail
      go_roundg (gk - 1)
      case measure => omega
      case rel => exact ⟨m + 1, by omega, by go_num, hb.setCell (by simp; omega) _, HY.out, by simp [World.setCell]; omega, by simp [World.setCell]; omega, by rw [HN.out]; exact ⟨by simp [World.setCell]; omega, HSC.out, by simp [wf0], by simp [wf1], by simp [wf2]⟩⟩


theorem wf_u8b {n : Int} (h : (Lit.int .u8 n).wf = true) : 0 ≤ n ∧ n ≤ 255 := by
  simp [Lit.wf, IntKind.min, IntKind.max, IntKind.signed, IntKind.bits] at h
  omega
theorem wf_i8b {n : Int} (h : (Lit.int .i8 n).wf = true) : -128 ≤ n ∧ n ≤ 127 := by
  simp [Lit.wf, IntKind.min, IntKind.max, IntKind.signed, IntKind.bits] at h
  omega

end Go.Proofs.Ytpgaldkedeohaaa
