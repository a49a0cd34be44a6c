/-
  Check of package expr.
-/
import Derived.Test.YtpgaldkedeohaaaChkH
namespace Go.Proofs.Ytpgaldkedeohaaa
open Go.RowKit
set_option linter.unusedVariables false

theorem chd_info : (Try.prog.info? 67).map (fun i => (i.zero, i.size, i.bytes)) = some (some (.agg #[.bool false, .int .i64 0, .int .i64 0]), 3, 24) := by kernel_rfl

set_option maxRecDepth 100000 in
set_option maxHeartbeats 4000000 in
theorem expr_Check_long (a : Option Addr) (n c : Nat) (root : Int) (cv : Value) (w : World) (h : 200 < n) :
    Calls Try.prog 13 #[.slice a n c, .int .i64 root, cv] w fun e w' => e = .returned (.tuple #[.int .i64 0, .int .i64 4]) ∧ w = w' := by
  have h1 : ¬ n ≤ 200 := by omega
  go_enter Try.func13, Try.ntmps13
  go_wp2
  go_ret2
  exact ⟨rfl, rfl⟩

set_option maxRecDepth 100000 in
set_option maxHeartbeats 4000000 in
theorem expr_Check_out (a : Option Addr) (n c : Nat) (root : Int) (cv : Value) (w : World) (h0 : n ≤ 200) (h : root < 0 ∨ (n : Int) ≤ root) :
    Calls Try.prog 13 #[.slice a n c, .int .i64 root, cv] w fun e w' => e = .returned (.tuple #[.int .i64 0, .int .i64 10]) ∧ w = w' := by
  have h1 : ¬ 200 < n := by omega
  rcases h with h | h
  · go_enter Try.func13, Try.ntmps13
    go_wp2
    go_ret2
    exact ⟨rfl, rfl⟩
  · have h0 : 0 ≤ root := by omega
    go_enter Try.func13, Try.ntmps13
    go_wp2
    go_ret2
    exact ⟨rfl, rfl⟩

set_option maxRecDepth 100000 in
set_option maxHeartbeats 4000000 in
theorem expr_Check_in (b off c r : Nat) (L : List Ex) (cv : Value) (cols : List Int) (w : World) (hb : b < w.heap.size) (hr : r < L.length) (hlc : L.length ≤ c) (hlen : L.length ≤ 200)
    (hL : ∀ (i : Nat) (x : Ex), L[i]? = some x → ExAt w b (off + i * 7) x) (hrow : IntsAt w w.heap.size cv cols) :
    Calls Try.prog 13 #[.slice (some ⟨b, off, none⟩) L.length c, .int .i64 r, cv] w fun e w' => e = .returned (.tuple #[.int .i64 (Xp.ck L cols r).1, .int .i64 (Xp.ck L cols r).2]) ∧ Below w.heap.size w w' := by
  obtain ⟨k, e, hke⟩ : ∃ k e, Xp.ck L cols r = (k, e) := ⟨_, _, rfl⟩
  rw [hke]
  have HK := Lib.hid hke
  clear hke
  obtain ⟨qa, qn, qc, rfl⟩ : ∃ a n c, cv = .slice a n c := by obtain ⟨a, n, c, h, _⟩ := hrow.view; exact ⟨a, n, c, h⟩
  have HL := Lib.hid hL
  have HR := Lib.hid hrow
  clear hL hrow
  obtain ⟨i0, hi0, hz0, hz1, hz2⟩ := info_parts chd_info
  have hr0 : (0 : Int) ≤ (r : Int) := by omega
  have hr1 : (r : Int) < (L.length : Int) := by omega
  have hr2 : ¬ L.length ≤ r := by omega
  have hr3 : decide (L.length ≤ r) = false := decide_eq_false hr2
  have hr4 : ¬ 200 < L.length := by omega
  have hr5 : (0 : Int) ≤ (L.length : Int) := by omega
  go_enter Try.func13, Try.ntmps13
  go_wp2_with (refine wpList_make_full _ rfl _ _ 50 rfl w.heap.size 67 i0 _ 3 Try.underlying50 hi0 hz0 hz1 _ _ _ _ L.length rfl rfl ?c1 ?c2 ?c3 ?c4 ?c5 ?_)
  case c1 => omega
  case c2 => omega
  case c3 => rw [hz2]; omega
  case c4 => unfold maxLen; omega
  case c5 => simp
  intro w1 hown hg1
  have hB1 := below_grown hg1
  have hO1 : OwnA encC 67 w1 w.heap.size w.heap.size L.length (List.replicate L.length (false, 0, 0)) := ⟨by simp, by rw [← made_all encC (false, 0, 0) (.agg #[.bool false, .int .i64 0, .int .i64 0]) rfl]; exact hown⟩
  have hl1 := hO1.lt.1
  have HO1 := Lib.hid hO1
  clear hown hg1 hO1
  go_wp2_with fail
  have hB2 : Below w.heap.size w (w1.alloc (.cells #[.slice (some ⟨b, off, none⟩) L.length c, .slice qa qn qc, .slice (some ⟨w.heap.size, 0, none⟩) L.length L.length] 52)) := below_alloc hB1 _
  have hCk : Ck ⟨L, cols, b, off, c, w1.heap.size, w.heap.size, w.heap.size, .slice qa qn qc⟩ (w1.alloc (.cells #[.slice (some ⟨b, off, none⟩) L.length c, .slice qa qn qc, .slice (some ⟨w.heap.size, 0, none⟩) L.length L.length] 52)) := by
    refine ⟨by simp, by simp; omega, by go_simp, by go_simp, by go_simp, fun i e hi => (HL.out i e hi).below hb hB2, rd_below HR.out hB2, ⟨_, HO1.out.below (below_alloc (Below.refl _ _) _), fun j r hj hd => ?_⟩⟩
    have := (List.getElem?_eq_some_iff.1 hj)
    obtain ⟨h1, h2⟩ := this
    simp only [List.getElem_replicate] at h2
    subst h2
    cases hd
  have hok : CkEnv.ok ⟨L, cols, b, off, c, w1.heap.size, w.heap.size, w.heap.size, .slice qa qn qc⟩ := ⟨hb, Nat.le_refl _, Nat.le_of_lt hl1, (by show w1.heap.size ≠ w.heap.size; omega), hlc, hlen⟩
  have hcall := expr_check _ hok (r + 1) r (by omega) hr k e _ hCk HK.out
  simp only at hcall
  have HC := Lib.hid hcall
  clear hcall
  clear hCk hok
  refine HC.out.mono ?_
  rintro e1 w2 ⟨rfl, hC2, hS2⟩
  have hB3 : Below w.heap.size w w2 := hB2.trans (hS2.to_below (by simp; omega) (Nat.le_refl _))
  clear hC2 hS2 HC
  go_wp2
  go_ret2
  exact ⟨rfl, hB3⟩

end Go.Proofs.Ytpgaldkedeohaaa
