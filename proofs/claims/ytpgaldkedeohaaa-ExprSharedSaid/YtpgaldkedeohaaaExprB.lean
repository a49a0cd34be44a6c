/-
  Package value: Valid and Compare; the reference's.
-/
import Derived.Test.YtpgaldkedeohaaaExprA
namespace Go.Proofs.Ytpgaldkedeohaaa
open Go.RowKit

theorem vv_0 {n : Int} {s : ByteArray} : Xp.vv ⟨0, n, s⟩ = (decide (n = 0) && decide (s.size = 0)) := rfl
theorem vv_1 {n : Int} {s : ByteArray} : Xp.vv ⟨1, n, s⟩ = decide (s.size = 0) := rfl
theorem vv_2 {n : Int} {s : ByteArray} : Xp.vv ⟨2, n, s⟩ = (decide (n = 0) && decide (s.size ≤ 200)) := rfl
theorem vv_3 {n : Int} {s : ByteArray} : Xp.vv ⟨3, n, s⟩ = ((decide (n = 0) || decide (n = 1)) && decide (s.size = 0)) := rfl
theorem vv_x {k n : Int} {s : ByteArray} (h : k < 0 ∨ 3 < k) : Xp.vv ⟨k, n, s⟩ = false := by
  unfold Xp.vv
  have h0 : ¬ k = 0 := by omega
  have h1 : ¬ k = 1 := by omega
  have h2 : ¬ k = 2 := by omega
  have h3 : ¬ k = 3 := by omega
  show (if k = 0 then _ else if k = 1 then _ else if k = 2 then _ else if k = 3 then _ else false) = false
  rw [if_neg h0, if_neg h1, if_neg h2, if_neg h3]

theorem str_empty {s : ByteArray} (h : s.size = 0) : s = ⟨#[]⟩ := by
  obtain ⟨⟨l⟩⟩ := s
  have h : l.length = 0 := h
  rw [List.length_eq_zero_iff.1 h]

theorem str_some {s : ByteArray} (h : ¬ s.size = 0) : s.toList.isEmpty = false := by
  cases e : s.toList.isEmpty with
  | false => rfl
  | true => exact absurd ((empty_iff s).1 (List.isEmpty_iff.1 e)) h


set_option maxRecDepth 100000 in
set_option maxHeartbeats 1000000 in
theorem value_Valid (v : Vl) (w : World) : Calls Try.prog 46 #[v.go] w fun e w' => e = .returned (.bool (Xp.vv v)) ∧ Below w.heap.size w w' := by
  obtain ⟨k, n, s⟩ := v
  unfold Vl.go
  generalize hv : Xp.vv ⟨k, n, s⟩ = b
  have HV := Lib.hid hv
  clear hv
  have hk : k = 0 ∨ k = 1 ∨ k = 2 ∨ k = 3 ∨ k < 0 ∨ 3 < k := by omega
  rcases hk with rfl | rfl | rfl | rfl | hk | hk
  · by_cases hz : s.size = 0
    · obtain rfl := str_empty hz
      by_cases hn : n = 0
      · subst hn
        go_enter Try.func46, Try.ntmps46
        go_wp2
        go_ret
        exact ⟨by rw [← HV.out, vv_0]; apply ret_bool; first | rfl | (simp; done) | (simp; rfl) | (simp; omega), below_alloc (Below.refl _ _) _⟩
      · go_enter Try.func46, Try.ntmps46
        go_wp2
        go_ret
        exact ⟨by rw [← HV.out, vv_0]; apply ret_bool; first | rfl | (simp [hn]; done) | (simp [hn]; rfl) | (simp [hn]; omega), below_alloc (Below.refl _ _) _⟩
    · have hs := str_some hz
      by_cases hn : n = 0
      · subst hn
        go_enter Try.func46, Try.ntmps46
        go_wp2
        go_ret
        exact ⟨by rw [← HV.out, vv_0]; apply ret_bool; first | rfl | (simp [hz]; done) | (simp [hz]; rfl) | (simp [hz]; omega), below_alloc (Below.refl _ _) _⟩
      · go_enter Try.func46, Try.ntmps46
        go_wp2
        go_ret
        exact ⟨by rw [← HV.out, vv_0]; apply ret_bool; first | rfl | (simp [hn]; done) | (simp [hn]; rfl) | (simp [hn]; omega), below_alloc (Below.refl _ _) _⟩
  · by_cases hz : s.size = 0
    · obtain rfl := str_empty hz
      go_enter Try.func46, Try.ntmps46
      go_wp2
      go_ret
      exact ⟨by rw [← HV.out, vv_1]; apply ret_bool; first | rfl | (simp; done) | (simp; rfl) | (simp; omega), below_alloc (Below.refl _ _) _⟩
    · have hs := str_some hz
      go_enter Try.func46, Try.ntmps46
      go_wp2
      go_ret
      exact ⟨by rw [← HV.out, vv_1]; apply ret_bool; first | rfl | (simp [hz]; done) | (simp [hz]; rfl) | (simp [hz]; omega), below_alloc (Below.refl _ _) _⟩
  · by_cases hn : n = 0
    · subst hn
      by_cases hz : s.size ≤ 200
      · go_enter Try.func46, Try.ntmps46
        go_wp2
        go_ret
        exact ⟨by rw [← HV.out, vv_2]; apply ret_bool; first | rfl | (simp [hz]; done) | (simp [hz]; rfl) | (simp [hz]; omega), below_alloc (Below.refl _ _) _⟩
      · go_enter Try.func46, Try.ntmps46
        go_wp2
        go_ret
        exact ⟨by rw [← HV.out, vv_2]; apply ret_bool; first | rfl | (simp [hz]; done) | (simp [hz]; rfl) | (simp [hz]; omega), below_alloc (Below.refl _ _) _⟩
    · go_enter Try.func46, Try.ntmps46
      go_wp2
      go_ret
      exact ⟨by rw [← HV.out, vv_2]; apply ret_bool; first | rfl | (simp [hn]; done) | (simp [hn]; rfl) | (simp [hn]; omega), below_alloc (Below.refl _ _) _⟩
  · have hn : n = 0 ∨ n = 1 ∨ n < 0 ∨ 1 < n := by omega
    by_cases hz : s.size = 0
    · obtain rfl := str_empty hz
      rcases hn with rfl | rfl | hn | hn
      · go_enter Try.func46, Try.ntmps46
        go_wp2
        go_ret
        exact ⟨by rw [← HV.out, vv_3]; apply ret_bool; first | rfl | (simp; done) | (simp; rfl) | (simp; omega), below_alloc (Below.refl _ _) _⟩
      · go_enter Try.func46, Try.ntmps46
        go_wp2
        go_ret
        exact ⟨by rw [← HV.out, vv_3]; apply ret_bool; first | rfl | (simp; done) | (simp; rfl) | (simp; omega), below_alloc (Below.refl _ _) _⟩
      · have h0 : ¬ n = 0 := by omega
        have h1 : ¬ n = 1 := by omega
        go_enter Try.func46, Try.ntmps46
        go_wp2
        go_ret
        exact ⟨by rw [← HV.out, vv_3]; apply ret_bool; first | rfl | (simp [h0, h1]; done) | (simp [h0, h1]; rfl) | (simp [h0, h1]; omega), below_alloc (Below.refl _ _) _⟩
      · have h0 : ¬ n = 0 := by omega
        have h1 : ¬ n = 1 := by omega
        go_enter Try.func46, Try.ntmps46
        go_wp2
        go_ret
        exact ⟨by rw [← HV.out, vv_3]; apply ret_bool; first | rfl | (simp [h0, h1]; done) | (simp [h0, h1]; rfl) | (simp [h0, h1]; omega), below_alloc (Below.refl _ _) _⟩
    · have hs := str_some hz
      rcases hn with rfl | rfl | hn | hn
      · go_enter Try.func46, Try.ntmps46
        go_wp2
        go_ret
        exact ⟨by rw [← HV.out, vv_3]; apply ret_bool; first | rfl | (simp [hz]; done) | (simp [hz]; rfl) | (simp [hz]; omega), below_alloc (Below.refl _ _) _⟩
      · go_enter Try.func46, Try.ntmps46
        go_wp2
        go_ret
        exact ⟨by rw [← HV.out, vv_3]; apply ret_bool; first | rfl | (simp [hz]; done) | (simp [hz]; rfl) | (simp [hz]; omega), below_alloc (Below.refl _ _) _⟩
      · have h0 : ¬ n = 0 := by omega
        have h1 : ¬ n = 1 := by omega
        go_enter Try.func46, Try.ntmps46
        go_wp2
        go_ret
        exact ⟨by rw [← HV.out, vv_3]; apply ret_bool; first | rfl | (simp [h0, h1]; done) | (simp [h0, h1]; rfl) | (simp [h0, h1]; omega), below_alloc (Below.refl _ _) _⟩
      · have h0 : ¬ n = 0 := by omega
        have h1 : ¬ n = 1 := by omega
        go_enter Try.func46, Try.ntmps46
        go_wp2
        go_ret
        exact ⟨by rw [← HV.out, vv_3]; apply ret_bool; first | rfl | (simp [h0, h1]; done) | (simp [h0, h1]; rfl) | (simp [h0, h1]; omega), below_alloc (Below.refl _ _) _⟩
  · go_enter Try.func46, Try.ntmps46
    go_wp2
    go_ret
    exact ⟨by rw [← HV.out, vv_x (.inl hk)]; apply ret_bool; first | rfl | (simp; done) | (simp; rfl) | (simp; omega), below_alloc (Below.refl _ _) _⟩
  · go_enter Try.func46, Try.ntmps46
    go_wp2
    go_ret
    exact ⟨by rw [← HV.out, vv_x (.inr hk)]; apply ret_bool; first | rfl | (simp; done) | (simp; rfl) | (simp; omega), below_alloc (Below.refl _ _) _⟩

set_option maxRecDepth 100000 in
set_option maxHeartbeats 1000000 in
theorem ref_Valid6 (v : Vl) (w : World) : Calls Try.prog 32 #[v.go] w fun e w' => e = .returned (.bool (Xp.vv v)) ∧ Below w.heap.size w w' := by
  obtain ⟨k, n, s⟩ := v
  unfold Vl.go
  generalize hv : Xp.vv ⟨k, n, s⟩ = b
  have HV := Lib.hid hv
  clear hv
  have hk : k = 0 ∨ k = 1 ∨ k = 2 ∨ k = 3 ∨ k < 0 ∨ 3 < k := by omega
  rcases hk with rfl | rfl | rfl | rfl | hk | hk
  · by_cases hz : s.size = 0
    · obtain rfl := str_empty hz
      by_cases hn : n = 0
      · subst hn
        go_enter Try.func32, Try.ntmps32
        go_wp2
        go_ret
        exact ⟨by rw [← HV.out, vv_0]; apply ret_bool; first | rfl | (simp; done) | (simp; rfl) | (simp; omega), below_alloc (Below.refl _ _) _⟩
      · go_enter Try.func32, Try.ntmps32
        go_wp2
        go_ret
        exact ⟨by rw [← HV.out, vv_0]; apply ret_bool; first | rfl | (simp [hn]; done) | (simp [hn]; rfl) | (simp [hn]; omega), below_alloc (Below.refl _ _) _⟩
    · have hs := str_some hz
      by_cases hn : n = 0
      · subst hn
        go_enter Try.func32, Try.ntmps32
        go_wp2
        go_ret
        exact ⟨by rw [← HV.out, vv_0]; apply ret_bool; first | rfl | (simp [hz]; done) | (simp [hz]; rfl) | (simp [hz]; omega), below_alloc (Below.refl _ _) _⟩
      · go_enter Try.func32, Try.ntmps32
        go_wp2
        go_ret
        exact ⟨by rw [← HV.out, vv_0]; apply ret_bool; first | rfl | (simp [hn]; done) | (simp [hn]; rfl) | (simp [hn]; omega), below_alloc (Below.refl _ _) _⟩
  · by_cases hz : s.size = 0
    · obtain rfl := str_empty hz
      go_enter Try.func32, Try.ntmps32
      go_wp2
      go_ret
      exact ⟨by rw [← HV.out, vv_1]; apply ret_bool; first | rfl | (simp; done) | (simp; rfl) | (simp; omega), below_alloc (Below.refl _ _) _⟩
    · have hs := str_some hz
      go_enter Try.func32, Try.ntmps32
      go_wp2
      go_ret
      exact ⟨by rw [← HV.out, vv_1]; apply ret_bool; first | rfl | (simp [hz]; done) | (simp [hz]; rfl) | (simp [hz]; omega), below_alloc (Below.refl _ _) _⟩
  · by_cases hn : n = 0
    · subst hn
      by_cases hz : s.size ≤ 200
      · go_enter Try.func32, Try.ntmps32
        go_wp2
        go_ret
        exact ⟨by rw [← HV.out, vv_2]; apply ret_bool; first | rfl | (simp [hz]; done) | (simp [hz]; rfl) | (simp [hz]; omega), below_alloc (Below.refl _ _) _⟩
      · go_enter Try.func32, Try.ntmps32
        go_wp2
        go_ret
        exact ⟨by rw [← HV.out, vv_2]; apply ret_bool; first | rfl | (simp [hz]; done) | (simp [hz]; rfl) | (simp [hz]; omega), below_alloc (Below.refl _ _) _⟩
    · go_enter Try.func32, Try.ntmps32
      go_wp2
      go_ret
      exact ⟨by rw [← HV.out, vv_2]; apply ret_bool; first | rfl | (simp [hn]; done) | (simp [hn]; rfl) | (simp [hn]; omega), below_alloc (Below.refl _ _) _⟩
  · have hn : n = 0 ∨ n = 1 ∨ n < 0 ∨ 1 < n := by omega
    by_cases hz : s.size = 0
    · obtain rfl := str_empty hz
      rcases hn with rfl | rfl | hn | hn
      · go_enter Try.func32, Try.ntmps32
        go_wp2
        go_ret
        exact ⟨by rw [← HV.out, vv_3]; apply ret_bool; first | rfl | (simp; done) | (simp; rfl) | (simp; omega), below_alloc (Below.refl _ _) _⟩
      · go_enter Try.func32, Try.ntmps32
        go_wp2
        go_ret
        exact ⟨by rw [← HV.out, vv_3]; apply ret_bool; first | rfl | (simp; done) | (simp; rfl) | (simp; omega), below_alloc (Below.refl _ _) _⟩
      · have h0 : ¬ n = 0 := by omega
        have h1 : ¬ n = 1 := by omega
        go_enter Try.func32, Try.ntmps32
        go_wp2
        go_ret
        exact ⟨by rw [← HV.out, vv_3]; apply ret_bool; first | rfl | (simp [h0, h1]; done) | (simp [h0, h1]; rfl) | (simp [h0, h1]; omega), below_alloc (Below.refl _ _) _⟩
      · have h0 : ¬ n = 0 := by omega
        have h1 : ¬ n = 1 := by omega
        go_enter Try.func32, Try.ntmps32
        go_wp2
        go_ret
        exact ⟨by rw [← HV.out, vv_3]; apply ret_bool; first | rfl | (simp [h0, h1]; done) | (simp [h0, h1]; rfl) | (simp [h0, h1]; omega), below_alloc (Below.refl _ _) _⟩
    · have hs := str_some hz
      rcases hn with rfl | rfl | hn | hn
      · go_enter Try.func32, Try.ntmps32
        go_wp2
        go_ret
        exact ⟨by rw [← HV.out, vv_3]; apply ret_bool; first | rfl | (simp [hz]; done) | (simp [hz]; rfl) | (simp [hz]; omega), below_alloc (Below.refl _ _) _⟩
      · go_enter Try.func32, Try.ntmps32
        go_wp2
        go_ret
        exact ⟨by rw [← HV.out, vv_3]; apply ret_bool; first | rfl | (simp [hz]; done) | (simp [hz]; rfl) | (simp [hz]; omega), below_alloc (Below.refl _ _) _⟩
      · have h0 : ¬ n = 0 := by omega
        have h1 : ¬ n = 1 := by omega
        go_enter Try.func32, Try.ntmps32
        go_wp2
        go_ret
        exact ⟨by rw [← HV.out, vv_3]; apply ret_bool; first | rfl | (simp [h0, h1]; done) | (simp [h0, h1]; rfl) | (simp [h0, h1]; omega), below_alloc (Below.refl _ _) _⟩
      · have h0 : ¬ n = 0 := by omega
        have h1 : ¬ n = 1 := by omega
        go_enter Try.func32, Try.ntmps32
        go_wp2
        go_ret
        exact ⟨by rw [← HV.out, vv_3]; apply ret_bool; first | rfl | (simp [h0, h1]; done) | (simp [h0, h1]; rfl) | (simp [h0, h1]; omega), below_alloc (Below.refl _ _) _⟩
  · go_enter Try.func32, Try.ntmps32
    go_wp2
    go_ret
    exact ⟨by rw [← HV.out, vv_x (.inl hk)]; apply ret_bool; first | rfl | (simp; done) | (simp; rfl) | (simp; omega), below_alloc (Below.refl _ _) _⟩
  · go_enter Try.func32, Try.ntmps32
    go_wp2
    go_ret
    exact ⟨by rw [← HV.out, vv_x (.inr hk)]; apply ret_bool; first | rfl | (simp; done) | (simp; rfl) | (simp; omega), below_alloc (Below.refl _ _) _⟩

end Go.Proofs.Ytpgaldkedeohaaa
