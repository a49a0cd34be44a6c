/-
  The walk of the law on the pieces of Split.
-/
import Derived.Test.YtgimfajanmmkfaaSplit3
namespace Go.Proofs.Ytgimfajanmmkfaa
open Go.RowKit

/-- The pieces follow one upon the other, each within one granule. -/
theorem chain {k s t : Int} (hv : Gr.vg k s = true) (ht : t ≤ 1000000) : ∀ (f : Nat) (a : Int), 0 ≤ a → a ≤ t → (t - a).toNat ≤ f →
    ∃ at_ : Nat → Int, at_ 0 = a ∧ at_ (spl k s t f a).length = t ∧ ∀ j (h : j < (spl k s t f a).length), ((spl k s t f a)[j]).1 = at_ j ∧ ((spl k s t f a)[j]).2 = at_ (j + 1) ∧ at_ j < at_ (j + 1) ∧ at_ (j + 1) ≤ t ∧ 0 ≤ at_ j ∧ Gr.idx k s (at_ (j + 1) - 1) = Gr.idx k s (at_ j) := by
  intro f
  induction f with
  | zero => intro a h0 h1 h2; exact ⟨fun _ => a, rfl, (show a = t by omega), fun j h => by simp [spl] at h⟩
  | succ f ih =>
    intro a h0 h1 h2
    by_cases c : a < t
    · have hb := nx_bd (d := a) hv h0 (by omega)
      obtain ⟨at_, e0, e1, e2⟩ := ih (min (nx k s a) t) (by omega) (by omega) (by omega)
      have hs : spl k s t (f + 1) a = (a, min (nx k s a) t) :: spl k s t f (min (nx k s a) t) := by simp only [spl]; rw [if_pos c]
      refine ⟨fun j => match j with | 0 => a | j + 1 => at_ j, rfl, by rw [hs]; exact e1, ?_⟩
      rw [hs]
      intro j h
      cases j with
      | zero =>
        refine ⟨rfl, e0.symm, by simp only [e0]; omega, by simp only [e0]; omega, h0, ?_⟩
        simp only [e0]
        have m1 := (Gr.idx_mono hv h0 (show a ≤ min (nx k s a) t - 1 by omega) (by omega)).1
        obtain ⟨_, _, f3, _⟩ := Gr.fs_spec k s (Gr.idx k s a + 1)
        have := f3 (min (nx k s a) t - 1) (by omega) (by have : nx k s a = Gr.fs k s (Gr.idx k s a + 1) := rfl; omega)
        omega
      | succ j => exact e2 j (by simpa using h)
    · refine ⟨fun _ => a, rfl, (show a = t by omega), fun j h => ?_⟩
      have hs : spl k s t (f + 1) a = [] := by simp only [spl]; rw [if_neg c]
      rw [hs] at h; simp at h

theorem spL_chain {k s a t : Int} (hv : Gr.vg k s = true) (h0 : 0 ≤ a) (h1 : a < t) (ht : t ≤ 1000000) :
    ∃ at_ : Nat → Int, at_ 0 = a ∧ at_ (spL k s a t).length = t ∧ ∀ j (h : j < (spL k s a t).length), ((spL k s a t)[j]).1 = at_ j ∧ ((spL k s a t)[j]).2 = at_ (j + 1) ∧ at_ j < at_ (j + 1) ∧ at_ (j + 1) ≤ t ∧ 0 ≤ at_ j ∧ Gr.idx k s (at_ (j + 1) - 1) = Gr.idx k s (at_ j) := by
  have e : spL k s a t = spl k s t (t - a).toNat a := by unfold spL; rw [if_pos ⟨hv, h0, h1, ht⟩]; rfl
  rw [e]
  exact chain hv ht _ a h0 (by omega) (Nat.le_refl _)

theorem io_at {k s n : Int} (hv : Gr.vg k s = true) (h0 : 0 ≤ n) (h1 : n < 1000000) : ioB k s n = true ∧ ioN k s n = Gr.idx k s n := by
  have h : ioB k s n = true := by unfold ioB; rw [hv, (Cal.isDay_iff n).2 ⟨h0, h1⟩]; rfl
  exact ⟨h, by unfold ioN; rw [if_pos h]⟩


set_option maxRecDepth 100000 in
set_option maxHeartbeats 4000000 in
theorem pieces_walk1 (a b f l : Int) (hq : a % 5 = 0) (ha : 0 ≤ a ∧ a ≤ 255) (hb : 0 ≤ b ∧ b ≤ 255) (hf : 0 ≤ f ∧ f ≤ 65535) (hl : 0 ≤ l ∧ l ≤ 255) (w : World) :
    Calls Try.prog 10 #[.int .u8 a, .int .u8 b, .int .u16 f, .int .u8 l] w (Holds w) := by
  obtain ⟨a0, a1⟩ := ha
  obtain ⟨b0, b1⟩ := hb
  obtain ⟨f0, f1⟩ := hf
  obtain ⟨l0, l1⟩ := hl
  have hv : Gr.vg 1 0 = true := (Gr.vg_iff _ _).2 (by omega)
  obtain ⟨at_, e0, e1, e2⟩ := spL_chain (k := 1) (s := 0) (a := f) (t := f + 1 + l) hv (by omega) (by omega) (by omega)
  have hlen := spL_length 1 0 f (f + 1 + l)
  have HC := Lib.hid (fun w => gran_Split_all 1 0 f (f + 1 + l) w)
  generalize spL 1 0 f (f + 1 + l) = L at e1 e2 hlen HC
  have E0 := Lib.hid e0
  have E1 := Lib.hid e1
  have E2 := Lib.hid e2
  have HV := Lib.hid hv
  have HG := Lib.hid (gp_at w 1 0 f (f + 1 + l) 23 30)
  clear e0 e1 e2 hv
  go_enter Try.func10, Try.ntmps10
  go_wp2_with fail
  refine (HC.out _).mono ?_
  rintro e w1 ⟨v, rfl, hO, hb1⟩
  obtain ⟨c0, c1, c2, c3, sz, bl⟩ := HG.out.keep_ hb1
  obtain ⟨va, vc, hve⟩ := (Sl.of_own hO).len
  subst hve
  have HS := Lib.hid (Sl.of_own hO)
  clear hO hb1 HG
  go_wp2_with fail
  go_loopw [12, 53] (fun x i wr => ∃ j : Nat, j ≤ L.length ∧ i = .int .i64 j ∧ x = .int .i64 (at_ j) ∧ Gp w wr 1 0 f (f + 1 + l) ∧ Below w1.heap.size w1 wr) (fun _ i _ => L.length - (intOf i).toNat)
  case atStart => exact ⟨0, by omega, by go_num, by rw [E0.out], ⟨c0, c1, c2, c3, sz, bl⟩, Below.refl _ _⟩
  case round =>
    obtain ⟨j, hj, rfl, rfl, hgp, hB⟩ := hrel
    clear c0 c1 c2 c3 sz bl
    obtain ⟨c0, c1, c2, c3, sz, bl⟩ := hgp
    have HGp := Lib.hid (Gp.mk c0 c1 c2 c3 sz bl)
    by_cases hlt : j < L.length
    · obtain ⟨b', off, cc, ev, k1, k2, k3⟩ := (HS.out.keep hB).some_ (by omega)
      injection ev with ev _ ev2
      subst ev ev2
      obtain ⟨p1, p2, p3, p4, p5, p6⟩ := E2.out j hlt
      obtain ⟨q1, q2⟩ := flat_at L j hlt
      rw [p1] at q1
      rw [p2] at q2
      have g1 := k3 _ _ q1
      have g2 := k3 _ _ q2
      rw [← Nat.add_assoc] at g2
      clear k3 q1 q2 p1 p2
      obtain ⟨r1, r2⟩ := io_at (n := at_ j) HV.out p5 (by omega)
      obtain ⟨r3, r4⟩ := io_at (n := at_ (j + 1) - 1) HV.out (by omega) (by omega)
      rw [p6] at r4
      clear p6
      have hji : (j : Int) < (L.length : Int) := by omega
      have hlw : w.heap.size < wr.heap.size := by omega
      have hlw1 : w.heap.size + 1 < wr.heap.size := by omega
      have hmw : w.heap.size ≤ wr.heap.size := by omega
      generalize hX : at_ j = X at *
      generalize hY : at_ (j + 1) = Y at *
      have HY := Lib.hid hY
      clear hX hY
      go_wp2_with fail
      refine (gran_IndexOf _ _ _ _).mono ?_
      rintro e w3 ⟨rfl, hb3⟩
      have HB3 := Lib.hid (HGp.out.keep_ ((below_new hb3).mono (Nat.le_refl _)))
      obtain ⟨d0, d1, d2, d3, sz3, bl3⟩ := HB3.out
      have hz3 := hb3.size
      simp only [World.size_alloc] at hz3
      have hl3 : wr.heap.size < w3.heap.size := by omega
      have hm3 : wr.heap.size ≤ w3.heap.size := by omega
      obtain ⟨hc3, hf3⟩ := bcell hb3
      have HBl3 := Lib.hid (below_chain hB (below_new hb3))
      clear hb3 hB
      go_wp2_with fail
      refine (gran_IndexOf _ _ _ _).mono ?_
      rintro e w4 ⟨rfl, hb4⟩
      have HB4 := Lib.hid (HB3.out.keep_ hb4)
      have hz4 := hb4.size
      have hl4 : wr.heap.size < w4.heap.size := by omega
      obtain ⟨hc4, hf4⟩ := bcell hb4
      have HBl4 := Lib.hid (below_chain HBl3.out hb4)
      clear hb4 d0 d1 d2 d3
      go_wp2_with fail
      go_roundw
      case rel => exact ⟨j + 1, by omega, by go_num, by rw [HY.out], HB4.out, HBl4.out⟩
      case measure => simp [intOf]; omega
    · obtain rfl : j = L.length := by omega
      have hE := E1.out
      go_wp2_with fail
      refine (awake_any _).mono ?_
      rintro e w5 ⟨rfl, hb5⟩
      obtain ⟨d0, d1, d2, d3, sz3, bl3⟩ := HGp.out.keep_ hb5
      go_wp2_with fail
      go_ret
      exact ⟨ret_bool (by first | rfl | (simp; done) | (simp; omega)), bl3⟩

set_option maxRecDepth 100000 in
set_option maxHeartbeats 4000000 in
theorem pieces_walk2 (a b f l : Int) (hq : a % 5 = 1) (ha : 0 ≤ a ∧ a ≤ 255) (hb : 0 ≤ b ∧ b ≤ 255) (hf : 0 ≤ f ∧ f ≤ 65535) (hl : 0 ≤ l ∧ l ≤ 255) (w : World) :
    Calls Try.prog 10 #[.int .u8 a, .int .u8 b, .int .u16 f, .int .u8 l] w (Holds w) := by
  obtain ⟨a0, a1⟩ := ha
  obtain ⟨b0, b1⟩ := hb
  obtain ⟨f0, f1⟩ := hf
  obtain ⟨l0, l1⟩ := hl
  have hv : Gr.vg 2 0 = true := (Gr.vg_iff _ _).2 (by omega)
  obtain ⟨at_, e0, e1, e2⟩ := spL_chain (k := 2) (s := 0) (a := f) (t := f + 1 + l) hv (by omega) (by omega) (by omega)
  have hlen := spL_length 2 0 f (f + 1 + l)
  have HC := Lib.hid (fun w => gran_Split_all 2 0 f (f + 1 + l) w)
  generalize spL 2 0 f (f + 1 + l) = L at e1 e2 hlen HC
  have E0 := Lib.hid e0
  have E1 := Lib.hid e1
  have E2 := Lib.hid e2
  have HV := Lib.hid hv
  have HG := Lib.hid (gp_at w 2 0 f (f + 1 + l) 23 30)
  clear e0 e1 e2 hv
  go_enter Try.func10, Try.ntmps10
  go_wp2_with fail
  refine (HC.out _).mono ?_
  rintro e w1 ⟨v, rfl, hO, hb1⟩
  obtain ⟨c0, c1, c2, c3, sz, bl⟩ := HG.out.keep_ hb1
  obtain ⟨va, vc, hve⟩ := (Sl.of_own hO).len
  subst hve
  have HS := Lib.hid (Sl.of_own hO)
  clear hO hb1 HG
  go_wp2_with fail
  go_loopw [12, 53] (fun x i wr => ∃ j : Nat, j ≤ L.length ∧ i = .int .i64 j ∧ x = .int .i64 (at_ j) ∧ Gp w wr 2 0 f (f + 1 + l) ∧ Below w1.heap.size w1 wr) (fun _ i _ => L.length - (intOf i).toNat)
  case atStart => exact ⟨0, by omega, by go_num, by rw [E0.out], ⟨c0, c1, c2, c3, sz, bl⟩, Below.refl _ _⟩
  case round =>
    obtain ⟨j, hj, rfl, rfl, hgp, hB⟩ := hrel
    clear c0 c1 c2 c3 sz bl
    obtain ⟨c0, c1, c2, c3, sz, bl⟩ := hgp
    have HGp := Lib.hid (Gp.mk c0 c1 c2 c3 sz bl)
    by_cases hlt : j < L.length
    · obtain ⟨b', off, cc, ev, k1, k2, k3⟩ := (HS.out.keep hB).some_ (by omega)
      injection ev with ev _ ev2
      subst ev ev2
      obtain ⟨p1, p2, p3, p4, p5, p6⟩ := E2.out j hlt
      obtain ⟨q1, q2⟩ := flat_at L j hlt
      rw [p1] at q1
      rw [p2] at q2
      have g1 := k3 _ _ q1
      have g2 := k3 _ _ q2
      rw [← Nat.add_assoc] at g2
      clear k3 q1 q2 p1 p2
      obtain ⟨r1, r2⟩ := io_at (n := at_ j) HV.out p5 (by omega)
      obtain ⟨r3, r4⟩ := io_at (n := at_ (j + 1) - 1) HV.out (by omega) (by omega)
      rw [p6] at r4
      clear p6
      have hji : (j : Int) < (L.length : Int) := by omega
      have hlw : w.heap.size < wr.heap.size := by omega
      have hlw1 : w.heap.size + 1 < wr.heap.size := by omega
      have hmw : w.heap.size ≤ wr.heap.size := by omega
      generalize hX : at_ j = X at *
      generalize hY : at_ (j + 1) = Y at *
      have HY := Lib.hid hY
      clear hX hY
      go_wp2_with fail
      refine (gran_IndexOf _ _ _ _).mono ?_
      rintro e w3 ⟨rfl, hb3⟩
      have HB3 := Lib.hid (HGp.out.keep_ ((below_new hb3).mono (Nat.le_refl _)))
      obtain ⟨d0, d1, d2, d3, sz3, bl3⟩ := HB3.out
      have hz3 := hb3.size
      simp only [World.size_alloc] at hz3
      have hl3 : wr.heap.size < w3.heap.size := by omega
      have hm3 : wr.heap.size ≤ w3.heap.size := by omega
      obtain ⟨hc3, hf3⟩ := bcell hb3
      have HBl3 := Lib.hid (below_chain hB (below_new hb3))
      clear hb3 hB
      go_wp2_with fail
      refine (gran_IndexOf _ _ _ _).mono ?_
      rintro e w4 ⟨rfl, hb4⟩
      have HB4 := Lib.hid (HB3.out.keep_ hb4)
      have hz4 := hb4.size
      have hl4 : wr.heap.size < w4.heap.size := by omega
      obtain ⟨hc4, hf4⟩ := bcell hb4
      have HBl4 := Lib.hid (below_chain HBl3.out hb4)
      clear hb4 d0 d1 d2 d3
      go_wp2_with fail
      go_roundw
      case rel => exact ⟨j + 1, by omega, by go_num, by rw [HY.out], HB4.out, HBl4.out⟩
      case measure => simp [intOf]; omega
    · obtain rfl : j = L.length := by omega
      have hE := E1.out
      go_wp2_with fail
      refine (awake_any _).mono ?_
      rintro e w5 ⟨rfl, hb5⟩
      obtain ⟨d0, d1, d2, d3, sz3, bl3⟩ := HGp.out.keep_ hb5
      go_wp2_with fail
      go_ret
      exact ⟨ret_bool (by first | rfl | (simp; done) | (simp; omega)), bl3⟩

set_option maxRecDepth 100000 in
set_option maxHeartbeats 4000000 in
theorem pieces_walk3 (a b f l : Int) (hq : a % 5 = 2) (ha : 0 ≤ a ∧ a ≤ 255) (hb : 0 ≤ b ∧ b ≤ 255) (hf : 0 ≤ f ∧ f ≤ 65535) (hl : 0 ≤ l ∧ l ≤ 255) (w : World) :
    Calls Try.prog 10 #[.int .u8 a, .int .u8 b, .int .u16 f, .int .u8 l] w (Holds w) := by
  obtain ⟨a0, a1⟩ := ha
  obtain ⟨b0, b1⟩ := hb
  obtain ⟨f0, f1⟩ := hf
  obtain ⟨l0, l1⟩ := hl
  have hv : Gr.vg 3 (1 + b % 12) = true := (Gr.vg_iff _ _).2 (by omega)
  obtain ⟨at_, e0, e1, e2⟩ := spL_chain (k := 3) (s := (1 + b % 12)) (a := f) (t := f + 1 + l) hv (by omega) (by omega) (by omega)
  have hlen := spL_length 3 (1 + b % 12) f (f + 1 + l)
  have HC := Lib.hid (fun w => gran_Split_all 3 (1 + b % 12) f (f + 1 + l) w)
  generalize spL 3 (1 + b % 12) f (f + 1 + l) = L at e1 e2 hlen HC
  have E0 := Lib.hid e0
  have E1 := Lib.hid e1
  have E2 := Lib.hid e2
  have HV := Lib.hid hv
  have HG := Lib.hid (gp_at w 3 (1 + b % 12) f (f + 1 + l) 23 30)
  clear e0 e1 e2 hv
  go_enter Try.func10, Try.ntmps10
  go_wp2_with fail
  refine (HC.out _).mono ?_
  rintro e w1 ⟨v, rfl, hO, hb1⟩
  obtain ⟨c0, c1, c2, c3, sz, bl⟩ := HG.out.keep_ hb1
  obtain ⟨va, vc, hve⟩ := (Sl.of_own hO).len
  subst hve
  have HS := Lib.hid (Sl.of_own hO)
  clear hO hb1 HG
  go_wp2_with fail
  go_loopw [12, 53] (fun x i wr => ∃ j : Nat, j ≤ L.length ∧ i = .int .i64 j ∧ x = .int .i64 (at_ j) ∧ Gp w wr 3 (1 + b % 12) f (f + 1 + l) ∧ Below w1.heap.size w1 wr) (fun _ i _ => L.length - (intOf i).toNat)
  case atStart => exact ⟨0, by omega, by go_num, by rw [E0.out], ⟨c0, c1, c2, c3, sz, bl⟩, Below.refl _ _⟩
  case round =>
    obtain ⟨j, hj, rfl, rfl, hgp, hB⟩ := hrel
    clear c0 c1 c2 c3 sz bl
    obtain ⟨c0, c1, c2, c3, sz, bl⟩ := hgp
    have HGp := Lib.hid (Gp.mk c0 c1 c2 c3 sz bl)
    by_cases hlt : j < L.length
    · obtain ⟨b', off, cc, ev, k1, k2, k3⟩ := (HS.out.keep hB).some_ (by omega)
      injection ev with ev _ ev2
      subst ev ev2
      obtain ⟨p1, p2, p3, p4, p5, p6⟩ := E2.out j hlt
      obtain ⟨q1, q2⟩ := flat_at L j hlt
      rw [p1] at q1
      rw [p2] at q2
      have g1 := k3 _ _ q1
      have g2 := k3 _ _ q2
      rw [← Nat.add_assoc] at g2
      clear k3 q1 q2 p1 p2
      obtain ⟨r1, r2⟩ := io_at (n := at_ j) HV.out p5 (by omega)
      obtain ⟨r3, r4⟩ := io_at (n := at_ (j + 1) - 1) HV.out (by omega) (by omega)
      rw [p6] at r4
      clear p6
      have hji : (j : Int) < (L.length : Int) := by omega
      have hlw : w.heap.size < wr.heap.size := by omega
      have hlw1 : w.heap.size + 1 < wr.heap.size := by omega
      have hmw : w.heap.size ≤ wr.heap.size := by omega
      generalize hX : at_ j = X at *
      generalize hY : at_ (j + 1) = Y at *
      have HY := Lib.hid hY
      clear hX hY
      go_wp2_with fail
      refine (gran_IndexOf _ _ _ _).mono ?_
      rintro e w3 ⟨rfl, hb3⟩
      have HB3 := Lib.hid (HGp.out.keep_ ((below_new hb3).mono (Nat.le_refl _)))
      obtain ⟨d0, d1, d2, d3, sz3, bl3⟩ := HB3.out
      have hz3 := hb3.size
      simp only [World.size_alloc] at hz3
      have hl3 : wr.heap.size < w3.heap.size := by omega
      have hm3 : wr.heap.size ≤ w3.heap.size := by omega
      obtain ⟨hc3, hf3⟩ := bcell hb3
      have HBl3 := Lib.hid (below_chain hB (below_new hb3))
      clear hb3 hB
      go_wp2_with fail
      refine (gran_IndexOf _ _ _ _).mono ?_
      rintro e w4 ⟨rfl, hb4⟩
      have HB4 := Lib.hid (HB3.out.keep_ hb4)
      have hz4 := hb4.size
      have hl4 : wr.heap.size < w4.heap.size := by omega
      obtain ⟨hc4, hf4⟩ := bcell hb4
      have HBl4 := Lib.hid (below_chain HBl3.out hb4)
      clear hb4 d0 d1 d2 d3
      go_wp2_with fail
      go_roundw
      case rel => exact ⟨j + 1, by omega, by go_num, by rw [HY.out], HB4.out, HBl4.out⟩
      case measure => simp [intOf]; omega
    · obtain rfl : j = L.length := by omega
      have hE := E1.out
      go_wp2_with fail
      refine (awake_any _).mono ?_
      rintro e w5 ⟨rfl, hb5⟩
      obtain ⟨d0, d1, d2, d3, sz3, bl3⟩ := HGp.out.keep_ hb5
      go_wp2_with fail
      go_ret
      exact ⟨ret_bool (by first | rfl | (simp; done) | (simp; omega)), bl3⟩

set_option maxRecDepth 100000 in
set_option maxHeartbeats 4000000 in
theorem pieces_walk4 (a b f l : Int) (hq : a % 5 = 3) (ha : 0 ≤ a ∧ a ≤ 255) (hb : 0 ≤ b ∧ b ≤ 255) (hf : 0 ≤ f ∧ f ≤ 65535) (hl : 0 ≤ l ∧ l ≤ 255) (w : World) :
    Calls Try.prog 10 #[.int .u8 a, .int .u8 b, .int .u16 f, .int .u8 l] w (Holds w) := by
  obtain ⟨a0, a1⟩ := ha
  obtain ⟨b0, b1⟩ := hb
  obtain ⟨f0, f1⟩ := hf
  obtain ⟨l0, l1⟩ := hl
  have hv : Gr.vg 4 (1 + b % 12) = true := (Gr.vg_iff _ _).2 (by omega)
  obtain ⟨at_, e0, e1, e2⟩ := spL_chain (k := 4) (s := (1 + b % 12)) (a := f) (t := f + 1 + l) hv (by omega) (by omega) (by omega)
  have hlen := spL_length 4 (1 + b % 12) f (f + 1 + l)
  have HC := Lib.hid (fun w => gran_Split_all 4 (1 + b % 12) f (f + 1 + l) w)
  generalize spL 4 (1 + b % 12) f (f + 1 + l) = L at e1 e2 hlen HC
  have E0 := Lib.hid e0
  have E1 := Lib.hid e1
  have E2 := Lib.hid e2
  have HV := Lib.hid hv
  have HG := Lib.hid (gp_at w 4 (1 + b % 12) f (f + 1 + l) 23 30)
  clear e0 e1 e2 hv
  go_enter Try.func10, Try.ntmps10
  go_wp2_with fail
  refine (HC.out _).mono ?_
  rintro e w1 ⟨v, rfl, hO, hb1⟩
  obtain ⟨c0, c1, c2, c3, sz, bl⟩ := HG.out.keep_ hb1
  obtain ⟨va, vc, hve⟩ := (Sl.of_own hO).len
  subst hve
  have HS := Lib.hid (Sl.of_own hO)
  clear hO hb1 HG
  go_wp2_with fail
  go_loopw [12, 53] (fun x i wr => ∃ j : Nat, j ≤ L.length ∧ i = .int .i64 j ∧ x = .int .i64 (at_ j) ∧ Gp w wr 4 (1 + b % 12) f (f + 1 + l) ∧ Below w1.heap.size w1 wr) (fun _ i _ => L.length - (intOf i).toNat)
  case atStart => exact ⟨0, by omega, by go_num, by rw [E0.out], ⟨c0, c1, c2, c3, sz, bl⟩, Below.refl _ _⟩
  case round =>
    obtain ⟨j, hj, rfl, rfl, hgp, hB⟩ := hrel
    clear c0 c1 c2 c3 sz bl
    obtain ⟨c0, c1, c2, c3, sz, bl⟩ := hgp
    have HGp := Lib.hid (Gp.mk c0 c1 c2 c3 sz bl)
    by_cases hlt : j < L.length
    · obtain ⟨b', off, cc, ev, k1, k2, k3⟩ := (HS.out.keep hB).some_ (by omega)
      injection ev with ev _ ev2
      subst ev ev2
      obtain ⟨p1, p2, p3, p4, p5, p6⟩ := E2.out j hlt
      obtain ⟨q1, q2⟩ := flat_at L j hlt
      rw [p1] at q1
      rw [p2] at q2
      have g1 := k3 _ _ q1
      have g2 := k3 _ _ q2
      rw [← Nat.add_assoc] at g2
      clear k3 q1 q2 p1 p2
      obtain ⟨r1, r2⟩ := io_at (n := at_ j) HV.out p5 (by omega)
      obtain ⟨r3, r4⟩ := io_at (n := at_ (j + 1) - 1) HV.out (by omega) (by omega)
      rw [p6] at r4
      clear p6
      have hji : (j : Int) < (L.length : Int) := by omega
      have hlw : w.heap.size < wr.heap.size := by omega
      have hlw1 : w.heap.size + 1 < wr.heap.size := by omega
      have hmw : w.heap.size ≤ wr.heap.size := by omega
      generalize hX : at_ j = X at *
      generalize hY : at_ (j + 1) = Y at *
      have HY := Lib.hid hY
      clear hX hY
      go_wp2_with fail
      refine (gran_IndexOf _ _ _ _).mono ?_
      rintro e w3 ⟨rfl, hb3⟩
      have HB3 := Lib.hid (HGp.out.keep_ ((below_new hb3).mono (Nat.le_refl _)))
      obtain ⟨d0, d1, d2, d3, sz3, bl3⟩ := HB3.out
      have hz3 := hb3.size
      simp only [World.size_alloc] at hz3
      have hl3 : wr.heap.size < w3.heap.size := by omega
      have hm3 : wr.heap.size ≤ w3.heap.size := by omega
      obtain ⟨hc3, hf3⟩ := bcell hb3
      have HBl3 := Lib.hid (below_chain hB (below_new hb3))
      clear hb3 hB
      go_wp2_with fail
      refine (gran_IndexOf _ _ _ _).mono ?_
      rintro e w4 ⟨rfl, hb4⟩
      have HB4 := Lib.hid (HB3.out.keep_ hb4)
      have hz4 := hb4.size
      have hl4 : wr.heap.size < w4.heap.size := by omega
      obtain ⟨hc4, hf4⟩ := bcell hb4
      have HBl4 := Lib.hid (below_chain HBl3.out hb4)
      clear hb4 d0 d1 d2 d3
      go_wp2_with fail
      go_roundw
      case rel => exact ⟨j + 1, by omega, by go_num, by rw [HY.out], HB4.out, HBl4.out⟩
      case measure => simp [intOf]; omega
    · obtain rfl : j = L.length := by omega
      have hE := E1.out
      go_wp2_with fail
      refine (awake_any _).mono ?_
      rintro e w5 ⟨rfl, hb5⟩
      obtain ⟨d0, d1, d2, d3, sz3, bl3⟩ := HGp.out.keep_ hb5
      go_wp2_with fail
      go_ret
      exact ⟨ret_bool (by first | rfl | (simp; done) | (simp; omega)), bl3⟩

set_option maxRecDepth 100000 in
set_option maxHeartbeats 4000000 in
theorem pieces_walk5 (a b f l : Int) (hq : a % 5 = 4) (ha : 0 ≤ a ∧ a ≤ 255) (hb : 0 ≤ b ∧ b ≤ 255) (hf : 0 ≤ f ∧ f ≤ 65535) (hl : 0 ≤ l ∧ l ≤ 255) (w : World) :
    Calls Try.prog 10 #[.int .u8 a, .int .u8 b, .int .u16 f, .int .u8 l] w (Holds w) := by
  obtain ⟨a0, a1⟩ := ha
  obtain ⟨b0, b1⟩ := hb
  obtain ⟨f0, f1⟩ := hf
  obtain ⟨l0, l1⟩ := hl
  have hv : Gr.vg 5 (1 + b % 12) = true := (Gr.vg_iff _ _).2 (by omega)
  obtain ⟨at_, e0, e1, e2⟩ := spL_chain (k := 5) (s := (1 + b % 12)) (a := f) (t := f + 1 + l) hv (by omega) (by omega) (by omega)
  have hlen := spL_length 5 (1 + b % 12) f (f + 1 + l)
  have HC := Lib.hid (fun w => gran_Split_all 5 (1 + b % 12) f (f + 1 + l) w)
  generalize spL 5 (1 + b % 12) f (f + 1 + l) = L at e1 e2 hlen HC
  have E0 := Lib.hid e0
  have E1 := Lib.hid e1
  have E2 := Lib.hid e2
  have HV := Lib.hid hv
  have HG := Lib.hid (gp_at w 5 (1 + b % 12) f (f + 1 + l) 23 30)
  clear e0 e1 e2 hv
  go_enter Try.func10, Try.ntmps10
  go_wp2_with fail
  refine (HC.out _).mono ?_
  rintro e w1 ⟨v, rfl, hO, hb1⟩
  obtain ⟨c0, c1, c2, c3, sz, bl⟩ := HG.out.keep_ hb1
  obtain ⟨va, vc, hve⟩ := (Sl.of_own hO).len
  subst hve
  have HS := Lib.hid (Sl.of_own hO)
  clear hO hb1 HG
  go_wp2_with fail
  go_loopw [12, 53] (fun x i wr => ∃ j : Nat, j ≤ L.length ∧ i = .int .i64 j ∧ x = .int .i64 (at_ j) ∧ Gp w wr 5 (1 + b % 12) f (f + 1 + l) ∧ Below w1.heap.size w1 wr) (fun _ i _ => L.length - (intOf i).toNat)
  case atStart => exact ⟨0, by omega, by go_num, by rw [E0.out], ⟨c0, c1, c2, c3, sz, bl⟩, Below.refl _ _⟩
  case round =>
    obtain ⟨j, hj, rfl, rfl, hgp, hB⟩ := hrel
    clear c0 c1 c2 c3 sz bl
    obtain ⟨c0, c1, c2, c3, sz, bl⟩ := hgp
    have HGp := Lib.hid (Gp.mk c0 c1 c2 c3 sz bl)
    by_cases hlt : j < L.length
    · obtain ⟨b', off, cc, ev, k1, k2, k3⟩ := (HS.out.keep hB).some_ (by omega)
      injection ev with ev _ ev2
      subst ev ev2
      obtain ⟨p1, p2, p3, p4, p5, p6⟩ := E2.out j hlt
      obtain ⟨q1, q2⟩ := flat_at L j hlt
      rw [p1] at q1
      rw [p2] at q2
      have g1 := k3 _ _ q1
      have g2 := k3 _ _ q2
      rw [← Nat.add_assoc] at g2
      clear k3 q1 q2 p1 p2
      obtain ⟨r1, r2⟩ := io_at (n := at_ j) HV.out p5 (by omega)
      obtain ⟨r3, r4⟩ := io_at (n := at_ (j + 1) - 1) HV.out (by omega) (by omega)
      rw [p6] at r4
      clear p6
      have hji : (j : Int) < (L.length : Int) := by omega
      have hlw : w.heap.size < wr.heap.size := by omega
      have hlw1 : w.heap.size + 1 < wr.heap.size := by omega
      have hmw : w.heap.size ≤ wr.heap.size := by omega
      generalize hX : at_ j = X at *
      generalize hY : at_ (j + 1) = Y at *
      have HY := Lib.hid hY
      clear hX hY
      go_wp2_with fail
      refine (gran_IndexOf _ _ _ _).mono ?_
      rintro e w3 ⟨rfl, hb3⟩
      have HB3 := Lib.hid (HGp.out.keep_ ((below_new hb3).mono (Nat.le_refl _)))
      obtain ⟨d0, d1, d2, d3, sz3, bl3⟩ := HB3.out
      have hz3 := hb3.size
      simp only [World.size_alloc] at hz3
      have hl3 : wr.heap.size < w3.heap.size := by omega
      have hm3 : wr.heap.size ≤ w3.heap.size := by omega
      obtain ⟨hc3, hf3⟩ := bcell hb3
      have HBl3 := Lib.hid (below_chain hB (below_new hb3))
      clear hb3 hB
      go_wp2_with fail
      refine (gran_IndexOf _ _ _ _).mono ?_
      rintro e w4 ⟨rfl, hb4⟩
      have HB4 := Lib.hid (HB3.out.keep_ hb4)
      have hz4 := hb4.size
      have hl4 : wr.heap.size < w4.heap.size := by omega
      obtain ⟨hc4, hf4⟩ := bcell hb4
      have HBl4 := Lib.hid (below_chain HBl3.out hb4)
      clear hb4 d0 d1 d2 d3
      go_wp2_with fail
      go_roundw
      case rel => exact ⟨j + 1, by omega, by go_num, by rw [HY.out], HB4.out, HBl4.out⟩
      case measure => simp [intOf]; omega
    · obtain rfl : j = L.length := by omega
      have hE := E1.out
      go_wp2_with fail
      refine (awake_any _).mono ?_
      rintro e w5 ⟨rfl, hb5⟩
      obtain ⟨d0, d1, d2, d3, sz3, bl3⟩ := HGp.out.keep_ hb5
      go_wp2_with fail
      go_ret
      exact ⟨ret_bool (by first | rfl | (simp; done) | (simp; omega)), bl3⟩

theorem pieces_walk (a b f l : Int) (ha : 0 ≤ a ∧ a ≤ 255) (hb : 0 ≤ b ∧ b ≤ 255) (hf : 0 ≤ f ∧ f ≤ 65535) (hl : 0 ≤ l ∧ l ≤ 255) (w : World) :
    Calls Try.prog 10 #[.int .u8 a, .int .u8 b, .int .u16 f, .int .u8 l] w (Holds w) := by
  have hc : a % 5 = 0 ∨ a % 5 = 1 ∨ a % 5 = 2 ∨ a % 5 = 3 ∨ a % 5 = 4 := by omega
  rcases hc with h | h | h | h | h
  · exact pieces_walk1 a b f l h ha hb hf hl w
  · exact pieces_walk2 a b f l h ha hb hf hl w
  · exact pieces_walk3 a b f l h ha hb hf hl w
  · exact pieces_walk4 a b f l h ha hb hf hl w
  · exact pieces_walk5 a b f l h ha hb hf hl w

end Go.Proofs.Ytgimfajanmmkfaa
