/-
  The reference's has and ParsePeriod.
-/
import Derived.Test.YtllbfbgkeajkeaaDateE
namespace Go.Proofs.Ytllbfbgkeajkeaa
open Go.RowKit

set_option maxRecDepth 100000 in
theorem ref_has (s : ByteArray) (c : Int) (hc : 0 ≤ c ∧ c < 256) (hz : (s.size : Int) ≤ 9223372036854775807) (w : World) : Calls Try.prog 27 #[.string s, .int .u8 c] w fun e w' => e = .returned (.bool (decide (0 ≤ ixb s c))) ∧ w = w' := by
  rcases ixb_cases s c hc with ⟨i1, i2⟩ | ⟨k, i1, i2, i3, i4⟩
  · have HI := Lib.hid i1
    have I2 := Lib.hid i2
    clear i1 i2
    go_enter Try.func27, Try.ntmps27
    go_wp2
    go_loop [5] (fun i => ∃ j : Nat, j ≤ s.size ∧ i = .int .i64 j) (fun i => s.size - (intOf i).toNat)
    case atStart => exact ⟨0, by omega, rfl⟩
    case round =>
      obtain ⟨j, hj, rfl⟩ := hrel
      by_cases hlt : (j : Int) < (s.size : Int)
      · have hlt' : j < s.size := by omega
        have hw : wrap64 ((j : Int) + 1) = (j : Int) + 1 := IntWalk.wrap64_in _ (by omega)
        have hn : ¬ ((s[j]'hlt').toNat : Int) = c := by rw [dgv_get]; exact I2.out j hlt'
        go_wp2
        go_round
        case rel => exact ⟨j + 1, by omega, rfl⟩
        case measure => simp [intOf]; omega
      · go_wp2
        go_ret
        exact ⟨by rw [HI.out]; rfl, rfl⟩
  · have HI := Lib.hid i1
    have I3 := Lib.hid i3
    have I4 := Lib.hid i4
    clear i1 i3 i4
    go_enter Try.func27, Try.ntmps27
    go_wp2
    go_loop [5] (fun i => ∃ j : Nat, j ≤ k ∧ i = .int .i64 j) (fun i => k - (intOf i).toNat)
    case atStart => exact ⟨0, by omega, rfl⟩
    case round =>
      obtain ⟨j, hj, rfl⟩ := hrel
      by_cases hlt : j < k
      · have hlt' : j < s.size := by omega
        have hw : wrap64 ((j : Int) + 1) = (j : Int) + 1 := IntWalk.wrap64_in _ (by omega)
        have hn : ¬ ((s[j]'hlt').toNat : Int) = c := by rw [dgv_get]; exact I4.out j hlt
        go_wp2
        go_round
        case rel => exact ⟨j + 1, by omega, rfl⟩
        case measure => simp [intOf]; omega
      · obtain rfl : j = k := by omega
        have hn : ((s[j]'i2).toNat : Int) = c := by rw [dgv_get]; exact I3.out
        go_wp2
        go_ret
        exact ⟨by rw [HI.out]; simp, rfl⟩

/-- The form, as the reference looks for it. -/
theorem pf_ref {s u : ByteArray} (hu : s.extract 1 (s.size - 1) = u) (h4 : 4 ≤ s.size) (h0 : dgv s 0 = 91) (hN : dgv s (s.size - 1) = 41) (k : Nat) :
    PF s (k + 1) ↔ (k + 1 < u.size ∧ dgv u k = 44 ∧ (∀ j, j < k → dgv u j ≠ 44) ∧ dgv u (k + 1) = 32 ∧ ¬ 0 ≤ ixb (u.extract (k + 2) u.size) 41) := by
  have e1 : u.size = s.size - 2 := by rw [← hu, ByteArray.size_extract]; omega
  have d1 : ∀ j, j < s.size - 2 → dgv u j = dgv s (1 + j) := fun j hj => by rw [← hu]; exact dgv_extract s 1 (s.size - 1) j (by omega) (by omega)
  generalize hv : u.extract (k + 2) u.size = v
  have e2 : v.size = s.size - 4 - k := by rw [← hv, ByteArray.size_extract, e1]; omega
  have d2 : ∀ j, j < s.size - 4 - k → dgv v j = dgv s (1 + (k + 2 + j)) := fun j hj => by
    rw [← hv, dgv_extract _ _ _ _ (by omega) (Nat.le_refl _), d1 _ (by omega)]
  constructor
  · rintro ⟨k1, k2, b0, bk, nk, sp, bl, nl⟩
    refine ⟨by omega, ?_, ?_, ?_, ?_⟩
    · rw [d1 _ (by omega), ← bk]; congr 1; omega
    · intro j hj; rw [d1 _ (by omega)]; exact nk _ (by omega) (by omega)
    · rw [d1 _ (by omega), ← sp]; congr 1; omega
    · rcases ixb_cases v 41 (by omega) with ⟨i1, i2⟩ | ⟨i, i1, i2, i3, i4⟩
      · omega
      · rw [d2 _ (by omega)] at i3
        exact absurd i3 (nl _ (by omega) (by omega))
  · rintro ⟨g1, g2, g3, g4, g5⟩
    refine ⟨by omega, by omega, h0, ?_, ?_, ?_, hN, ?_⟩
    · rw [d1 _ (by omega)] at g2; rw [← g2]; congr 1; omega
    · intro j j1 j2
      have := g3 (j - 1) (by omega)
      rw [d1 _ (by omega)] at this
      rwa [show 1 + (j - 1) = j by omega] at this
    · rw [d1 _ (by omega)] at g4; rw [← g4]; congr 1; omega
    · intro j j1 j2
      rcases ixb_cases v 41 (by omega) with ⟨i1, i2⟩ | ⟨i, i1, i2, i3, i4⟩
      · have := i2 (j - (k + 3)) (by omega)
        rw [d2 _ (by omega)] at this
        rwa [show 1 + (k + 2 + (j - (k + 3))) = j by omega] at this
      · omega

theorem ref_parse_day (s : ByteArray) (a b : Int) (w : World) (ha : (pd s).1 = a) (hb : (pd s).2 = b) : Calls Try.prog 10 #[.string s] w fun e w' => e = .returned (.tuple #[.int .i64 a, .int .i64 b]) ∧ Below w.heap.size w w' := by
  subst ha; subst hb; exact ref_ParseDay s w

theorem ref_has_ (s : ByteArray) (b : Bool) (w : World) (h : decide (0 ≤ ixb s 41) = b) (hz : (s.size : Int) ≤ 9223372036854775807) : Calls Try.prog 27 #[.string s, .int .u8 41] w fun e w' => e = .returned (.bool b) ∧ w = w' := by
  subst h; exact ref_has s 41 (by omega) hz w

set_option maxRecDepth 100000 in
set_option maxHeartbeats 2000000 in
theorem ref_ParsePeriod (s : ByteArray) (w : World) (hz : (s.size : Int) ≤ 9223372036854775807) : Calls Try.prog 13 #[.string s] w fun e w' => e = .returned (ppV s) ∧ Below w.heap.size w w' := by
  generalize hv : ppV s = V
  have HV := Lib.hid hv
  clear hv
  by_cases h4 : s.size < 4
  · have HP := Lib.hid (pp_no (s := s) (fun k p => by have := p.k1; have := p.k2; omega))
    go_enter Try.func13, Try.ntmps13
    go_wp2_with fail
    refine bodyPost_ret (v := .tuple #[.agg #[.int .i64 0, .int .i64 0], .int .i64 5]) (by simp [results, Try.results13, go_sem]) rfl ?_
    exact ⟨by rw [← HV.out, ppV, HP.out], by first | exact (below_alloc (Below.refl w.heap.size w) _) | exact (below_alloc (Below.refl w.heap.size w) _).setCell (Nat.le_refl _) _ | exact ((below_alloc (Below.refl w.heap.size w) _).setCell (Nat.le_refl _) _).setCell (Nat.le_refl _) _⟩
  have h4' : ¬ (s.size : Int) < 4 := by omega
  obtain ⟨b0, hb0⟩ : ∃ x, ((s[0]'(by omega)).toNat : Int) = x := ⟨_, rfl⟩
  have HB0 := Lib.hid ((dgv_get s 0 (by omega)).symm.trans hb0)
  by_cases c0 : b0 = 91
  case neg =>
    have HP := Lib.hid (pp_no (s := s) (fun k p => c0 (by rw [← HB0.out]; exact p.b0)))
    go_enter Try.func13, Try.ntmps13
    go_wp2_with fail
    refine bodyPost_ret (v := .tuple #[.agg #[.int .i64 0, .int .i64 0], .int .i64 5]) (by simp [results, Try.results13, go_sem]) rfl ?_
    exact ⟨by rw [← HV.out, ppV, HP.out], by first | exact (below_alloc (Below.refl w.heap.size w) _) | exact (below_alloc (Below.refl w.heap.size w) _).setCell (Nat.le_refl _) _ | exact ((below_alloc (Below.refl w.heap.size w) _).setCell (Nat.le_refl _) _).setCell (Nat.le_refl _) _⟩
  subst c0
  obtain ⟨bN, hbN⟩ : ∃ x, ((s[s.size - 1]'(by omega)).toNat : Int) = x := ⟨_, rfl⟩
  have HBN := Lib.hid ((dgv_get s (s.size - 1) (by omega)).symm.trans hbN)
  have hw2 : ((s.size : Int) - 1).toNat = s.size - 1 := by omega
  have hw3 : (0 : Int) ≤ (s.size : Int) - 1 ∧ (s.size : Int) - 1 < (s.size : Int) := by omega
  have hw4 : (1 : Int) ≤ (s.size : Int) - 1 := by omega
  have hw5 : (s.size : Int) - 1 ≤ (s.size : Int) := by omega
  by_cases cN : bN = 41
  case neg =>
    have HP := Lib.hid (pp_no (s := s) (fun k p => cN (by rw [← HBN.out]; exact p.bl)))
    go_enter Try.func13, Try.ntmps13
    go_wp2_with fail
    refine bodyPost_ret (v := .tuple #[.agg #[.int .i64 0, .int .i64 0], .int .i64 5]) (by simp [results, Try.results13, go_sem]) rfl ?_
    exact ⟨by rw [← HV.out, ppV, HP.out], by first | exact (below_alloc (Below.refl w.heap.size w) _) | exact (below_alloc (Below.refl w.heap.size w) _).setCell (Nat.le_refl _) _ | exact ((below_alloc (Below.refl w.heap.size w) _).setCell (Nat.le_refl _) _).setCell (Nat.le_refl _) _⟩
  subst cN
  obtain ⟨u, hu⟩ : ∃ u, s.extract 1 (s.size - 1) = u := ⟨_, rfl⟩
  have HU := Lib.hid hu
  have e1 : u.size = s.size - 2 := by rw [← hu, ByteArray.size_extract]; omega
  have hzu : (u.size : Int) ≤ 9223372036854775807 := by omega
  have hzv2 : (u.size : Int) + 2 ≤ (s.size : Int) := by omega
  have E1 := Lib.hid e1
  clear e1
  have HR := Lib.hid (fun k => pf_ref (k := k) hu (by omega) HB0.out HBN.out)
  rcases ixb_cases u 44 (by omega) with ⟨i1, i2⟩ | ⟨k0, i1, i2, i3, i4⟩
  · have HP := Lib.hid (pp_no (s := s) (fun k p => by
      obtain ⟨k', rfl⟩ : ∃ k', k = k' + 1 := ⟨k - 1, by have := p.k1; omega⟩
      have := (HR.out k').1 p
      exact i2 k' (by omega) this.2.1))
    have I2 := Lib.hid i2
    clear i1 i2
    go_enter Try.func13, Try.ntmps13
    go_wp2_with fail
    go_loop [5] (fun i => ∃ j : Nat, j ≤ u.size ∧ i = .int .i64 j) (fun i => u.size - (intOf i).toNat)
    case atStart => exact ⟨0, by omega, rfl⟩
    case round =>
      obtain ⟨j, hj, rfl⟩ := hrel
      clear hb0 hbN hw2 hw3 hw4 hw5 h4 h4' hu
      by_cases hlt : j < u.size
      · have hlt' : j < u.size := by omega
        have hn : ¬ ((u[j]'hlt').toNat : Int) = 44 := by rw [dgv_get]; exact I2.out j hlt'
        go_wp2
        go_round
        case rel => exact ⟨j + 1, by omega, rfl⟩
        case measure => simp [intOf]; omega
      · obtain rfl : j = u.size := by omega
        go_wp2_with fail
        refine bodyPost_ret (v := .tuple #[.agg #[.int .i64 0, .int .i64 0], .int .i64 5]) (by simp [results, Try.results13, go_sem]) rfl ?_
        exact ⟨by rw [← HV.out, ppV, HP.out], by first | exact (below_alloc (Below.refl w.heap.size w) _) | exact (below_alloc (Below.refl w.heap.size w) _).setCell (Nat.le_refl _) _ | exact ((below_alloc (Below.refl w.heap.size w) _).setCell (Nat.le_refl _) _).setCell (Nat.le_refl _) _⟩
  · have hno := Lib.hid (fun (h : ¬ (k0 + 1 < u.size ∧ dgv u (k0 + 1) = 32 ∧ ¬ 0 ≤ ixb (u.extract (k0 + 2) u.size) 41)) => show ∀ k, ¬ PF s k from fun k p => by
      obtain ⟨k', rfl⟩ : ∃ k', k = k' + 1 := ⟨k - 1, by have := p.k1; omega⟩
      obtain ⟨q1, q2, q3, q4, q5⟩ := (HR.out k').1 p
      have : k' = k0 := by
        rcases Nat.lt_trichotomy k' k0 with g | g | g
        · exact absurd q2 (i4 k' g)
        · exact g
        · exact absurd i3 (q3 k0 g)
      subst this
      exact h ⟨q1, q4, q5⟩)
    have HT := Lib.hid (fun (h : k0 + 1 < u.size ∧ dgv u (k0 + 1) = 32 ∧ ¬ 0 ≤ ixb (u.extract (k0 + 2) u.size) 41) => (HR.out k0).2 ⟨h.1, i3, i4, h.2.1, h.2.2⟩)
    have hn44 : ((u[k0]'i2).toNat : Int) = 44 := by rw [dgv_get]; exact i3
    have I4 := Lib.hid i4
    clear i1 i3 i4
    have hw7 : ((k0 : Int) + 1).toNat = k0 + 1 := by omega
    go_enter Try.func13, Try.ntmps13
    go_wp2_with fail
    go_loop [5] (fun i => ∃ j : Nat, j ≤ k0 ∧ i = .int .i64 j) (fun i => k0 - (intOf i).toNat)
    case atStart => exact ⟨0, by omega, rfl⟩
    case round =>
      obtain ⟨j, hj, rfl⟩ := hrel
      clear hb0 hbN hw2 hw3 hw4 hw5 h4 h4' hu
      by_cases hlt : j < k0
      · have hlt' : j < u.size := by omega
        have hn : ¬ ((u[j]'hlt').toNat : Int) = 44 := by rw [dgv_get]; exact I4.out j hlt
        go_wp2
        go_round
        case rel => exact ⟨j + 1, by omega, rfl⟩
        case measure => simp [intOf]; omega
      obtain rfl : k0 = j := by omega
      clear hlt hj
      by_cases g1 : k0 + 1 < u.size
      case neg =>
        have HP := Lib.hid (pp_no (hno.out (fun h => g1 h.1)))
        go_wp2_with fail
        refine bodyPost_ret (v := .tuple #[.agg #[.int .i64 0, .int .i64 0], .int .i64 5]) (by simp [results, Try.results13, go_sem]) rfl ?_
        exact ⟨by rw [← HV.out, ppV, HP.out], by first | exact (below_alloc (Below.refl w.heap.size w) _) | exact (below_alloc (Below.refl w.heap.size w) _).setCell (Nat.le_refl _) _ | exact ((below_alloc (Below.refl w.heap.size w) _).setCell (Nat.le_refl _) _).setCell (Nat.le_refl _) _⟩
      have hw9 : ((k0 : Int) + 2).toNat = k0 + 2 := by omega
      obtain ⟨x1, hx1⟩ : ∃ x, ((u[k0 + 1]'g1).toNat : Int) = x := ⟨_, rfl⟩
      have HX1 := Lib.hid ((dgv_get u (k0 + 1) g1).symm.trans hx1)
      by_cases g2 : x1 = 32
      case neg =>
        have HP := Lib.hid (pp_no (hno.out (fun h => g2 (by rw [← HX1.out]; exact h.2.1))))
        go_wp2_with fail
        refine bodyPost_ret (v := .tuple #[.agg #[.int .i64 0, .int .i64 0], .int .i64 5]) (by simp [results, Try.results13, go_sem]) rfl ?_
        exact ⟨by rw [← HV.out, ppV, HP.out], by first | exact (below_alloc (Below.refl w.heap.size w) _) | exact (below_alloc (Below.refl w.heap.size w) _).setCell (Nat.le_refl _) _ | exact ((below_alloc (Below.refl w.heap.size w) _).setCell (Nat.le_refl _) _).setCell (Nat.le_refl _) _⟩
      subst g2
      obtain ⟨v, hv⟩ : ∃ v, u.extract (k0 + 2) u.size = v := ⟨_, rfl⟩
      have HV2 := Lib.hid hv
      have hzv : (v.size : Int) ≤ 9223372036854775807 := by rw [← hv, ByteArray.size_extract]; omega
      by_cases g3 : 0 ≤ ixb v 41
      · have HP := Lib.hid (pp_no (hno.out (fun h => by have h3 := h.2.2; rw [HV2.out] at h3; omega)))
        have hg := Lib.hid (show decide (0 ≤ ixb v 41) = true by simp [g3])
        clear g3
        go_wp2_with fail
        refine (ref_has_ v _ _ hg.out hzv).mono ?_
        rintro e w' ⟨rfl, rfl⟩
        go_wp2_with fail
        refine bodyPost_ret (v := .tuple #[.agg #[.int .i64 0, .int .i64 0], .int .i64 5]) (by simp [results, Try.results13, go_sem]) rfl ?_
        exact ⟨by rw [← HV.out, ppV, HP.out], by first | exact (below_alloc (Below.refl w.heap.size w) _) | exact (below_alloc (Below.refl w.heap.size w) _).setCell (Nat.le_refl _) _ | exact ((below_alloc (Below.refl w.heap.size w) _).setCell (Nat.le_refl _) _).setCell (Nat.le_refl _) _⟩
      have hg := Lib.hid (show decide (0 ≤ ixb v 41) = false by simp at g3 ⊢; exact g3)
      have hpf := HT.out ⟨g1, HX1.out, by rw [HV2.out]; omega⟩
      clear g3
      have HY := Lib.hid (pp_yes hpf)
      clear hpf
      obtain ⟨f, hf⟩ : ∃ f, u.extract 0 k0 = f := ⟨_, rfl⟩
      have HF := Lib.hid (show f = s.extract 1 (k0 + 1) by
        rw [← hf, ← HU.out, ByteArray.extract_extract]
        congr 1; omega)
      have HW := Lib.hid (show v = s.extract (k0 + 1 + 2) (s.size - 1) by
        rw [← HV2.out, E1.out, ← HU.out, ByteArray.extract_extract]
        congr 1 <;> omega)
      rw [← HW.out, ← HF.out] at HY
      obtain ⟨a1, ha1⟩ : ∃ z, (pd f).1 = z := ⟨_, rfl⟩
      obtain ⟨a2, ha2⟩ : ∃ z, (pd f).2 = z := ⟨_, rfl⟩
      obtain ⟨b1, hb1⟩ : ∃ z, (pd v).1 = z := ⟨_, rfl⟩
      obtain ⟨b2, hb2⟩ : ∃ z, (pd v).2 = z := ⟨_, rfl⟩
      have HA := Lib.hid (show pd f = (a1, a2) by rw [← ha1, ← ha2])
      have HC := Lib.hid (show pd v = (b1, b2) by rw [← hb1, ← hb2])
      have HA1 := Lib.hid ha1; have HA2 := Lib.hid ha2; have HB1 := Lib.hid hb1; have HB2 := Lib.hid hb2
      clear ha1 ha2 hb1 hb2
      by_cases g1 : a2 = 0
      case neg =>
        have HP := Lib.hid (show pp s = (0, 0, a2) by rw [HY.out, HA.out, HC.out]; unfold ppair; rw [if_pos g1])
        go_wp2_with fail
        refine (ref_has_ v _ _ hg.out hzv).mono ?_
        rintro e w' ⟨rfl, rfl⟩
        go_wp2_with fail
        refine (ref_parse_day f a1 a2 _ HA1.out HA2.out).mono ?_
        rintro e w1 ⟨rfl, hb1⟩
        have hB1 : Below w.heap.size w w1 := below_chain (below_alloc ((Below.refl w.heap.size w)) _) hb1
        have hz1 := hb1.size
        simp only [World.size_alloc] at hz1
        have hl1_0 : w.heap.size < w1.heap.size := by omega
        have hm1_0 : w.heap.size ≤ w1.heap.size := by omega
        obtain ⟨hc1, hf1⟩ := bcell hb1
        clear hb1
        go_wp2_with fail
        have sc := two_cells (w := w1) (B := w.heap.size) (a := .int .i64 0) (b := .int .i64 0) (by go_simp) (by go_simp)
        obtain ⟨sc0, sc1⟩ := sc
        refine bodyPost_ret (v := .tuple #[.agg #[.int .i64 0, .int .i64 0], .int .i64 a2]) (by simp [sc0, sc1, results, Try.results13, go_sem]) rfl ?_
        exact ⟨by rw [← HV.out, ppV, HP.out], by first | exact hB1 | exact hB1.setCell (Nat.le_refl _) _ | exact (hB1.setCell (Nat.le_refl _) _).setCell (Nat.le_refl _) _⟩
      subst g1
      by_cases g2 : b2 = 0
      case neg =>
        have HP := Lib.hid (show pp s = (0, 0, b2) by rw [HY.out, HA.out, HC.out]; unfold ppair; rw [if_neg (by simp), if_pos g2])
        go_wp2_with fail
        refine (ref_has_ v _ _ hg.out hzv).mono ?_
        rintro e w' ⟨rfl, rfl⟩
        go_wp2_with fail
        refine (ref_parse_day f a1 0 _ HA1.out HA2.out).mono ?_
        rintro e w1 ⟨rfl, hb1⟩
        have hB1 : Below w.heap.size w w1 := below_chain (below_alloc ((Below.refl w.heap.size w)) _) hb1
        have hz1 := hb1.size
        simp only [World.size_alloc] at hz1
        have hl1_0 : w.heap.size < w1.heap.size := by omega
        have hm1_0 : w.heap.size ≤ w1.heap.size := by omega
        obtain ⟨hc1, hf1⟩ := bcell hb1
        clear hb1
        go_wp2_with fail
        refine (ref_parse_day v b1 b2 _ HB1.out HB2.out).mono ?_
        rintro e w2 ⟨rfl, hb2⟩
        have hB2 : Below w.heap.size w w2 := below_chain (hB1) hb2
        have hz2 := hb2.size
        have hl2_0 : w.heap.size < w2.heap.size := by omega
        have hm2_0 : w.heap.size ≤ w2.heap.size := by omega
        obtain ⟨hc2, hf2⟩ := bcell hb2
        clear hb2
        go_wp2_with fail
        have sc := two_cells (w := w2) (B := w.heap.size) (a := .int .i64 0) (b := .int .i64 0) (by go_simp) (by go_simp)
        obtain ⟨sc0, sc1⟩ := sc
        refine bodyPost_ret (v := .tuple #[.agg #[.int .i64 0, .int .i64 0], .int .i64 b2]) (by simp [sc0, sc1, results, Try.results13, go_sem]) rfl ?_
        exact ⟨by rw [← HV.out, ppV, HP.out], by first | exact hB2 | exact hB2.setCell (Nat.le_refl _) _ | exact (hB2.setCell (Nat.le_refl _) _).setCell (Nat.le_refl _) _⟩
      subst g2
      by_cases g3 : b1 ≤ a1
      · have HP := Lib.hid (show pp s = (0, 0, 10) by rw [HY.out, HA.out, HC.out]; unfold ppair; rw [if_neg (by simp), if_neg (by simp), if_pos g3])
        go_wp2_with fail
        refine (ref_has_ v _ _ hg.out hzv).mono ?_
        rintro e w' ⟨rfl, rfl⟩
        go_wp2_with fail
        refine (ref_parse_day f a1 0 _ HA1.out HA2.out).mono ?_
        rintro e w1 ⟨rfl, hb1⟩
        have hB1 : Below w.heap.size w w1 := below_chain (below_alloc ((Below.refl w.heap.size w)) _) hb1
        have hz1 := hb1.size
        simp only [World.size_alloc] at hz1
        have hl1_0 : w.heap.size < w1.heap.size := by omega
        have hm1_0 : w.heap.size ≤ w1.heap.size := by omega
        obtain ⟨hc1, hf1⟩ := bcell hb1
        clear hb1
        go_wp2_with fail
        refine (ref_parse_day v b1 0 _ HB1.out HB2.out).mono ?_
        rintro e w2 ⟨rfl, hb2⟩
        have hB2 : Below w.heap.size w w2 := below_chain (hB1) hb2
        have hz2 := hb2.size
        have hl2_0 : w.heap.size < w2.heap.size := by omega
        have hm2_0 : w.heap.size ≤ w2.heap.size := by omega
        obtain ⟨hc2, hf2⟩ := bcell hb2
        clear hb2
        go_wp2_with fail
        have sc := two_cells (w := w2) (B := w.heap.size) (a := .int .i64 0) (b := .int .i64 0) (by go_simp) (by go_simp)
        obtain ⟨sc0, sc1⟩ := sc
        refine bodyPost_ret (v := .tuple #[.agg #[.int .i64 0, .int .i64 0], .int .i64 10]) (by simp [sc0, sc1, results, Try.results13, go_sem]) rfl ?_
        exact ⟨by rw [← HV.out, ppV, HP.out], by first | exact hB2 | exact hB2.setCell (Nat.le_refl _) _ | exact (hB2.setCell (Nat.le_refl _) _).setCell (Nat.le_refl _) _⟩
      · have HP := Lib.hid (show pp s = (a1, b1, 0) by rw [HY.out, HA.out, HC.out]; unfold ppair; rw [if_neg (by simp), if_neg (by simp), if_neg g3])
        go_wp2_with fail
        refine (ref_has_ v _ _ hg.out hzv).mono ?_
        rintro e w' ⟨rfl, rfl⟩
        go_wp2_with fail
        refine (ref_parse_day f a1 0 _ HA1.out HA2.out).mono ?_
        rintro e w1 ⟨rfl, hb1⟩
        have hB1 : Below w.heap.size w w1 := below_chain (below_alloc ((Below.refl w.heap.size w)) _) hb1
        have hz1 := hb1.size
        simp only [World.size_alloc] at hz1
        have hl1_0 : w.heap.size < w1.heap.size := by omega
        have hm1_0 : w.heap.size ≤ w1.heap.size := by omega
        obtain ⟨hc1, hf1⟩ := bcell hb1
        clear hb1
        go_wp2_with fail
        refine (ref_parse_day v b1 0 _ HB1.out HB2.out).mono ?_
        rintro e w2 ⟨rfl, hb2⟩
        have hB2 : Below w.heap.size w w2 := below_chain (hB1) hb2
        have hz2 := hb2.size
        have hl2_0 : w.heap.size < w2.heap.size := by omega
        have hm2_0 : w.heap.size ≤ w2.heap.size := by omega
        obtain ⟨hc2, hf2⟩ := bcell hb2
        clear hb2
        go_wp2_with fail
        have sc := two_cells (w := w2) (B := w.heap.size) (a := .int .i64 0) (b := .int .i64 0) (by go_simp) (by go_simp)
        obtain ⟨sc0, sc1⟩ := sc
        refine bodyPost_ret (v := .tuple #[.agg #[.int .i64 a1, .int .i64 b1], .int .i64 0]) (by simp [sc0, sc1, results, Try.results13, go_sem]) rfl ?_
        exact ⟨by rw [← HV.out, ppV, HP.out], by first | exact hB2 | exact hB2.setCell (Nat.le_refl _) _ | exact (hB2.setCell (Nat.le_refl _) _).setCell (Nat.le_refl _) _⟩

end Go.Proofs.Ytllbfbgkeajkeaa
