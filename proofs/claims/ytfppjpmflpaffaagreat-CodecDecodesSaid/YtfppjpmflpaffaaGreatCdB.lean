/-
  The program's decoder: numbers.
-/
import Derived.Test.YtfppjpmflpaffaaGreatCdA
import Derived.Lib.EndianBits
namespace Go.Proofs.YtfppjpmflpaffaaGreat
open Go.RowKit
set_option linter.unusedVariables false
set_option linter.unusedSimpArgs false

theorem and_127 (a : Nat) (h : a < 256) : bits .and .u8 (a : Int) 127 = ((a % 128 : Nat) : Int) := by
  have h2 : ∀ a : Fin 256, bits .and .u8 ((a.val : Nat) : Int) 127 = ((a.val % 128 : Nat) : Int) := by decide +kernel
  exact h2 ⟨a, h⟩

theorem pow7 {i : Nat} (h : i < 9) : 2 ^ (7 * i) * 128 ≤ 9223372036854775808 := by
  have h1 : 2 ^ (7 * i + 7) ≤ 2 ^ 63 := Nat.pow_le_pow_right (by decide) (by omega)
  rw [Nat.pow_add] at h1
  exact h1

theorem part_lt {U u a i : Nat} (hU : U = u + a % 128 * 2 ^ (7 * i)) (hi : i ≤ 9) (hu : u < 2 ^ (7 * i)) (ha : a < 128) (h9 : i = 9 → a ≤ 1) : U < 2 ^ 64 := by
  rcases Nat.lt_or_ge i 9 with h | h
  · have := pow7 h
    have h2 : a % 128 * 2 ^ (7 * i) ≤ 127 * 2 ^ (7 * i) := Nat.mul_le_mul_right _ (by omega)
    omega
  · obtain rfl : i = 9 := by omega
    have := h9 rfl
    have h3 : (2 : Nat) ^ (7 * 9) = 9223372036854775808 := rfl
    rw [h3] at hU hu
    omega

theorem part_next {U u a i : Nat} (hU : U = u + a % 128 * 2 ^ (7 * i)) (hu : u < 2 ^ (7 * i)) : U < 2 ^ (7 * (i + 1)) := by
  have e : 2 ^ (7 * (i + 1)) = 2 ^ (7 * i) * 128 := by rw [show 7 * (i + 1) = 7 * i + 7 by omega, Nat.pow_add]
  have h2 : a % 128 * 2 ^ (7 * i) ≤ 127 * 2 ^ (7 * i) := Nat.mul_le_mul_right _ (by omega)
  omega

/-- One more group of seven bits. -/
theorem or_part {i u a : Nat} (hi : i ≤ 9) (hu : u < 2 ^ (7 * i)) (ha : a < 256) (h9 : i = 9 → a ≤ 1) :
    bits .or .u64 (u : Int) (IntKind.u64.wrap (IntKind.u64.wrap (bits .and .u8 (a : Int) 127) * 2 ^ (7 * i))) = ((u + a % 128 * 2 ^ (7 * i) : Nat) : Int) := by
  rw [and_127 a ha]
  have e1 : IntKind.u64.wrap ((a % 128 : Nat) : Int) = ((a % 128 : Nat) : Int) := by rw [IntKind.wrap_u64]; omega
  have hX : a % 128 * 2 ^ (7 * i) < 2 ^ 64 := by
    rcases Nat.lt_or_ge i 9 with h | h
    · have := pow7 h
      have h2 : a % 128 * 2 ^ (7 * i) ≤ 127 * 2 ^ (7 * i) := Nat.mul_le_mul_right _ (by omega)
      omega
    · obtain rfl : i = 9 := by omega
      have := h9 rfl
      have h3 : (2 : Nat) ^ (7 * 9) = 9223372036854775808 := rfl
      rw [h3]
      omega
  have e2 : ((a % 128 : Nat) : Int) * 2 ^ (7 * i) = ((a % 128 * 2 ^ (7 * i) : Nat) : Int) := by push_cast; rfl
  have e3 : IntKind.u64.wrap ((a % 128 * 2 ^ (7 * i) : Nat) : Int) = ((a % 128 * 2 ^ (7 * i) : Nat) : Int) := by rw [IntKind.wrap_u64]; omega
  rw [e1, e2, e3]
  have hp : (2 : Nat) ^ (7 * i) ≤ 2 ^ 63 := Nat.pow_le_pow_right (by decide) (by omega)
  rw [bits_join_low .u64 64 (Nat.le_refl _) (fun n h0 h1 => wraps_u64 n h0 h1) (7 * i) (u : Int) ((a % 128 * 2 ^ (7 * i) : Nat) : Int) (by omega) (by exact_mod_cast hu) (by omega) (by omega) (by rw [← e2]; exact Int.mul_emod_left _ _) (by omega)]
  omega

theorem or_part9 {u a : Nat} (hu : u < 2 ^ (7 * 9)) (ha : a < 256) (h9 : a ≤ 1) :
    bits .or .u64 (u : Int) (IntKind.u64.wrap (IntKind.u64.wrap (bits .and .u8 (a : Int) 127) * 9223372036854775808)) = ((u + a % 128 * 2 ^ (7 * 9) : Nat) : Int) := by
  have h := or_part (Nat.le_refl 9) hu ha (fun _ => h9)
  have e : (2 : Int) ^ (7 * 9) = 9223372036854775808 := by decide
  rw [e] at h
  exact h

theorem and_one (U : Nat) : bits .and .u64 (U : Int) 1 = ((U % 2 : Nat) : Int) := by
  have e : bits .and .u64 (U : Int) 1 = IntKind.u64.wrap (((BitVec.ofInt 64 (U : Int)) &&& (BitVec.ofInt 64 1)).toNat : Int) := rfl
  have h1 : (BitVec.ofInt 64 (U : Int)).toNat = U % 18446744073709551616 := by rw [BitVec.toNat_ofInt]; omega
  have h2 : (BitVec.ofInt 64 1).toNat = 1 := by decide
  rw [e, BitVec.toNat_and, h1, h2, Nat.and_one_is_mod, IntKind.wrap_u64]
  omega

theorem xor_half {U : Nat} (h : U < 2 ^ 64) (ho : U % 2 = 1) : wrap64 (bits .xor .u64 IntKind.u64.max ((U : Int) / 2)) = unz U := by
  have e0 : (U : Int) / 2 = ((U / 2 : Nat) : Int) := by omega
  have e : bits .xor .u64 IntKind.u64.max ((U / 2 : Nat) : Int) = IntKind.u64.wrap (((BitVec.ofInt 64 IntKind.u64.max) ^^^ (BitVec.ofInt 64 ((U / 2 : Nat) : Int))).toNat : Int) := rfl
  have e2 : (BitVec.ofInt 64 IntKind.u64.max) ^^^ (BitVec.ofInt 64 ((U / 2 : Nat) : Int)) = ~~~ (BitVec.ofInt 64 ((U / 2 : Nat) : Int)) := by
    have : BitVec.ofInt 64 IntKind.u64.max = BitVec.allOnes 64 := by decide
    rw [this, BitVec.allOnes_xor]
  have e3 : (BitVec.ofInt 64 ((U / 2 : Nat) : Int)).toNat = U / 2 := by rw [BitVec.toNat_ofInt]; omega
  rw [e0, e, e2, BitVec.toNat_not, e3, IntKind.wrap_u64]
  unfold unz
  rw [if_pos ho]
  unfold wrap64
  omega

theorem half_even {U : Nat} (h : U < 2 ^ 64) (ho : ¬ U % 2 = 1) : wrap64 ((U : Int) / 2) = unz U := by
  unfold unz
  rw [if_neg ho]
  unfold wrap64
  omega

theorem unz_wf {U : Nat} (h : U < 2 ^ 64) : (Lit.int .i64 (unz U)).wf = true := by
  have h := unz_in h
  simp only [Lit.wf, IntKind.min, IntKind.max, IntKind.bits, IntKind.signed]
  simp
  omega

theorem Rdr.store {w : World} {rb : Nat} {s : St} {r : List UInt8} {v u : Value} (h : Rdr w rb s) (h0 : w.cell? ⟨rb, 0, none⟩ = some v) (h1 : w.cell? ⟨rb, 1, none⟩ = some (.int .i64 0)) (hd : Dat w u r) (hl : Low rb u) (hm : r.length ≤ maxLen) :
    Rdr (w.setCell ⟨rb, 0, none⟩ u) rb (.ok r) ∧ Chg (fun b => b = rb) w (w.setCell ⟨rb, 0, none⟩ u) := by
  have g : Chg (fun b => b = rb) w (w.setCell ⟨rb, 0, none⟩ u) := Chg.setCell _ _ rfl
  refine ⟨⟨by have := h.lt; simpa using this, fun j => by rw [World.frozen?_setCell]; exact h.free j, fun r' e => ?_, fun e' he' => (by cases he'), fun r' e => (by cases e; exact hm)⟩, g⟩
  cases e
  exact ⟨u, World.cell?_setCell_same _ _ _ h0, by rw [World.cell?_setCell_other _ _ _ _ (by simp)]; exact h1, dat_chg hd hl g (fun b hb => by omega), hl⟩

set_option maxRecDepth 100000 in
set_option maxHeartbeats 4000000 in
theorem get_int64 : GetC 62 .num := by
  intro w rb s h _
  cases s with
  | error a =>
    obtain ⟨c0, c1, ha⟩ := h.bad a rfl
    have g0 : (a == 0) = false := by rcases ha with rfl | rfl <;> rfl
    have H := Lib.hid h
    clear h ha
    go_enter Tryz.func62, Tryz.ntmps62
    go_wp2
    go_ret
    exact ⟨[.int .i64 0], rfl, ⟨rfl, (rfl : (Lit.int .i64 0).wf = true)⟩, H.out, Chg.refl _ _⟩
  | ok b =>
    obtain ⟨v, c0, c1, hd, hlow⟩ := h.ok b rfl
    obtain ⟨a, cp, rfl⟩ := hd.len
    obtain ⟨-, hcap, hnn⟩ := hd.le
    have f0 := h.free 0
    have H := Lib.hid h
    have HD := Lib.hid hd
    have HLOW := Lib.hid hlow
    have HCAP := Lib.hid hcap
    obtain ⟨n, hn⟩ : ∃ n, n = b.length := ⟨_, rfl⟩
    rw [← hn] at c0 hnn HCAP HD HLOW
    have HN := Lib.hid hn
    have hn0 : 0 ≤ (n : Int) := by omega
    clear h hd hlow hcap hn
    go_enter Tryz.func62, Tryz.ntmps62
    go_wp2
    go_loopg [3, 4] 9 (fun gk t3 t4 wr => ∃ (i u : Nat), i ≤ n ∧ gk + i = 9 ∧ t3 = .int .u64 (u : Int) ∧ t4 = .int .i64 (i : Int) ∧ u < 2 ^ (7 * i) ∧ getN 0 0 b = getN i u (b.drop i) ∧ w = wr)
    case atStart => exact ⟨0, 0, by omega, by omega, rfl, rfl, by decide, by simp, rfl⟩
    case round =>
      obtain ⟨i, u, hi, hgk, rfl, rfl, hu, hget, rfl⟩ := hrel
      have HGK := Lib.hid hgk
      have HU := Lib.hid hu
      have HGET := Lib.hid hget
      have hi0 : 0 ≤ (i : Int) ∧ (i : Int) ≤ 9 := by omega
      have hu0 : 0 ≤ (u : Int) := by omega
      clear hgk hu hget
      by_cases hin : i = n
      · subst hin
        have hd1 : ((i : Int) == (i : Int)) = true := beq_self_eq_true _
        go_wp2_with fail
        refine (cd_fail H.out 2 (.inl rfl)).mono ?_
        rintro e w1 ⟨rfl, hr, hc⟩
        have HR := Lib.hid (And.intro hr hc)
        clear hr hc
        go_wp2
        go_ret
        have e : dec .num (.ok b) = (0, .error 2) := by
          show dnum (.ok b) = _
          unfold dnum
          simp only
          rw [HGET.out, List.drop_of_length_le (by have := HN.out; omega), getN]
        refine ⟨[.int .i64 0], rfl, ?_, ?_, HR.out.2⟩
        · rw [e]; exact ⟨rfl, (rfl : (Lit.int .i64 0).wf = true)⟩
        · rw [e]; exact HR.out.1
      · have hd1 : ((i : Int) == (n : Int)) = false := beq_eq_false_iff_ne.2 (by omega)
        obtain ⟨x, hx⟩ : ∃ x, b[i]? = some x := ⟨_, List.getElem?_eq_getElem (by have := HN.out; omega)⟩
        obtain ⟨g, off, rfl, hg⟩ := hnn (by omega)
        have cx : w.cell? ⟨g, off + i, none⟩ = some (.int .u8 (x.toNat : Int)) := by
          rcases HD.out.1.2 with ⟨h0, _⟩ | ⟨g', off', c', e, _, _, hc⟩
          · have := HN.out; omega
          · cases e
            exact hc _ _ (pc_get hx)
        have hilt : (i : Int) < (n : Int) := by omega
        have hx0 : 0 ≤ (x.toNat : Int) ∧ (x.toNat : Int) < 256 := by have := x.toNat_lt; omega
        have HX := Lib.hid (show b.drop i = x :: b.drop (i + 1) from by
          have hlt : i < b.length := (List.getElem?_eq_some_iff.1 hx).1
          have e := (List.getElem?_eq_some_iff.1 hx).2
          rw [List.drop_eq_getElem_cons hlt, e])
        clear hx hnn
        -- branches, printed by gen_cdB.py
        by_cases h9 : i = 9
        · subst h9
          clear hi0
          by_cases hc1 : 1 < x.toNat
          · have kc : decide ((1 : Int) < (x.toNat : Int)) = true := decide_eq_true (by omega)
            have HB := Lib.hid (show (9 = 9 ∧ 1 < x.toNat) ∨ (0 < 9 ∧ x.toNat = 0) from by omega)
            go_wp2_with fail
            refine (cd_fail H.out 5 (.inr rfl)).mono ?_
            rintro e w1 ⟨rfl, hr, hc⟩
            have HR := Lib.hid (And.intro hr hc)
            clear hr hc
            go_wp2
            go_ret
            have e : dec .num (.ok b) = (0, .error 5) := by
              show dnum (.ok b) = _
              unfold dnum
              simp only
              rw [HGET.out, HX.out, getN, if_pos (by have := HB.out; first | exact this | simpa using this)]
            refine ⟨[.int .i64 0], rfl, ?_, ?_, HR.out.2⟩
            · rw [e]; exact ⟨rfl, (rfl : (Lit.int .i64 0).wf = true)⟩
            · rw [e]; exact HR.out.1
          · have kc : decide ((1 : Int) < (x.toNat : Int)) = false := decide_eq_false (by omega)
            by_cases hc0 : x.toNat = 0
            · have kz : ((x.toNat : Int) == 0) = true := beq_iff_eq.2 (by omega)
              have HB := Lib.hid (show (9 = 9 ∧ 1 < x.toNat) ∨ (0 < 9 ∧ x.toNat = 0) from by omega)
              go_wp2_with fail
              refine (cd_fail H.out 5 (.inr rfl)).mono ?_
              rintro e w1 ⟨rfl, hr, hc⟩
              have HR := Lib.hid (And.intro hr hc)
              clear hr hc
              go_wp2
              go_ret
              have e : dec .num (.ok b) = (0, .error 5) := by
                show dnum (.ok b) = _
                unfold dnum
                simp only
                rw [HGET.out, HX.out, getN, if_pos (by have := HB.out; first | exact this | simpa using this)]
              refine ⟨[.int .i64 0], rfl, ?_, ?_, HR.out.2⟩
              · rw [e]; exact ⟨rfl, (rfl : (Lit.int .i64 0).wf = true)⟩
              · rw [e]; exact HR.out.1
            · have kz : ((x.toNat : Int) == 0) = false := beq_eq_false_iff_ne.2 (by omega)
              have HB := Lib.hid (show ¬ ((9 = 9 ∧ 1 < x.toNat) ∨ (0 < 9 ∧ x.toNat = 0)) from by omega)
              obtain ⟨U, hU⟩ : ∃ U, U = u + x.toNat % 128 * 2 ^ (7 * 9) := ⟨_, rfl⟩
              have HUU := Lib.hid hU
              have eU := (or_part9 HU.out (by have := x.toNat_lt; omega) (by omega)).trans (congrArg (fun n : Nat => (n : Int)) hU.symm)
              have hU0 : 0 ≤ (U : Int) := by omega
              clear hU
              by_cases h128 : x.toNat < 128
              · have kd : decide ((x.toNat : Int) < 128) = true := decide_eq_true (by omega)
                have HG2 := Lib.hid (show getN 9 u (b.drop 9) = .ok (U, b.drop (9 + 1)) from by rw [HX.out, getN, if_neg HB.out, if_pos h128, HUU.out])
                have HU64 := Lib.hid (show U < 2 ^ 64 from part_lt HUU.out (by omega) HU.out h128 (fun h => by have := HB.out; omega))
                have e : dec .num (.ok b) = (unz U, .ok (b.drop (9 + 1))) := by
                  show dnum (.ok b) = _
                  unfold dnum
                  simp only
                  rw [HGET.out, HG2.out]
                have HE := Lib.hid e
                obtain ⟨sa, sn, sc, hr1, hr2, hcd, hcl⟩ := cutr_l (a := some ⟨g, off, none⟩) (n := n) (c := cp) (K := 9 + 1) (z1 := 10) (by omega) (by omega) (by have := HCAP.out; have := HN.out; omega)
                have HRD := Lib.hid (show Rdr (w.setCell ⟨rb, 0, none⟩ (.slice sa sn sc)) rb (.ok (b.drop (9 + 1))) ∧ Chg (fun b => b = rb) w (w.setCell ⟨rb, 0, none⟩ (.slice sa sn sc)) from H.out.store c0 c1 (hcd _ _ HD.out) (hcl _ HLOW.out) (by have := H.out.max b rfl; rw [List.length_drop]; omega))
                clear hcd hcl e
                by_cases hodd : U % 2 = 1
                · have ko : (bits .and .u64 (U : Int) 1 == 1) = true := by rw [and_one]; exact beq_iff_eq.2 (by omega)
                  have ex : wrap64 (bits .xor .u64 IntKind.u64.max ((U : Int) / 2)) = unz U := xor_half HU64.out hodd
                  go_wp2
                  go_ret
                  exact ⟨[.int .i64 (unz U)], by first | rfl | simp [goV, ex], by rw [HE.out]; exact ⟨rfl, unz_wf HU64.out⟩, by rw [HE.out]; exact HRD.out.1, HRD.out.2⟩
                · have ko : (bits .and .u64 (U : Int) 1 == 1) = false := by rw [and_one]; exact beq_eq_false_iff_ne.2 (by omega)
                  have ex : wrap64 ((U : Int) / 2) = unz U := half_even HU64.out hodd
                  go_wp2
                  go_ret
                  exact ⟨[.int .i64 (unz U)], by first | rfl | simp [goV, ex], by rw [HE.out]; exact ⟨rfl, unz_wf HU64.out⟩, by rw [HE.out]; exact HRD.out.1, HRD.out.2⟩
              · have := HB.out; omega
        · have k9 : ((i : Int) == 9) = false := beq_eq_false_iff_ne.2 (by omega)
          by_cases hi1 : 0 < i
          · have ki : decide ((0 : Int) < (i : Int)) = true := decide_eq_true (by omega)
            by_cases hc0 : x.toNat = 0
            · have kz : ((x.toNat : Int) == 0) = true := beq_iff_eq.2 (by omega)
              have HB := Lib.hid (show (i = 9 ∧ 1 < x.toNat) ∨ (0 < i ∧ x.toNat = 0) from by omega)
              go_wp2_with fail
              refine (cd_fail H.out 5 (.inr rfl)).mono ?_
              rintro e w1 ⟨rfl, hr, hc⟩
              have HR := Lib.hid (And.intro hr hc)
              clear hr hc
              go_wp2
              go_ret
              have e : dec .num (.ok b) = (0, .error 5) := by
                show dnum (.ok b) = _
                unfold dnum
                simp only
                rw [HGET.out, HX.out, getN, if_pos (by have := HB.out; first | exact this | simpa using this)]
              refine ⟨[.int .i64 0], rfl, ?_, ?_, HR.out.2⟩
              · rw [e]; exact ⟨rfl, (rfl : (Lit.int .i64 0).wf = true)⟩
              · rw [e]; exact HR.out.1
            · have kz : ((x.toNat : Int) == 0) = false := beq_eq_false_iff_ne.2 (by omega)
              have HB := Lib.hid (show ¬ ((i = 9 ∧ 1 < x.toNat) ∨ (0 < i ∧ x.toNat = 0)) from by omega)
              obtain ⟨U, hU⟩ : ∃ U, U = u + x.toNat % 128 * 2 ^ (7 * i) := ⟨_, rfl⟩
              have HUU := Lib.hid hU
              have eU := (or_part (i := i) (by omega) HU.out (by have := x.toNat_lt; omega) (fun h => by first | omega | (rw [h] at hi0; omega))).trans (congrArg (fun n : Nat => (n : Int)) hU.symm)
              have hU0 : 0 ≤ (U : Int) := by omega
              clear hU
              by_cases h128 : x.toNat < 128
              · have kd : decide ((x.toNat : Int) < 128) = true := decide_eq_true (by omega)
                have HG2 := Lib.hid (show getN i u (b.drop i) = .ok (U, b.drop (i + 1)) from by rw [HX.out, getN, if_neg HB.out, if_pos h128, HUU.out])
                have HU64 := Lib.hid (show U < 2 ^ 64 from part_lt HUU.out (by omega) HU.out h128 (fun h => by have := HB.out; omega))
                have e : dec .num (.ok b) = (unz U, .ok (b.drop (i + 1))) := by
                  show dnum (.ok b) = _
                  unfold dnum
                  simp only
                  rw [HGET.out, HG2.out]
                have HE := Lib.hid e
                obtain ⟨sa, sn, sc, hr1, hr2, hcd, hcl⟩ := cutr_l (a := some ⟨g, off, none⟩) (n := n) (c := cp) (K := i + 1) (z1 := (i : Int) + 1) (by omega) (by omega) (by have := HCAP.out; have := HN.out; omega)
                have HRD := Lib.hid (show Rdr (w.setCell ⟨rb, 0, none⟩ (.slice sa sn sc)) rb (.ok (b.drop (i + 1))) ∧ Chg (fun b => b = rb) w (w.setCell ⟨rb, 0, none⟩ (.slice sa sn sc)) from H.out.store c0 c1 (hcd _ _ HD.out) (hcl _ HLOW.out) (by have := H.out.max b rfl; rw [List.length_drop]; omega))
                clear hcd hcl e
                by_cases hodd : U % 2 = 1
                · have ko : (bits .and .u64 (U : Int) 1 == 1) = true := by rw [and_one]; exact beq_iff_eq.2 (by omega)
                  have ex : wrap64 (bits .xor .u64 IntKind.u64.max ((U : Int) / 2)) = unz U := xor_half HU64.out hodd
                  go_wp2
                  go_ret
                  exact ⟨[.int .i64 (unz U)], by first | rfl | simp [goV, ex], by rw [HE.out]; exact ⟨rfl, unz_wf HU64.out⟩, by rw [HE.out]; exact HRD.out.1, HRD.out.2⟩
                · have ko : (bits .and .u64 (U : Int) 1 == 1) = false := by rw [and_one]; exact beq_eq_false_iff_ne.2 (by omega)
                  have ex : wrap64 ((U : Int) / 2) = unz U := half_even HU64.out hodd
                  go_wp2
                  go_ret
                  exact ⟨[.int .i64 (unz U)], by first | rfl | simp [goV, ex], by rw [HE.out]; exact ⟨rfl, unz_wf HU64.out⟩, by rw [HE.out]; exact HRD.out.1, HRD.out.2⟩
              · have kd : decide ((x.toNat : Int) < 128) = false := decide_eq_false (by omega)
                have HG2 := Lib.hid (show getN i u (b.drop i) = getN (i + 1) U (b.drop (i + 1)) from by rw [HX.out, getN, if_neg HB.out, if_neg h128, HUU.out])
                have HUN := Lib.hid (show U < 2 ^ (7 * (i + 1)) from part_next HUU.out HU.out)
                go_wp2
                go_roundg (gk - 1)
                case rel => exact ⟨i + 1, U, by omega, by have := HGK.out; omega, by go_num, by go_num, HUN.out, HGET.out.trans HG2.out, rfl⟩
                case measure => have := HGK.out; omega
          · have ki : decide ((0 : Int) < (i : Int)) = false := decide_eq_false (by omega)
            have HB := Lib.hid (show ¬ ((i = 9 ∧ 1 < x.toNat) ∨ (0 < i ∧ x.toNat = 0)) from by omega)
            obtain ⟨U, hU⟩ : ∃ U, U = u + x.toNat % 128 * 2 ^ (7 * i) := ⟨_, rfl⟩
            have HUU := Lib.hid hU
            have eU := (or_part (i := i) (by omega) HU.out (by have := x.toNat_lt; omega) (fun h => by first | omega | (rw [h] at hi0; omega))).trans (congrArg (fun n : Nat => (n : Int)) hU.symm)
            have hU0 : 0 ≤ (U : Int) := by omega
            clear hU
            by_cases h128 : x.toNat < 128
            · have kd : decide ((x.toNat : Int) < 128) = true := decide_eq_true (by omega)
              have HG2 := Lib.hid (show getN i u (b.drop i) = .ok (U, b.drop (i + 1)) from by rw [HX.out, getN, if_neg HB.out, if_pos h128, HUU.out])
              have HU64 := Lib.hid (show U < 2 ^ 64 from part_lt HUU.out (by omega) HU.out h128 (fun h => by have := HB.out; omega))
              have e : dec .num (.ok b) = (unz U, .ok (b.drop (i + 1))) := by
                show dnum (.ok b) = _
                unfold dnum
                simp only
                rw [HGET.out, HG2.out]
              have HE := Lib.hid e
              obtain ⟨sa, sn, sc, hr1, hr2, hcd, hcl⟩ := cutr_l (a := some ⟨g, off, none⟩) (n := n) (c := cp) (K := i + 1) (z1 := (i : Int) + 1) (by omega) (by omega) (by have := HCAP.out; have := HN.out; omega)
              have HRD := Lib.hid (show Rdr (w.setCell ⟨rb, 0, none⟩ (.slice sa sn sc)) rb (.ok (b.drop (i + 1))) ∧ Chg (fun b => b = rb) w (w.setCell ⟨rb, 0, none⟩ (.slice sa sn sc)) from H.out.store c0 c1 (hcd _ _ HD.out) (hcl _ HLOW.out) (by have := H.out.max b rfl; rw [List.length_drop]; omega))
              clear hcd hcl e
              by_cases hodd : U % 2 = 1
              · have ko : (bits .and .u64 (U : Int) 1 == 1) = true := by rw [and_one]; exact beq_iff_eq.2 (by omega)
                have ex : wrap64 (bits .xor .u64 IntKind.u64.max ((U : Int) / 2)) = unz U := xor_half HU64.out hodd
                go_wp2
                go_ret
                exact ⟨[.int .i64 (unz U)], by first | rfl | simp [goV, ex], by rw [HE.out]; exact ⟨rfl, unz_wf HU64.out⟩, by rw [HE.out]; exact HRD.out.1, HRD.out.2⟩
              · have ko : (bits .and .u64 (U : Int) 1 == 1) = false := by rw [and_one]; exact beq_eq_false_iff_ne.2 (by omega)
                have ex : wrap64 ((U : Int) / 2) = unz U := half_even HU64.out hodd
                go_wp2
                go_ret
                exact ⟨[.int .i64 (unz U)], by first | rfl | simp [goV, ex], by rw [HE.out]; exact ⟨rfl, unz_wf HU64.out⟩, by rw [HE.out]; exact HRD.out.1, HRD.out.2⟩
            · have kd : decide ((x.toNat : Int) < 128) = false := decide_eq_false (by omega)
              have HG2 := Lib.hid (show getN i u (b.drop i) = getN (i + 1) U (b.drop (i + 1)) from by rw [HX.out, getN, if_neg HB.out, if_neg h128, HUU.out])
              have HUN := Lib.hid (show U < 2 ^ (7 * (i + 1)) from part_next HUU.out HU.out)
              go_wp2
              go_roundg (gk - 1)
              case rel => exact ⟨i + 1, U, by omega, by have := HGK.out; omega, by go_num, by go_num, HUN.out, HGET.out.trans HG2.out, rfl⟩
              case measure => have := HGK.out; omega
end Go.Proofs.YtfppjpmflpaffaaGreat
