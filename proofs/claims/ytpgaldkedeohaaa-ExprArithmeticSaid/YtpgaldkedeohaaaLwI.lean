/-
  The walk of ExprArithmetic.
-/
import Derived.Test.YtpgaldkedeohaaaLwH
namespace Go.Proofs.Ytpgaldkedeohaaa
open Go.RowKit
set_option linter.unusedVariables false

def vx (x : Int) : Vl := ⟨1, x, ⟨#[]⟩⟩

theorem sgn_iff (a b : Int) : (Xp.sgn a b < 0 ↔ a < b) ∧ (Xp.sgn a b = 0 ↔ a = b) := by
  unfold Xp.sgn
  split
  · constructor <;> constructor <;> intro h <;> omega
  · split
    · constructor <;> constructor <;> intro h <;> omega
    · constructor <;> constructor <;> intro h <;> omega

theorem vcmp_vx (x y : Int) : Xp.vcmp (vx x) (vx y) = Xp.sgn x y := by
  unfold Xp.vcmp vx
  have h1 : Xp.sgn 1 1 = 0 := by decide
  simp only
  rw [if_neg (by rw [h1]; decide)]
  by_cases h : Xp.sgn x y = 0
  · rw [if_neg (by rw [h]; decide), h]
    unfold Xp.scmp
    rw [if_pos rfl]
  · rw [if_pos h]

def seven' : List Ex := Xp.seven

theorem seven_evX (x y : Int) : evX Xp.seven 2 [vx x, vx y] = Xp.arith 3 (vx x) (vx y) ∧ evX Xp.seven 3 [vx x, vx y] = Xp.arith 4 (Xp.arith 3 (vx x) (vx y)) (vx y) ∧ evX Xp.seven 4 [vx x, vx y] = Xp.arith 5 (vx x) (vx y) ∧
    evX Xp.seven 5 [vx x, vx y] = Xp.bool (decide (x < y)) ∧ evX Xp.seven 6 [vx x, vx y] = Xp.bool (decide (x = y)) := by
  obtain ⟨e2, e3, e4, e5, e6⟩ := Xp.seven_ev (vx x) (vx y)
  have f : ∀ (i : Nat), i < 7 → evX Xp.seven (i : Int) [vx x, vx y] = Xp.ev Xp.seven [vx x, vx y] i := by
    intro i hi
    unfold evX
    rw [if_neg (by rw [show Xp.seven.length = 7 from rfl]; omega), Int.toNat_natCast]
  refine ⟨(f 2 (by decide)).trans e2, (f 3 (by decide)).trans e3, (f 4 (by decide)).trans e4, (f 5 (by decide)).trans (e5.trans ?_), (f 6 (by decide)).trans (e6.trans ?_)⟩
  · rw [vcmp_vx]
    congr 1
    rw [Bool.eq_iff_iff]
    simp [vx, (sgn_iff x y).1]
  · rw [vcmp_vx]
    congr 1
    rw [Bool.eq_iff_iff]
    simp [vx, (sgn_iff x y).2]

/-- The sum and the way back, case by case. -/
theorem ov_cases (x y : Int) (hx : -9223372036854775808 ≤ x ∧ x ≤ 9223372036854775807) (hy : -9223372036854775808 ≤ y ∧ y ≤ 9223372036854775807) :
    (0 < y ∧ 9223372036854775807 - y < x ∧ evX Xp.seven 2 [vx x, vx y] = ⟨0, 0, ⟨#[]⟩⟩ ∧ evX Xp.seven 3 [vx x, vx y] = ⟨0, 0, ⟨#[]⟩⟩) ∨
    (0 < y ∧ x ≤ 9223372036854775807 - y ∧ evX Xp.seven 2 [vx x, vx y] = ⟨1, x + y, ⟨#[]⟩⟩ ∧ evX Xp.seven 3 [vx x, vx y] = ⟨1, x, ⟨#[]⟩⟩) ∨
    (y < 0 ∧ x < -9223372036854775808 - y ∧ evX Xp.seven 2 [vx x, vx y] = ⟨0, 0, ⟨#[]⟩⟩ ∧ evX Xp.seven 3 [vx x, vx y] = ⟨0, 0, ⟨#[]⟩⟩) ∨
    (y < 0 ∧ -9223372036854775808 - y ≤ x ∧ evX Xp.seven 2 [vx x, vx y] = ⟨1, x + y, ⟨#[]⟩⟩ ∧ evX Xp.seven 3 [vx x, vx y] = ⟨1, x, ⟨#[]⟩⟩) ∨
    (y = 0 ∧ 0 = 0 ∧ evX Xp.seven 2 [vx x, vx y] = ⟨1, x, ⟨#[]⟩⟩ ∧ evX Xp.seven 3 [vx x, vx y] = ⟨1, x, ⟨#[]⟩⟩) := by
  obtain ⟨e2, e3, _⟩ := seven_evX x y
  rw [e2, e3]
  have yes : -9223372036854775808 ≤ x + y ∧ x + y ≤ 9223372036854775807 → Xp.arith 3 (vx x) (vx y) = ⟨1, x + y, ⟨#[]⟩⟩ ∧ Xp.arith 4 (Xp.arith 3 (vx x) (vx y)) (vx y) = ⟨1, x, ⟨#[]⟩⟩ := by
    intro h
    have h1 : Xp.arith 3 (vx x) (vx y) = ⟨1, x + y, ⟨#[]⟩⟩ := by
      unfold Xp.arith vx
      simp only [and_self, if_true]
      rw [if_pos (by unfold Xp.i64; simp; omega)]
    refine ⟨h1, ?_⟩
    rw [h1]
    unfold Xp.arith vx
    simp only [and_self, if_true]
    rw [if_neg (by decide), if_pos (by unfold Xp.i64; simp; omega)]
    congr 1; omega
  have no : ¬ (-9223372036854775808 ≤ x + y ∧ x + y ≤ 9223372036854775807) → Xp.arith 3 (vx x) (vx y) = ⟨0, 0, ⟨#[]⟩⟩ ∧ Xp.arith 4 (Xp.arith 3 (vx x) (vx y)) (vx y) = ⟨0, 0, ⟨#[]⟩⟩ := by
    intro h
    have h1 : Xp.arith 3 (vx x) (vx y) = ⟨0, 0, ⟨#[]⟩⟩ := by
      unfold Xp.arith vx
      simp only [and_self, if_true]
      rw [if_neg (by unfold Xp.i64; simp; omega)]
      rfl
    refine ⟨h1, ?_⟩
    rw [h1]; rfl
  by_cases h1 : 0 < y
  · by_cases h2 : 9223372036854775807 - y < x
    · exact .inl ⟨h1, h2, no (by omega)⟩
    · exact .inr (.inl ⟨h1, by omega, yes (by omega)⟩)
  · by_cases h2 : y < 0
    · by_cases h3 : x < -9223372036854775808 - y
      · exact .inr (.inr (.inl ⟨h2, h3, no (by omega)⟩))
      · exact .inr (.inr (.inr (.inl ⟨h2, by omega, yes (by omega)⟩)))
    · have h3 := yes (by omega)
      rw [show x + y = x by omega] at h3
      exact .inr (.inr (.inr (.inr ⟨by omega, rfl, h3⟩)))

theorem mul_small {x y : Int} (h1 : -2147483648 ≤ x) (h2 : x < 2147483648) (h3 : -2147483648 ≤ y) (h4 : y < 2147483648) : -9223372036854775808 ≤ x * y ∧ x * y ≤ 9223372036854775807 := by
  have a : (x * y).natAbs = x.natAbs * y.natAbs := Int.natAbs_mul x y
  have b : x.natAbs * y.natAbs ≤ 2147483648 * 2147483648 := Nat.mul_le_mul (by omega) (by omega)
  omega

/-- A row's cells. -/
theorem rowAt_cells {w : World} {v : Value} {row : List Vl} (h : RowAt w w.heap.size v row) {i : Nat} {x : Vl} (hi : row[i]? = some x) : ∃ b off c, v = .slice (some ⟨b, off, none⟩) row.length c ∧ b < w.heap.size ∧ VlAt w b (off + i * 3) x := by
  obtain ⟨a, n, c, rfl, rfl, _, _, h4⟩ := h.view
  rcases h4 with h4 | ⟨b, off, rfl, _, hb, h⟩
  · have := (List.getElem?_eq_some_iff.1 hi).1; omega
  · exact ⟨b, off, c, rfl, hb, (h i x hi).1⟩

theorem small_cases (x y : Int) :
    (-2147483648 ≤ x ∧ x < 2147483648 ∧ -2147483648 ≤ y ∧ y < 2147483648 ∧ ∃ p, x * y = p ∧ evX Xp.seven 4 [vx x, vx y] = ⟨1, p, ⟨#[]⟩⟩ ∧ IntKind.i64.wrap (x * y) = p) ∨
    (x < -2147483648 ∧ 0 = 0 ∧ 0 = 0 ∧ 0 = 0 ∧ 0 = 0) ∨ (-2147483648 ≤ x ∧ 2147483648 ≤ x ∧ 0 = 0 ∧ 0 = 0 ∧ 0 = 0) ∨ (-2147483648 ≤ x ∧ x < 2147483648 ∧ y < -2147483648 ∧ 0 = 0 ∧ 0 = 0) ∨ (-2147483648 ≤ x ∧ x < 2147483648 ∧ -2147483648 ≤ y ∧ 2147483648 ≤ y ∧ 0 = 0) := by
  by_cases h1 : -2147483648 ≤ x
  case neg => exact .inr (.inl ⟨by omega, rfl, rfl, rfl, rfl⟩)
  by_cases h2 : x < 2147483648
  case neg => exact .inr (.inr (.inl ⟨h1, by omega, rfl, rfl, rfl⟩))
  by_cases h3 : -2147483648 ≤ y
  case neg => exact .inr (.inr (.inr (.inl ⟨h1, h2, by omega, rfl, rfl⟩)))
  by_cases h4 : y < 2147483648
  case neg => exact .inr (.inr (.inr (.inr ⟨h1, h2, h3, by omega, rfl⟩)))
  left
  refine ⟨h1, h2, h3, h4, _, rfl, ?_, ?_⟩
  · rw [(seven_evX x y).2.2.1]
    unfold Xp.arith vx
    have hm := mul_small h1 h2 h3 h4
    simp only [and_self, if_true]
    rw [if_neg (by decide), if_neg (by decide), if_pos (by unfold Xp.i64; simp; omega)]
  · exact IntWalk.i64_in _ (mul_small h1 h2 h3 h4)

theorem seven_wf : ∀ x ∈ Xp.seven, x.c.wf := by
  intro x hx
  simp only [Xp.seven, List.mem_cons, List.not_mem_nil, or_false] at hx
  rcases hx with rfl | rfl | rfl | rfl | rfl | rfl | rfl <;> exact (show Xp.zero.wf from ⟨by decide, by decide⟩)

/-- Two values in a block of their own. -/
theorem row_two {w : World} {g : Nat} {x y : Int} (hg : g < w.heap.size) (h0 : w.cell? ⟨g, 0, none⟩ = some (.int .i64 1)) (h1 : w.cell? ⟨g, 1, none⟩ = some (.int .i64 x)) (h2 : w.cell? ⟨g, 2, none⟩ = some (.string ⟨#[]⟩)) (h3 : w.cell? ⟨g, 3, none⟩ = some (.int .i64 1)) (h4 : w.cell? ⟨g, 4, none⟩ = some (.int .i64 y)) (h5 : w.cell? ⟨g, 5, none⟩ = some (.string ⟨#[]⟩))
    (hx : Vok (vx x)) (hy : Vok (vx y)) : RowAt w w.heap.size (.slice (some ⟨g, 0, none⟩) 2 2) [vx x, vx y] := by
  refine ⟨_, 2, 2, rfl, rfl, Nat.le_refl _, by decide, .inr ⟨g, 0, rfl, hg, hg, fun i z hi => ?_⟩⟩
  have hi2 : i < 2 := (List.getElem?_eq_some_iff.1 hi).1
  rcases (show i = 0 ∨ i = 1 by omega) with rfl | rfl
  all_goals
    obtain rfl := Option.some.inj hi
    refine ⟨_, fun j u hu => ?_, vok_rd (by assumption)⟩
    have hj : j < 3 := by have := (List.getElem?_eq_some_iff.1 hu).1; rwa [encV.len] at this
    rcases (show j = 0 ∨ j = 1 ∨ j = 2 by omega) with rfl | rfl | rfl
    all_goals (obtain rfl := Option.some.inj hu; assumption)

set_option maxRecDepth 100000 in
set_option maxHeartbeats 100000000 in
theorem arith_walk (x y : Int) (w : World) (hx : -9223372036854775808 ≤ x ∧ x ≤ 9223372036854775807) (hy : -9223372036854775808 ≤ y ∧ y ≤ 9223372036854775807) :
    Calls Try.prog 9 #[.int .i64 x, .int .i64 y] w (Holds w) := by
  have hB0 : Below w.heap.size w w := Below.refl _ _
  have HVX := Lib.hid (vok_int hx.1 hx.2)
  have HVY := Lib.hid (vok_int hy.1 hy.2)
  have HLT := Lib.hid (seven_evX x y).2.2.2.1
  have HEQ := Lib.hid (seven_evX x y).2.2.2.2
  obtain ⟨pk, pn, ps, hp⟩ : ∃ a b c, evX Xp.seven 4 [vx x, vx y] = ⟨a, b, c⟩ := ⟨_, _, _, rfl⟩
  have HP := Lib.hid hp
  have hsc := small_cases x y
  have hoc := ov_cases x y hx hy
  rw [hp] at hsc
  obtain ⟨hx1, hx2⟩ := hx
  obtain ⟨hy1, hy2⟩ := hy
  clear hp
  have HOC := Lib.hid hoc
  clear hoc
  obtain ⟨lv, hlv, hlv2⟩ : ∃ lv, evX Xp.seven 5 [vx x, vx y] = ⟨3, lv, ⟨#[]⟩⟩ ∧ (lv == 1) = decide (x < y) := ⟨_, HLT.out, by by_cases h : x < y <;> simp [h]⟩
  obtain ⟨ev, hev, hev2⟩ : ∃ ev, evX Xp.seven 6 [vx x, vx y] = ⟨3, ev, ⟨#[]⟩⟩ ∧ (ev == 1) = (x == y) := ⟨_, HEQ.out, by by_cases h : x = y <;> simp [h]⟩
  have HLV := Lib.hid hlv
  have HLV2 := Lib.hid hlv2
  have HEV := Lib.hid hev
  have HEV2 := Lib.hid hev2
  clear hlv hlv2 hev hev2 HLT HEQ
  rcases hsc with ⟨a1, a2, a3, a4, p, a5, a6, a7⟩ | ⟨a1, _⟩ | ⟨a1, a2, _⟩ | ⟨a1, a2, a3, _⟩ | ⟨a1, a2, a3, a4, _⟩
  · obtain ⟨rfl, rfl, rfl⟩ : pk = 1 ∧ pn = p ∧ ps = ⟨#[]⟩ := by simpa using a6
    clear a5 a6
    rcases HOC.out with ⟨b1, b2, hs, hbk⟩ | ⟨b1, b2, hs, hbk⟩ | ⟨b1, b2, hs, hbk⟩ | ⟨b1, b2, hs, hbk⟩ | ⟨b1, b2, hs, hbk⟩
    · exfalso; omega
    · have HS := Lib.hid hs
      have HBK := Lib.hid hbk
      clear hs hbk HOC
      have hd : decide (9223372036854775807 - y < x) = false := by simp; omega
      go_enter Try.func9, Try.ntmps9
      go_wp2_with fail
      have HL0 := Lib.hid (ExsV.keep (w := w.alloc (.cells (encE.all Xp.seven).toArray 44)) (exs_new (L := Xp.seven) (g := w.heap.size) (n := 7) (c := 7) (heap_new _ _) rfl (Nat.le_refl _) (fun j _ => by simp) seven_wf) (below_alloc (Below.refl _ _) (.cells #[.int .i64 1, .int .i64 x, .string ⟨#[]⟩, .int .i64 1, .int .i64 y, .string ⟨#[]⟩] 34)))
      have HR0 := Lib.hid (row_two (w := ((w.alloc (.cells (encE.all Xp.seven).toArray 44)).alloc (.cells #[.int .i64 1, .int .i64 x, .string ⟨#[]⟩, .int .i64 1, .int .i64 y, .string ⟨#[]⟩] 34))) (g := w.heap.size + 1) (x := x) (y := y) (by simp) (by go_simp) (by go_simp) (by go_simp) (by go_simp) (by go_simp) (by go_simp) HVX.out HVY.out)
      have hB2 : Below w.heap.size w ((w.alloc (.cells (encE.all Xp.seven).toArray 44)).alloc (.cells #[.int .i64 1, .int .i64 x, .string ⟨#[]⟩, .int .i64 1, .int .i64 y, .string ⟨#[]⟩] 34)) := below_alloc (below_alloc hB0 _) _
      refine (eval_any HL0.out (by decide) HR0.out HS.out).mono ?_
      rintro e1 w3 ⟨rfl, hb3⟩
      have hB3 := below_chain hB2 hb3
      have HL3 := Lib.hid (HL0.out.keep hb3)
      have HR3 := Lib.hid (HR0.out.on hb3)
      clear hb3 hB2 HL0 HR0
      go_wp2_with fail
      refine (eval_any HL3.out (by decide) HR3.out HBK.out).mono ?_
      rintro e1 w4 ⟨rfl, hb4⟩
      have hB4 := below_chain hB3 hb4
      have HL4 := Lib.hid (HL3.out.keep hb4)
      have HR4 := Lib.hid (HR3.out.on hb4)
      clear hb4 hB3 HL3 HR3
      go_wp2_with fail
      refine (eval_any HL4.out (by decide) HR4.out HP.out).mono ?_
      rintro e1 w5 ⟨rfl, hb5⟩
      have hB5 := below_chain hB4 hb5
      have HL5 := Lib.hid (HL4.out.keep hb5)
      have HR5 := Lib.hid (HR4.out.on hb5)
      obtain ⟨rb, ro, rc, hre, hrl, q0, q1, q2⟩ := rowAt_cells HR5.out (i := 0) (x := vx x) rfl
      obtain ⟨⟨rfl, rfl⟩, hrc⟩ : (w.heap.size + 1 = rb ∧ 0 = ro) ∧ 2 = rc := by simpa using hre
      have r0 : w5.cell? ⟨w.heap.size + 1, 0, none⟩ = some (.int .i64 1) := q0
      have r1 : w5.cell? ⟨w.heap.size + 1, 1, none⟩ = some (.int .i64 x) := q1
      have r2 : w5.cell? ⟨w.heap.size + 1, 2, none⟩ = some (.string ⟨#[]⟩) := q2
      clear q0 q1 q2
      have hrl1 : w.heap.size + 1 < w5.heap.size + 1 := by omega
      have hrl2 : w.heap.size + 1 < w5.heap.size + 1 + 1 := by omega
      clear hb5 hB4 HL4 HR4 hre hrc
      go_wp2_with fail
      go_quiet (fail)
      clear r0 r1 r2
      go_wp2_with fail
      have hb6 := below_drewN (below_alloc (below_alloc (below_alloc (Below.refl w5.heap.size w5) (.cells #[.int .i64 1, .int .i64 (x + y), .string ⟨#[]⟩] 34)) (.cells #[.int .i64 1, .int .i64 x, .string ⟨#[]⟩] 34)) (.cells #[.int .i64 1, .int .i64 pn, .string ⟨#[]⟩] 34)) nq
      have HL6 := Lib.hid (HL5.out.keep hb6)
      have HR6 := Lib.hid (HR5.out.on hb6)
      have hB6 := below_chain hB5 hb6
      clear hb6 hB5 HL5 HR5
      refine (eval_any HL6.out (by decide) HR6.out HLV.out).mono ?_
      rintro e1 w7 ⟨rfl, hb7⟩
      have hB7 := below_chain hB6 hb7
      have HL7 := Lib.hid (HL6.out.keep hb7)
      have HR7 := Lib.hid (HR6.out.on hb7)
      clear hb7 hB6 HL6 HR6
      go_wp2_with fail
      refine (eval_any HL7.out (by decide) HR7.out HEV.out).mono ?_
      rintro e1 w8 ⟨rfl, hb8⟩
      have hB8 := below_chain hB7 hb8
      clear hb8 hB7 HL7 HR7
      go_wp2_with fail
      refine (awake_call _).mono ?_
      rintro e1 w9 ⟨rfl, hb9⟩
      have hz9 := hb9.size
      simp only [World.size_alloc] at hz9
      have l0 : w9.cell? ⟨w8.heap.size, 0, none⟩ = some (.int .i64 3) := (hb9.cell (p := ⟨w8.heap.size, 0, none⟩) (by simp; omega)).trans (by go_simp)
      have l1 : w9.cell? ⟨w8.heap.size, 1, none⟩ = some (.int .i64 lv) := (hb9.cell (p := ⟨w8.heap.size, 1, none⟩) (by simp; omega)).trans (by go_simp)
      have m0 : w9.cell? ⟨w8.heap.size + 1, 0, none⟩ = some (.int .i64 3) := (hb9.cell (p := ⟨w8.heap.size + 1, 0, none⟩) (by simp)).trans (by go_simp)
      have m1 : w9.cell? ⟨w8.heap.size + 1, 1, none⟩ = some (.int .i64 ev) := (hb9.cell (p := ⟨w8.heap.size + 1, 1, none⟩) (by simp)).trans (by go_simp)
      have hB9 : Below w.heap.size w w9 := below_chain (below_alloc (below_alloc hB8 _) _) hb9
      have hlt := HLV2.out
      have heq := HEV2.out
      clear hb9 hB8 hz9
      go_wp2
      go_ret
      exact ⟨rfl, hB9⟩
    · exfalso; omega
    · have HS := Lib.hid hs
      have HBK := Lib.hid hbk
      clear hs hbk HOC
      have hd : decide (x < -9223372036854775808 - y) = false := by simp; omega
      go_enter Try.func9, Try.ntmps9
      go_wp2_with fail
      have HL0 := Lib.hid (ExsV.keep (w := w.alloc (.cells (encE.all Xp.seven).toArray 44)) (exs_new (L := Xp.seven) (g := w.heap.size) (n := 7) (c := 7) (heap_new _ _) rfl (Nat.le_refl _) (fun j _ => by simp) seven_wf) (below_alloc (Below.refl _ _) (.cells #[.int .i64 1, .int .i64 x, .string ⟨#[]⟩, .int .i64 1, .int .i64 y, .string ⟨#[]⟩] 34)))
      have HR0 := Lib.hid (row_two (w := ((w.alloc (.cells (encE.all Xp.seven).toArray 44)).alloc (.cells #[.int .i64 1, .int .i64 x, .string ⟨#[]⟩, .int .i64 1, .int .i64 y, .string ⟨#[]⟩] 34))) (g := w.heap.size + 1) (x := x) (y := y) (by simp) (by go_simp) (by go_simp) (by go_simp) (by go_simp) (by go_simp) (by go_simp) HVX.out HVY.out)
      have hB2 : Below w.heap.size w ((w.alloc (.cells (encE.all Xp.seven).toArray 44)).alloc (.cells #[.int .i64 1, .int .i64 x, .string ⟨#[]⟩, .int .i64 1, .int .i64 y, .string ⟨#[]⟩] 34)) := below_alloc (below_alloc hB0 _) _
      refine (eval_any HL0.out (by decide) HR0.out HS.out).mono ?_
      rintro e1 w3 ⟨rfl, hb3⟩
      have hB3 := below_chain hB2 hb3
      have HL3 := Lib.hid (HL0.out.keep hb3)
      have HR3 := Lib.hid (HR0.out.on hb3)
      clear hb3 hB2 HL0 HR0
      go_wp2_with fail
      refine (eval_any HL3.out (by decide) HR3.out HBK.out).mono ?_
      rintro e1 w4 ⟨rfl, hb4⟩
      have hB4 := below_chain hB3 hb4
      have HL4 := Lib.hid (HL3.out.keep hb4)
      have HR4 := Lib.hid (HR3.out.on hb4)
      clear hb4 hB3 HL3 HR3
      go_wp2_with fail
      refine (eval_any HL4.out (by decide) HR4.out HP.out).mono ?_
      rintro e1 w5 ⟨rfl, hb5⟩
      have hB5 := below_chain hB4 hb5
      have HL5 := Lib.hid (HL4.out.keep hb5)
      have HR5 := Lib.hid (HR4.out.on hb5)
      obtain ⟨rb, ro, rc, hre, hrl, q0, q1, q2⟩ := rowAt_cells HR5.out (i := 0) (x := vx x) rfl
      obtain ⟨⟨rfl, rfl⟩, hrc⟩ : (w.heap.size + 1 = rb ∧ 0 = ro) ∧ 2 = rc := by simpa using hre
      have r0 : w5.cell? ⟨w.heap.size + 1, 0, none⟩ = some (.int .i64 1) := q0
      have r1 : w5.cell? ⟨w.heap.size + 1, 1, none⟩ = some (.int .i64 x) := q1
      have r2 : w5.cell? ⟨w.heap.size + 1, 2, none⟩ = some (.string ⟨#[]⟩) := q2
      clear q0 q1 q2
      have hrl1 : w.heap.size + 1 < w5.heap.size + 1 := by omega
      have hrl2 : w.heap.size + 1 < w5.heap.size + 1 + 1 := by omega
      clear hb5 hB4 HL4 HR4 hre hrc
      go_wp2_with fail
      go_quiet (fail)
      clear r0 r1 r2
      go_wp2_with fail
      have hb6 := below_drewN (below_alloc (below_alloc (below_alloc (Below.refl w5.heap.size w5) (.cells #[.int .i64 1, .int .i64 (x + y), .string ⟨#[]⟩] 34)) (.cells #[.int .i64 1, .int .i64 x, .string ⟨#[]⟩] 34)) (.cells #[.int .i64 1, .int .i64 pn, .string ⟨#[]⟩] 34)) nq
      have HL6 := Lib.hid (HL5.out.keep hb6)
      have HR6 := Lib.hid (HR5.out.on hb6)
      have hB6 := below_chain hB5 hb6
      clear hb6 hB5 HL5 HR5
      refine (eval_any HL6.out (by decide) HR6.out HLV.out).mono ?_
      rintro e1 w7 ⟨rfl, hb7⟩
      have hB7 := below_chain hB6 hb7
      have HL7 := Lib.hid (HL6.out.keep hb7)
      have HR7 := Lib.hid (HR6.out.on hb7)
      clear hb7 hB6 HL6 HR6
      go_wp2_with fail
      refine (eval_any HL7.out (by decide) HR7.out HEV.out).mono ?_
      rintro e1 w8 ⟨rfl, hb8⟩
      have hB8 := below_chain hB7 hb8
      clear hb8 hB7 HL7 HR7
      go_wp2_with fail
      refine (awake_call _).mono ?_
      rintro e1 w9 ⟨rfl, hb9⟩
      have hz9 := hb9.size
      simp only [World.size_alloc] at hz9
      have l0 : w9.cell? ⟨w8.heap.size, 0, none⟩ = some (.int .i64 3) := (hb9.cell (p := ⟨w8.heap.size, 0, none⟩) (by simp; omega)).trans (by go_simp)
      have l1 : w9.cell? ⟨w8.heap.size, 1, none⟩ = some (.int .i64 lv) := (hb9.cell (p := ⟨w8.heap.size, 1, none⟩) (by simp; omega)).trans (by go_simp)
      have m0 : w9.cell? ⟨w8.heap.size + 1, 0, none⟩ = some (.int .i64 3) := (hb9.cell (p := ⟨w8.heap.size + 1, 0, none⟩) (by simp)).trans (by go_simp)
      have m1 : w9.cell? ⟨w8.heap.size + 1, 1, none⟩ = some (.int .i64 ev) := (hb9.cell (p := ⟨w8.heap.size + 1, 1, none⟩) (by simp)).trans (by go_simp)
      have hB9 : Below w.heap.size w w9 := below_chain (below_alloc (below_alloc hB8 _) _) hb9
      have hlt := HLV2.out
      have heq := HEV2.out
      clear hb9 hB8 hz9
      go_wp2
      go_ret
      exact ⟨rfl, hB9⟩
    · have HS := Lib.hid hs
      have HBK := Lib.hid hbk
      clear hs hbk HOC
      subst b1
      obtain rfl : pn = 0 := by rw [← a7, Int.mul_zero]; rfl
      clear a7
      go_enter Try.func9, Try.ntmps9
      go_wp2_with fail
      have HL0 := Lib.hid (ExsV.keep (w := w.alloc (.cells (encE.all Xp.seven).toArray 44)) (exs_new (L := Xp.seven) (g := w.heap.size) (n := 7) (c := 7) (heap_new _ _) rfl (Nat.le_refl _) (fun j _ => by simp) seven_wf) (below_alloc (Below.refl _ _) (.cells #[.int .i64 1, .int .i64 x, .string ⟨#[]⟩, .int .i64 1, .int .i64 0, .string ⟨#[]⟩] 34)))
      have HR0 := Lib.hid (row_two (w := ((w.alloc (.cells (encE.all Xp.seven).toArray 44)).alloc (.cells #[.int .i64 1, .int .i64 x, .string ⟨#[]⟩, .int .i64 1, .int .i64 0, .string ⟨#[]⟩] 34))) (g := w.heap.size + 1) (x := x) (y := 0) (by simp) (by go_simp) (by go_simp) (by go_simp) (by go_simp) (by go_simp) (by go_simp) HVX.out HVY.out)
      have hB2 : Below w.heap.size w ((w.alloc (.cells (encE.all Xp.seven).toArray 44)).alloc (.cells #[.int .i64 1, .int .i64 x, .string ⟨#[]⟩, .int .i64 1, .int .i64 0, .string ⟨#[]⟩] 34)) := below_alloc (below_alloc hB0 _) _
      refine (eval_any HL0.out (by decide) HR0.out HS.out).mono ?_
      rintro e1 w3 ⟨rfl, hb3⟩
      have hB3 := below_chain hB2 hb3
      have HL3 := Lib.hid (HL0.out.keep hb3)
      have HR3 := Lib.hid (HR0.out.on hb3)
      clear hb3 hB2 HL0 HR0
      go_wp2_with fail
      refine (eval_any HL3.out (by decide) HR3.out HBK.out).mono ?_
      rintro e1 w4 ⟨rfl, hb4⟩
      have hB4 := below_chain hB3 hb4
      have HL4 := Lib.hid (HL3.out.keep hb4)
      have HR4 := Lib.hid (HR3.out.on hb4)
      clear hb4 hB3 HL3 HR3
      go_wp2_with fail
      refine (eval_any HL4.out (by decide) HR4.out HP.out).mono ?_
      rintro e1 w5 ⟨rfl, hb5⟩
      have hB5 := below_chain hB4 hb5
      have HL5 := Lib.hid (HL4.out.keep hb5)
      have HR5 := Lib.hid (HR4.out.on hb5)
      obtain ⟨rb, ro, rc, hre, hrl, q0, q1, q2⟩ := rowAt_cells HR5.out (i := 0) (x := vx x) rfl
      obtain ⟨⟨rfl, rfl⟩, hrc⟩ : (w.heap.size + 1 = rb ∧ 0 = ro) ∧ 2 = rc := by simpa using hre
      have r0 : w5.cell? ⟨w.heap.size + 1, 0, none⟩ = some (.int .i64 1) := q0
      have r1 : w5.cell? ⟨w.heap.size + 1, 1, none⟩ = some (.int .i64 x) := q1
      have r2 : w5.cell? ⟨w.heap.size + 1, 2, none⟩ = some (.string ⟨#[]⟩) := q2
      clear q0 q1 q2
      have hrl1 : w.heap.size + 1 < w5.heap.size + 1 := by omega
      have hrl2 : w.heap.size + 1 < w5.heap.size + 1 + 1 := by omega
      clear hb5 hB4 HL4 HR4 hre hrc
      go_wp2_with fail
      go_quiet (fail)
      clear r0 r1 r2
      go_wp2_with fail
      have hb6 := below_drewN (below_alloc (below_alloc (below_alloc (Below.refl w5.heap.size w5) (.cells #[.int .i64 1, .int .i64 x, .string ⟨#[]⟩] 34)) (.cells #[.int .i64 1, .int .i64 x, .string ⟨#[]⟩] 34)) (.cells #[.int .i64 1, .int .i64 0, .string ⟨#[]⟩] 34)) nq
      have HL6 := Lib.hid (HL5.out.keep hb6)
      have HR6 := Lib.hid (HR5.out.on hb6)
      have hB6 := below_chain hB5 hb6
      clear hb6 hB5 HL5 HR5
      refine (eval_any HL6.out (by decide) HR6.out HLV.out).mono ?_
      rintro e1 w7 ⟨rfl, hb7⟩
      have hB7 := below_chain hB6 hb7
      have HL7 := Lib.hid (HL6.out.keep hb7)
      have HR7 := Lib.hid (HR6.out.on hb7)
      clear hb7 hB6 HL6 HR6
      go_wp2_with fail
      refine (eval_any HL7.out (by decide) HR7.out HEV.out).mono ?_
      rintro e1 w8 ⟨rfl, hb8⟩
      have hB8 := below_chain hB7 hb8
      clear hb8 hB7 HL7 HR7
      go_wp2_with fail
      refine (awake_call _).mono ?_
      rintro e1 w9 ⟨rfl, hb9⟩
      have hz9 := hb9.size
      simp only [World.size_alloc] at hz9
      have l0 : w9.cell? ⟨w8.heap.size, 0, none⟩ = some (.int .i64 3) := (hb9.cell (p := ⟨w8.heap.size, 0, none⟩) (by simp; omega)).trans (by go_simp)
      have l1 : w9.cell? ⟨w8.heap.size, 1, none⟩ = some (.int .i64 lv) := (hb9.cell (p := ⟨w8.heap.size, 1, none⟩) (by simp; omega)).trans (by go_simp)
      have m0 : w9.cell? ⟨w8.heap.size + 1, 0, none⟩ = some (.int .i64 3) := (hb9.cell (p := ⟨w8.heap.size + 1, 0, none⟩) (by simp)).trans (by go_simp)
      have m1 : w9.cell? ⟨w8.heap.size + 1, 1, none⟩ = some (.int .i64 ev) := (hb9.cell (p := ⟨w8.heap.size + 1, 1, none⟩) (by simp)).trans (by go_simp)
      have hB9 : Below w.heap.size w w9 := below_chain (below_alloc (below_alloc hB8 _) _) hb9
      have hlt := HLV2.out
      have heq := HEV2.out
      clear hb9 hB8 hz9
      go_wp2
      go_ret
      exact ⟨rfl, hB9⟩
  · skip
    rcases HOC.out with ⟨b1, b2, hs, hbk⟩ | ⟨b1, b2, hs, hbk⟩ | ⟨b1, b2, hs, hbk⟩ | ⟨b1, b2, hs, hbk⟩ | ⟨b1, b2, hs, hbk⟩
    · exfalso; omega
    · have HS := Lib.hid hs
      have HBK := Lib.hid hbk
      clear hs hbk HOC
      have hd : decide (9223372036854775807 - y < x) = false := by simp; omega
      go_enter Try.func9, Try.ntmps9
      go_wp2_with fail
      have HL0 := Lib.hid (ExsV.keep (w := w.alloc (.cells (encE.all Xp.seven).toArray 44)) (exs_new (L := Xp.seven) (g := w.heap.size) (n := 7) (c := 7) (heap_new _ _) rfl (Nat.le_refl _) (fun j _ => by simp) seven_wf) (below_alloc (Below.refl _ _) (.cells #[.int .i64 1, .int .i64 x, .string ⟨#[]⟩, .int .i64 1, .int .i64 y, .string ⟨#[]⟩] 34)))
      have HR0 := Lib.hid (row_two (w := ((w.alloc (.cells (encE.all Xp.seven).toArray 44)).alloc (.cells #[.int .i64 1, .int .i64 x, .string ⟨#[]⟩, .int .i64 1, .int .i64 y, .string ⟨#[]⟩] 34))) (g := w.heap.size + 1) (x := x) (y := y) (by simp) (by go_simp) (by go_simp) (by go_simp) (by go_simp) (by go_simp) (by go_simp) HVX.out HVY.out)
      have hB2 : Below w.heap.size w ((w.alloc (.cells (encE.all Xp.seven).toArray 44)).alloc (.cells #[.int .i64 1, .int .i64 x, .string ⟨#[]⟩, .int .i64 1, .int .i64 y, .string ⟨#[]⟩] 34)) := below_alloc (below_alloc hB0 _) _
      refine (eval_any HL0.out (by decide) HR0.out HS.out).mono ?_
      rintro e1 w3 ⟨rfl, hb3⟩
      have hB3 := below_chain hB2 hb3
      have HL3 := Lib.hid (HL0.out.keep hb3)
      have HR3 := Lib.hid (HR0.out.on hb3)
      clear hb3 hB2 HL0 HR0
      go_wp2_with fail
      refine (eval_any HL3.out (by decide) HR3.out HBK.out).mono ?_
      rintro e1 w4 ⟨rfl, hb4⟩
      have hB4 := below_chain hB3 hb4
      have HL4 := Lib.hid (HL3.out.keep hb4)
      have HR4 := Lib.hid (HR3.out.on hb4)
      clear hb4 hB3 HL3 HR3
      go_wp2_with fail
      refine (eval_any HL4.out (by decide) HR4.out HP.out).mono ?_
      rintro e1 w5 ⟨rfl, hb5⟩
      have hB5 := below_chain hB4 hb5
      have HL5 := Lib.hid (HL4.out.keep hb5)
      have HR5 := Lib.hid (HR4.out.on hb5)
      obtain ⟨rb, ro, rc, hre, hrl, q0, q1, q2⟩ := rowAt_cells HR5.out (i := 0) (x := vx x) rfl
      obtain ⟨⟨rfl, rfl⟩, hrc⟩ : (w.heap.size + 1 = rb ∧ 0 = ro) ∧ 2 = rc := by simpa using hre
      have r0 : w5.cell? ⟨w.heap.size + 1, 0, none⟩ = some (.int .i64 1) := q0
      have r1 : w5.cell? ⟨w.heap.size + 1, 1, none⟩ = some (.int .i64 x) := q1
      have r2 : w5.cell? ⟨w.heap.size + 1, 2, none⟩ = some (.string ⟨#[]⟩) := q2
      clear q0 q1 q2
      have hrl1 : w.heap.size + 1 < w5.heap.size + 1 := by omega
      have hrl2 : w.heap.size + 1 < w5.heap.size + 1 + 1 := by omega
      clear hb5 hB4 HL4 HR4 hre hrc
      go_wp2_with fail
      go_quiet (fail)
      clear r0 r1 r2
      go_wp2_with fail
      have hb6 := below_drewN (below_alloc (below_alloc (below_alloc (Below.refl w5.heap.size w5) (.cells #[.int .i64 1, .int .i64 (x + y), .string ⟨#[]⟩] 34)) (.cells #[.int .i64 1, .int .i64 x, .string ⟨#[]⟩] 34)) (.cells #[.int .i64 pk, .int .i64 pn, .string ps] 34)) nq
      have HL6 := Lib.hid (HL5.out.keep hb6)
      have HR6 := Lib.hid (HR5.out.on hb6)
      have hB6 := below_chain hB5 hb6
      clear hb6 hB5 HL5 HR5
      refine (eval_any HL6.out (by decide) HR6.out HLV.out).mono ?_
      rintro e1 w7 ⟨rfl, hb7⟩
      have hB7 := below_chain hB6 hb7
      have HL7 := Lib.hid (HL6.out.keep hb7)
      have HR7 := Lib.hid (HR6.out.on hb7)
      clear hb7 hB6 HL6 HR6
      go_wp2_with fail
      refine (eval_any HL7.out (by decide) HR7.out HEV.out).mono ?_
      rintro e1 w8 ⟨rfl, hb8⟩
      have hB8 := below_chain hB7 hb8
      clear hb8 hB7 HL7 HR7
      go_wp2_with fail
      refine (awake_call _).mono ?_
      rintro e1 w9 ⟨rfl, hb9⟩
      have hz9 := hb9.size
      simp only [World.size_alloc] at hz9
      have l0 : w9.cell? ⟨w8.heap.size, 0, none⟩ = some (.int .i64 3) := (hb9.cell (p := ⟨w8.heap.size, 0, none⟩) (by simp; omega)).trans (by go_simp)
      have l1 : w9.cell? ⟨w8.heap.size, 1, none⟩ = some (.int .i64 lv) := (hb9.cell (p := ⟨w8.heap.size, 1, none⟩) (by simp; omega)).trans (by go_simp)
      have m0 : w9.cell? ⟨w8.heap.size + 1, 0, none⟩ = some (.int .i64 3) := (hb9.cell (p := ⟨w8.heap.size + 1, 0, none⟩) (by simp)).trans (by go_simp)
      have m1 : w9.cell? ⟨w8.heap.size + 1, 1, none⟩ = some (.int .i64 ev) := (hb9.cell (p := ⟨w8.heap.size + 1, 1, none⟩) (by simp)).trans (by go_simp)
      have hB9 : Below w.heap.size w w9 := below_chain (below_alloc (below_alloc hB8 _) _) hb9
      have hlt := HLV2.out
      have heq := HEV2.out
      clear hb9 hB8 hz9
      go_wp2
      go_ret
      exact ⟨rfl, hB9⟩
    · have HS := Lib.hid hs
      have HBK := Lib.hid hbk
      clear hs hbk HOC
      go_enter Try.func9, Try.ntmps9
      go_wp2_with fail
      have HL0 := Lib.hid (ExsV.keep (w := w.alloc (.cells (encE.all Xp.seven).toArray 44)) (exs_new (L := Xp.seven) (g := w.heap.size) (n := 7) (c := 7) (heap_new _ _) rfl (Nat.le_refl _) (fun j _ => by simp) seven_wf) (below_alloc (Below.refl _ _) (.cells #[.int .i64 1, .int .i64 x, .string ⟨#[]⟩, .int .i64 1, .int .i64 y, .string ⟨#[]⟩] 34)))
      have HR0 := Lib.hid (row_two (w := ((w.alloc (.cells (encE.all Xp.seven).toArray 44)).alloc (.cells #[.int .i64 1, .int .i64 x, .string ⟨#[]⟩, .int .i64 1, .int .i64 y, .string ⟨#[]⟩] 34))) (g := w.heap.size + 1) (x := x) (y := y) (by simp) (by go_simp) (by go_simp) (by go_simp) (by go_simp) (by go_simp) (by go_simp) HVX.out HVY.out)
      have hB2 : Below w.heap.size w ((w.alloc (.cells (encE.all Xp.seven).toArray 44)).alloc (.cells #[.int .i64 1, .int .i64 x, .string ⟨#[]⟩, .int .i64 1, .int .i64 y, .string ⟨#[]⟩] 34)) := below_alloc (below_alloc hB0 _) _
      refine (eval_any HL0.out (by decide) HR0.out HS.out).mono ?_
      rintro e1 w3 ⟨rfl, hb3⟩
      have hB3 := below_chain hB2 hb3
      have HL3 := Lib.hid (HL0.out.keep hb3)
      have HR3 := Lib.hid (HR0.out.on hb3)
      clear hb3 hB2 HL0 HR0
      go_wp2_with fail
      refine (eval_any HL3.out (by decide) HR3.out HBK.out).mono ?_
      rintro e1 w4 ⟨rfl, hb4⟩
      have hB4 := below_chain hB3 hb4
      have HL4 := Lib.hid (HL3.out.keep hb4)
      have HR4 := Lib.hid (HR3.out.on hb4)
      clear hb4 hB3 HL3 HR3
      go_wp2_with fail
      refine (eval_any HL4.out (by decide) HR4.out HP.out).mono ?_
      rintro e1 w5 ⟨rfl, hb5⟩
      have hB5 := below_chain hB4 hb5
      have HL5 := Lib.hid (HL4.out.keep hb5)
      have HR5 := Lib.hid (HR4.out.on hb5)
      obtain ⟨rb, ro, rc, hre, hrl, q0, q1, q2⟩ := rowAt_cells HR5.out (i := 0) (x := vx x) rfl
      obtain ⟨⟨rfl, rfl⟩, hrc⟩ : (w.heap.size + 1 = rb ∧ 0 = ro) ∧ 2 = rc := by simpa using hre
      have r0 : w5.cell? ⟨w.heap.size + 1, 0, none⟩ = some (.int .i64 1) := q0
      have r1 : w5.cell? ⟨w.heap.size + 1, 1, none⟩ = some (.int .i64 x) := q1
      have r2 : w5.cell? ⟨w.heap.size + 1, 2, none⟩ = some (.string ⟨#[]⟩) := q2
      clear q0 q1 q2
      have hrl1 : w.heap.size + 1 < w5.heap.size + 1 := by omega
      have hrl2 : w.heap.size + 1 < w5.heap.size + 1 + 1 := by omega
      clear hb5 hB4 HL4 HR4 hre hrc
      go_wp2_with fail
      go_quiet (fail)
      clear r0 r1 r2
      go_wp2_with fail
      have hb6 := below_drewN (below_alloc (below_alloc (below_alloc (Below.refl w5.heap.size w5) (.cells #[.int .i64 0, .int .i64 0, .string ⟨#[]⟩] 34)) (.cells #[.int .i64 0, .int .i64 0, .string ⟨#[]⟩] 34)) (.cells #[.int .i64 pk, .int .i64 pn, .string ps] 34)) nq
      have HL6 := Lib.hid (HL5.out.keep hb6)
      have HR6 := Lib.hid (HR5.out.on hb6)
      have hB6 := below_chain hB5 hb6
      clear hb6 hB5 HL5 HR5
      refine (eval_any HL6.out (by decide) HR6.out HLV.out).mono ?_
      rintro e1 w7 ⟨rfl, hb7⟩
      have hB7 := below_chain hB6 hb7
      have HL7 := Lib.hid (HL6.out.keep hb7)
      have HR7 := Lib.hid (HR6.out.on hb7)
      clear hb7 hB6 HL6 HR6
      go_wp2_with fail
      refine (eval_any HL7.out (by decide) HR7.out HEV.out).mono ?_
      rintro e1 w8 ⟨rfl, hb8⟩
      have hB8 := below_chain hB7 hb8
      clear hb8 hB7 HL7 HR7
      go_wp2_with fail
      refine (awake_call _).mono ?_
      rintro e1 w9 ⟨rfl, hb9⟩
      have hz9 := hb9.size
      simp only [World.size_alloc] at hz9
      have l0 : w9.cell? ⟨w8.heap.size, 0, none⟩ = some (.int .i64 3) := (hb9.cell (p := ⟨w8.heap.size, 0, none⟩) (by simp; omega)).trans (by go_simp)
      have l1 : w9.cell? ⟨w8.heap.size, 1, none⟩ = some (.int .i64 lv) := (hb9.cell (p := ⟨w8.heap.size, 1, none⟩) (by simp; omega)).trans (by go_simp)
      have m0 : w9.cell? ⟨w8.heap.size + 1, 0, none⟩ = some (.int .i64 3) := (hb9.cell (p := ⟨w8.heap.size + 1, 0, none⟩) (by simp)).trans (by go_simp)
      have m1 : w9.cell? ⟨w8.heap.size + 1, 1, none⟩ = some (.int .i64 ev) := (hb9.cell (p := ⟨w8.heap.size + 1, 1, none⟩) (by simp)).trans (by go_simp)
      have hB9 : Below w.heap.size w w9 := below_chain (below_alloc (below_alloc hB8 _) _) hb9
      have hlt := HLV2.out
      have heq := HEV2.out
      clear hb9 hB8 hz9
      go_wp2
      go_ret
      exact ⟨rfl, hB9⟩
    · have HS := Lib.hid hs
      have HBK := Lib.hid hbk
      clear hs hbk HOC
      have hd : decide (x < -9223372036854775808 - y) = false := by simp; omega
      go_enter Try.func9, Try.ntmps9
      go_wp2_with fail
      have HL0 := Lib.hid (ExsV.keep (w := w.alloc (.cells (encE.all Xp.seven).toArray 44)) (exs_new (L := Xp.seven) (g := w.heap.size) (n := 7) (c := 7) (heap_new _ _) rfl (Nat.le_refl _) (fun j _ => by simp) seven_wf) (below_alloc (Below.refl _ _) (.cells #[.int .i64 1, .int .i64 x, .string ⟨#[]⟩, .int .i64 1, .int .i64 y, .string ⟨#[]⟩] 34)))
      have HR0 := Lib.hid (row_two (w := ((w.alloc (.cells (encE.all Xp.seven).toArray 44)).alloc (.cells #[.int .i64 1, .int .i64 x, .string ⟨#[]⟩, .int .i64 1, .int .i64 y, .string ⟨#[]⟩] 34))) (g := w.heap.size + 1) (x := x) (y := y) (by simp) (by go_simp) (by go_simp) (by go_simp) (by go_simp) (by go_simp) (by go_simp) HVX.out HVY.out)
      have hB2 : Below w.heap.size w ((w.alloc (.cells (encE.all Xp.seven).toArray 44)).alloc (.cells #[.int .i64 1, .int .i64 x, .string ⟨#[]⟩, .int .i64 1, .int .i64 y, .string ⟨#[]⟩] 34)) := below_alloc (below_alloc hB0 _) _
      refine (eval_any HL0.out (by decide) HR0.out HS.out).mono ?_
      rintro e1 w3 ⟨rfl, hb3⟩
      have hB3 := below_chain hB2 hb3
      have HL3 := Lib.hid (HL0.out.keep hb3)
      have HR3 := Lib.hid (HR0.out.on hb3)
      clear hb3 hB2 HL0 HR0
      go_wp2_with fail
      refine (eval_any HL3.out (by decide) HR3.out HBK.out).mono ?_
      rintro e1 w4 ⟨rfl, hb4⟩
      have hB4 := below_chain hB3 hb4
      have HL4 := Lib.hid (HL3.out.keep hb4)
      have HR4 := Lib.hid (HR3.out.on hb4)
      clear hb4 hB3 HL3 HR3
      go_wp2_with fail
      refine (eval_any HL4.out (by decide) HR4.out HP.out).mono ?_
      rintro e1 w5 ⟨rfl, hb5⟩
      have hB5 := below_chain hB4 hb5
      have HL5 := Lib.hid (HL4.out.keep hb5)
      have HR5 := Lib.hid (HR4.out.on hb5)
      obtain ⟨rb, ro, rc, hre, hrl, q0, q1, q2⟩ := rowAt_cells HR5.out (i := 0) (x := vx x) rfl
      obtain ⟨⟨rfl, rfl⟩, hrc⟩ : (w.heap.size + 1 = rb ∧ 0 = ro) ∧ 2 = rc := by simpa using hre
      have r0 : w5.cell? ⟨w.heap.size + 1, 0, none⟩ = some (.int .i64 1) := q0
      have r1 : w5.cell? ⟨w.heap.size + 1, 1, none⟩ = some (.int .i64 x) := q1
      have r2 : w5.cell? ⟨w.heap.size + 1, 2, none⟩ = some (.string ⟨#[]⟩) := q2
      clear q0 q1 q2
      have hrl1 : w.heap.size + 1 < w5.heap.size + 1 := by omega
      have hrl2 : w.heap.size + 1 < w5.heap.size + 1 + 1 := by omega
      clear hb5 hB4 HL4 HR4 hre hrc
      go_wp2_with fail
      go_quiet (fail)
      clear r0 r1 r2
      go_wp2_with fail
      have hb6 := below_drewN (below_alloc (below_alloc (below_alloc (Below.refl w5.heap.size w5) (.cells #[.int .i64 1, .int .i64 (x + y), .string ⟨#[]⟩] 34)) (.cells #[.int .i64 1, .int .i64 x, .string ⟨#[]⟩] 34)) (.cells #[.int .i64 pk, .int .i64 pn, .string ps] 34)) nq
      have HL6 := Lib.hid (HL5.out.keep hb6)
      have HR6 := Lib.hid (HR5.out.on hb6)
      have hB6 := below_chain hB5 hb6
      clear hb6 hB5 HL5 HR5
      refine (eval_any HL6.out (by decide) HR6.out HLV.out).mono ?_
      rintro e1 w7 ⟨rfl, hb7⟩
      have hB7 := below_chain hB6 hb7
      have HL7 := Lib.hid (HL6.out.keep hb7)
      have HR7 := Lib.hid (HR6.out.on hb7)
      clear hb7 hB6 HL6 HR6
      go_wp2_with fail
      refine (eval_any HL7.out (by decide) HR7.out HEV.out).mono ?_
      rintro e1 w8 ⟨rfl, hb8⟩
      have hB8 := below_chain hB7 hb8
      clear hb8 hB7 HL7 HR7
      go_wp2_with fail
      refine (awake_call _).mono ?_
      rintro e1 w9 ⟨rfl, hb9⟩
      have hz9 := hb9.size
      simp only [World.size_alloc] at hz9
      have l0 : w9.cell? ⟨w8.heap.size, 0, none⟩ = some (.int .i64 3) := (hb9.cell (p := ⟨w8.heap.size, 0, none⟩) (by simp; omega)).trans (by go_simp)
      have l1 : w9.cell? ⟨w8.heap.size, 1, none⟩ = some (.int .i64 lv) := (hb9.cell (p := ⟨w8.heap.size, 1, none⟩) (by simp; omega)).trans (by go_simp)
      have m0 : w9.cell? ⟨w8.heap.size + 1, 0, none⟩ = some (.int .i64 3) := (hb9.cell (p := ⟨w8.heap.size + 1, 0, none⟩) (by simp)).trans (by go_simp)
      have m1 : w9.cell? ⟨w8.heap.size + 1, 1, none⟩ = some (.int .i64 ev) := (hb9.cell (p := ⟨w8.heap.size + 1, 1, none⟩) (by simp)).trans (by go_simp)
      have hB9 : Below w.heap.size w w9 := below_chain (below_alloc (below_alloc hB8 _) _) hb9
      have hlt := HLV2.out
      have heq := HEV2.out
      clear hb9 hB8 hz9
      go_wp2
      go_ret
      exact ⟨rfl, hB9⟩
    · have HS := Lib.hid hs
      have HBK := Lib.hid hbk
      clear hs hbk HOC
      subst b1
      go_enter Try.func9, Try.ntmps9
      go_wp2_with fail
      have HL0 := Lib.hid (ExsV.keep (w := w.alloc (.cells (encE.all Xp.seven).toArray 44)) (exs_new (L := Xp.seven) (g := w.heap.size) (n := 7) (c := 7) (heap_new _ _) rfl (Nat.le_refl _) (fun j _ => by simp) seven_wf) (below_alloc (Below.refl _ _) (.cells #[.int .i64 1, .int .i64 x, .string ⟨#[]⟩, .int .i64 1, .int .i64 0, .string ⟨#[]⟩] 34)))
      have HR0 := Lib.hid (row_two (w := ((w.alloc (.cells (encE.all Xp.seven).toArray 44)).alloc (.cells #[.int .i64 1, .int .i64 x, .string ⟨#[]⟩, .int .i64 1, .int .i64 0, .string ⟨#[]⟩] 34))) (g := w.heap.size + 1) (x := x) (y := 0) (by simp) (by go_simp) (by go_simp) (by go_simp) (by go_simp) (by go_simp) (by go_simp) HVX.out HVY.out)
      have hB2 : Below w.heap.size w ((w.alloc (.cells (encE.all Xp.seven).toArray 44)).alloc (.cells #[.int .i64 1, .int .i64 x, .string ⟨#[]⟩, .int .i64 1, .int .i64 0, .string ⟨#[]⟩] 34)) := below_alloc (below_alloc hB0 _) _
      refine (eval_any HL0.out (by decide) HR0.out HS.out).mono ?_
      rintro e1 w3 ⟨rfl, hb3⟩
      have hB3 := below_chain hB2 hb3
      have HL3 := Lib.hid (HL0.out.keep hb3)
      have HR3 := Lib.hid (HR0.out.on hb3)
      clear hb3 hB2 HL0 HR0
      go_wp2_with fail
      refine (eval_any HL3.out (by decide) HR3.out HBK.out).mono ?_
      rintro e1 w4 ⟨rfl, hb4⟩
      have hB4 := below_chain hB3 hb4
      have HL4 := Lib.hid (HL3.out.keep hb4)
      have HR4 := Lib.hid (HR3.out.on hb4)
      clear hb4 hB3 HL3 HR3
      go_wp2_with fail
      refine (eval_any HL4.out (by decide) HR4.out HP.out).mono ?_
      rintro e1 w5 ⟨rfl, hb5⟩
      have hB5 := below_chain hB4 hb5
      have HL5 := Lib.hid (HL4.out.keep hb5)
      have HR5 := Lib.hid (HR4.out.on hb5)
      obtain ⟨rb, ro, rc, hre, hrl, q0, q1, q2⟩ := rowAt_cells HR5.out (i := 0) (x := vx x) rfl
      obtain ⟨⟨rfl, rfl⟩, hrc⟩ : (w.heap.size + 1 = rb ∧ 0 = ro) ∧ 2 = rc := by simpa using hre
      have r0 : w5.cell? ⟨w.heap.size + 1, 0, none⟩ = some (.int .i64 1) := q0
      have r1 : w5.cell? ⟨w.heap.size + 1, 1, none⟩ = some (.int .i64 x) := q1
      have r2 : w5.cell? ⟨w.heap.size + 1, 2, none⟩ = some (.string ⟨#[]⟩) := q2
      clear q0 q1 q2
      have hrl1 : w.heap.size + 1 < w5.heap.size + 1 := by omega
      have hrl2 : w.heap.size + 1 < w5.heap.size + 1 + 1 := by omega
      clear hb5 hB4 HL4 HR4 hre hrc
      go_wp2_with fail
      go_quiet (fail)
      clear r0 r1 r2
      go_wp2_with fail
      have hb6 := below_drewN (below_alloc (below_alloc (below_alloc (Below.refl w5.heap.size w5) (.cells #[.int .i64 1, .int .i64 x, .string ⟨#[]⟩] 34)) (.cells #[.int .i64 1, .int .i64 x, .string ⟨#[]⟩] 34)) (.cells #[.int .i64 pk, .int .i64 pn, .string ps] 34)) nq
      have HL6 := Lib.hid (HL5.out.keep hb6)
      have HR6 := Lib.hid (HR5.out.on hb6)
      have hB6 := below_chain hB5 hb6
      clear hb6 hB5 HL5 HR5
      refine (eval_any HL6.out (by decide) HR6.out HLV.out).mono ?_
      rintro e1 w7 ⟨rfl, hb7⟩
      have hB7 := below_chain hB6 hb7
      have HL7 := Lib.hid (HL6.out.keep hb7)
      have HR7 := Lib.hid (HR6.out.on hb7)
      clear hb7 hB6 HL6 HR6
      go_wp2_with fail
      refine (eval_any HL7.out (by decide) HR7.out HEV.out).mono ?_
      rintro e1 w8 ⟨rfl, hb8⟩
      have hB8 := below_chain hB7 hb8
      clear hb8 hB7 HL7 HR7
      go_wp2_with fail
      refine (awake_call _).mono ?_
      rintro e1 w9 ⟨rfl, hb9⟩
      have hz9 := hb9.size
      simp only [World.size_alloc] at hz9
      have l0 : w9.cell? ⟨w8.heap.size, 0, none⟩ = some (.int .i64 3) := (hb9.cell (p := ⟨w8.heap.size, 0, none⟩) (by simp; omega)).trans (by go_simp)
      have l1 : w9.cell? ⟨w8.heap.size, 1, none⟩ = some (.int .i64 lv) := (hb9.cell (p := ⟨w8.heap.size, 1, none⟩) (by simp; omega)).trans (by go_simp)
      have m0 : w9.cell? ⟨w8.heap.size + 1, 0, none⟩ = some (.int .i64 3) := (hb9.cell (p := ⟨w8.heap.size + 1, 0, none⟩) (by simp)).trans (by go_simp)
      have m1 : w9.cell? ⟨w8.heap.size + 1, 1, none⟩ = some (.int .i64 ev) := (hb9.cell (p := ⟨w8.heap.size + 1, 1, none⟩) (by simp)).trans (by go_simp)
      have hB9 : Below w.heap.size w w9 := below_chain (below_alloc (below_alloc hB8 _) _) hb9
      have hlt := HLV2.out
      have heq := HEV2.out
      clear hb9 hB8 hz9
      go_wp2
      go_ret
      exact ⟨rfl, hB9⟩
  · skip
    rcases HOC.out with ⟨b1, b2, hs, hbk⟩ | ⟨b1, b2, hs, hbk⟩ | ⟨b1, b2, hs, hbk⟩ | ⟨b1, b2, hs, hbk⟩ | ⟨b1, b2, hs, hbk⟩
    · have HS := Lib.hid hs
      have HBK := Lib.hid hbk
      clear hs hbk HOC
      go_enter Try.func9, Try.ntmps9
      go_wp2_with fail
      have HL0 := Lib.hid (ExsV.keep (w := w.alloc (.cells (encE.all Xp.seven).toArray 44)) (exs_new (L := Xp.seven) (g := w.heap.size) (n := 7) (c := 7) (heap_new _ _) rfl (Nat.le_refl _) (fun j _ => by simp) seven_wf) (below_alloc (Below.refl _ _) (.cells #[.int .i64 1, .int .i64 x, .string ⟨#[]⟩, .int .i64 1, .int .i64 y, .string ⟨#[]⟩] 34)))
      have HR0 := Lib.hid (row_two (w := ((w.alloc (.cells (encE.all Xp.seven).toArray 44)).alloc (.cells #[.int .i64 1, .int .i64 x, .string ⟨#[]⟩, .int .i64 1, .int .i64 y, .string ⟨#[]⟩] 34))) (g := w.heap.size + 1) (x := x) (y := y) (by simp) (by go_simp) (by go_simp) (by go_simp) (by go_simp) (by go_simp) (by go_simp) HVX.out HVY.out)
      have hB2 : Below w.heap.size w ((w.alloc (.cells (encE.all Xp.seven).toArray 44)).alloc (.cells #[.int .i64 1, .int .i64 x, .string ⟨#[]⟩, .int .i64 1, .int .i64 y, .string ⟨#[]⟩] 34)) := below_alloc (below_alloc hB0 _) _
      refine (eval_any HL0.out (by decide) HR0.out HS.out).mono ?_
      rintro e1 w3 ⟨rfl, hb3⟩
      have hB3 := below_chain hB2 hb3
      have HL3 := Lib.hid (HL0.out.keep hb3)
      have HR3 := Lib.hid (HR0.out.on hb3)
      clear hb3 hB2 HL0 HR0
      go_wp2_with fail
      refine (eval_any HL3.out (by decide) HR3.out HBK.out).mono ?_
      rintro e1 w4 ⟨rfl, hb4⟩
      have hB4 := below_chain hB3 hb4
      have HL4 := Lib.hid (HL3.out.keep hb4)
      have HR4 := Lib.hid (HR3.out.on hb4)
      clear hb4 hB3 HL3 HR3
      go_wp2_with fail
      refine (eval_any HL4.out (by decide) HR4.out HP.out).mono ?_
      rintro e1 w5 ⟨rfl, hb5⟩
      have hB5 := below_chain hB4 hb5
      have HL5 := Lib.hid (HL4.out.keep hb5)
      have HR5 := Lib.hid (HR4.out.on hb5)
      obtain ⟨rb, ro, rc, hre, hrl, q0, q1, q2⟩ := rowAt_cells HR5.out (i := 0) (x := vx x) rfl
      obtain ⟨⟨rfl, rfl⟩, hrc⟩ : (w.heap.size + 1 = rb ∧ 0 = ro) ∧ 2 = rc := by simpa using hre
      have r0 : w5.cell? ⟨w.heap.size + 1, 0, none⟩ = some (.int .i64 1) := q0
      have r1 : w5.cell? ⟨w.heap.size + 1, 1, none⟩ = some (.int .i64 x) := q1
      have r2 : w5.cell? ⟨w.heap.size + 1, 2, none⟩ = some (.string ⟨#[]⟩) := q2
      clear q0 q1 q2
      have hrl1 : w.heap.size + 1 < w5.heap.size + 1 := by omega
      have hrl2 : w.heap.size + 1 < w5.heap.size + 1 + 1 := by omega
      clear hb5 hB4 HL4 HR4 hre hrc
      go_wp2_with fail
      go_quiet (fail)
      clear r0 r1 r2
      go_wp2_with fail
      have hb6 := below_drewN (below_alloc (below_alloc (below_alloc (Below.refl w5.heap.size w5) (.cells #[.int .i64 0, .int .i64 0, .string ⟨#[]⟩] 34)) (.cells #[.int .i64 0, .int .i64 0, .string ⟨#[]⟩] 34)) (.cells #[.int .i64 pk, .int .i64 pn, .string ps] 34)) nq
      have HL6 := Lib.hid (HL5.out.keep hb6)
      have HR6 := Lib.hid (HR5.out.on hb6)
      have hB6 := below_chain hB5 hb6
      clear hb6 hB5 HL5 HR5
      refine (eval_any HL6.out (by decide) HR6.out HLV.out).mono ?_
      rintro e1 w7 ⟨rfl, hb7⟩
      have hB7 := below_chain hB6 hb7
      have HL7 := Lib.hid (HL6.out.keep hb7)
      have HR7 := Lib.hid (HR6.out.on hb7)
      clear hb7 hB6 HL6 HR6
      go_wp2_with fail
      refine (eval_any HL7.out (by decide) HR7.out HEV.out).mono ?_
      rintro e1 w8 ⟨rfl, hb8⟩
      have hB8 := below_chain hB7 hb8
      clear hb8 hB7 HL7 HR7
      go_wp2_with fail
      refine (awake_call _).mono ?_
      rintro e1 w9 ⟨rfl, hb9⟩
      have hz9 := hb9.size
      simp only [World.size_alloc] at hz9
      have l0 : w9.cell? ⟨w8.heap.size, 0, none⟩ = some (.int .i64 3) := (hb9.cell (p := ⟨w8.heap.size, 0, none⟩) (by simp; omega)).trans (by go_simp)
      have l1 : w9.cell? ⟨w8.heap.size, 1, none⟩ = some (.int .i64 lv) := (hb9.cell (p := ⟨w8.heap.size, 1, none⟩) (by simp; omega)).trans (by go_simp)
      have m0 : w9.cell? ⟨w8.heap.size + 1, 0, none⟩ = some (.int .i64 3) := (hb9.cell (p := ⟨w8.heap.size + 1, 0, none⟩) (by simp)).trans (by go_simp)
      have m1 : w9.cell? ⟨w8.heap.size + 1, 1, none⟩ = some (.int .i64 ev) := (hb9.cell (p := ⟨w8.heap.size + 1, 1, none⟩) (by simp)).trans (by go_simp)
      have hB9 : Below w.heap.size w w9 := below_chain (below_alloc (below_alloc hB8 _) _) hb9
      have hlt := HLV2.out
      have heq := HEV2.out
      clear hb9 hB8 hz9
      go_wp2
      go_ret
      exact ⟨rfl, hB9⟩
    · have HS := Lib.hid hs
      have HBK := Lib.hid hbk
      clear hs hbk HOC
      have hd : decide (9223372036854775807 - y < x) = false := by simp; omega
      go_enter Try.func9, Try.ntmps9
      go_wp2_with fail
      have HL0 := Lib.hid (ExsV.keep (w := w.alloc (.cells (encE.all Xp.seven).toArray 44)) (exs_new (L := Xp.seven) (g := w.heap.size) (n := 7) (c := 7) (heap_new _ _) rfl (Nat.le_refl _) (fun j _ => by simp) seven_wf) (below_alloc (Below.refl _ _) (.cells #[.int .i64 1, .int .i64 x, .string ⟨#[]⟩, .int .i64 1, .int .i64 y, .string ⟨#[]⟩] 34)))
      have HR0 := Lib.hid (row_two (w := ((w.alloc (.cells (encE.all Xp.seven).toArray 44)).alloc (.cells #[.int .i64 1, .int .i64 x, .string ⟨#[]⟩, .int .i64 1, .int .i64 y, .string ⟨#[]⟩] 34))) (g := w.heap.size + 1) (x := x) (y := y) (by simp) (by go_simp) (by go_simp) (by go_simp) (by go_simp) (by go_simp) (by go_simp) HVX.out HVY.out)
      have hB2 : Below w.heap.size w ((w.alloc (.cells (encE.all Xp.seven).toArray 44)).alloc (.cells #[.int .i64 1, .int .i64 x, .string ⟨#[]⟩, .int .i64 1, .int .i64 y, .string ⟨#[]⟩] 34)) := below_alloc (below_alloc hB0 _) _
      refine (eval_any HL0.out (by decide) HR0.out HS.out).mono ?_
      rintro e1 w3 ⟨rfl, hb3⟩
      have hB3 := below_chain hB2 hb3
      have HL3 := Lib.hid (HL0.out.keep hb3)
      have HR3 := Lib.hid (HR0.out.on hb3)
      clear hb3 hB2 HL0 HR0
      go_wp2_with fail
      refine (eval_any HL3.out (by decide) HR3.out HBK.out).mono ?_
      rintro e1 w4 ⟨rfl, hb4⟩
      have hB4 := below_chain hB3 hb4
      have HL4 := Lib.hid (HL3.out.keep hb4)
      have HR4 := Lib.hid (HR3.out.on hb4)
      clear hb4 hB3 HL3 HR3
      go_wp2_with fail
      refine (eval_any HL4.out (by decide) HR4.out HP.out).mono ?_
      rintro e1 w5 ⟨rfl, hb5⟩
      have hB5 := below_chain hB4 hb5
      have HL5 := Lib.hid (HL4.out.keep hb5)
      have HR5 := Lib.hid (HR4.out.on hb5)
      obtain ⟨rb, ro, rc, hre, hrl, q0, q1, q2⟩ := rowAt_cells HR5.out (i := 0) (x := vx x) rfl
      obtain ⟨⟨rfl, rfl⟩, hrc⟩ : (w.heap.size + 1 = rb ∧ 0 = ro) ∧ 2 = rc := by simpa using hre
      have r0 : w5.cell? ⟨w.heap.size + 1, 0, none⟩ = some (.int .i64 1) := q0
      have r1 : w5.cell? ⟨w.heap.size + 1, 1, none⟩ = some (.int .i64 x) := q1
      have r2 : w5.cell? ⟨w.heap.size + 1, 2, none⟩ = some (.string ⟨#[]⟩) := q2
      clear q0 q1 q2
      have hrl1 : w.heap.size + 1 < w5.heap.size + 1 := by omega
      have hrl2 : w.heap.size + 1 < w5.heap.size + 1 + 1 := by omega
      clear hb5 hB4 HL4 HR4 hre hrc
      go_wp2_with fail
      go_quiet (fail)
      clear r0 r1 r2
      go_wp2_with fail
      have hb6 := below_drewN (below_alloc (below_alloc (below_alloc (Below.refl w5.heap.size w5) (.cells #[.int .i64 1, .int .i64 (x + y), .string ⟨#[]⟩] 34)) (.cells #[.int .i64 1, .int .i64 x, .string ⟨#[]⟩] 34)) (.cells #[.int .i64 pk, .int .i64 pn, .string ps] 34)) nq
      have HL6 := Lib.hid (HL5.out.keep hb6)
      have HR6 := Lib.hid (HR5.out.on hb6)
      have hB6 := below_chain hB5 hb6
      clear hb6 hB5 HL5 HR5
      refine (eval_any HL6.out (by decide) HR6.out HLV.out).mono ?_
      rintro e1 w7 ⟨rfl, hb7⟩
      have hB7 := below_chain hB6 hb7
      have HL7 := Lib.hid (HL6.out.keep hb7)
      have HR7 := Lib.hid (HR6.out.on hb7)
      clear hb7 hB6 HL6 HR6
      go_wp2_with fail
      refine (eval_any HL7.out (by decide) HR7.out HEV.out).mono ?_
      rintro e1 w8 ⟨rfl, hb8⟩
      have hB8 := below_chain hB7 hb8
      clear hb8 hB7 HL7 HR7
      go_wp2_with fail
      refine (awake_call _).mono ?_
      rintro e1 w9 ⟨rfl, hb9⟩
      have hz9 := hb9.size
      simp only [World.size_alloc] at hz9
      have l0 : w9.cell? ⟨w8.heap.size, 0, none⟩ = some (.int .i64 3) := (hb9.cell (p := ⟨w8.heap.size, 0, none⟩) (by simp; omega)).trans (by go_simp)
      have l1 : w9.cell? ⟨w8.heap.size, 1, none⟩ = some (.int .i64 lv) := (hb9.cell (p := ⟨w8.heap.size, 1, none⟩) (by simp; omega)).trans (by go_simp)
      have m0 : w9.cell? ⟨w8.heap.size + 1, 0, none⟩ = some (.int .i64 3) := (hb9.cell (p := ⟨w8.heap.size + 1, 0, none⟩) (by simp)).trans (by go_simp)
      have m1 : w9.cell? ⟨w8.heap.size + 1, 1, none⟩ = some (.int .i64 ev) := (hb9.cell (p := ⟨w8.heap.size + 1, 1, none⟩) (by simp)).trans (by go_simp)
      have hB9 : Below w.heap.size w w9 := below_chain (below_alloc (below_alloc hB8 _) _) hb9
      have hlt := HLV2.out
      have heq := HEV2.out
      clear hb9 hB8 hz9
      go_wp2
      go_ret
      exact ⟨rfl, hB9⟩
    · exfalso; omega
    · have HS := Lib.hid hs
      have HBK := Lib.hid hbk
      clear hs hbk HOC
      have hd : decide (x < -9223372036854775808 - y) = false := by simp; omega
      go_enter Try.func9, Try.ntmps9
      go_wp2_with fail
      have HL0 := Lib.hid (ExsV.keep (w := w.alloc (.cells (encE.all Xp.seven).toArray 44)) (exs_new (L := Xp.seven) (g := w.heap.size) (n := 7) (c := 7) (heap_new _ _) rfl (Nat.le_refl _) (fun j _ => by simp) seven_wf) (below_alloc (Below.refl _ _) (.cells #[.int .i64 1, .int .i64 x, .string ⟨#[]⟩, .int .i64 1, .int .i64 y, .string ⟨#[]⟩] 34)))
      have HR0 := Lib.hid (row_two (w := ((w.alloc (.cells (encE.all Xp.seven).toArray 44)).alloc (.cells #[.int .i64 1, .int .i64 x, .string ⟨#[]⟩, .int .i64 1, .int .i64 y, .string ⟨#[]⟩] 34))) (g := w.heap.size + 1) (x := x) (y := y) (by simp) (by go_simp) (by go_simp) (by go_simp) (by go_simp) (by go_simp) (by go_simp) HVX.out HVY.out)
      have hB2 : Below w.heap.size w ((w.alloc (.cells (encE.all Xp.seven).toArray 44)).alloc (.cells #[.int .i64 1, .int .i64 x, .string ⟨#[]⟩, .int .i64 1, .int .i64 y, .string ⟨#[]⟩] 34)) := below_alloc (below_alloc hB0 _) _
      refine (eval_any HL0.out (by decide) HR0.out HS.out).mono ?_
      rintro e1 w3 ⟨rfl, hb3⟩
      have hB3 := below_chain hB2 hb3
      have HL3 := Lib.hid (HL0.out.keep hb3)
      have HR3 := Lib.hid (HR0.out.on hb3)
      clear hb3 hB2 HL0 HR0
      go_wp2_with fail
      refine (eval_any HL3.out (by decide) HR3.out HBK.out).mono ?_
      rintro e1 w4 ⟨rfl, hb4⟩
      have hB4 := below_chain hB3 hb4
      have HL4 := Lib.hid (HL3.out.keep hb4)
      have HR4 := Lib.hid (HR3.out.on hb4)
      clear hb4 hB3 HL3 HR3
      go_wp2_with fail
      refine (eval_any HL4.out (by decide) HR4.out HP.out).mono ?_
      rintro e1 w5 ⟨rfl, hb5⟩
      have hB5 := below_chain hB4 hb5
      have HL5 := Lib.hid (HL4.out.keep hb5)
      have HR5 := Lib.hid (HR4.out.on hb5)
      obtain ⟨rb, ro, rc, hre, hrl, q0, q1, q2⟩ := rowAt_cells HR5.out (i := 0) (x := vx x) rfl
      obtain ⟨⟨rfl, rfl⟩, hrc⟩ : (w.heap.size + 1 = rb ∧ 0 = ro) ∧ 2 = rc := by simpa using hre
      have r0 : w5.cell? ⟨w.heap.size + 1, 0, none⟩ = some (.int .i64 1) := q0
      have r1 : w5.cell? ⟨w.heap.size + 1, 1, none⟩ = some (.int .i64 x) := q1
      have r2 : w5.cell? ⟨w.heap.size + 1, 2, none⟩ = some (.string ⟨#[]⟩) := q2
      clear q0 q1 q2
      have hrl1 : w.heap.size + 1 < w5.heap.size + 1 := by omega
      have hrl2 : w.heap.size + 1 < w5.heap.size + 1 + 1 := by omega
      clear hb5 hB4 HL4 HR4 hre hrc
      go_wp2_with fail
      go_quiet (fail)
      clear r0 r1 r2
      go_wp2_with fail
      have hb6 := below_drewN (below_alloc (below_alloc (below_alloc (Below.refl w5.heap.size w5) (.cells #[.int .i64 1, .int .i64 (x + y), .string ⟨#[]⟩] 34)) (.cells #[.int .i64 1, .int .i64 x, .string ⟨#[]⟩] 34)) (.cells #[.int .i64 pk, .int .i64 pn, .string ps] 34)) nq
      have HL6 := Lib.hid (HL5.out.keep hb6)
      have HR6 := Lib.hid (HR5.out.on hb6)
      have hB6 := below_chain hB5 hb6
      clear hb6 hB5 HL5 HR5
      refine (eval_any HL6.out (by decide) HR6.out HLV.out).mono ?_
      rintro e1 w7 ⟨rfl, hb7⟩
      have hB7 := below_chain hB6 hb7
      have HL7 := Lib.hid (HL6.out.keep hb7)
      have HR7 := Lib.hid (HR6.out.on hb7)
      clear hb7 hB6 HL6 HR6
      go_wp2_with fail
      refine (eval_any HL7.out (by decide) HR7.out HEV.out).mono ?_
      rintro e1 w8 ⟨rfl, hb8⟩
      have hB8 := below_chain hB7 hb8
      clear hb8 hB7 HL7 HR7
      go_wp2_with fail
      refine (awake_call _).mono ?_
      rintro e1 w9 ⟨rfl, hb9⟩
      have hz9 := hb9.size
      simp only [World.size_alloc] at hz9
      have l0 : w9.cell? ⟨w8.heap.size, 0, none⟩ = some (.int .i64 3) := (hb9.cell (p := ⟨w8.heap.size, 0, none⟩) (by simp; omega)).trans (by go_simp)
      have l1 : w9.cell? ⟨w8.heap.size, 1, none⟩ = some (.int .i64 lv) := (hb9.cell (p := ⟨w8.heap.size, 1, none⟩) (by simp; omega)).trans (by go_simp)
      have m0 : w9.cell? ⟨w8.heap.size + 1, 0, none⟩ = some (.int .i64 3) := (hb9.cell (p := ⟨w8.heap.size + 1, 0, none⟩) (by simp)).trans (by go_simp)
      have m1 : w9.cell? ⟨w8.heap.size + 1, 1, none⟩ = some (.int .i64 ev) := (hb9.cell (p := ⟨w8.heap.size + 1, 1, none⟩) (by simp)).trans (by go_simp)
      have hB9 : Below w.heap.size w w9 := below_chain (below_alloc (below_alloc hB8 _) _) hb9
      have hlt := HLV2.out
      have heq := HEV2.out
      clear hb9 hB8 hz9
      go_wp2
      go_ret
      exact ⟨rfl, hB9⟩
    · have HS := Lib.hid hs
      have HBK := Lib.hid hbk
      clear hs hbk HOC
      subst b1
      go_enter Try.func9, Try.ntmps9
      go_wp2_with fail
      have HL0 := Lib.hid (ExsV.keep (w := w.alloc (.cells (encE.all Xp.seven).toArray 44)) (exs_new (L := Xp.seven) (g := w.heap.size) (n := 7) (c := 7) (heap_new _ _) rfl (Nat.le_refl _) (fun j _ => by simp) seven_wf) (below_alloc (Below.refl _ _) (.cells #[.int .i64 1, .int .i64 x, .string ⟨#[]⟩, .int .i64 1, .int .i64 0, .string ⟨#[]⟩] 34)))
      have HR0 := Lib.hid (row_two (w := ((w.alloc (.cells (encE.all Xp.seven).toArray 44)).alloc (.cells #[.int .i64 1, .int .i64 x, .string ⟨#[]⟩, .int .i64 1, .int .i64 0, .string ⟨#[]⟩] 34))) (g := w.heap.size + 1) (x := x) (y := 0) (by simp) (by go_simp) (by go_simp) (by go_simp) (by go_simp) (by go_simp) (by go_simp) HVX.out HVY.out)
      have hB2 : Below w.heap.size w ((w.alloc (.cells (encE.all Xp.seven).toArray 44)).alloc (.cells #[.int .i64 1, .int .i64 x, .string ⟨#[]⟩, .int .i64 1, .int .i64 0, .string ⟨#[]⟩] 34)) := below_alloc (below_alloc hB0 _) _
      refine (eval_any HL0.out (by decide) HR0.out HS.out).mono ?_
      rintro e1 w3 ⟨rfl, hb3⟩
      have hB3 := below_chain hB2 hb3
      have HL3 := Lib.hid (HL0.out.keep hb3)
      have HR3 := Lib.hid (HR0.out.on hb3)
      clear hb3 hB2 HL0 HR0
      go_wp2_with fail
      refine (eval_any HL3.out (by decide) HR3.out HBK.out).mono ?_
      rintro e1 w4 ⟨rfl, hb4⟩
      have hB4 := below_chain hB3 hb4
      have HL4 := Lib.hid (HL3.out.keep hb4)
      have HR4 := Lib.hid (HR3.out.on hb4)
      clear hb4 hB3 HL3 HR3
      go_wp2_with fail
      refine (eval_any HL4.out (by decide) HR4.out HP.out).mono ?_
      rintro e1 w5 ⟨rfl, hb5⟩
      have hB5 := below_chain hB4 hb5
      have HL5 := Lib.hid (HL4.out.keep hb5)
      have HR5 := Lib.hid (HR4.out.on hb5)
      obtain ⟨rb, ro, rc, hre, hrl, q0, q1, q2⟩ := rowAt_cells HR5.out (i := 0) (x := vx x) rfl
      obtain ⟨⟨rfl, rfl⟩, hrc⟩ : (w.heap.size + 1 = rb ∧ 0 = ro) ∧ 2 = rc := by simpa using hre
      have r0 : w5.cell? ⟨w.heap.size + 1, 0, none⟩ = some (.int .i64 1) := q0
      have r1 : w5.cell? ⟨w.heap.size + 1, 1, none⟩ = some (.int .i64 x) := q1
      have r2 : w5.cell? ⟨w.heap.size + 1, 2, none⟩ = some (.string ⟨#[]⟩) := q2
      clear q0 q1 q2
      have hrl1 : w.heap.size + 1 < w5.heap.size + 1 := by omega
      have hrl2 : w.heap.size + 1 < w5.heap.size + 1 + 1 := by omega
      clear hb5 hB4 HL4 HR4 hre hrc
      go_wp2_with fail
      go_quiet (fail)
      clear r0 r1 r2
      go_wp2_with fail
      have hb6 := below_drewN (below_alloc (below_alloc (below_alloc (Below.refl w5.heap.size w5) (.cells #[.int .i64 1, .int .i64 x, .string ⟨#[]⟩] 34)) (.cells #[.int .i64 1, .int .i64 x, .string ⟨#[]⟩] 34)) (.cells #[.int .i64 pk, .int .i64 pn, .string ps] 34)) nq
      have HL6 := Lib.hid (HL5.out.keep hb6)
      have HR6 := Lib.hid (HR5.out.on hb6)
      have hB6 := below_chain hB5 hb6
      clear hb6 hB5 HL5 HR5
      refine (eval_any HL6.out (by decide) HR6.out HLV.out).mono ?_
      rintro e1 w7 ⟨rfl, hb7⟩
      have hB7 := below_chain hB6 hb7
      have HL7 := Lib.hid (HL6.out.keep hb7)
      have HR7 := Lib.hid (HR6.out.on hb7)
      clear hb7 hB6 HL6 HR6
      go_wp2_with fail
      refine (eval_any HL7.out (by decide) HR7.out HEV.out).mono ?_
      rintro e1 w8 ⟨rfl, hb8⟩
      have hB8 := below_chain hB7 hb8
      clear hb8 hB7 HL7 HR7
      go_wp2_with fail
      refine (awake_call _).mono ?_
      rintro e1 w9 ⟨rfl, hb9⟩
      have hz9 := hb9.size
      simp only [World.size_alloc] at hz9
      have l0 : w9.cell? ⟨w8.heap.size, 0, none⟩ = some (.int .i64 3) := (hb9.cell (p := ⟨w8.heap.size, 0, none⟩) (by simp; omega)).trans (by go_simp)
      have l1 : w9.cell? ⟨w8.heap.size, 1, none⟩ = some (.int .i64 lv) := (hb9.cell (p := ⟨w8.heap.size, 1, none⟩) (by simp; omega)).trans (by go_simp)
      have m0 : w9.cell? ⟨w8.heap.size + 1, 0, none⟩ = some (.int .i64 3) := (hb9.cell (p := ⟨w8.heap.size + 1, 0, none⟩) (by simp)).trans (by go_simp)
      have m1 : w9.cell? ⟨w8.heap.size + 1, 1, none⟩ = some (.int .i64 ev) := (hb9.cell (p := ⟨w8.heap.size + 1, 1, none⟩) (by simp)).trans (by go_simp)
      have hB9 : Below w.heap.size w w9 := below_chain (below_alloc (below_alloc hB8 _) _) hb9
      have hlt := HLV2.out
      have heq := HEV2.out
      clear hb9 hB8 hz9
      go_wp2
      go_ret
      exact ⟨rfl, hB9⟩
  · skip
    rcases HOC.out with ⟨b1, b2, hs, hbk⟩ | ⟨b1, b2, hs, hbk⟩ | ⟨b1, b2, hs, hbk⟩ | ⟨b1, b2, hs, hbk⟩ | ⟨b1, b2, hs, hbk⟩
    · exfalso; omega
    · exfalso; omega
    · have HS := Lib.hid hs
      have HBK := Lib.hid hbk
      clear hs hbk HOC
      go_enter Try.func9, Try.ntmps9
      go_wp2_with fail
      have HL0 := Lib.hid (ExsV.keep (w := w.alloc (.cells (encE.all Xp.seven).toArray 44)) (exs_new (L := Xp.seven) (g := w.heap.size) (n := 7) (c := 7) (heap_new _ _) rfl (Nat.le_refl _) (fun j _ => by simp) seven_wf) (below_alloc (Below.refl _ _) (.cells #[.int .i64 1, .int .i64 x, .string ⟨#[]⟩, .int .i64 1, .int .i64 y, .string ⟨#[]⟩] 34)))
      have HR0 := Lib.hid (row_two (w := ((w.alloc (.cells (encE.all Xp.seven).toArray 44)).alloc (.cells #[.int .i64 1, .int .i64 x, .string ⟨#[]⟩, .int .i64 1, .int .i64 y, .string ⟨#[]⟩] 34))) (g := w.heap.size + 1) (x := x) (y := y) (by simp) (by go_simp) (by go_simp) (by go_simp) (by go_simp) (by go_simp) (by go_simp) HVX.out HVY.out)
      have hB2 : Below w.heap.size w ((w.alloc (.cells (encE.all Xp.seven).toArray 44)).alloc (.cells #[.int .i64 1, .int .i64 x, .string ⟨#[]⟩, .int .i64 1, .int .i64 y, .string ⟨#[]⟩] 34)) := below_alloc (below_alloc hB0 _) _
      refine (eval_any HL0.out (by decide) HR0.out HS.out).mono ?_
      rintro e1 w3 ⟨rfl, hb3⟩
      have hB3 := below_chain hB2 hb3
      have HL3 := Lib.hid (HL0.out.keep hb3)
      have HR3 := Lib.hid (HR0.out.on hb3)
      clear hb3 hB2 HL0 HR0
      go_wp2_with fail
      refine (eval_any HL3.out (by decide) HR3.out HBK.out).mono ?_
      rintro e1 w4 ⟨rfl, hb4⟩
      have hB4 := below_chain hB3 hb4
      have HL4 := Lib.hid (HL3.out.keep hb4)
      have HR4 := Lib.hid (HR3.out.on hb4)
      clear hb4 hB3 HL3 HR3
      go_wp2_with fail
      refine (eval_any HL4.out (by decide) HR4.out HP.out).mono ?_
      rintro e1 w5 ⟨rfl, hb5⟩
      have hB5 := below_chain hB4 hb5
      have HL5 := Lib.hid (HL4.out.keep hb5)
      have HR5 := Lib.hid (HR4.out.on hb5)
      obtain ⟨rb, ro, rc, hre, hrl, q0, q1, q2⟩ := rowAt_cells HR5.out (i := 0) (x := vx x) rfl
      obtain ⟨⟨rfl, rfl⟩, hrc⟩ : (w.heap.size + 1 = rb ∧ 0 = ro) ∧ 2 = rc := by simpa using hre
      have r0 : w5.cell? ⟨w.heap.size + 1, 0, none⟩ = some (.int .i64 1) := q0
      have r1 : w5.cell? ⟨w.heap.size + 1, 1, none⟩ = some (.int .i64 x) := q1
      have r2 : w5.cell? ⟨w.heap.size + 1, 2, none⟩ = some (.string ⟨#[]⟩) := q2
      clear q0 q1 q2
      have hrl1 : w.heap.size + 1 < w5.heap.size + 1 := by omega
      have hrl2 : w.heap.size + 1 < w5.heap.size + 1 + 1 := by omega
      clear hb5 hB4 HL4 HR4 hre hrc
      go_wp2_with fail
      go_quiet (fail)
      clear r0 r1 r2
      go_wp2_with fail
      have hb6 := below_drewN (below_alloc (below_alloc (below_alloc (Below.refl w5.heap.size w5) (.cells #[.int .i64 0, .int .i64 0, .string ⟨#[]⟩] 34)) (.cells #[.int .i64 0, .int .i64 0, .string ⟨#[]⟩] 34)) (.cells #[.int .i64 pk, .int .i64 pn, .string ps] 34)) nq
      have HL6 := Lib.hid (HL5.out.keep hb6)
      have HR6 := Lib.hid (HR5.out.on hb6)
      have hB6 := below_chain hB5 hb6
      clear hb6 hB5 HL5 HR5
      refine (eval_any HL6.out (by decide) HR6.out HLV.out).mono ?_
      rintro e1 w7 ⟨rfl, hb7⟩
      have hB7 := below_chain hB6 hb7
      have HL7 := Lib.hid (HL6.out.keep hb7)
      have HR7 := Lib.hid (HR6.out.on hb7)
      clear hb7 hB6 HL6 HR6
      go_wp2_with fail
      refine (eval_any HL7.out (by decide) HR7.out HEV.out).mono ?_
      rintro e1 w8 ⟨rfl, hb8⟩
      have hB8 := below_chain hB7 hb8
      clear hb8 hB7 HL7 HR7
      go_wp2_with fail
      refine (awake_call _).mono ?_
      rintro e1 w9 ⟨rfl, hb9⟩
      have hz9 := hb9.size
      simp only [World.size_alloc] at hz9
      have l0 : w9.cell? ⟨w8.heap.size, 0, none⟩ = some (.int .i64 3) := (hb9.cell (p := ⟨w8.heap.size, 0, none⟩) (by simp; omega)).trans (by go_simp)
      have l1 : w9.cell? ⟨w8.heap.size, 1, none⟩ = some (.int .i64 lv) := (hb9.cell (p := ⟨w8.heap.size, 1, none⟩) (by simp; omega)).trans (by go_simp)
      have m0 : w9.cell? ⟨w8.heap.size + 1, 0, none⟩ = some (.int .i64 3) := (hb9.cell (p := ⟨w8.heap.size + 1, 0, none⟩) (by simp)).trans (by go_simp)
      have m1 : w9.cell? ⟨w8.heap.size + 1, 1, none⟩ = some (.int .i64 ev) := (hb9.cell (p := ⟨w8.heap.size + 1, 1, none⟩) (by simp)).trans (by go_simp)
      have hB9 : Below w.heap.size w w9 := below_chain (below_alloc (below_alloc hB8 _) _) hb9
      have hlt := HLV2.out
      have heq := HEV2.out
      clear hb9 hB8 hz9
      go_wp2
      go_ret
      exact ⟨rfl, hB9⟩
    · have HS := Lib.hid hs
      have HBK := Lib.hid hbk
      clear hs hbk HOC
      have hd : decide (x < -9223372036854775808 - y) = false := by simp; omega
      go_enter Try.func9, Try.ntmps9
      go_wp2_with fail
      have HL0 := Lib.hid (ExsV.keep (w := w.alloc (.cells (encE.all Xp.seven).toArray 44)) (exs_new (L := Xp.seven) (g := w.heap.size) (n := 7) (c := 7) (heap_new _ _) rfl (Nat.le_refl _) (fun j _ => by simp) seven_wf) (below_alloc (Below.refl _ _) (.cells #[.int .i64 1, .int .i64 x, .string ⟨#[]⟩, .int .i64 1, .int .i64 y, .string ⟨#[]⟩] 34)))
      have HR0 := Lib.hid (row_two (w := ((w.alloc (.cells (encE.all Xp.seven).toArray 44)).alloc (.cells #[.int .i64 1, .int .i64 x, .string ⟨#[]⟩, .int .i64 1, .int .i64 y, .string ⟨#[]⟩] 34))) (g := w.heap.size + 1) (x := x) (y := y) (by simp) (by go_simp) (by go_simp) (by go_simp) (by go_simp) (by go_simp) (by go_simp) HVX.out HVY.out)
      have hB2 : Below w.heap.size w ((w.alloc (.cells (encE.all Xp.seven).toArray 44)).alloc (.cells #[.int .i64 1, .int .i64 x, .string ⟨#[]⟩, .int .i64 1, .int .i64 y, .string ⟨#[]⟩] 34)) := below_alloc (below_alloc hB0 _) _
      refine (eval_any HL0.out (by decide) HR0.out HS.out).mono ?_
      rintro e1 w3 ⟨rfl, hb3⟩
      have hB3 := below_chain hB2 hb3
      have HL3 := Lib.hid (HL0.out.keep hb3)
      have HR3 := Lib.hid (HR0.out.on hb3)
      clear hb3 hB2 HL0 HR0
      go_wp2_with fail
      refine (eval_any HL3.out (by decide) HR3.out HBK.out).mono ?_
      rintro e1 w4 ⟨rfl, hb4⟩
      have hB4 := below_chain hB3 hb4
      have HL4 := Lib.hid (HL3.out.keep hb4)
      have HR4 := Lib.hid (HR3.out.on hb4)
      clear hb4 hB3 HL3 HR3
      go_wp2_with fail
      refine (eval_any HL4.out (by decide) HR4.out HP.out).mono ?_
      rintro e1 w5 ⟨rfl, hb5⟩
      have hB5 := below_chain hB4 hb5
      have HL5 := Lib.hid (HL4.out.keep hb5)
      have HR5 := Lib.hid (HR4.out.on hb5)
      obtain ⟨rb, ro, rc, hre, hrl, q0, q1, q2⟩ := rowAt_cells HR5.out (i := 0) (x := vx x) rfl
      obtain ⟨⟨rfl, rfl⟩, hrc⟩ : (w.heap.size + 1 = rb ∧ 0 = ro) ∧ 2 = rc := by simpa using hre
      have r0 : w5.cell? ⟨w.heap.size + 1, 0, none⟩ = some (.int .i64 1) := q0
      have r1 : w5.cell? ⟨w.heap.size + 1, 1, none⟩ = some (.int .i64 x) := q1
      have r2 : w5.cell? ⟨w.heap.size + 1, 2, none⟩ = some (.string ⟨#[]⟩) := q2
      clear q0 q1 q2
      have hrl1 : w.heap.size + 1 < w5.heap.size + 1 := by omega
      have hrl2 : w.heap.size + 1 < w5.heap.size + 1 + 1 := by omega
      clear hb5 hB4 HL4 HR4 hre hrc
      go_wp2_with fail
      go_quiet (fail)
      clear r0 r1 r2
      go_wp2_with fail
      have hb6 := below_drewN (below_alloc (below_alloc (below_alloc (Below.refl w5.heap.size w5) (.cells #[.int .i64 1, .int .i64 (x + y), .string ⟨#[]⟩] 34)) (.cells #[.int .i64 1, .int .i64 x, .string ⟨#[]⟩] 34)) (.cells #[.int .i64 pk, .int .i64 pn, .string ps] 34)) nq
      have HL6 := Lib.hid (HL5.out.keep hb6)
      have HR6 := Lib.hid (HR5.out.on hb6)
      have hB6 := below_chain hB5 hb6
      clear hb6 hB5 HL5 HR5
      refine (eval_any HL6.out (by decide) HR6.out HLV.out).mono ?_
      rintro e1 w7 ⟨rfl, hb7⟩
      have hB7 := below_chain hB6 hb7
      have HL7 := Lib.hid (HL6.out.keep hb7)
      have HR7 := Lib.hid (HR6.out.on hb7)
      clear hb7 hB6 HL6 HR6
      go_wp2_with fail
      refine (eval_any HL7.out (by decide) HR7.out HEV.out).mono ?_
      rintro e1 w8 ⟨rfl, hb8⟩
      have hB8 := below_chain hB7 hb8
      clear hb8 hB7 HL7 HR7
      go_wp2_with fail
      refine (awake_call _).mono ?_
      rintro e1 w9 ⟨rfl, hb9⟩
      have hz9 := hb9.size
      simp only [World.size_alloc] at hz9
      have l0 : w9.cell? ⟨w8.heap.size, 0, none⟩ = some (.int .i64 3) := (hb9.cell (p := ⟨w8.heap.size, 0, none⟩) (by simp; omega)).trans (by go_simp)
      have l1 : w9.cell? ⟨w8.heap.size, 1, none⟩ = some (.int .i64 lv) := (hb9.cell (p := ⟨w8.heap.size, 1, none⟩) (by simp; omega)).trans (by go_simp)
      have m0 : w9.cell? ⟨w8.heap.size + 1, 0, none⟩ = some (.int .i64 3) := (hb9.cell (p := ⟨w8.heap.size + 1, 0, none⟩) (by simp)).trans (by go_simp)
      have m1 : w9.cell? ⟨w8.heap.size + 1, 1, none⟩ = some (.int .i64 ev) := (hb9.cell (p := ⟨w8.heap.size + 1, 1, none⟩) (by simp)).trans (by go_simp)
      have hB9 : Below w.heap.size w w9 := below_chain (below_alloc (below_alloc hB8 _) _) hb9
      have hlt := HLV2.out
      have heq := HEV2.out
      clear hb9 hB8 hz9
      go_wp2
      go_ret
      exact ⟨rfl, hB9⟩
    · exfalso; omega
  · skip
    rcases HOC.out with ⟨b1, b2, hs, hbk⟩ | ⟨b1, b2, hs, hbk⟩ | ⟨b1, b2, hs, hbk⟩ | ⟨b1, b2, hs, hbk⟩ | ⟨b1, b2, hs, hbk⟩
    · have HS := Lib.hid hs
      have HBK := Lib.hid hbk
      clear hs hbk HOC
      go_enter Try.func9, Try.ntmps9
      go_wp2_with fail
      have HL0 := Lib.hid (ExsV.keep (w := w.alloc (.cells (encE.all Xp.seven).toArray 44)) (exs_new (L := Xp.seven) (g := w.heap.size) (n := 7) (c := 7) (heap_new _ _) rfl (Nat.le_refl _) (fun j _ => by simp) seven_wf) (below_alloc (Below.refl _ _) (.cells #[.int .i64 1, .int .i64 x, .string ⟨#[]⟩, .int .i64 1, .int .i64 y, .string ⟨#[]⟩] 34)))
      have HR0 := Lib.hid (row_two (w := ((w.alloc (.cells (encE.all Xp.seven).toArray 44)).alloc (.cells #[.int .i64 1, .int .i64 x, .string ⟨#[]⟩, .int .i64 1, .int .i64 y, .string ⟨#[]⟩] 34))) (g := w.heap.size + 1) (x := x) (y := y) (by simp) (by go_simp) (by go_simp) (by go_simp) (by go_simp) (by go_simp) (by go_simp) HVX.out HVY.out)
      have hB2 : Below w.heap.size w ((w.alloc (.cells (encE.all Xp.seven).toArray 44)).alloc (.cells #[.int .i64 1, .int .i64 x, .string ⟨#[]⟩, .int .i64 1, .int .i64 y, .string ⟨#[]⟩] 34)) := below_alloc (below_alloc hB0 _) _
      refine (eval_any HL0.out (by decide) HR0.out HS.out).mono ?_
      rintro e1 w3 ⟨rfl, hb3⟩
      have hB3 := below_chain hB2 hb3
      have HL3 := Lib.hid (HL0.out.keep hb3)
      have HR3 := Lib.hid (HR0.out.on hb3)
      clear hb3 hB2 HL0 HR0
      go_wp2_with fail
      refine (eval_any HL3.out (by decide) HR3.out HBK.out).mono ?_
      rintro e1 w4 ⟨rfl, hb4⟩
      have hB4 := below_chain hB3 hb4
      have HL4 := Lib.hid (HL3.out.keep hb4)
      have HR4 := Lib.hid (HR3.out.on hb4)
      clear hb4 hB3 HL3 HR3
      go_wp2_with fail
      refine (eval_any HL4.out (by decide) HR4.out HP.out).mono ?_
      rintro e1 w5 ⟨rfl, hb5⟩
      have hB5 := below_chain hB4 hb5
      have HL5 := Lib.hid (HL4.out.keep hb5)
      have HR5 := Lib.hid (HR4.out.on hb5)
      obtain ⟨rb, ro, rc, hre, hrl, q0, q1, q2⟩ := rowAt_cells HR5.out (i := 0) (x := vx x) rfl
      obtain ⟨⟨rfl, rfl⟩, hrc⟩ : (w.heap.size + 1 = rb ∧ 0 = ro) ∧ 2 = rc := by simpa using hre
      have r0 : w5.cell? ⟨w.heap.size + 1, 0, none⟩ = some (.int .i64 1) := q0
      have r1 : w5.cell? ⟨w.heap.size + 1, 1, none⟩ = some (.int .i64 x) := q1
      have r2 : w5.cell? ⟨w.heap.size + 1, 2, none⟩ = some (.string ⟨#[]⟩) := q2
      clear q0 q1 q2
      have hrl1 : w.heap.size + 1 < w5.heap.size + 1 := by omega
      have hrl2 : w.heap.size + 1 < w5.heap.size + 1 + 1 := by omega
      clear hb5 hB4 HL4 HR4 hre hrc
      go_wp2_with fail
      go_quiet (fail)
      clear r0 r1 r2
      go_wp2_with fail
      have hb6 := below_drewN (below_alloc (below_alloc (below_alloc (Below.refl w5.heap.size w5) (.cells #[.int .i64 0, .int .i64 0, .string ⟨#[]⟩] 34)) (.cells #[.int .i64 0, .int .i64 0, .string ⟨#[]⟩] 34)) (.cells #[.int .i64 pk, .int .i64 pn, .string ps] 34)) nq
      have HL6 := Lib.hid (HL5.out.keep hb6)
      have HR6 := Lib.hid (HR5.out.on hb6)
      have hB6 := below_chain hB5 hb6
      clear hb6 hB5 HL5 HR5
      refine (eval_any HL6.out (by decide) HR6.out HLV.out).mono ?_
      rintro e1 w7 ⟨rfl, hb7⟩
      have hB7 := below_chain hB6 hb7
      have HL7 := Lib.hid (HL6.out.keep hb7)
      have HR7 := Lib.hid (HR6.out.on hb7)
      clear hb7 hB6 HL6 HR6
      go_wp2_with fail
      refine (eval_any HL7.out (by decide) HR7.out HEV.out).mono ?_
      rintro e1 w8 ⟨rfl, hb8⟩
      have hB8 := below_chain hB7 hb8
      clear hb8 hB7 HL7 HR7
      go_wp2_with fail
      refine (awake_call _).mono ?_
      rintro e1 w9 ⟨rfl, hb9⟩
      have hz9 := hb9.size
      simp only [World.size_alloc] at hz9
      have l0 : w9.cell? ⟨w8.heap.size, 0, none⟩ = some (.int .i64 3) := (hb9.cell (p := ⟨w8.heap.size, 0, none⟩) (by simp; omega)).trans (by go_simp)
      have l1 : w9.cell? ⟨w8.heap.size, 1, none⟩ = some (.int .i64 lv) := (hb9.cell (p := ⟨w8.heap.size, 1, none⟩) (by simp; omega)).trans (by go_simp)
      have m0 : w9.cell? ⟨w8.heap.size + 1, 0, none⟩ = some (.int .i64 3) := (hb9.cell (p := ⟨w8.heap.size + 1, 0, none⟩) (by simp)).trans (by go_simp)
      have m1 : w9.cell? ⟨w8.heap.size + 1, 1, none⟩ = some (.int .i64 ev) := (hb9.cell (p := ⟨w8.heap.size + 1, 1, none⟩) (by simp)).trans (by go_simp)
      have hB9 : Below w.heap.size w w9 := below_chain (below_alloc (below_alloc hB8 _) _) hb9
      have hlt := HLV2.out
      have heq := HEV2.out
      clear hb9 hB8 hz9
      go_wp2
      go_ret
      exact ⟨rfl, hB9⟩
    · have HS := Lib.hid hs
      have HBK := Lib.hid hbk
      clear hs hbk HOC
      have hd : decide (9223372036854775807 - y < x) = false := by simp; omega
      go_enter Try.func9, Try.ntmps9
      go_wp2_with fail
      have HL0 := Lib.hid (ExsV.keep (w := w.alloc (.cells (encE.all Xp.seven).toArray 44)) (exs_new (L := Xp.seven) (g := w.heap.size) (n := 7) (c := 7) (heap_new _ _) rfl (Nat.le_refl _) (fun j _ => by simp) seven_wf) (below_alloc (Below.refl _ _) (.cells #[.int .i64 1, .int .i64 x, .string ⟨#[]⟩, .int .i64 1, .int .i64 y, .string ⟨#[]⟩] 34)))
      have HR0 := Lib.hid (row_two (w := ((w.alloc (.cells (encE.all Xp.seven).toArray 44)).alloc (.cells #[.int .i64 1, .int .i64 x, .string ⟨#[]⟩, .int .i64 1, .int .i64 y, .string ⟨#[]⟩] 34))) (g := w.heap.size + 1) (x := x) (y := y) (by simp) (by go_simp) (by go_simp) (by go_simp) (by go_simp) (by go_simp) (by go_simp) HVX.out HVY.out)
      have hB2 : Below w.heap.size w ((w.alloc (.cells (encE.all Xp.seven).toArray 44)).alloc (.cells #[.int .i64 1, .int .i64 x, .string ⟨#[]⟩, .int .i64 1, .int .i64 y, .string ⟨#[]⟩] 34)) := below_alloc (below_alloc hB0 _) _
      refine (eval_any HL0.out (by decide) HR0.out HS.out).mono ?_
      rintro e1 w3 ⟨rfl, hb3⟩
      have hB3 := below_chain hB2 hb3
      have HL3 := Lib.hid (HL0.out.keep hb3)
      have HR3 := Lib.hid (HR0.out.on hb3)
      clear hb3 hB2 HL0 HR0
      go_wp2_with fail
      refine (eval_any HL3.out (by decide) HR3.out HBK.out).mono ?_
      rintro e1 w4 ⟨rfl, hb4⟩
      have hB4 := below_chain hB3 hb4
      have HL4 := Lib.hid (HL3.out.keep hb4)
      have HR4 := Lib.hid (HR3.out.on hb4)
      clear hb4 hB3 HL3 HR3
      go_wp2_with fail
      refine (eval_any HL4.out (by decide) HR4.out HP.out).mono ?_
      rintro e1 w5 ⟨rfl, hb5⟩
      have hB5 := below_chain hB4 hb5
      have HL5 := Lib.hid (HL4.out.keep hb5)
      have HR5 := Lib.hid (HR4.out.on hb5)
      obtain ⟨rb, ro, rc, hre, hrl, q0, q1, q2⟩ := rowAt_cells HR5.out (i := 0) (x := vx x) rfl
      obtain ⟨⟨rfl, rfl⟩, hrc⟩ : (w.heap.size + 1 = rb ∧ 0 = ro) ∧ 2 = rc := by simpa using hre
      have r0 : w5.cell? ⟨w.heap.size + 1, 0, none⟩ = some (.int .i64 1) := q0
      have r1 : w5.cell? ⟨w.heap.size + 1, 1, none⟩ = some (.int .i64 x) := q1
      have r2 : w5.cell? ⟨w.heap.size + 1, 2, none⟩ = some (.string ⟨#[]⟩) := q2
      clear q0 q1 q2
      have hrl1 : w.heap.size + 1 < w5.heap.size + 1 := by omega
      have hrl2 : w.heap.size + 1 < w5.heap.size + 1 + 1 := by omega
      clear hb5 hB4 HL4 HR4 hre hrc
      go_wp2_with fail
      go_quiet (fail)
      clear r0 r1 r2
      go_wp2_with fail
      have hb6 := below_drewN (below_alloc (below_alloc (below_alloc (Below.refl w5.heap.size w5) (.cells #[.int .i64 1, .int .i64 (x + y), .string ⟨#[]⟩] 34)) (.cells #[.int .i64 1, .int .i64 x, .string ⟨#[]⟩] 34)) (.cells #[.int .i64 pk, .int .i64 pn, .string ps] 34)) nq
      have HL6 := Lib.hid (HL5.out.keep hb6)
      have HR6 := Lib.hid (HR5.out.on hb6)
      have hB6 := below_chain hB5 hb6
      clear hb6 hB5 HL5 HR5
      refine (eval_any HL6.out (by decide) HR6.out HLV.out).mono ?_
      rintro e1 w7 ⟨rfl, hb7⟩
      have hB7 := below_chain hB6 hb7
      have HL7 := Lib.hid (HL6.out.keep hb7)
      have HR7 := Lib.hid (HR6.out.on hb7)
      clear hb7 hB6 HL6 HR6
      go_wp2_with fail
      refine (eval_any HL7.out (by decide) HR7.out HEV.out).mono ?_
      rintro e1 w8 ⟨rfl, hb8⟩
      have hB8 := below_chain hB7 hb8
      clear hb8 hB7 HL7 HR7
      go_wp2_with fail
      refine (awake_call _).mono ?_
      rintro e1 w9 ⟨rfl, hb9⟩
      have hz9 := hb9.size
      simp only [World.size_alloc] at hz9
      have l0 : w9.cell? ⟨w8.heap.size, 0, none⟩ = some (.int .i64 3) := (hb9.cell (p := ⟨w8.heap.size, 0, none⟩) (by simp; omega)).trans (by go_simp)
      have l1 : w9.cell? ⟨w8.heap.size, 1, none⟩ = some (.int .i64 lv) := (hb9.cell (p := ⟨w8.heap.size, 1, none⟩) (by simp; omega)).trans (by go_simp)
      have m0 : w9.cell? ⟨w8.heap.size + 1, 0, none⟩ = some (.int .i64 3) := (hb9.cell (p := ⟨w8.heap.size + 1, 0, none⟩) (by simp)).trans (by go_simp)
      have m1 : w9.cell? ⟨w8.heap.size + 1, 1, none⟩ = some (.int .i64 ev) := (hb9.cell (p := ⟨w8.heap.size + 1, 1, none⟩) (by simp)).trans (by go_simp)
      have hB9 : Below w.heap.size w w9 := below_chain (below_alloc (below_alloc hB8 _) _) hb9
      have hlt := HLV2.out
      have heq := HEV2.out
      clear hb9 hB8 hz9
      go_wp2
      go_ret
      exact ⟨rfl, hB9⟩
    · exfalso; omega
    · exfalso; omega
    · exfalso; omega

end Go.Proofs.Ytpgaldkedeohaaa
