/-
  The walk of DiskPlays.
-/
import Derived.Test.YtbolglpbkgmlfaaDrM
namespace Go.Proofs.Ytbolglpbkgmlfaa
open Go.RowKit Go.Maps Go.ChangeShapes Go.WideShapes
set_option linter.unusedVariables false

abbrev rOp := rPair (rInt .i64) (rPair (rInt .i64) (rPair (rSliceN rByte) (rSlice (rInt .i64))))

theorem opensBytesN : Opens Try.prog 24 (rSliceN rByte) := opens_sliceN Try.underlying24 (by kernel_rfl) (by decide) (opens_byte Try.underlying5 (by kernel_rfl))
theorem opensOp : Opens Try.prog 41 rOp :=
  opens_struct Try.underlying41 (by kernel_rfl) (opensF_cons rfl (opens_int Try.underlying3 (by kernel_rfl)) (opensF_cons rfl (opens_int Try.underlying3 (by kernel_rfl)) (opensF_cons rfl opensBytesN (opensF_one rfl opensInts))))
theorem opensOps : Opens Try.prog 37 (rSlice rOp) := opens_slice Try.underlying37 (by kernel_rfl) (by decide) opensOp

theorem Inv.fresh {W w w1 : World} {B : DB} {R : RB} {d : DK} (h : Inv W w B R d) (hc : Chg (Fresh w) w w1) : Inv W w1 B R d := by
  have hp := h.pair.keep hc (fun b hb => hb)
  exact ⟨hp.disk, hp.ref, h.bel.trans (hc.below h.bel.size (fun b hb => by have := h.bel.size; have : w.heap.size ≤ b := hb; omega)), h.bh, h.rh⟩

/-- Op i of the list, in memory. -/
theorem op_at {W w : World} {b off i : Nat} {x : Int × Int × List UInt8 × List Int} (hb : b < W.heap.size) (hB : Below W.heap.size W w) (h : ∃ ys, At W b (off + i * rOp.size) ys ∧ rOp.rd W (· < W.heap.size) ys x) :
    ∃ dv kv, w.cell? ⟨b, off + i * 4, none⟩ = some (.int .i64 x.1) ∧ w.cell? ⟨b, off + i * 4 + 1, none⟩ = some (.int .i64 x.2.1) ∧ w.cell? ⟨b, off + i * 4 + 2, none⟩ = some dv ∧ w.cell? ⟨b, off + i * 4 + 3, none⟩ = some kv ∧
      (Lit.int .i64 x.2.1).wf = true ∧ (rSlice rByte).rd W (· < W.heap.size) [dv] x.2.2.1 ∧ (∀ m c, dv = .slice none m c → c = 0) ∧ (rSlice (rInt .i64)).rd W (· < W.heap.size) [kv] x.2.2.2 := by
  obtain ⟨ys, hA, u1, v1, rfl, ⟨rfl, _⟩, u2, v2, rfl, ⟨rfl, hw⟩, u3, v3, rfl, hd, hk⟩ := h
  have l3 : u3.length = 1 := (rSliceN rByte).len hd
  have l4 : v3.length = 1 := (rSlice (rInt .i64)).len hk
  obtain ⟨dv, rfl⟩ : ∃ dv, u3 = [dv] := by match u3, l3 with | [a], _ => exact ⟨a, rfl⟩
  obtain ⟨kv, rfl⟩ : ∃ kv, v3 = [kv] := by match v3, l4 with | [a], _ => exact ⟨a, rfl⟩
  have c : ∀ j u, ([.int .i64 x.1, .int .i64 x.2.1, dv, kv] : List Value)[j]? = some u → w.cell? ⟨b, off + i * 4 + j, none⟩ = some u := fun j u hu => (hB.cell (p := ⟨b, off + i * 4 + j, none⟩) hb).trans (hA j u hu)
  exact ⟨dv, kv, c 0 _ rfl, c 1 _ rfl, c 2 _ rfl, c 3 _ rfl, hw, hd.1, fun m c e => hd.2 m c (by rw [e]), hk⟩

set_option maxRecDepth 100000 in
set_option maxHeartbeats 8000000 in
theorem plays_walk (pp : Int) (v : Value) (L : List (Int × Int × List UInt8 × List Int)) (hpw : (Lit.int .u8 pp).wf = true) (W : World) (hL : (rSlice rOp).rd W (· < W.heap.size) [v] L) : Calls Try.prog 5 #[.int .u8 pp, v] W (Holds W) := by
  have hpb : 0 ≤ pp ∧ pp ≤ 255 := by simpa [Lit.wf, IntKind.min, IntKind.max, IntKind.bits, IntKind.signed] using hpw
  obtain ⟨pn, rfl⟩ : ∃ pn : Nat, pp = (pn : Int) := ⟨pp.toNat, by omega⟩
  obtain ⟨m, hm⟩ : ∃ m, m = pn % 12 := ⟨_, rfl⟩
  have hmr : Int.tmod (pn : Int) 12 = (m : Int) := by subst hm; rw [Int.tmod_eq_emod_of_nonneg (by omega)]; rfl
  have hm12 : m < 12 := by omega
  obtain ⟨va, vn, vc, ev, rfl, hvc, _, hx⟩ := hL
  obtain rfl : v = .slice va L.length vc := by simpa using ev
  have HX := Lib.hid hx
  clear hx ev hm hpw hpb
  go_enter Try.func5, Try.ntmps5
  go_wp2_with fail
  refine (dk_new (m : Int) m (by omega) _).mono ?_
  rintro e w1 ⟨B, rfl, hM⟩
  have HM := Lib.hid hM
  clear hM
  unfold DB.ptr
  go_wp2_with fail
  refine (rf_new m (by omega) _).mono ?_
  rintro e w2 ⟨sv, bv, wv, xs, rfl, hb2, hG⟩
  have hHas : ∀ b, B.has b → b < w1.heap.size := by
    have := HM.out.1.lt
    rintro b (rfl | rfl | rfl) <;> omega
  obtain ⟨R, hRb, hR⟩ := hG.isRef (by omega) hHas
  have HI := Lib.hid (show Inv W w2 B R (DK.new m) from by
    refine ⟨HM.out.1.below hb2, hR, HM.out.2.1.trans (hb2.mono HM.out.2.1.size), fun b hb => ?_, fun b hb => ?_⟩
    · have := HM.out.2.2
      rcases hb with rfl | rfl | rfl <;> omega
    · have h1 := HM.out.2.1.size
      have hlen : (DK.new m).st.length = m := by simp [DK.new]
      rw [hlen] at hb
      rcases hb with rfl | ⟨hp, hb⟩
      · omega
      · have h3 := own_base hG.os
        have h4 := own_base hG.ob
        have h5 := own_base hG.ow
        have hs := hR.hs
        have hbb := hR.hb
        have hww := hR.hw
        rw [hlen] at hs hbb hww
        obtain ⟨a1, c1, e1, f1⟩ := hs
        obtain ⟨a2, c2, e2, f2⟩ := hbb
        obtain ⟨a3, c3, e3, f3⟩ := hww
        rw [hRb, hG.c0] at e1
        rw [hRb, hG.c1] at e2
        rw [hRb, hG.c2] at e3
        rw [f1 hp] at e1
        rw [f2 hp] at e2
        rw [f3 hp] at e3
        rcases hb with rfl | rfl | rfl
        · have := h3 R.ss (by rw [Option.some.inj e1]; rfl); omega
        · have := h4 R.bs (by rw [Option.some.inj e2]; rfl); omega
        · have := h5 R.ws (by rw [Option.some.inj e3]; rfl); omega)
  have hlen : (DK.new m).st.length = m := by simp [DK.new]
  rw [← hRb]
  clear hG hR hb2 hHas hRb HM hmr
  go_wp2
  go_loopg [6, 8] (L.length) (fun gk t6 t8 wr => ∃ (i : Nat) (B : DB) (d : DK), i ≤ L.length ∧ gk + i = L.length ∧ t6 = .pointer (some ⟨B.db, 0, none⟩) ∧ t8 = .int .i64 (i : Int) ∧ Inv W wr B R d ∧ d.st.length = m)
  case atStart => exact ⟨0, B, _, by omega, by omega, rfl, rfl, HI.out, hlen⟩
  case round =>
    obtain ⟨i, B1, d, hi, hgk, rfl, rfl, hI, hdl⟩ := hrel
    have HGK := Lib.hid hgk
    have HI1 := Lib.hid hI
    have HDL := Lib.hid hdl
    clear hgk hI HI hdl hlen
    by_cases hin : i < L.length ∧ i < 60
    · have hd1 : decide ((i : Int) < (L.length : Int)) = true := by simp; omega
      have hd2 : decide ((i : Int) < 60) = true := by simp; omega
      have hi0 : (0 : Int) ≤ (i : Int) := by omega
      have hi1 : (i : Int) < (L.length : Int) := by omega
      obtain ⟨x, hx⟩ : ∃ x, L[i]? = some x := ⟨_, List.getElem?_eq_getElem hin.1⟩
      rcases HX.out with h0 | ⟨b, off, rfl, hbF, hbl, hget⟩
      · omega
      obtain ⟨dv, kv, q0, q1, q2, q3, hwn, hdd, hdn, hkk⟩ := op_at (off := off) (i := i) (x := x) hbl HI1.out.bel (hget i x hx)
      obtain ⟨da, dc, rfl⟩ := Sl.len (data_of hdd)
      have hbr : b < wr.heap.size := Nat.lt_of_lt_of_le hbl HI1.out.bel.size
      obtain ⟨_, ka, kc, rfl, _⟩ := HI1.out.keep _ _ hkk
      have HDD := Lib.hid hdd
      have HDN := Lib.hid hdn
      have HKK := Lib.hid hkk
      clear hdd hdn hkk hget
      by_cases h3 : 300 < x.2.2.1.length
      · have g3 : decide ((300 : Int) < (x.2.2.1.length : Int)) = true := by simp; omega
        go_wp2
        go_roundg (gk - 1)
        case rel => exact ⟨i + 1, B1, d, by omega, by have := HGK.out; omega, rfl, rfl, HI1.out, HDL.out⟩
        case measure => have := HGK.out; omega
      · have g3 : decide ((300 : Int) < (x.2.2.1.length : Int)) = false := by simp; omega
        by_cases h5 : 50 < x.2.2.2.length
        · have g5 : decide ((50 : Int) < (x.2.2.2.length : Int)) = true := by simp; omega
          go_wp2
          go_roundg (gk - 1)
          case rel => exact ⟨i + 1, B1, d, by omega, by have := HGK.out; omega, rfl, rfl, HI1.out, HDL.out⟩
          case measure => have := HGK.out; omega
        · have g5 : decide ((50 : Int) < (x.2.2.2.length : Int)) = false := by simp; omega
          have HIN := Lib.hid (show OpIn W x.2.1 (.slice da x.2.2.1.length dc) (.slice ka x.2.2.2.length kc) x.2.2.1 x.2.2.2 from ⟨hwn, HDD.out, HDN.out, HKK.out, by omega, by omega⟩)
          go_wp2_with fail
          refine (step_any HI1.out HIN.out x.1).mono ?_
          rintro e w3 ⟨B2, d2, rfl, hI2, hd2'⟩
          have HI2 := Lib.hid hI2
          have HD2 := Lib.hid hd2'
          clear hI2 hd2' q0 q1 q2 q3
          unfold DB.ptr
          go_wp2_with fail
          refine (same_call HI2.out.pair (by have := HD2.out; have := HDL.out; omega)).mono ?_
          rintro e w4 ⟨rfl, hc4⟩
          have HI3 := Lib.hid (HI2.out.fresh hc4)
          clear hc4
          go_wp2
          go_roundg (gk - 1)
          case rel => exact ⟨i + 1, B2, d2, by omega, by have := HGK.out; omega, rfl, rfl, HI3.out, by have := HD2.out; have := HDL.out; omega⟩
          case measure => have := HGK.out; omega
    · have hd1 : (decide ((i : Int) < (L.length : Int)) = false) ∨ (decide ((i : Int) < (L.length : Int)) = true ∧ decide ((i : Int) < 60) = false) := by
        by_cases h : i < L.length
        · exact .inr ⟨by simp; omega, by simp; omega⟩
        · exact .inl (by simp; omega)
      rcases hd1 with hd1 | ⟨hd1, hd2⟩
      all_goals go_wp2_with fail
      all_goals
        refine (awake_any _).mono ?_
        rintro e w3 ⟨rfl, hb3⟩
        have HI2 := Lib.hid (HI1.out.grow hb3)
        clear hb3
      all_goals go_wp2_with fail
      all_goals
        refine (same_call HI2.out.pair (by have := HDL.out; omega)).mono ?_
        rintro e w4 ⟨rfl, hc4⟩
        have HI3 := Lib.hid (HI2.out.fresh hc4)
        clear hc4
      all_goals go_wp2
      all_goals go_ret
      all_goals exact ⟨rfl, HI3.out.bel⟩

end Go.Proofs.Ytbolglpbkgmlfaa
