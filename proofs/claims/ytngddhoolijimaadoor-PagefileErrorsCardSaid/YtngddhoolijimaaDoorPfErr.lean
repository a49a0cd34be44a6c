/-
  The walk of PagefileErrors.
-/
import Derived.Test.YtngddhoolijimaaDoorPgD
namespace Go.Proofs.YtngddhoolijimaaDoor
open Go.RowKit
set_option linter.unusedVariables false

theorem pn_cap (w : World) : Calls Tryd.prog 23 #[.pointer none] w fun e w' => e = .returned (.int .i64 0) ∧ w' = w := by
  go_enter Tryd.func23, Tryd.ntmps23
  go_wp2
  go_ret
  exact ⟨rfl, rfl⟩

theorem pn_check (w : World) : Calls Tryd.prog 52 #[.pointer none] w fun e w' => e = .returned (.int .i64 1) ∧ w' = w := by
  go_enter Tryd.func52, Tryd.ntmps52
  go_wp2
  go_ret
  exact ⟨rfl, rfl⟩

theorem pn_open (w : World) : Calls Tryd.prog 17 #[.pointer none] w fun e w' => e = .returned (.tuple #[.pointer none, .int .i64 1]) ∧ w' = w := by
  go_enter Tryd.func17, Tryd.ntmps17
  go_wp2
  go_ret2
  exact ⟨rfl, rfl⟩

theorem pn_read (i : Int) (w : World) : Calls Tryd.prog 18 #[.pointer none, .int .i64 i] w fun e w' => e = .returned (.tuple #[.slice none 0 0, .int .i64 1]) ∧ w' = w := by
  go_enter Tryd.func18, Tryd.ntmps18
  go_wp2_with fail
  refine (pn_check _).mono ?_
  rintro e w1 ⟨rfl, rfl⟩
  go_wp2
  go_ret2
  exact ⟨rfl, rfl⟩

set_option maxRecDepth 100000 in
theorem pn_write (v : Value) (w : World) : Calls Tryd.prog 22 #[.pointer none, v] w fun e w' => e = .returned (.int .i64 1) ∧ w' = w := by
  go_enter Tryd.func22, Tryd.ntmps22
  go_wp2_with fail
  refine (pn_check _).mono ?_
  rintro e w1 ⟨rfl, rfl⟩
  go_wp2
  go_ret
  exact ⟨rfl, rfl⟩

set_option maxRecDepth 100000 in
set_option maxHeartbeats 4000000 in
theorem errors36_walk {W : World} {F : Nat → Prop} (i : Int) (hi : (Lit.int .i64 i).wf = true) (dv : Value) (data : List UInt8) (hdv : (rSlice rByte).rd W F [dv] data) (pp : Int) (hpp : (Lit.int .u8 pp).wf = true) :
    Calls Tryd.prog 4 #[.int .i64 i, dv, .int .u8 pp] W (Holds W) := by
  obtain ⟨da, dn, dc, e, hdn, hdc, -, -⟩ := hdv
  simp only [List.cons.injEq, and_true] at e
  subst e
  subst hdn
  obtain ⟨p, hp, rfl⟩ : ∃ p : Nat, p < 256 ∧ pp = (p : Int) := by
    have h : 0 ≤ pp ∧ pp ≤ 255 := by simpa [Lit.wf, IntKind.min, IntKind.max, IntKind.bits, IntKind.signed] using hpp
    exact ⟨pp.toNat, by omega, by omega⟩
  have hin : 0 ≤ (data.length : Int) := Int.natCast_nonneg _
  by_cases h300 : decide ((data.length : Int) > 300) = true
  · go_enter Tryd.func4, Tryd.ntmps4
    go_wp2_with fail
    refine (awake36_any _).mono ?_
    rintro e w1 ⟨rfl, hb⟩
    have HB := Lib.hid hb
    clear hb
    go_wp2
    go_ret
    exact ⟨rfl, HB.out⟩
  · have h300' : decide ((data.length : Int) > 300) = false := by simpa using h300
    clear h300
    go_enter Tryd.func4, Tryd.ntmps4
    go_wp2_with fail
    refine (pn_open _).mono ?_
    rintro e w1 ⟨rfl, rfl⟩
    go_wp2_with fail
    refine (pn_read i _).mono ?_
    rintro e w2 ⟨rfl, rfl⟩
    go_wp2_with fail
    refine (dk_new (20 : Int) 20 (by rfl) _).mono ?_
    rintro e w3 ⟨B0, rfl, hM⟩
    have HM := Lib.hid hM
    have hB0 : ∀ b, B0.has b → w2.heap.size ≤ b := fun b hb => by
      have := hM.2.2
      rcases hb with rfl | rfl | rfl <;> omega
    have HB0 := Lib.hid hB0
    clear hM hB0
    unfold DB.ptr
    go_wp2_with fail
    refine (dk_crash HM.out.1 _ [] (keep_nil _ _) (by simp)).mono ?_
    rintro e w4 ⟨rfl, hT⟩
    have HT := Lib.hid hT
    have HB4 := Lib.hid (HM.out.2.1.trans (hT.2.below HM.out.2.1.size HB0.out))
    clear hT
    go_wp2_with fail
    refine (pf_Open_down HT.out.1 rfl).mono ?_
    rintro e w5 ⟨rfl, hb⟩
    have HB5 := Lib.hid (HB4.out.trans (hb.mono HB4.out.size))
    clear hb
    go_wp2_with fail
    refine (begin36 p hp _ _ HB5.out).mono ?_
    rintro e w6 ⟨wb, B, fb, pb, d, rfl, hL, -, -⟩
    obtain ⟨n, hn⟩ : ∃ n, n = capN (7 + p % 25) := ⟨_, rfl⟩
    obtain ⟨N, hN⟩ : ∃ N, N = 7 + p % 25 := ⟨_, rfl⟩
    rw [← hn, ← hN] at hL
    have HL := Lib.hid hL
    have k0 := hL.c0
    have HNl := Lib.hid (show n ≤ d.st.length from by
      have h := (hL.up rfl).2.2
      rw [h.len]; have := h.pos; omega)
    clear hL hn hN
    go_wp2_with fail
    refine (dk_crash HL.out.disk _ [] (keep_nil _ _) (by simp)).mono ?_
    rintro e w7 ⟨rfl, hT⟩
    have hwl : wb < w6.heap.size := cell_lt HL.out.c0
    have k1 : w7.cell? ⟨wb, 1, none⟩ = some (.pointer (some ⟨fb, 0, none⟩)) := (hT.2.cell (a := ⟨wb, 1, none⟩) HL.out.nwB hwl).trans HL.out.c1
    have hPT : PTurns fb B w6 w7 ⟨n, false⟩ (d.crash []) := (PTurns.refl HL.out.file HL.out.disk).of_turns hT
    have HFD := Lib.hid (Fd.turns (W := w2) ⟨HL.out.file, HL.out.disk, HL.out.bel, HL.out.bge, HL.out.fge⟩ hPT)
    have HW := Lib.hid (show wb < w7.heap.size from Nat.lt_of_lt_of_le hwl hT.2.size)
    have HCN := Lib.hid (show n ≤ (d.crash []).st.length from by
      have := HNl.out
      unfold DK.crash fall
      rw [List.length_mapIdx]; exact this)
    have hdn : (d.crash []).down = true := rfl
    obtain ⟨C, hC⟩ : ∃ C, C = d.crash [] := ⟨_, rfl⟩
    rw [← hC] at HFD HCN hdn
    clear hT hPT hC k0 hwl
    go_wp2_with fail
    have hrd := pf_Read HFD.out.file HFD.out.disk 0 (by rfl) HCN.out
    unfold pfPtr at hrd
    refine hrd.mono ?_
    have hfd : PF.down ⟨n, false⟩ C = true := by unfold PF.down; rw [hdn]; rfl
    have he : pfErr ⟨n, false⟩ C 0 = 13 := by unfold pfErr; rw [hfd]; rfl
    rw [he, hfd]
    rintro e w8 ⟨v, rfl, hG, hT⟩
    obtain rfl := hG.2 (by decide)
    have k2 : w8.cell? ⟨wb, 1, none⟩ = some (.pointer (some ⟨fb, 0, none⟩)) := (hT.2.2.cell (a := ⟨wb, 1, none⟩) (fun e => e.elim HL.out.nwB HL.out.nwf) HW.out).trans k1
    have HF8 := Lib.hid (HFD.out.turns hT)
    clear hG hT hrd hfd he k1
    go_wp2_with fail
    have hwr := pf_Write HF8.out.file HF8.out.disk (.slice none 0 0) [] ⟨none, 0, 0, rfl, rfl, Nat.le_refl _, Nat.zero_le _, .inl rfl⟩ (by simp)
    rw [pfWrite_down hdn] at hwr
    unfold pfPtr at hwr
    refine hwr.mono ?_
    rintro e w9 ⟨rfl, hT⟩
    have HF9 := Lib.hid (HF8.out.turns hT)
    clear hT hwr k2
    go_wp2_with fail
    refine (awake36_any _).mono ?_
    rintro e w10 ⟨rfl, hb⟩
    have HFA := Lib.hid (HF9.out.below hb)
    clear hb
    go_wp2_with fail
    obtain ⟨W1, hW1⟩ : ∃ W1, W1 = w10.alloc (.cells #[.int .i64 i, .slice da data.length dc] 42) := ⟨_, rfl⟩
    have HBW := Lib.hid (HFA.out.below (show Below w10.heap.size w10 W1 from by rw [hW1]; exact (Below.refl _ _).alloc (Nat.le_refl _) _))
    rw [← hW1]
    clear hW1
    refine (pn_write _ _).mono ?_
    rintro e w11 ⟨rfl, rfl⟩
    go_wp2_with fail
    refine (pn_cap _).mono ?_
    rintro e w12 ⟨rfl, rfl⟩
    go_wp2
    go_ret
    exact ⟨rfl, HBW.out.bel⟩
end Go.Proofs.YtngddhoolijimaaDoor
