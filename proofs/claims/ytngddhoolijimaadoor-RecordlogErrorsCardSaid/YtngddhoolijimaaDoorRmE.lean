/-
  Merged: RlR.
-/
import Derived.Test.YtngddhoolijimaaDoorRmD
namespace Go.Proofs.YtngddhoolijimaaDoor
open Go.RowKit
set_option linter.unusedVariables false
set_option linter.unusedSimpArgs false

set_option maxRecDepth 100000 in
theorem rn_Open (w : World) : Calls Tryd.prog 42 #[.pointer none] w fun e w' => e = .returned (.tuple #[.pointer none, .int .i64 1]) ∧ w' = w := by
  go_enter Tryd.func42, Tryd.ntmps42
  go_wp2
  go_ret2
  exact ⟨rfl, rfl⟩
set_option maxRecDepth 100000 in
theorem rn_Read (i : Int) (w : World) : Calls Tryd.prog 45 #[.pointer none, .int .i64 i] w fun e w' => e = .returned (.tuple #[.slice none 0 0, .int .i64 1]) ∧ w' = w := by
  go_enter Tryd.func45, Tryd.ntmps45
  go_wp2
  go_ret2
  exact ⟨rfl, rfl⟩
set_option maxRecDepth 100000 in
theorem rn_Len (w : World) : Calls Tryd.prog 48 #[.pointer none] w fun e w' => e = .returned (.int .i64 0) ∧ w' = w := by
  go_enter Tryd.func48, Tryd.ntmps48
  go_wp2
  go_ret
  exact ⟨rfl, rfl⟩
set_option maxRecDepth 100000 in
theorem rn_check (w : World) : Calls Tryd.prog 70 #[.pointer none] w fun e w' => e = .returned (.int .i64 1) ∧ w' = w := by
  go_enter Tryd.func70, Tryd.ntmps70
  go_wp2
  go_ret
  exact ⟨rfl, rfl⟩
set_option maxRecDepth 100000 in
theorem rn_Append (v : Value) (w : World) : Calls Tryd.prog 46 #[.pointer none, v] w fun e w' => e = .returned (.int .i64 1) ∧ w' = w := by
  go_enter Tryd.func46, Tryd.ntmps46
  go_wp2_with fail
  refine (rn_check _).mono ?_
  rintro e w1 ⟨rfl, rfl⟩
  go_wp2
  go_ret
  exact ⟨rfl, rfl⟩
set_option maxRecDepth 100000 in
theorem rn_Replace (v : Value) (w : World) : Calls Tryd.prog 47 #[.pointer none, v] w fun e w' => e = .returned (.int .i64 1) ∧ w' = w := by
  go_enter Tryd.func47, Tryd.ntmps47
  go_wp2_with fail
  refine (rn_check _).mono ?_
  rintro e w1 ⟨rfl, rfl⟩
  go_wp2
  go_ret
  exact ⟨rfl, rfl⟩

set_option maxRecDepth 100000 in
set_option maxHeartbeats 8000000 in
theorem errors37_walk (i : Int) (v : Value) (data : List UInt8) (hi : (Lit.int .i64 i).wf = true) (W : World) (h : rBy.rd W (· < W.heap.size) [v] data) : Calls Tryd.prog 13 #[.int .i64 i, v] W (Holds W) := by
  have hD := Dat.of_rd h
  obtain ⟨a, c, rfl⟩ := hD.len
  have HD := Lib.hid hD
  have HI := Lib.hid hi
  have hl0 : 0 ≤ (data.length : Int) := by omega
  clear h hD hi
  by_cases hlong : 1000 < data.length
  · have g1 : decide ((1000 : Int) < (data.length : Int)) = true := by simp; omega
    have g1' : (1000 : Int) < (data.length : Int) := by omega
    go_enter Tryd.func13, Tryd.ntmps13
    go_wp2_with fail
    refine (awake37_any _).mono ?_
    rintro e w1 ⟨rfl, hb⟩
    have HB := Lib.hid hb
    clear hb
    go_wp2
    go_ret
    exact ⟨rfl, HB.out⟩
  · have g1 : decide ((1000 : Int) < (data.length : Int)) = false := by simp; omega
    have g1' : ¬ (1000 : Int) < (data.length : Int) := by omega
    have HLN := Lib.hid (show data.length ≤ 1000 by omega)
    clear hlong
    have hcl := new_clean (N := 100) (by omega)
    have hc10 : capN 100 = 32 := rfl
    rw [hc10] at hcl
    have HCL := Lib.hid hcl
    clear hcl hc10
    go_enter Tryd.func13, Tryd.ntmps13
    go_wp2_with fail
    refine (rn_Open _).mono ?_
    rintro e w1 ⟨rfl, rfl⟩
    go_wp2_with fail
    refine (rn_Read i _).mono ?_
    rintro e w2 ⟨rfl, rfl⟩
    go_wp2_with fail
    refine (dk_new (100 : Int) 100 (by rfl) _).mono ?_
    rintro e w3 ⟨B, rfl, hM⟩
    have HM := Lib.hid hM
    have hBge : ∀ b, B.has b → w2.heap.size ≤ b := fun b hb => by
      have := hM.2.2
      rcases hb with rfl | rfl | rfl <;> omega
    have HBG := Lib.hid hBge
    clear hM hBge
    unfold DB.ptr
    go_wp2_with fail
    refine (fd_open (W := w2) HM.out.1 HCL.out.up HCL.out.buf HCL.out.len HCL.out.cap (by omega) HCL.out.recs HM.out.2.1 HBG.out).mono ?_
    rintro e w4 (⟨fb, d2, rfl, hfb, hfd, hc2, hfu, hch⟩ | ⟨d2, rfl, hfu, _⟩)
    · have HFD := Lib.hid hfd
      have HC2 := Lib.hid hc2
      have HFU := Lib.hid (hfu rfl)
      clear hfd hc2 hfu hch hfb
      unfold pfPtr
      go_wp2_with fail
      have ho := ld_open HFD.out HC2.out
      rw [zeroP_flat, dec_zero] at ho
      refine ho.mono ?_
      rintro e w5 ⟨rfl, hLD, _⟩
      have HLD := Lib.hid hLD
      obtain ⟨lb, hlb⟩ : ∃ lb, lb = w4.heap.size := ⟨_, rfl⟩
      rw [← hlb] at HLD ⊢
      clear ho hLD hlb
      unfold lgPtr
      go_wp2_with fail
      have hap := rl_Append HLD.out.log HLD.out.file HLD.out.disk (.slice a data.length c) data (HD.out.keep HLD.out.bel) (by rw [List.length_replicate]) (fun r hr => by cases hr) (by decide) (by have := HLN.out; omega)
      have hst := lgStore_any (g := ⟨[], List.replicate (100 * 32) 0, false⟩) (L := [data]) HC2.out (f := ⟨32, false⟩) rfl (zeroP_flat 32).symm
      have hlen : (encs [data]).length = 8 + data.length := by rw [encs_cons, encs_nil, List.append_nil, recB_len]
      have hla : lgAppend ⟨[], List.replicate (100 * 32) 0, false⟩ ⟨32, false⟩ d2 data = lgStore ⟨[], List.replicate (100 * 32) 0, false⟩ ⟨32, false⟩ d2 [data] := by
        unfold lgAppend
        rw [if_neg (by simp), if_neg (by have := HLN.out; omega)]; rfl
      rcases hst with ⟨h1, _⟩ | ⟨_, d', h1, h2, h3⟩ | ⟨_, _, _, h3, _⟩
      · rw [hlen] at h1; have := HLN.out; omega
      · rw [hla, h1] at hap
        refine hap.mono ?_
        rintro e w6 ⟨rfl, hT⟩
        have HLD6 := Lib.hid (HLD.out.turns hT)
        clear hap hla hlen h1 h2 h3 hT
        by_cases hi0 : i = 0
        · subst hi0
          go_wp2_with fail
          refine (rl_Read HLD6.out.log 0 data rfl (by have := HLN.out; omega)).mono ?_
          rintro e w7 ⟨v7, rfl, hr7, hb7⟩
          have HR7 := Lib.hid hr7
          obtain ⟨xa, xc, rfl⟩ := hr7.dat.len
          have HLD7 := Lib.hid (HLD6.out.below hb7)
          clear hr7 hb7
          go_wp2_with fail
          refine (awake37_any _).mono ?_
          rintro e w8 ⟨rfl, hb8⟩
          have HR8 := Lib.hid (HR7.out.dat.keep hb8)
          have HLD8 := Lib.hid (HLD7.out.below hb8)
          clear hb8
          go_wp2_with fail
          refine (rn_Append _ _).mono ?_
          rintro e w9 ⟨rfl, rfl⟩
          go_wp2_with fail
          have HBA := Lib.hid (show Below w9.heap.size w9 (w9.alloc (.cells #[.slice a data.length c] 25)) from (Below.refl _ _).alloc (Nat.le_refl _) _)
          obtain ⟨wA, hwA⟩ : ∃ wA, wA = w9.alloc (.cells #[.slice a data.length c] 25) := ⟨_, rfl⟩
          rw [← hwA] at HBA ⊢
          have HFIN := Lib.hid (HLD8.out.below HBA.out).bel
          have cv1 := convert_data (HR8.out.keep HBA.out).1
          have cv2 := convert_data (HD.out.keep HFIN.out).1
          unfold txt at cv1 cv2
          clear hwA
          refine (rn_Replace _ _).mono ?_
          rintro e wB ⟨rfl, rfl⟩
          go_wp2_with fail
          refine (rn_Len _).mono ?_
          rintro e wC ⟨rfl, rfl⟩
          generalize (⟨data.toArray⟩ : ByteArray) = sd at *
          go_wp2
          all_goals
            go_ret
            exact ⟨rfl, HFIN.out⟩
        · have g0 : (i == 0) = false := by simpa using hi0
          have g0' : (i != 0) = true := by simpa using hi0
          have hout : i < 0 ∨ (1 : Int) ≤ i := by omega
          go_wp2_with fail
          refine (rl_Read_no HLD6.out.log i hout).mono ?_
          rintro e w7 ⟨rfl, rfl⟩
          go_wp2_with fail
          refine (awake37_any _).mono ?_
          rintro e w8 ⟨rfl, hb8⟩
          have HLD8 := Lib.hid (HLD6.out.below hb8)
          clear hb8
          go_wp2_with fail
          refine (rn_Append _ _).mono ?_
          rintro e w9 ⟨rfl, rfl⟩
          go_wp2_with fail
          have HBA := Lib.hid (show Below w9.heap.size w9 (w9.alloc (.cells #[.slice a data.length c] 25)) from (Below.refl _ _).alloc (Nat.le_refl _) _)
          obtain ⟨wA, hwA⟩ : ∃ wA, wA = w9.alloc (.cells #[.slice a data.length c] 25) := ⟨_, rfl⟩
          rw [← hwA] at HBA ⊢
          have HFIN := Lib.hid (HLD8.out.below HBA.out).bel
          clear hwA
          refine (rn_Replace _ _).mono ?_
          rintro e wB ⟨rfl, rfl⟩
          go_wp2_with fail
          refine (rn_Len _).mono ?_
          rintro e wC ⟨rfl, rfl⟩
          go_wp2
          go_ret
          exact ⟨rfl, HFIN.out⟩
      · exact absurd HFU.out h3
    · exact absurd rfl hfu
end Go.Proofs.YtngddhoolijimaaDoor
