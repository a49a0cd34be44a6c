/-
  Merged: RlE, RlF, RlH, RlI, RlJ.
-/
import Derived.Test.YtngddhoolijimaaGreatDoorRmA
import Derived.Lib.SliceRun
import Derived.Deep.RegionWith
namespace Go.Proofs.YtngddhoolijimaaGreatDoor
open Go.RowKit
set_option linter.unusedVariables false
set_option linter.unusedSimpArgs false

section
variable {w : World} {a : Option Addr} {n c K M : Nat} {l : List UInt8}

theorem Dat.le (h : Dat w (.slice a n c) l) : n = l.length ∧ l.length ≤ c ∧ (0 < l.length → ∃ g off, a = some ⟨g, off, none⟩ ∧ g < w.heap.size) := by
  rcases h.1.2 with ⟨h0, a', c', e⟩ | ⟨g, off, c', e, hn, hg, _⟩
  · cases e; exact ⟨h0.symm, by omega, fun h => by omega⟩
  · cases e; exact ⟨rfl, hn, fun _ => ⟨g, off, rfl, hg⟩⟩

theorem cut_dat (hK : K ≤ M) (hM : M ≤ l.length) (h : Dat w (.slice a n c) l) : Dat w (sliced a K M c 1) ((l.take M).drop K) := by
  have hlen : ((l.take M).drop K).length = M - K := by rw [List.length_drop, List.length_take]; omega
  obtain ⟨rfl, hlc, -⟩ := h.le
  refine ⟨⟨by rw [pc_len]; omega, ?_⟩, fun n' c' e => ?_⟩
  · rw [hlen]
    by_cases h0 : M - K = 0
    · exact .inl ⟨h0, _, c - K, by unfold sliced; rw [h0]⟩
    · rcases h.1.2 with ⟨h1, _⟩ | ⟨g, off, c', e, hn, hg, hc⟩
      · omega
      · cases e
        refine .inr ⟨g, off + K, c - K, ?_, by omega, hg, fun j u hu => ?_⟩
        · unfold sliced
          rw [if_neg (by omega)]
          simp [Addr.add_mid]
        · rw [pc_drop, pc_take, List.getElem?_drop, List.getElem?_take] at hu
          split at hu
          · have := hc _ u hu
            rwa [Nat.add_assoc]
          · cases hu
  · unfold sliced at e
    simp only [Value.slice.injEq] at e
    obtain ⟨e1, _, e3⟩ := e
    cases a with
    | none =>
      have := h.2 _ c rfl
      omega
    | some ad =>
      split at e1
      · cases e1
      · cases e1

theorem cutz_lh {z1 z2 : Int} (h1 : z1 = (K : Int)) (h2 : z2 = (M : Int)) (hK : K ≤ M) (hM : M ≤ n) (hn : n ≤ c) : ∃ sa sn sc, (∀ W, Sem.run Tryz.prog (Instr.sliceAt 51 (.slice a n c) (some (.int .i64 z1)) (some (.int .i64 z2)) none) W = .ok (.slice sa sn sc) W) ∧
    (∀ W, Sem.run Tryz.prog (Instr.slice 51 (.slice a n c) (some (.int .i64 z1)) (some (.int .i64 z2)) none) W = .ok (.slice sa sn sc) W) ∧ sn = M - K ∧ ∀ w l, l.length = n → Dat w (.slice a n c) l → Dat w (.slice sa sn sc) ((l.take M).drop K) := by
  subst h1
  subst h2
  have h2 : ∀ W, Sem.run Tryz.prog (Instr.slice 51 (.slice a n c) (some (.int .i64 (K : Int))) (some (.int .i64 (M : Int))) none) W = .ok (sliced a K M c 1) W := by
    intro W
    rw [run_slice_lh W 51 a n c under_bytes .i64 .i64 (K : Int) (M : Int) (by omega) (by omega) (by omega), size_byte]
    rfl
  exact ⟨_, _, _, fun W => (run_sliceAt_slice W 51 _ _ _ _ under_bytes).trans (h2 W), h2, rfl, fun w l hl h => cut_dat hK (by omega) h⟩

theorem cutz_l {z1 : Int} (h1 : z1 = (K : Int)) (hK : K ≤ n) (hn : n ≤ c) : ∃ sa sn sc, (∀ W, Sem.run Tryz.prog (Instr.sliceAt 51 (.slice a n c) (some (.int .i64 z1)) none none) W = .ok (.slice sa sn sc) W) ∧
    (∀ W, Sem.run Tryz.prog (Instr.slice 51 (.slice a n c) (some (.int .i64 z1)) none none) W = .ok (.slice sa sn sc) W) ∧ sn = n - K ∧ ∀ w l, l.length = n → Dat w (.slice a n c) l → Dat w (.slice sa sn sc) (l.drop K) := by
  subst h1
  have h2 : ∀ W, Sem.run Tryz.prog (Instr.slice 51 (.slice a n c) (some (.int .i64 (K : Int))) none none) W = .ok (sliced a K n c 1) W := by
    intro W
    rw [run_slice_l W 51 a n c under_bytes .i64 (K : Int) (by omega) (by omega), size_byte]
    rfl
  refine ⟨_, _, _, fun W => (run_sliceAt_slice W 51 _ _ _ _ under_bytes).trans (h2 W), h2, rfl, fun w l hl h => ?_⟩
  have := cut_dat (K := K) (M := n) hK (by omega) h
  rw [List.take_of_length_le (by omega)] at this
  exact this

theorem cutz_h {z2 : Int} (h2 : z2 = (M : Int)) (hM : M ≤ n) (hn : n ≤ c) : ∃ sa sn sc, (∀ W, Sem.run Tryz.prog (Instr.sliceAt 51 (.slice a n c) none (some (.int .i64 z2)) none) W = .ok (.slice sa sn sc) W) ∧
    (∀ W, Sem.run Tryz.prog (Instr.slice 51 (.slice a n c) none (some (.int .i64 z2)) none) W = .ok (.slice sa sn sc) W) ∧ sn = M ∧ ∀ w l, l.length = n → Dat w (.slice a n c) l → Dat w (.slice sa sn sc) (l.take M) := by
  subst h2
  have h2 : ∀ W, Sem.run Tryz.prog (Instr.slice 51 (.slice a n c) none (some (.int .i64 (M : Int))) none) W = .ok (sliced a 0 M c 1) W := by
    intro W
    rw [run_slice_h W 51 a n c under_bytes .i64 (M : Int) (by omega) (by omega), size_byte]
    rfl
  refine ⟨_, _, _, fun W => (run_sliceAt_slice W 51 _ _ _ _ under_bytes).trans (h2 W), h2, by omega, fun w l hl h => ?_⟩
  have := cut_dat (K := 0) (M := M) (by omega) (by omega) h
  rw [List.drop_zero] at this
  exact this
end

set_option maxRecDepth 100000 in
theorem by_Clone (v : Value) (l : List UInt8) (w : World) (h : Dat w v l) (hl : l.length ≤ 900000000) :
    Calls Tryz.prog 37 #[v] w fun e w' => ∃ v', e = .returned v' ∧ Row w' w.heap.size v' l ∧ Below w.heap.size w w' := by
  obtain ⟨a, c, rfl⟩ := h.len
  have q22 : ∀ (w : World) (a : Option Addr) (n c n' c' : Nat), (binOp .eql 51 (.slice a n c) (.slice none n' c')).run Tryz.prog w = .ok (.bool a.isNone) w := fun w a n c n' c' => Lib.run_eql_slice_nil w _ _ a n c n' c' Tryz.underlying51
  have HD := Lib.hid h
  have HL := Lib.hid hl
  clear h hl
  cases a with
  | none =>
    have h0 : l = [] := by
      rcases Nat.eq_zero_or_pos l.length with h | h
      · exact List.eq_nil_of_length_eq_zero h
      · obtain ⟨_, _, e, _⟩ := HD.out.le.2.2 h; cases e
    subst h0
    go_enter Tryz.func37, Tryz.ntmps37
    go_wp2
    go_ret
    exact ⟨_, rfl, Row.nil _ _, Below.refl _ _⟩
  | some ad =>
    have HN := Lib.hid (row_made w [] 0 rfl (by simp))
    have HB := Lib.hid (show Below w.heap.size w (w.alloc (.cells (pc []).toArray 5)) from (Below.refl _ _).alloc (Nat.le_refl _) _)
    go_enter Tryz.func37, Tryz.ntmps37
    go_wp2_with (at_builtin; refine wpList_app rfl _ _ rfl w.heap.size (.slice (some ⟨w.heap.size, 0, none⟩) 0 0) [] rfl HN.out _ l rfl (HD.out.keep HB.out) (by simp; have := HL.out; omega) HB.out.size ?_)
    intro v2 w2 h2 hg2 hb2
    have H2 := Lib.hid h2
    have HB2 := Lib.hid (HB.out.trans hb2)
    clear h2 hg2 hb2
    go_wp2
    go_ret
    exact ⟨_, rfl, H2.out, HB2.out⟩

/-- What first answers. -/
def firstN (b : List UInt8) : Nat := match firstR b with | none => 0 | some r => 8 + r.length
def firstD (b : List UInt8) : List UInt8 := (firstR b).getD []
theorem firstN_none {b : List UInt8} (h : firstR b = none) : firstN b = 0 ∧ firstD b = [] := by unfold firstN firstD; rw [h]; exact ⟨rfl, rfl⟩
theorem firstN_some {b r : List UInt8} (h : firstR b = some r) : firstN b = 8 + r.length ∧ firstD b = r := by unfold firstN firstD; rw [h]; exact ⟨rfl, rfl⟩

theorem sum_of4 (b r : List UInt8) : (4294967295 ^^^ crcs (crcs 4294967295 b) r : Nat) = sumOf (b ++ r) := by unfold sumOf; rw [crcs_append]

set_option maxRecDepth 100000 in
set_option maxHeartbeats 4000000 in
theorem rl_first (v : Value) (b : List UInt8) (w : World) (h : Dat w v b) (hl : b.length ≤ 100000000) :
    Calls Tryz.prog 52 #[v] w fun e w' => ∃ v', e = .returned (.tuple #[v', .int .i64 (firstN b : Int)]) ∧ Row w' w.heap.size v' (firstD b) ∧ Below w.heap.size w w' := by
  obtain ⟨a, c, rfl⟩ := h.len
  have hlc := h.le.2.1
  have HD := Lib.hid h
  have HL := Lib.hid hl
  have hl0 : 0 ≤ (b.length : Int) ∧ (b.length : Int) ≤ 100000000 := by omega
  clear h hl
  by_cases h8 : b.length < 8
  · have g8 : decide ((b.length : Int) < 8) = true := by simp; omega
    have HN := Lib.hid (firstN_none (b := b) (by unfold firstR; rw [if_pos h8]))
    rw [HN.out.1, HN.out.2]
    go_enter Tryz.func52, Tryz.ntmps52
    go_wp2
    go_ret2
    exact ⟨_, rfl, Row.nil _ _, Below.refl _ _⟩
  · have g8 : decide ((b.length : Int) < 8) = false := by simp; omega
    have HW := Lib.hid (rl_word _ b w HD.out.1 (by omega))
    have hF : firstR b = if wordAt b = 0 ∨ 1048577 < wordAt b then none else if b.length < 7 + wordAt b then none else if sumOf (b.take 4 ++ (b.drop 8).take (wordAt b - 1)) ≠ wordAt (b.drop 4) then none else some ((b.drop 8).take (wordAt b - 1)) := by
      conv => lhs; unfold firstR
      rw [if_neg h8]
    have HFF := Lib.hid hF
    have hwl := wordAt_lt b
    clear hF
    obtain ⟨n, hn⟩ : ∃ n, n = wordAt b := ⟨_, rfl⟩
    rw [← hn] at HFF HW hwl
    clear hn
    have hn0 : 0 ≤ (n : Int) ∧ (n : Int) < 4294967296 := by omega
    by_cases hz : n = 0
    · subst hz
      have HN := Lib.hid (firstN_none (b := b) (by rw [HFF.out, if_pos (.inl rfl)]))
      rw [HN.out.1, HN.out.2]
      go_enter Tryz.func52, Tryz.ntmps52
      go_wp2_with fail
      refine HW.out.mono ?_
      rintro e w1 ⟨rfl, hb1⟩
      have HB1 := Lib.hid hb1
      clear hb1
      go_wp2
      go_ret2
      exact ⟨_, rfl, Row.nil _ _, HB1.out⟩
    · have gz : ((n : Int) == 0) = false := by simp; omega
      have gz' : ¬ (n : Int) = 0 := by omega
      by_cases hbig : 1048577 < n
      · have gb : decide ((1048577 : Int) < (n : Int)) = true := by simp; omega
        have gb' : (1048577 : Int) < (n : Int) := by omega
        have HN := Lib.hid (firstN_none (b := b) (by rw [HFF.out, if_pos (.inr hbig)]))
        rw [HN.out.1, HN.out.2]
        go_enter Tryz.func52, Tryz.ntmps52
        go_wp2_with fail
        refine HW.out.mono ?_
        rintro e w1 ⟨rfl, hb1⟩
        have HB1 := Lib.hid hb1
        clear hb1
        go_wp2
        go_ret2
        exact ⟨_, rfl, Row.nil _ _, HB1.out⟩
      · have gb : decide ((1048577 : Int) < (n : Int)) = false := by simp; omega
        have gb' : ¬ (1048577 : Int) < (n : Int) := by omega
        obtain ⟨m, hm⟩ : ∃ m, m = n - 1 := ⟨_, rfl⟩
        obtain ⟨E, hE⟩ : ∃ E, E = 8 + m := ⟨_, rfl⟩
        have hEI : (8 : Int) + (n : Int) - 1 = (E : Int) := by omega
        have hE0 : 0 ≤ (E : Int) ∧ (E : Int) ≤ 1048584 := by omega
        have hs0 : 0 ≤ (8 : Int) + (n : Int) ∧ (8 : Int) + (n : Int) ≤ 1048585 := by omega
        have HFG := Lib.hid (show firstR b = if b.length < E then none else if sumOf (b.take 4 ++ (b.take E).drop 8) ≠ wordAt (b.drop 4) then none else some ((b.take E).drop 8) from by
          have e1 : (b.take E).drop 8 = (b.drop 8).take m := by rw [hE, List.drop_take, show 8 + m - 8 = m by omega]
          rw [HFF.out, if_neg (by omega), e1, ← hm, show 7 + n = E by omega])
        have HEE := Lib.hid hE
        clear HFF hm hE
        by_cases hlong : b.length < E
        · have gl : decide ((b.length : Int) < (E : Int)) = true := by simp; omega
          have gl' : (b.length : Int) < (E : Int) := by omega
          have HN := Lib.hid (firstN_none (b := b) (by rw [HFG.out, if_pos hlong]))
          rw [HN.out.1, HN.out.2]
          go_enter Tryz.func52, Tryz.ntmps52
          go_wp2_with fail
          refine HW.out.mono ?_
          rintro e w1 ⟨rfl, hb1⟩
          have HB1 := Lib.hid hb1
          clear hb1
          go_wp2
          go_ret2
          exact ⟨_, rfl, Row.nil _ _, HB1.out⟩
        · have gl : decide ((b.length : Int) < (E : Int)) = false := by simp; omega
          have gl' : ¬ (b.length : Int) < (E : Int) := by omega
          have h8E : 8 ≤ E := by have := HEE.out; omega
          obtain ⟨pa, pn, pc', p1, p2, -, p3⟩ := cutz_lh (z1 := 8) (z2 := (E : Int)) (a := a) (n := b.length) (c := c) (K := 8) (M := E) rfl rfl h8E (by omega) hlc
          obtain ⟨qa, qn, qc, q1, q2, -, q3⟩ := cutz_h (z2 := 4) (a := a) (n := b.length) (c := c) (M := 4) rfl (by omega) hlc
          obtain ⟨sa, sn, sc, s1, s2, -, s3⟩ := cutz_l (z1 := 4) (a := a) (n := b.length) (c := c) (K := 4) rfl (by omega) hlc
          have HP := Lib.hid (fun w => p3 w b rfl)
          have HQ := Lib.hid (fun w => q3 w b rfl)
          have HSS := Lib.hid (fun w => s3 w b rfl)
          have HFH := Lib.hid (show firstR b = if sumOf (b.take 4 ++ (b.take E).drop 8) ≠ wordAt (b.drop 4) then none else some ((b.take E).drop 8) from by rw [HFG.out, if_neg hlong])
          have HRL := Lib.hid (show ((b.take E).drop 8).length + 8 = E from by rw [List.length_drop, List.length_take]; omega)
          have HTL := Lib.hid (show (b.take 4).length ≤ 4 from by rw [List.length_take]; omega)
          have HDL := Lib.hid (show 4 ≤ (b.drop 4).length from by rw [List.length_drop]; omega)
          clear p3 q3 s3 HFG
          obtain ⟨R, hR⟩ : ∃ R, R = (b.take E).drop 8 := ⟨_, rfl⟩
          rw [← hR] at HFH HRL HP
          obtain ⟨H, hH⟩ : ∃ H, H = b.take 4 := ⟨_, rfl⟩
          rw [← hH] at HFH HQ HTL
          obtain ⟨T, hT⟩ : ∃ T, T = b.drop 4 := ⟨_, rfl⟩
          rw [← hT] at HFH HSS HDL
          clear hR hH hT
          go_enter Tryz.func52, Tryz.ntmps52
          go_wp2_with fail
          refine HW.out.mono ?_
          rintro e w1 ⟨rfl, hb1⟩
          have HB1 := Lib.hid hb1
          have HD1 := Lib.hid (HD.out.keep hb1)
          clear hb1
          go_wp2_with fail
          have HBX := Lib.hid (show Below w.heap.size w w1.drew from HB1.out.drew)
          have HQ1 := Lib.hid (HQ.out w1.drew (HD1.out.keep (Below.refl _ _).drew))
          have HP1 := Lib.hid (HP.out w1.drew (HD1.out.keep (Below.refl _ _).drew))
          have HS1 := Lib.hid (HSS.out w1.drew (HD1.out.keep (Below.refl _ _).drew))
          obtain ⟨c1, hc1⟩ : ∃ c1, c1 = crcs 4294967295 H := ⟨_, rfl⟩
          have hc1l : c1 < 4294967296 := by rw [hc1]; exact crcs_lt (by omega) _
          have hc2l := crcs_lt hc1l R
          have hsg : IntKind.u32.signed = false := rfl
          have hx : bits .xor .u32 IntKind.u32.max (crcs c1 R : Int) = ((4294967295 ^^^ crcs c1 R : Nat) : Int) := xor_nat (a := 4294967295) (b := crcs c1 R) (by omega) hc2l
          have hsm : 4294967295 ^^^ crcs c1 R = sumOf (H ++ R) := by rw [hc1]; exact sum_of4 H R
          rw [hsm] at hx
          have HU1 := Lib.hid (rl_update 4294967295 (by omega) _ H w1.drew HQ1.out.1 (by have := HTL.out; omega))
          have HU2 := Lib.hid (rl_update c1 hc1l _ R w1.drew HP1.out.1 (by have := HRL.out; have := HEE.out; omega))
          have HU3 := Lib.hid (rl_word _ T w1.drew HS1.out.1 HDL.out)
          rw [← hc1] at HU1
          obtain ⟨q, hq⟩ : ∃ q, q = crcs c1 R := ⟨_, rfl⟩
          obtain ⟨z, hz⟩ : ∃ z, z = sumOf (H ++ R) := ⟨_, rfl⟩
          obtain ⟨y, hy⟩ : ∃ y, y = wordAt T := ⟨_, rfl⟩
          rw [← hq, ← hz] at hx
          rw [← hq] at HU2
          rw [← hy] at HU3
          rw [← hz, ← hy] at HFH
          clear hc1 hc1l hc2l hsm hq hz hy
          obtain ⟨pz, hpz⟩ : ∃ pz : Bool, pz = decide (z = y) := ⟨_, rfl⟩
          have HPZ := Lib.hid hpz
          have gzy : ((z : Int) != (y : Int)) = !pz := by
            rw [hpz]
            by_cases e : z = y
            · subst e; simp
            · rw [decide_eq_false e]; simp; omega
          clear hpz
          cases pz with
          | false =>
            have hne : z ≠ y := by simpa using HPZ.out
            have HN := Lib.hid (firstN_none (b := b) (by rw [HFH.out, if_pos hne]))
            have hne' : ¬ (z : Int) = (y : Int) := by omega
            go_region_held3 (fun W => True) (first | trivial)
              (first | (go_at_call_of 38 (Value.slice qa qn qc); refine HU1.out.mono ?_; rintro e wA ⟨rfl, rfl⟩) | (go_at_call_of 38 (Value.slice pa pn pc'); refine HU2.out.mono ?_; rintro e wB ⟨rfl, rfl⟩) | (go_at_call 73; refine HU3.out.mono ?_; rintro e wC ⟨rfl, hbC⟩; have HBC := Lib.hid (HBX.out.trans (hbC.mono HBX.out.size)); clear hbC) | fail)
            all_goals
              go_wp2
              go_ret2
              exact ⟨_, by rw [HN.out.1]; rfl, by rw [HN.out.2]; exact Row.nil _ _, HBC.out⟩
          | true =>
            have heq : z = y := by simpa using HPZ.out
            subst heq
            have HN := Lib.hid (firstN_some (b := b) (r := R) (by rw [HFH.out, if_neg (by simp)]))
            have HN8 := Lib.hid (show firstN b = E from by rw [HN.out.1]; have := HRL.out; omega)
            have HP2 := Lib.hid (show ∀ W, Below w1.heap.size w1 W → Dat W (.slice pa pn pc') R from fun W hb => HP.out W (HD1.out.keep hb))
            go_region_held3 (fun W => True) (first | trivial)
              (first | (go_at_call_of 38 (Value.slice qa qn qc); refine HU1.out.mono ?_; rintro e wA ⟨rfl, rfl⟩) | (go_at_call_of 38 (Value.slice pa pn pc'); refine HU2.out.mono ?_; rintro e wB ⟨rfl, rfl⟩) | (go_at_call 73; refine HU3.out.mono ?_; rintro e wC ⟨rfl, hbC⟩; have HBC := Lib.hid (HBX.out.trans (hbC.mono HBX.out.size)); have HRC := Lib.hid (HP1.out.keep hbC); clear hbC) | fail)
            all_goals
              go_wp2_with fail
              refine (by_Clone _ R _ HRC.out (by have := HRL.out; have := HEE.out; omega)).mono ?_
              rintro e wD ⟨v', rfl, hr, hb⟩
              have HRW := Lib.hid (hr.low HBC.out.size)
              have HBD := Lib.hid (HBC.out.trans (hb.mono HBC.out.size))
              clear hr hb
              go_wp2
              go_ret2
              exact ⟨_, by rw [HN8.out]; rfl, by rw [HN.out.2]; exact HRW.out, HBD.out⟩
end Go.Proofs.YtngddhoolijimaaGreatDoor
namespace Go.Proofs.YtngddhoolijimaaGreatDoor
open Go.RowKit
set_option linter.unusedVariables false
set_option linter.unusedSimpArgs false

/-- Records of a call's own. -/
def Recs (w : World) (base : Nat) (v : Value) (l : List (List UInt8)) : Prop :=
  ∃ xs, w.ownsRow base 51 1 v l.length xs ∧ ∀ (j : Nat) (p : List UInt8), l[j]? = some p → ∃ u, xs[j]? = some u ∧ Row w base u p

section
variable {w w' : World} {base : Nat} {v : Value} {l : List (List UInt8)} {F : Nat → Prop}

theorem Recs.nil (w : World) (base : Nat) : Recs w base (.slice none 0 0) [] := ⟨[], World.ownsRow_nil _ _ _ _, fun j p h => by simp at h⟩
theorem Recs.keep (h : Recs w base v l) (hb : Below w.heap.size w w') : Recs w' base v l := by
  obtain ⟨xs, h1, h2⟩ := h
  exact ⟨xs, own_at h1 hb, fun j p hp => by obtain ⟨u, e, hu⟩ := h2 j p hp; exact ⟨u, e, hu.keep hb⟩⟩
theorem Recs.low {base' : Nat} (h : Recs w base v l) (hb : base' ≤ base) : Recs w base' v l := by
  obtain ⟨xs, h1, h2⟩ := h
  exact ⟨xs, own_le h1 hb, fun j p hp => by obtain ⟨u, e, hu⟩ := h2 j p hp; exact ⟨u, e, hu.low hb⟩⟩
theorem Recs.len (h : Recs w base v l) : ∃ a c, v = .slice a l.length c := by obtain ⟨xs, h1, _⟩ := h; exact own_nil h1

theorem row_apart {b1 b2 : Nat} {v1 v2 : Value} {n : Nat} {xs : List Value} {p : List UInt8} (h1 : Row w b1 v1 p) (h2 : w.ownsRow b2 51 1 v2 n xs) : ∀ b, v1.ownBlock = some b → some b ≠ v2.ownBlock := by
  intro b hb e
  rcases h1.2 with ⟨rfl, _⟩ | ⟨g, cap, cur, rfl, _, hc, _⟩
  · cases hb
  · rcases h2.2 with ⟨rfl, _⟩ | ⟨g', cap', cur', rfl, _, hc', _⟩
    · cases e
    · simp only [Value.ownBlock, Option.some.injEq] at hb e
      subst hb
      subst e
      rw [hc] at hc'
      cases hc'

/-- Own records, read. -/
theorem Recs.rd (h : Recs w base v l) (hF : ∀ b, base ≤ b → b < w.heap.size → F b) : rRs.rd w F [v] l := by
  obtain ⟨xs, h1, h2⟩ := h
  have hl : xs.length = l.length := by have := h1.1; omega
  refine ⟨rd_own (R := rBy) h1 ⟨h1.1, rfl, fun i p hp => ?_⟩ hF, fun n c e => ?_⟩
  · obtain ⟨u, e, hu⟩ := h2 i p hp
    have hi : i < xs.length := (List.getElem?_eq_some_iff.1 e).1
    have e2 : xs[i] = u := (List.getElem?_eq_some_iff.1 e).2
    rw [show rBy.size = 1 from rfl, Nat.mul_one, List.drop_eq_getElem_cons hi, List.take_succ_cons, List.take_zero, e2]
    exact hu.rd hF
  · rcases h1.2 with ⟨e1, _⟩ | ⟨g, cap, cur, e1, _⟩
    · subst e1; simp at e; exact e.2.symm
    · subst e1; simp at e

/-- append of a record. -/
theorem wpList_rec {ops : Array Oper} {rest : List Oper} {o : Oper} {a : Act} {Q : Exit → Act → World → Prop} (hgd : o.guard = none) (s x : Operand)
    (ho : o.op = Op.call { callee := Callee.builtin Builtin.append, args := #[s, x], argTypes := #[28, 28] })
    (hs : a.eval s = v) (hown : Recs w base v l) (u : Value) (p : List UInt8) (g : Nat) (hx : a.eval x = .slice (some ⟨g, 0, none⟩) 1 1) (T : TypeId) (fr : Nat × Nat) (hg : w.heap[g]? = some (.cells #[u] T fr)) (hp : Row w base u p) (hl : l.length ≤ 1000000000) (hbase : base ≤ w.heap.size)
    (h : ∀ v' w', Recs w' base v' (l ++ [p]) → Below base w w' → wpList Tryz.prog ops Q rest (a.put o.dst v') w') : wpList Tryz.prog ops Q (o :: rest) a w := by
  obtain ⟨i0, hi0, hz0, hz1, hz2⟩ := info_parts bs_info
  obtain ⟨xs, h1, h2⟩ := hown
  have hsl : Sl w 1 (.slice (some ⟨g, 0, none⟩) 1 1) 1 [u] := ⟨rfl, .inr ⟨g, 0, 1, rfl, Nat.le_refl _, (Array.getElem?_eq_some_iff.1 hg).1, fun j y hy => by
    match j, hy with
    | 0, hy =>
      obtain rfl : u = y := by simpa using hy
      rw [cell_of_row w g _ #[u] T fr hg]; rfl⟩⟩
  refine wpList_append_sl hgd s x 28 ho base 51 i0 _ 1 24 Tryz.underlying28 hi0 hz0 hz1 hz2 rfl (by decide) v l.length xs hs h1 _ 1 [u] hx hsl (fun n c e => by cases e) (one_val _ (own_one hp)) (by unfold maxLen; omega) (by omega) hbase ?_
  intro v' w' k1 k2 k3
  refine h v' w' ⟨xs ++ [u], by rw [List.length_append]; exact k1, fun j q hq => ?_⟩ k3
  have hxl : xs.length = l.length := by have := h1.1; omega
  by_cases hj : j < l.length
  · rw [List.getElem?_append_left hj] at hq
    obtain ⟨y, e, hy⟩ := h2 j q hq
    exact ⟨y, by rw [List.getElem?_append_left (by omega)]; exact e, hy.other k2 (row_apart hy h1)⟩
  · have hjl := (List.getElem?_eq_some_iff.1 hq).1
    rw [List.length_append, List.length_singleton] at hjl
    obtain rfl : j = l.length := by omega
    rw [List.getElem?_append_right (Nat.le_refl _), Nat.sub_self] at hq
    obtain rfl : p = q := by simpa using hq
    exact ⟨u, by rw [List.getElem?_append_right (by omega), hxl, Nat.sub_self]; rfl, hp.other k2 (row_apart hp h1)⟩
end

theorem dec_step {b : List UInt8} {l : List (List UInt8)} {k : Nat} {r : List UInt8} (h : dec b = (l ++ (dec (b.drop k)).1, k + (dec (b.drop k)).2)) (hf : firstR (b.drop k) = some r) :
    dec b = ((l ++ [r]) ++ (dec (b.drop (k + (8 + r.length)))).1, (k + (8 + r.length)) + (dec (b.drop (k + (8 + r.length)))).2) := by
  rw [h, dec_some hf, List.drop_drop]
  simp [Nat.add_assoc]
theorem dec_stop {b : List UInt8} {l : List (List UInt8)} {k : Nat} (h : dec b = (l ++ (dec (b.drop k)).1, k + (dec (b.drop k)).2)) (hf : firstR (b.drop k) = none) : dec b = (l, k) := by
  rw [h, dec_none hf]; simp

set_option maxRecDepth 100000 in
set_option maxHeartbeats 4000000 in
theorem rl_Decode (v : Value) (b : List UInt8) (w : World) (h : Dat w v b) (hl : b.length ≤ 100000000) :
    Calls Tryz.prog 29 #[v] w fun e w' => ∃ v', e = .returned (.tuple #[v', .int .i64 ((dec b).2 : Int)]) ∧ Recs w' w.heap.size v' (dec b).1 ∧ Below w.heap.size w w' := by
  obtain ⟨a, c, rfl⟩ := h.len
  have hlc := h.le.2.1
  have HD := Lib.hid h
  have HL := Lib.hid hl
  have hl0 : 0 ≤ (b.length : Int) ∧ (b.length : Int) ≤ 100000000 := by omega
  obtain ⟨D, hD⟩ : ∃ D, D = dec b := ⟨_, rfl⟩
  rw [← hD]
  have HDD := Lib.hid hD
  clear h hl hD
  go_enter Tryz.func29, Tryz.ntmps29
  go_wp2
  go_loopg [4, 5] (b.length + 1) (fun gk t4 t5 wr => ∃ (k : Nat) (l : List (List UInt8)) (u : Value), u = t4 ∧ k ≤ b.length ∧ gk = b.length + 1 - k ∧ l.length ≤ k ∧ t5 = .int .i64 (k : Int) ∧ dec b = (l ++ (dec (b.drop k)).1, k + (dec (b.drop k)).2) ∧ Recs wr w.heap.size u l ∧ Below w.heap.size w wr)
  case atStart => exact ⟨0, [], _, rfl, by omega, by omega, by simp, rfl, by rw [List.drop_zero]; simp, Recs.nil _ _, Below.refl _ _⟩
  case round =>
    obtain ⟨k, l, u, rfl, hk, hgk, hlk, rfl, hdec, hrec, hB⟩ := hrel
    have HGK := Lib.hid hgk
    have HDE := Lib.hid hdec
    have HR := Lib.hid hrec
    have HB := Lib.hid hB
    have HLK := Lib.hid hlk
    have hk0 : 0 ≤ (k : Int) ∧ (k : Int) ≤ 100000000 := by omega
    obtain ⟨sa, sn, sc, s1, s2, -, s3⟩ := cutz_l (z1 := (k : Int)) (a := a) (n := b.length) (c := c) (K := k) rfl hk hlc
    have HC := Lib.hid (s3 wr b rfl (HD.out.keep HB.out))
    have HDL := Lib.hid (show (b.drop k).length = b.length - k from by rw [List.length_drop])
    clear hgk hdec hrec hB s3 hlk
    go_wp2_with fail
    refine (rl_first _ (b.drop k) wr HC.out (by rw [HDL.out]; have := HL.out; omega)).mono ?_
    rintro e w2 ⟨v2, rfl, hrow, hb2⟩
    have HW := Lib.hid hrow
    have HB2 := Lib.hid (HB.out.trans (hb2.mono HB.out.size))
    have HR2 := Lib.hid (HR.out.keep hb2)
    clear hrow hb2
    obtain ⟨fo, hfo⟩ : ∃ fo, fo = firstR (b.drop k) := ⟨_, rfl⟩
    cases fo with
    | none =>
      have hn := firstN_none hfo.symm
      rw [hn.1]
      have HFIN := Lib.hid (show D = (l, k) from by rw [HDD.out]; exact dec_stop HDE.out hfo.symm)
      clear hn hfo
      go_wp2
      go_ret2
      exact ⟨_, by rw [HFIN.out]; rfl, by rw [HFIN.out]; exact HR2.out, HB2.out⟩
    | some r =>
      have hn := firstN_some hfo.symm
      have hfl := firstR_len hfo.symm
      have HW2 := Lib.hid (show Row w2 w.heap.size v2 r from by have := HW.out.low HB.out.size; rw [hn.2] at this; exact this)
      obtain ⟨m, hm⟩ : ∃ m, m = 8 + r.length := ⟨_, rfl⟩
      rw [hn.1, ← hm]
      have HDE2 := Lib.hid (show dec b = ((l ++ [r]) ++ (dec (b.drop (k + m))).1, (k + m) + (dec (b.drop (k + m))).2) from by rw [hm]; exact dec_step HDE.out hfo.symm)
      have HM := Lib.hid (show 8 ≤ m ∧ k + m ≤ b.length from by rw [HDL.out] at hfl; omega)
      have gm : ((m : Int) == 0) = false := by have := HM.out; simp; omega
      have gm' : ¬ (m : Int) = 0 := by have := HM.out; omega
      have hm0 : 0 ≤ (m : Int) ∧ (m : Int) ≤ 100000000 := by have := HM.out; omega
      obtain ⟨k2, hk2⟩ : ∃ k2, k2 = k + m := ⟨_, rfl⟩
      have hkm : (k : Int) + (m : Int) = (k2 : Int) := by omega
      have hk20 : 0 ≤ (k2 : Int) ∧ (k2 : Int) ≤ 100000000 := by have := HM.out; omega
      rw [← hk2] at HDE2 HM
      have HK2 := Lib.hid hk2
      clear hn hfl hm hfo hk2 HW
      obtain ⟨xa, xc, rfl⟩ := HW2.out.dat.len
      have HBA := Lib.hid (show Below w2.heap.size w2 (w2.alloc (.cells #[.slice xa r.length xc] 51)) from (Below.refl _ _).alloc (Nat.le_refl _) _)
      go_wp2_with (at_builtin; refine wpList_rec rfl _ _ rfl rfl (HR2.out.keep HBA.out) (.slice xa r.length xc) r w2.heap.size rfl 51 (0, 0) (heap_alloc_new w2 _) (HW2.out.keep HBA.out) (by have := HLK.out; have := HL.out; omega) (by have := HB2.out.size; have := HBA.out.size; omega) ?_)
      intro v3 w3 h3 hb3
      have H3 := Lib.hid h3
      have HB3 := Lib.hid ((HB2.out.trans (HBA.out.mono HB2.out.size)).trans hb3)
      clear h3 hb3
      go_wp2
      go_roundg (b.length + 1 - k2)
      case rel => exact ⟨k2, l ++ [r], _, rfl, HM.out.2, rfl, by rw [List.length_append, List.length_singleton]; have := HLK.out; have := HK2.out; have := HM.out; omega, by go_num, HDE2.out, H3.out, HB3.out⟩
      case measure => have := HGK.out; have := HK2.out; have := HM.out; omega
end Go.Proofs.YtngddhoolijimaaGreatDoor
namespace Go.Proofs.YtngddhoolijimaaGreatDoor
open Go.RowKit
set_option linter.unusedVariables false
set_option linter.unusedSimpArgs false

/-- The slices of a slice of records, as values. -/
theorem rs_open {w : World} {F : Nat → Prop} {v : Value} {l : List (List UInt8)} (h : rRs.rd w F [v] l) : ∃ xs : List Value, Sl w 1 v l.length xs ∧ (∀ u ∈ xs, u.oneCell' = true) ∧ ∀ (j : Nat) (p : List UInt8), l[j]? = some p → ∃ u, xs[j]? = some u ∧ rBy.rd w F [u] p := by
  obtain ⟨a, c, rfl, hlc, _, hg⟩ := rs_get h
  have key : ∀ (m : Nat), m ≤ l.length → ∃ xs : List Value, xs.length = m ∧ (∀ (j : Nat) (u : Value), xs[j]? = some u → ∃ g off, a = some ⟨g, off, none⟩ ∧ g < w.heap.size ∧ w.cell? ⟨g, off + j, none⟩ = some u) ∧ (∀ u ∈ xs, u.oneCell' = true) ∧ ∀ (j : Nat) (p : List UInt8), j < m → l[j]? = some p → ∃ u, xs[j]? = some u ∧ rBy.rd w F [u] p := by
    intro m
    induction m with
    | zero => exact fun _ => ⟨[], rfl, fun j u h => by simp at h, fun u h => by simp at h, fun j p h => by omega⟩
    | succ m ih =>
      intro hm
      obtain ⟨xs, h1, h2, h4, h3⟩ := ih (by omega)
      obtain ⟨p, hp⟩ : ∃ p, l[m]? = some p := ⟨_, List.getElem?_eq_getElem (by omega)⟩
      obtain ⟨g, off, u, ea, _, hgl, hc, hu⟩ := hg m p hp
      refine ⟨xs ++ [u], by simp [h1], fun j v hv => ?_, fun y hy => ?_, fun j q hj hq => ?_⟩
      · by_cases hj : j < m
        · rw [List.getElem?_append_left (by omega)] at hv
          exact h2 j v hv
        · have hjl := (List.getElem?_eq_some_iff.1 hv).1
          rw [List.length_append, List.length_singleton] at hjl
          obtain rfl : j = m := by omega
          rw [List.getElem?_append_right (by omega), h1, Nat.sub_self] at hv
          obtain rfl : u = v := by simpa using hv
          exact ⟨g, off, ea, hgl, hc⟩
      · rcases List.mem_append.1 hy with hy | hy
        · exact h4 y hy
        · rw [List.mem_singleton.1 hy]
          obtain ⟨a', c', rfl⟩ := (Dat.of_rd hu).len
          rfl
      · by_cases hjm : j < m
        · obtain ⟨u', e1, e2⟩ := h3 j q hjm hq
          exact ⟨u', by rw [List.getElem?_append_left (by omega)]; exact e1, e2⟩
        · obtain rfl : j = m := by omega
          rw [hp] at hq; cases hq
          exact ⟨u, by rw [List.getElem?_append_right (by omega), h1, Nat.sub_self]; rfl, hu⟩
  obtain ⟨xs, h1, h2, h4, h3⟩ := key l.length (Nat.le_refl _)
  refine ⟨xs, ⟨by omega, ?_⟩, h4, fun j p hp => h3 j p (List.getElem?_eq_some_iff.1 hp).1 hp⟩
  rcases Nat.eq_zero_or_pos l.length with h0 | h0
  · exact .inl ⟨h0, a, c, by rw [h0]⟩
  · obtain ⟨p, hp⟩ : ∃ p, l[0]? = some p := ⟨_, List.getElem?_eq_getElem h0⟩
    obtain ⟨g, off, u, rfl, _, hgl, _, _⟩ := hg 0 p hp
    refine .inr ⟨g, off, c, rfl, hlc, hgl, fun j u hu => ?_⟩
    obtain ⟨g', o', e, _, hc⟩ := h2 j u hu
    cases e
    exact hc

theorem refs_rd {w : World} {base : Nat} {v : Value} {l : List (List UInt8)} {xs : List Value} {G : Nat → Prop} (h1 : w.ownsRow base 51 1 v l.length xs) (h2 : ∀ (j : Nat) (p : List UInt8), l[j]? = some p → ∃ u, xs[j]? = some u ∧ rBy.rd w G [u] p) (hG : ∀ b, base ≤ b → b < w.heap.size → G b) : rRs.rd w G [v] l := by
  have hl : xs.length = l.length := by have := h1.1; omega
  refine ⟨rd_own (R := rBy) h1 ⟨h1.1, rfl, fun i p hp => ?_⟩ hG, fun n c e => ?_⟩
  · obtain ⟨u, e, hu⟩ := h2 i p hp
    have hi : i < xs.length := (List.getElem?_eq_some_iff.1 e).1
    have e2 : xs[i] = u := (List.getElem?_eq_some_iff.1 e).2
    rw [show rBy.size = 1 from rfl, Nat.mul_one, List.drop_eq_getElem_cons hi, List.take_succ_cons, List.take_zero, e2]
    exact hu
  · rcases h1.2 with ⟨e1, _⟩ | ⟨g, cap, cur, e1, _⟩
    · subst e1; simp at e; exact e.2.symm
    · subst e1; simp at e

theorem rs_nil {w : World} {F : Nat → Prop} {v : Value} {l : List (List UInt8)} (h : rRs.rd w F [v] l) : ∀ n c, v = .slice none n c → c = 0 := fun n c e => h.2 n c (by rw [e])

set_option maxRecDepth 100000 in
theorem rs_Clone {F : Nat → Prop} (v : Value) (l : List (List UInt8)) (w : World) (h : rRs.rd w F [v] l) (hl : l.length ≤ 900000000) :
    Calls Tryz.prog 36 #[v] w fun e w' => ∃ v' xs, e = .returned v' ∧ w'.ownsRow w.heap.size 51 1 v' l.length xs ∧ (∀ (j : Nat) (p : List UInt8), l[j]? = some p → ∃ u, xs[j]? = some u ∧ rBy.rd w F [u] p) ∧ Below w.heap.size w w' := by
  have q22 : ∀ (w : World) (a : Option Addr) (n c n' c' : Nat), (binOp .eql 28 (.slice a n c) (.slice none n' c')).run Tryz.prog w = .ok (.bool a.isNone) w := fun w a n c n' c' => Lib.run_eql_slice_nil w _ _ a n c n' c' Tryz.underlying28
  obtain ⟨i0, hi0, hz0, hz1, hz2⟩ := info_parts bs_info
  obtain ⟨xs, hsl, hone, hget⟩ := rs_open h
  have hnil := rs_nil h
  obtain ⟨a, c, rfl, _, _, _⟩ := rs_get h
  have HS := Lib.hid (And.intro hsl (And.intro hone (And.intro hget hnil)))
  have HL := Lib.hid hl
  clear h hl hsl hone hget hnil
  cases a with
  | none =>
    have h0 : l = [] := by
      rcases HS.out.1.2 with ⟨h, _⟩ | ⟨_, _, _, e, _⟩
      · exact List.eq_nil_of_length_eq_zero h
      · cases e
    subst h0
    go_enter Tryz.func36, Tryz.ntmps36
    go_wp2
    go_ret
    exact ⟨_, [], rfl, World.ownsRow_nil _ _ _ _, fun j p h => by simp at h, Below.refl _ _⟩
  | some ad =>
    have HN := Lib.hid (row_new w w.heap.size 0 51 1 [] (Nat.le_refl _) (by unfold maxLen; omega) rfl)
    have HB := Lib.hid (show Below w.heap.size w (w.alloc (.cells ([] : List Value).toArray 51)) from (Below.refl _ _).alloc (Nat.le_refl _) _)
    go_enter Tryz.func36, Tryz.ntmps36
    go_wp2_with (at_builtin; refine wpList_append_sl rfl _ _ 28 rfl w.heap.size 51 i0 _ 1 24 Tryz.underlying28 hi0 hz0 hz1 hz2 rfl (by decide) (.slice (some ⟨w.heap.size, 0, none⟩) 0 0) 0 [] rfl HN.out _ l.length xs rfl (HS.out.1.keep HB.out) HS.out.2.2.2 HS.out.2.1 (by unfold maxLen; have := HL.out; omega) (by have := HL.out; omega) HB.out.size ?_)
    intro v2 w2 h2 hg2 hb2
    have H2 := Lib.hid (show w2.ownsRow w.heap.size 51 1 v2 l.length xs from by simpa using h2)
    have HB2 := Lib.hid (HB.out.trans hb2)
    clear h2 hg2 hb2
    go_wp2
    go_ret
    exact ⟨_, xs, rfl, H2.out, HS.out.2.2.1, HB2.out⟩

/-- A log. -/
structure LG where
  recs : List (List UInt8)
  img : List UInt8
  failed : Bool

/-- Where a log's records and image may lie. -/
def LFree (X : Nat → Prop) (B : DB) (fb lb b : Nat) : Prop := ¬ B.has b ∧ b ≠ fb ∧ b ≠ lb ∧ ¬ X b

abbrev lgPtr (lb : Nat) : Value := .pointer (some ⟨lb, 0, none⟩)

/-- A log in memory. -/
structure IsLog (X : Nat → Prop) (w : World) (lb fb : Nat) (B : DB) (g : LG) : Prop where
  nB : ¬ B.has lb
  nf : lb ≠ fb
  c0 : w.cell? ⟨lb, 0, none⟩ = some (pfPtr fb)
  c1 : ∃ v, w.cell? ⟨lb, 1, none⟩ = some v ∧ rRs.rd w (LFree X B fb lb) [v] g.recs
  c2 : ∃ v, w.cell? ⟨lb, 2, none⟩ = some v ∧ rBy.rd w (LFree X B fb lb) [v] g.img
  c3 : w.cell? ⟨lb, 3, none⟩ = some (.bool g.failed)
  fr : ∀ j, w.frozen? ⟨lb, j, none⟩ = false

/-- What a call of the log turns. -/
def LT (B : DB) (fb lb b : Nat) : Prop := B.has b ∨ b = fb ∨ b = lb

section
variable {X : Nat → Prop} {w w' : World} {lb fb : Nat} {B : DB} {g : LG} {f : PF} {d : DK}

theorem IsLog.lt (h : IsLog X w lb fb B g) : lb < w.heap.size := cell_lt h.c0
theorem IsLog.keep {F : Nat → Prop} (h : IsLog X w lb fb B g) (hc : Chg F w w') (hl : ¬ F lb) (hF : ∀ b, LFree X B fb lb b → b < w.heap.size → ¬ F b) : IsLog X w' lb fb B g := by
  have c : ∀ j, w'.cell? ⟨lb, j, none⟩ = w.cell? ⟨lb, j, none⟩ := fun j => hc.cell (a := ⟨lb, j, none⟩) hl h.lt
  have k : Kept (LFree X B fb lb) w w' := fun b hb hl => hc.block b hl (hF b hb hl)
  obtain ⟨v1, e1, r1⟩ := h.c1
  obtain ⟨v2, e2, r2⟩ := h.c2
  exact ⟨h.nB, h.nf, (c 0).trans h.c0, ⟨v1, (c 1).trans e1, rRs.keep k hc.size r1⟩, ⟨v2, (c 2).trans e2, rBy.keep k hc.size r2⟩, (c 3).trans h.c3, fun j => (hc.frozen (a := ⟨lb, j, none⟩) hl h.lt).trans (h.fr j)⟩
theorem IsLog.more {X' : Nat → Prop} (h : IsLog X w lb fb B g) (hX : ∀ b, b < w.heap.size → X' b → X b) : IsLog X' w lb fb B g := by
  obtain ⟨v1, e1, r1⟩ := h.c1
  obtain ⟨v2, e2, r2⟩ := h.c2
  exact ⟨h.nB, h.nf, h.c0, ⟨v1, e1, rs_shrink (fun b hb hl => ⟨hb.1, hb.2.1, hb.2.2.1, fun e => hb.2.2.2 (hX b hl e)⟩) r1⟩, ⟨v2, e2, by_shrink (fun b hb hl => ⟨hb.1, hb.2.1, hb.2.2.1, fun e => hb.2.2.2 (hX b hl e)⟩) r2⟩, h.c3, h.fr⟩
theorem IsLog.below (h : IsLog X w lb fb B g) (hb : Below w.heap.size w w') : IsLog X w' lb fb B g := h.keep (F := fun _ => False) (Chg.of_below hb) (fun h => h) (fun _ _ _ h => h)
theorem IsLog.turns {f' : PF} {d' : DK} (h : IsLog X w lb fb B g) (ht : PTurns fb B w w' f' d') : IsLog X w' lb fb B g := h.keep ht.2.2 (fun e => e.elim h.nB h.nf) (fun b hb _ e => e.elim hb.1 hb.2.1)

set_option maxRecDepth 100000 in
theorem rl_Len (h : IsLog X w lb fb B g) : Calls Tryz.prog 17 #[lgPtr lb] w fun e w' => e = .returned (.int .i64 (g.recs.length : Int)) ∧ w' = w := by
  obtain ⟨v1, e1, r1⟩ := h.c1
  obtain ⟨a, c, rfl, _⟩ := rs_get r1
  clear h r1
  unfold lgPtr
  go_enter Tryz.func17, Tryz.ntmps17
  go_wp2
  go_ret
  exact ⟨rfl, rfl⟩

set_option maxRecDepth 100000 in
theorem rl_check (h : IsLog X w lb fb B g) : Calls Tryz.prog 33 #[lgPtr lb] w fun e w' => e = .returned (.int .i64 (if g.failed then 13 else 0)) ∧ w' = w := by
  have c3 := h.c3
  clear h
  unfold lgPtr
  generalize g.failed = q at *
  cases q with
  | true =>
    go_enter Tryz.func33, Tryz.ntmps33
    go_wp2
    go_ret
    exact ⟨rfl, rfl⟩
  | false =>
    go_enter Tryz.func33, Tryz.ntmps33
    go_wp2
    go_ret
    exact ⟨rfl, rfl⟩

/-- What Read answers. -/
def lgErr (g : LG) (i : Int) : Int := if i < 0 ∨ (g.recs.length : Int) ≤ i then 10 else 0

set_option maxRecDepth 100000 in
theorem rl_Read_no (h : IsLog X w lb fb B g) (i : Int) (hi : i < 0 ∨ (g.recs.length : Int) ≤ i) :
    Calls Tryz.prog 18 #[lgPtr lb, .int .i64 i] w fun e w' => e = .returned (.tuple #[.slice none 0 0, .int .i64 10]) ∧ w' = w := by
  obtain ⟨v1, e1, r1⟩ := h.c1
  obtain ⟨a, c, rfl, _⟩ := rs_get r1
  clear h r1
  unfold lgPtr
  by_cases h1 : i < 0
  · have g1 : decide (i < 0) = true := by simpa using h1
    go_enter Tryz.func18, Tryz.ntmps18
    go_wp2
    go_ret2
    exact ⟨rfl, rfl⟩
  · have g1 : decide (i < 0) = false := by simpa using h1
    have h2 : (g.recs.length : Int) ≤ i := by omega
    have g2 : decide ((g.recs.length : Int) ≤ i) = true := by simpa using h2
    go_enter Tryz.func18, Tryz.ntmps18
    go_wp2
    go_ret2
    exact ⟨rfl, rfl⟩

set_option maxRecDepth 100000 in
theorem rl_Read (h : IsLog X w lb fb B g) (i : Nat) (r : List UInt8) (hr : g.recs[i]? = some r) (hl : r.length ≤ 900000000) :
    Calls Tryz.prog 18 #[lgPtr lb, .int .i64 (i : Int)] w fun e w' => ∃ v, e = .returned (.tuple #[v, .int .i64 0]) ∧ Row w' w.heap.size v r ∧ Below w.heap.size w w' := by
  obtain ⟨v1, e1, r1⟩ := h.c1
  have hil := (List.getElem?_eq_some_iff.1 hr).1
  obtain ⟨a, c, rfl, _, hm, hget⟩ := rs_get r1
  obtain ⟨rg, off, u, rfl, _, _, hc, hu⟩ := hget i r hr
  have HU := Lib.hid (by_Clone u r w (Dat.of_rd hu) hl)
  have i0 : (0 : Int) ≤ (i : Int) := by omega
  have i1 : (i : Int) < (g.recs.length : Int) := by omega
  have g1 : decide ((i : Int) < 0) = false := by simp
  have g2 : decide ((g.recs.length : Int) ≤ (i : Int)) = false := by simp; omega
  clear h r1 hget hu hr
  unfold lgPtr
  go_enter Tryz.func18, Tryz.ntmps18
  go_wp2_with fail
  refine HU.out.mono ?_
  rintro e w1 ⟨v, rfl, h1, hb1⟩
  have H1 := Lib.hid (And.intro h1 hb1)
  clear h1 hb1
  go_wp2
  go_ret2
  exact ⟨_, rfl, H1.out.1, H1.out.2⟩
end
end Go.Proofs.YtngddhoolijimaaGreatDoor
namespace Go.Proofs.YtngddhoolijimaaGreatDoor
open Go.RowKit
set_option linter.unusedVariables false
set_option linter.unusedSimpArgs false

theorem row_heap {w : World} {base g n : Nat} {l : List UInt8} (hg : w.heap[g]? = some (.cells (pc l).toArray 5 (0, 0))) (hb : base ≤ g) (hn : n = l.length) (hm : l.length ≤ 1000000000) : Row w base (.slice (some ⟨g, 0, none⟩) n n) l := by
  subst hn
  exact ⟨by rw [pc_len, Nat.mul_one], .inr ⟨g, l.length, (pc l).toArray, rfl, hb, hg, Nat.le_refl _, by unfold maxLen; omega, by simp [pc_len], by rw [Nat.mul_one]; exact List.take_of_length_le (by rw [pc_len]; exact Nat.le_refl _)⟩⟩

/-- What make has laid. -/
theorem heap_made {w w' : World} {base n : Nat} (h : w'.ownsRow base 5 1 (.slice (some ⟨w.heap.size, 0, none⟩) n n) n (madeCells #[Value.int .u8 0] n).toList) : w'.heap[w.heap.size]? = some (.cells (pc (List.replicate n 0)).toArray 5 (0, 0)) := by
  have hm : (madeCells #[Value.int .u8 0] n).toList = pc (List.replicate n 0) := by
    have := made_one (.int .u8 0) n
    unfold pc
    rw [List.map_replicate]
    exact this
  rw [hm] at h
  rcases h.2 with ⟨e, _⟩ | ⟨g, cap, cur, e, _, hc, _, _, hs, ht⟩
  · cases e
  · simp only [Value.slice.injEq, Option.some.injEq, Addr.mk.injEq, and_true, true_and] at e
    obtain ⟨rfl, rfl⟩ := e
    have : cur = (pc (List.replicate n 0)).toArray := by
      apply Array.ext'
      rw [← ht]
      show cur.toList = List.take (n * 1) cur.toList
      rw [List.take_of_length_le (by rw [Array.length_toList, hs]; exact Nat.le_refl _)]
    rw [hc, this]

theorem splice_pad {m : Nat} {b : List UInt8} (h : b.length ≤ m) : splice (pc (List.replicate m 0)) 0 (pc b) = pc (padTo m b) := by
  unfold splice padTo
  rw [List.take_zero, List.nil_append, Nat.zero_add, pc_len, pc_append, ← pc_drop, List.drop_replicate]

theorem two_at' {xs : List Value} {j : Nat} {a b : Value} (h1 : xs[j * 2]? = some a) (h2 : xs[j * 2 + 1]? = some b) : (xs.drop (j * 2)).take 2 = [a, b] := by
  have l2 := (List.getElem?_eq_some_iff.1 h2).1
  have l1 := (List.getElem?_eq_some_iff.1 h1).1
  rw [List.drop_eq_getElem_cons l1, List.drop_eq_getElem_cons l2, List.take_succ_cons, List.take_succ_cons, List.take_zero, (List.getElem?_eq_some_iff.1 h1).2, (List.getElem?_eq_some_iff.1 h2).2]

/-- Writes of a call's own; their data lies in F. -/
def Wrs (w : World) (base : Nat) (F : Nat → Prop) (v : Value) (l : List (Int × List UInt8)) : Prop :=
  ∃ xs, w.ownsRow base 82 2 v l.length xs ∧ ∀ (j : Nat) (x : Int × List UInt8), l[j]? = some x → ∃ u, xs[j * 2]? = some (.int .i64 x.1) ∧ xs[j * 2 + 1]? = some u ∧ rBy.rd w F [u] x.2 ∧ (Lit.int .i64 x.1).wf = true

section
variable {w w' : World} {base : Nat} {v : Value} {l : List (Int × List UInt8)} {F : Nat → Prop}

theorem Wrs.nil (w : World) (base : Nat) (F : Nat → Prop) : Wrs w base F (.slice none 0 0) [] := ⟨[], World.ownsRow_nil _ _ _ _, fun j p h => by simp at h⟩
theorem Wrs.keep (h : Wrs w base F v l) (hb : Below w.heap.size w w') : Wrs w' base F v l := by
  obtain ⟨xs, h1, h2⟩ := h
  exact ⟨xs, own_at' h1 hb, fun j p hp => by obtain ⟨u, e1, e2, hu, hw⟩ := h2 j p hp; exact ⟨u, e1, e2, rBy.keep (fun b _ hl => hb.block b hl) hb.size hu, hw⟩⟩

theorem Wrs.rd {G : Nat → Prop} (h : Wrs w base F v l) (hG : ∀ b, base ≤ b → b < w.heap.size → G b) (hF : ∀ b, F b → b < w.heap.size → G b) : (rSlice rPW).rd w G [v] l := by
  obtain ⟨xs, h1, h2⟩ := h
  refine rd_own (R := rPW) h1 ⟨h1.1, rfl, fun i x hx => ?_⟩ hG
  obtain ⟨u, e1, e2, hu, hw⟩ := h2 i x hx
  rw [show rPW.size = 2 from rfl, two_at' e1 e2]
  exact ⟨[.int .i64 x.1], [u], rfl, ⟨rfl, hw⟩, (by_shrink hF hu).1⟩

/-- append of a write. -/
theorem wpList_wr {ops : Array Oper} {rest : List Oper} {o : Oper} {a : Act} {Q : Exit → Act → World → Prop} (hgd : o.guard = none) (s x : Operand)
    (ho : o.op = Op.call { callee := Callee.builtin Builtin.append, args := #[s, x], argTypes := #[80, 80] })
    (hs : a.eval s = v) (hown : Wrs w base F v l) (k : Int) (hk : (Lit.int .i64 k).wf = true) (u : Value) (hone : u.oneCell' = true) (p : List UInt8) (g : Nat) (hx : a.eval x = .slice (some ⟨g, 0, none⟩) 1 1) (T : TypeId) (fr : Nat × Nat) (hg : w.heap[g]? = some (.cells #[.int .i64 k, u] T fr)) (hp : rBy.rd w F [u] p)
    (hF : ∀ b, F b → some b ≠ v.ownBlock) (hl : l.length ≤ 1000000) (hbase : base ≤ w.heap.size)
    (h : ∀ v' w', Wrs w' base F v' (l ++ [(k, p)]) → w.grownBy w' v.ownBlock → Below base w w' → wpList Tryz.prog ops Q rest (a.put o.dst v') w') : wpList Tryz.prog ops Q (o :: rest) a w := by
  obtain ⟨i0, hi0, hz0, hz1, hz2⟩ := info_parts pw_info
  obtain ⟨xs, h1, h2⟩ := hown
  have hgl := (Array.getElem?_eq_some_iff.1 hg).1
  have hsl : Sl w 2 (.slice (some ⟨g, 0, none⟩) 1 1) 1 [.int .i64 k, u] := ⟨rfl, .inr ⟨g, 0, 1, rfl, Nat.le_refl _, hgl, fun j y hy => by
    rw [cell_of_row w g _ #[.int .i64 k, u] T fr hg, Nat.zero_add, ← hy]; simp⟩⟩
  refine wpList_append_sl hgd s x 80 ho base 82 i0 _ 2 32 Tryz.underlying80 hi0 hz0 hz1 hz2 rfl (by decide) v l.length xs hs h1 _ 1 [.int .i64 k, u] hx hsl (fun n c e => by cases e) (fun y hy => by
    rcases List.mem_cons.1 hy with rfl | hy
    · rfl
    · rw [List.mem_singleton.1 hy]; exact hone) (by unfold maxLen; omega) (by omega) hbase ?_
  intro v' w' k1 k2 k3
  have kp : ∀ y q, rBy.rd w F [y] q → rBy.rd w' F [y] q := fun y q hq => rBy.keep (fun b hb hl => k2.block b hl (hF b hb)) k2.size hq
  refine h v' w' ⟨xs ++ [.int .i64 k, u], by rw [List.length_append]; exact k1, fun j q hq => ?_⟩ k2 k3
  have hxl : xs.length = l.length * 2 := h1.1
  by_cases hj : j < l.length
  · rw [List.getElem?_append_left hj] at hq
    obtain ⟨y, e1, e2, hy, hw⟩ := h2 j q hq
    exact ⟨y, by rw [List.getElem?_append_left (by omega)]; exact e1, by rw [List.getElem?_append_left (by omega)]; exact e2, kp y _ hy, hw⟩
  · have hjl := (List.getElem?_eq_some_iff.1 hq).1
    rw [List.length_append, List.length_singleton] at hjl
    obtain rfl : j = l.length := by omega
    rw [List.getElem?_append_right (Nat.le_refl _), Nat.sub_self] at hq
    obtain rfl : (k, p) = q := by simpa using hq
    exact ⟨u, by rw [List.getElem?_append_right (by omega), hxl, Nat.sub_self]; rfl, by rw [List.getElem?_append_right (by omega), hxl, show l.length * 2 + 1 - l.length * 2 = 1 by omega]; rfl, kp u p hp, hk⟩
end

/-- What store makes of a log. -/
def lgNew (g : LG) (L : List (List UInt8)) : List UInt8 := padTo g.img.length (encs L)
def lgWrs (g : LG) (n : Nat) (L : List (List UInt8)) : List (Int × List UInt8) := diffs g.img (lgNew g L) n
def lgStore (g : LG) (f : PF) (d : DK) (L : List (List UInt8)) : LG × PF × DK × Int :=
  if g.img.length < (encs L).length then (g, f, d, 12)
  else if (pfWrite f d (lgWrs g f.n L)).2.2 = 0 then (⟨L, lgNew g L, g.failed⟩, (pfWrite f d (lgWrs g f.n L)).1, (pfWrite f d (lgWrs g f.n L)).2.1, 0)
  else ({ g with failed := decide ((pfWrite f d (lgWrs g f.n L)).2.2 = 13) }, (pfWrite f d (lgWrs g f.n L)).1, (pfWrite f d (lgWrs g f.n L)).2.1, (pfWrite f d (lgWrs g f.n L)).2.2)

/-- What a call of a log comes to. -/
def LTurns (X : Nat → Prop) (lb fb : Nat) (B : DB) (w w' : World) (g' : LG) (f' : PF) (d' : DK) : Prop := IsLog X w' lb fb B g' ∧ IsFile w' fb B f' ∧ IsDisk w' B d' ∧ Chg (LT B fb lb) w w'

end Go.Proofs.YtngddhoolijimaaGreatDoor
namespace Go.Proofs.YtngddhoolijimaaGreatDoor
open Go.RowKit
set_option linter.unusedVariables false
set_option linter.unusedSimpArgs false

theorem dat_addr {w : World} {sa : Option Addr} {n c : Nat} {l : List UInt8} (h : Dat w (.slice sa n c) l) (hp : 0 < (pc l).length) : ∃ ad, sa = some ad ∧ ∀ j v, (pc l)[j]? = some v → w.cell? (ad.add j) = some v := by
  rw [pc_len] at hp
  rcases h.1.2 with ⟨h0, _⟩ | ⟨g, off, c', e, _, hg, hc⟩
  · omega
  · cases e
    refine ⟨⟨g, off, none⟩, rfl, fun j v hv => ?_⟩
    have e : (⟨g, off, none⟩ : Addr).add j = ⟨g, off + j, none⟩ := by unfold Addr.add; split <;> simp_all
    rw [e]; exact hc j v hv

theorem chunk_cut (b : List UInt8) (i p q : Nat) (hp : p = 100 * i) (hq : q = p + 100) : (b.take q).drop p = chunk b i := by
  subst hq; subst hp
  unfold chunk
  rw [List.drop_take, show 100 * i + 100 - 100 * i = 100 by omega]

theorem cut_block {g n p q : Nat} (hpq : p < q) (hq : q ≤ n) : (∀ W, Sem.run Tryz.prog (Instr.sliceAt 51 (.slice (some ⟨g, 0, none⟩) n n) (some (.int .i64 (p : Int))) (some (.int .i64 (q : Int))) none) W = .ok (.slice (some ⟨g, p, none⟩) (q - p) (n - p)) W) ∧
    (∀ W, Sem.run Tryz.prog (Instr.slice 51 (.slice (some ⟨g, 0, none⟩) n n) (some (.int .i64 (p : Int))) (some (.int .i64 (q : Int))) none) W = .ok (.slice (some ⟨g, p, none⟩) (q - p) (n - p)) W) := by
  have h2 : ∀ W, Sem.run Tryz.prog (Instr.slice 51 (.slice (some ⟨g, 0, none⟩) n n) (some (.int .i64 (p : Int))) (some (.int .i64 (q : Int))) none) W = .ok (.slice (some ⟨g, p, none⟩) (q - p) (n - p)) W := by
    intro W
    rw [run_slice_lh W 51 (some ⟨g, 0, none⟩) n n under_bytes .i64 .i64 (p : Int) (q : Int) (by omega) (by omega) (by omega), size_byte]
    simp only [Result.andThen, sliced, Int.toNat_natCast]
    rw [if_neg (by omega)]
    simp [Addr.add_mid]
  exact ⟨fun W => (run_sliceAt_slice W 51 _ _ _ _ under_bytes).trans (h2 W), h2⟩

theorem row_chunk {w : World} {base g n p q : Nat} {l : List UInt8} (h : Row w base (.slice (some ⟨g, 0, none⟩) n n) l) (hn : l.length = n) (hpq : p < q) (hq : q ≤ n) (hm : n ≤ 1000000000) : rBy.rd w (fun b => b = g) [.slice (some ⟨g, p, none⟩) (q - p) (n - p)] ((l.take q).drop p) := by
  have hlen : ((l.take q).drop p).length = q - p := by rw [List.length_drop, List.length_take]; omega
  refine ⟨⟨_, q - p, n - p, rfl, hlen.symm, by omega, by unfold maxLen; omega, .inr ⟨g, p, rfl, rfl, ?_, fun i x hx => ?_⟩⟩, fun n c e => by simp at e⟩
  · have := h.dat.le.2.2 (by omega)
    obtain ⟨g', off, e, hg⟩ := this
    cases e; exact hg
  · refine ⟨[.int .u8 (x.toNat : Int)], fun j u hu => ?_, rfl⟩
    match j, hu with
    | 0, hu =>
      obtain rfl : Value.int .u8 (x.toNat : Int) = u := by simpa using hu
      rw [List.getElem?_drop, List.getElem?_take] at hx
      split at hx
      · obtain ⟨g', off, e, _, hc⟩ := data_byte h.dat.1 hx
        cases e
        rw [show p + i * rByte.size + 0 = 0 + (p + i) by show p + i * 1 + 0 = _; omega]
        exact hc
      · cases hx

theorem own_base' {w : World} {base n size : Nat} {e : TypeId} {v : Value} {ys : List Value} (h : w.ownsRow base e size v n ys) : ∀ b, v.ownBlock = some b → base ≤ b := by
  intro b hb
  rcases h.2 with ⟨rfl, _⟩ | ⟨g', cap, cur, rfl, hB, _⟩
  · cases hb
  · simp only [Value.ownBlock, Option.some.injEq] at hb
    omega

section
variable {X : Nat → Prop} {w w' : World} {lb fb : Nat} {B : DB} {g : LG} {f : PF} {d : DK}

theorem lset_ne {k j : Nat} {u : Value} (h : j ≠ k) : (w.setCell ⟨lb, k, none⟩ u).cell? ⟨lb, j, none⟩ = w.cell? ⟨lb, j, none⟩ := World.cell?_setCell_other _ _ _ _ (fun e => h (congrArg Addr.off e).symm)

theorem IsLog.rds (h : IsLog X w lb fb B g) (k : Nat) (u : Value) : Chg (LT B fb lb) w (w.setCell ⟨lb, k, none⟩ u) ∧ (∀ v l, rRs.rd w (LFree X B fb lb) [v] l → rRs.rd (w.setCell ⟨lb, k, none⟩ u) (LFree X B fb lb) [v] l) ∧ (∀ v l, rBy.rd w (LFree X B fb lb) [v] l → rBy.rd (w.setCell ⟨lb, k, none⟩ u) (LFree X B fb lb) [v] l) := by
  have g1 : Chg (fun b => b = lb) w (w.setCell ⟨lb, k, none⟩ u) := Chg.setCell _ _ rfl
  have kp : Kept (LFree X B fb lb) w (w.setCell ⟨lb, k, none⟩ u) := fun b hb hl => g1.block b hl hb.2.2.1
  exact ⟨g1.more (fun b _ e => .inr (.inr e)), fun v l h => rRs.keep kp g1.size h, fun v l h => rBy.keep kp g1.size h⟩

theorem IsLog.setFailed (h : IsLog X w lb fb B g) (b : Bool) : IsLog X (w.setCell ⟨lb, 3, none⟩ (.bool b)) lb fb B { g with failed := b } := by
  obtain ⟨v1, e1, r1⟩ := h.c1
  obtain ⟨v2, e2, r2⟩ := h.c2
  have k := h.rds 3 (.bool b)
  exact ⟨h.nB, h.nf, (lset_ne (by decide)).trans h.c0, ⟨v1, (lset_ne (by decide)).trans e1, k.2.1 _ _ r1⟩, ⟨v2, (lset_ne (by decide)).trans e2, k.2.2 _ _ r2⟩, World.cell?_setCell_same _ _ _ h.c3, fun j => by rw [World.frozen?_setCell]; exact h.fr j⟩

theorem IsLog.setRecs (h : IsLog X w lb fb B g) {v : Value} {L : List (List UInt8)} (hL : rRs.rd w (LFree X B fb lb) [v] L) : IsLog X (w.setCell ⟨lb, 1, none⟩ v) lb fb B { g with recs := L } := by
  obtain ⟨v1, e1, r1⟩ := h.c1
  obtain ⟨v2, e2, r2⟩ := h.c2
  have k := h.rds 1 v
  exact ⟨h.nB, h.nf, (lset_ne (by decide)).trans h.c0, ⟨v, World.cell?_setCell_same _ _ _ e1, k.2.1 _ _ hL⟩, ⟨v2, (lset_ne (by decide)).trans e2, k.2.2 _ _ r2⟩, (lset_ne (by decide)).trans h.c3, fun j => by rw [World.frozen?_setCell]; exact h.fr j⟩

theorem IsLog.setImg (h : IsLog X w lb fb B g) {v : Value} {J : List UInt8} (hJ : rBy.rd w (LFree X B fb lb) [v] J) : IsLog X (w.setCell ⟨lb, 2, none⟩ v) lb fb B { g with img := J } := by
  obtain ⟨v1, e1, r1⟩ := h.c1
  obtain ⟨v2, e2, r2⟩ := h.c2
  have k := h.rds 2 v
  exact ⟨h.nB, h.nf, (lset_ne (by decide)).trans h.c0, ⟨v1, (lset_ne (by decide)).trans e1, k.2.1 _ _ r1⟩, ⟨v, World.cell?_setCell_same _ _ _ e2, k.2.2 _ _ hJ⟩, (lset_ne (by decide)).trans h.c3, fun j => by rw [World.frozen?_setCell]; exact h.fr j⟩

theorem LTurns.set {f' : PF} {d' : DK} {g' g'' : LG} {k : Nat} {u : Value} (h : LTurns X lb fb B w w' g' f' d') (hg : IsLog X (w'.setCell ⟨lb, k, none⟩ u) lb fb B g'') : LTurns X lb fb B w (w'.setCell ⟨lb, k, none⟩ u) g'' f' d' := by
  have g1 : Chg (fun b => b = lb) w' (w'.setCell ⟨lb, k, none⟩ u) := Chg.setCell _ _ rfl
  exact ⟨hg, h.2.1.keep g1 (fun e => h.1.nf e.symm), h.2.2.1.keep g1 (fun b hb e => h.1.nB (e ▸ hb)), h.2.2.2.trans (g1.more (fun b _ e => .inr (.inr e)))⟩

set_option maxRecDepth 100000 in
set_option maxHeartbeats 8000000 in
theorem rl_store (hX : ∀ b, X b → b < w.heap.size) (h : IsLog X w lb fb B g) (hf : IsFile w fb B f) (hd : IsDisk w B d) (lv : Value) (L : List (List UInt8)) (hL : rRs.rd w (LFree X B fb lb) [lv] L) (hi : g.img.length = 100 * f.n) (hs : ∀ r ∈ L, r.length ≤ 1048576) :
    Calls Tryz.prog 35 #[lgPtr lb, lv] w fun e w' => e = .returned (.int .i64 (lgStore g f d L).2.2.2) ∧ LTurns X lb fb B w w' (lgStore g f d L).1 (lgStore g f d L).2.1 (lgStore g f d L).2.2.1 := by
  obtain ⟨la, lc, rfl, _, hlm, hget⟩ := rs_get hL
  have hfew := hf.few
  have HXX := Lib.hid hX
  have HLG := Lib.hid (And.intro h (And.intro hf hd))
  have HLL := Lib.hid hL
  have HGET := Lib.hid hget
  have HS := Lib.hid hs
  obtain ⟨v2, c2, r2⟩ := h.c2
  obtain ⟨ia, ic, rfl⟩ := (Dat.of_rd r2).len
  have hic := (Dat.of_rd r2).le.2.1
  have HR2 := Lib.hid r2
  have c0 := h.c0
  obtain ⟨m, hm⟩ : ∃ m, m = g.img.length := ⟨_, rfl⟩
  rw [← hm] at hi c2 hic
  have hmb : 0 ≤ (m : Int) ∧ (m : Int) ≤ 409600 := by omega
  obtain ⟨R, hR⟩ : ∃ R, R = lgStore g f d L := ⟨_, rfl⟩
  rw [← hR]
  have HR := Lib.hid (show R = if m < (encs L).length then (g, f, d, 12) else if (pfWrite f d (lgWrs g f.n L)).2.2 = 0 then (⟨L, lgNew g L, g.failed⟩, (pfWrite f d (lgWrs g f.n L)).1, (pfWrite f d (lgWrs g f.n L)).2.1, 0) else ({ g with failed := decide ((pfWrite f d (lgWrs g f.n L)).2.2 = 13) }, (pfWrite f d (lgWrs g f.n L)).1, (pfWrite f d (lgWrs g f.n L)).2.1, (pfWrite f d (lgWrs g f.n L)).2.2) from by rw [hR, hm]; rfl)
  have HI := Lib.hid hi
  have HM := Lib.hid hm
  have hll : 0 ≤ (L.length : Int) := by omega
  have hlm2 : (L.length : Int) ≤ 9223372036854775807 := by unfold maxLen at hlm; omega
  clear h hf hd hL hget hs r2 hR hi hm hlm hX
  unfold lgPtr
  go_enter Tryz.func35, Tryz.ntmps35
  go_wp2
  go_loopg [5, 15] (L.length) (fun gk t5 t15 wr => ∃ k : Nat, k ≤ L.length ∧ gk + k = L.length ∧ t15 = .int .i64 (k : Int) ∧ t5 = .int .i64 ((encs (L.take k)).length : Int) ∧ (encs (L.take k)).length ≤ m ∧ w = wr)
  case atStart => exact ⟨0, by omega, by omega, rfl, rfl, by simp [encs_nil], rfl⟩
  case round =>
    obtain ⟨k, hk, hgk, rfl, rfl, hsm, rfl⟩ := hrel
    have HGK := Lib.hid hgk
    clear hgk
    by_cases hin : k < L.length
    · have hd1 : decide ((k : Int) < (L.length : Int)) = true := by simp; omega
      have i0 : (0 : Int) ≤ (k : Int) := by omega
      have i1 : (k : Int) < (L.length : Int) := by omega
      obtain ⟨x, hx⟩ : ∃ x, L[k]? = some x := ⟨_, List.getElem?_eq_getElem hin⟩
      obtain ⟨rg, off, u, rfl, _, hgl, hc, hu⟩ := HGET.out k x hx
      obtain ⟨ua, uc, rfl⟩ := (Dat.of_rd hu).len
      have hxl := HS.out x (mem_of_get hx)
      obtain ⟨s, hs⟩ : ∃ s, s = (encs (L.take k)).length := ⟨_, rfl⟩
      obtain ⟨s2, hs2⟩ : ∃ s2, s2 = (encs (L.take (k + 1))).length := ⟨_, rfl⟩
      have hss : s2 = s + (8 + x.length) := by rw [hs2, hs, encs_snoc hx, List.length_append, recB_len]
      rw [← hs] at hsm ⊢
      have hsum : (s : Int) + (8 + (x.length : Int)) = (s2 : Int) := by omega
      have hx0 : 0 ≤ (x.length : Int) ∧ (x.length : Int) ≤ 1048576 := by omega
      have hs0 : 0 ≤ (s : Int) ∧ (s : Int) ≤ 409600 := by omega
      have hs20 : 0 ≤ (s2 : Int) ∧ (s2 : Int) ≤ 2000000 := by omega
      have HS2 := Lib.hid hs2
      clear hu hx hs hs2 hss hxl
      by_cases hover : m < s2
      · have g1 : decide ((m : Int) < (s2 : Int)) = true := by simp; omega
        have g1' : (m : Int) < (s2 : Int) := by omega
        have HR3 := Lib.hid (show R = (g, f, d, 12) from by
          have := encs_take_le L (k + 1)
          rw [HR.out, if_pos (by rw [← HS2.out] at this; omega)])
        have HFIN := Lib.hid (show LTurns X lb fb B w w g f d from ⟨HLG.out.1, HLG.out.2.1, HLG.out.2.2, Chg.refl _ _⟩)
        go_wp2
        go_ret
        exact ⟨by rw [HR3.out]; rfl, by rw [HR3.out]; exact HFIN.out⟩
      · have g1 : decide ((m : Int) < (s2 : Int)) = false := by simp; omega
        have g1' : ¬ (m : Int) < (s2 : Int) := by omega
        go_wp2
        go_roundg (gk - 1)
        case rel => exact ⟨k + 1, by omega, by have := HGK.out; omega, by go_num, by rw [← HS2.out], by rw [← HS2.out]; omega, rfl⟩
        case measure => have := HGK.out; omega
    · have hd1 : decide ((k : Int) < (L.length : Int)) = false := by simp; omega
      obtain rfl : k = L.length := by omega
      rw [List.take_length] at hsm ⊢
      have HSM := Lib.hid hsm
      have HR3 := Lib.hid (show R = if (pfWrite f d (lgWrs g f.n L)).2.2 = 0 then (⟨L, lgNew g L, g.failed⟩, (pfWrite f d (lgWrs g f.n L)).1, (pfWrite f d (lgWrs g f.n L)).2.1, 0) else ({ g with failed := decide ((pfWrite f d (lgWrs g f.n L)).2.2 = 13) }, (pfWrite f d (lgWrs g f.n L)).1, (pfWrite f d (lgWrs g f.n L)).2.1, (pfWrite f d (lgWrs g f.n L)).2.2) from by rw [HR.out, if_neg (by omega)])
      clear HR hsm hin
      generalize gk = GK at *
      obtain ⟨i0', hi0', hz0', hz1', hz2'⟩ := info_parts byte_info2
      go_wp2_with (at_make; refine wpList_make_full w rfl _ _ 51 rfl w.heap.size 5 i0' (.int .u8 0) 1 Tryz.underlying51 hi0' hz0' hz1' .i64 .i64 (m : Int) (m : Int) m rfl rfl rfl rfl (by rw [hz2']; omega) (by unfold maxLen; omega) (Nat.le_refl _) ?_)
      intro w1 hown hgr
      have HM1 := Lib.hid (heap_made hown)
      have HB1 := Lib.hid (below_grown hgr)
      have HL1 := Lib.hid (rRs.keep (fun b _ hl => HB1.out.block b hl) HB1.out.size HLL.out)
      clear hown hgr
      go_wp2_with fail
      refine (rl_Encode _ L w1 HL1.out ⟨HS.out, by have := HSM.out; omega⟩).mono ?_
      rintro e w2 ⟨v2, rfl, hr2, hb2⟩
      obtain ⟨sa, sc, rfl⟩ := hr2.dat.len
      have HE2 := Lib.hid hr2.dat
      have HB2 := Lib.hid (HB1.out.trans (hb2.mono HB1.out.size))
      have hwl : w.heap.size < w1.heap.size := (Array.getElem?_eq_some_iff.1 HM1.out).1
      have HM2 := Lib.hid ((hb2.block _ hwl).trans HM1.out)
      clear hr2 hb2 hwl
      go_wp2_with (refine wpList_copy_splice (by rfl) (.tmp 38) (.tmp 40) 51 51 (by rfl) 5 Tryz.underlying51 byte_size1 (some ⟨w.heap.size, 0, none⟩) sa m m (encs L).length sc (by rfl) (by rfl) w.heap.size 0 (pc (List.replicate m 0)) 5 HM2.out (pc (encs L)) (by rw [pc_len]; have := HSM.out; show _ = min _ _; omega) (fun hp => ⟨rfl, dat_addr HE2.out hp⟩) (by rw [pc_len, pc_len, List.length_replicate]; have := HSM.out; omega) (pc_one _) w.heap.size w HB2.out (Nat.le_refl _) ?_)
      intro w3 hrow3 hb3
      have HJL := Lib.hid (show (lgNew g L).length = m from by unfold lgNew; rw [padTo_len (by rw [← HM.out]; exact HSM.out), HM.out])
      have HJ3 := Lib.hid (show Row w3 w.heap.size (.slice (some ⟨w.heap.size, 0, none⟩) m m) (lgNew g L) from by
        have := hrow3.out
        rw [splice_pad HSM.out] at this
        refine row_heap ?_ (Nat.le_refl _) HJL.out.symm (by rw [HJL.out]; omega)
        unfold lgNew
        rw [← HM.out]; exact this)
      have HIBL := Lib.hid (show w.heap.size < w3.heap.size from (Array.getElem?_eq_some_iff.1 hrow3.out).1)
      have HB3 := Lib.hid hb3
      have HP := Lib.hid (show lgWrs g f.n L = diffs g.img (lgNew g L) f.n from rfl)
      obtain ⟨J, hJ⟩ : ∃ J, J = lgNew g L := ⟨_, rfl⟩
      rw [← hJ] at HJL HJ3 HP HR3
      obtain ⟨LW, hLW⟩ : ∃ LW, LW = lgWrs g f.n L := ⟨_, rfl⟩
      rw [← hLW] at HP HR3
      clear hrow3 hb3 hJ hLW HM2 HE2 HM1 HL1
      obtain ⟨n, hn⟩ : ∃ n, n = f.n := ⟨_, rfl⟩
      rw [← hn] at HP HI
      have HN := Lib.hid hn
      clear hn
      obtain ⟨ib, hib⟩ : ∃ ib, ib = w.heap.size := ⟨_, rfl⟩
      rw [← hib] at HJ3 HIBL ⊢
      have HIB := Lib.hid (And.intro hib (HB1.out.size))
      clear hib
      go_wp2
      go_loopg [9, 10] n (fun gk t9 t10 wr => ∃ (i : Nat) (u : Value), u = t9 ∧ i ≤ n ∧ gk + i = n ∧ t10 = .int .i64 ((100 * i : Nat) : Int) ∧ Wrs wr w3.heap.size (fun b => b = ib) u (diffs g.img J i) ∧ Below w3.heap.size w3 wr)
      case atStart => exact ⟨0, _, rfl, by omega, by omega, rfl, by rw [diffs_zero]; exact Wrs.nil _ _ _, Below.refl _ _⟩
      case round =>
        obtain ⟨i, u, rfl, hin, hgk, rfl, hW, hB⟩ := hrel
        have HGK := Lib.hid hgk
        have HW := Lib.hid hW
        have HB := Lib.hid hB
        have HBW := Lib.hid (show Below w.heap.size w wr from HB3.out.trans (hB.mono HB3.out.size))
        have c0' := (HBW.out.cell (p := ⟨lb, 0, none⟩) HLG.out.1.lt).trans c0
        have c2' := (HBW.out.cell (p := ⟨lb, 2, none⟩) HLG.out.1.lt).trans c2
        clear hgk hW hB
        by_cases hlt : i < n
        · obtain ⟨p, hp⟩ : ∃ p, p = 100 * i := ⟨_, rfl⟩
          obtain ⟨q, hq⟩ : ∃ q, q = p + 100 := ⟨_, rfl⟩
          rw [← hp]
          have hpq : p < q := by omega
          have hqm : q ≤ m := by have := HI.out; omega
          have hd1 : decide ((p : Int) < (m : Int)) = true := by simp; omega
          have hd1' : (p : Int) < (m : Int) := by omega
          have hsum : (p : Int) + 100 = (q : Int) := by omega
          have hq0 : 0 ≤ (q : Int) ∧ (q : Int) ≤ 409600 := by omega
          have hp0 : 0 ≤ (p : Int) ∧ (p : Int) ≤ 409600 := by omega
          have hii0 : 0 ≤ (i : Int) ∧ (i : Int) ≤ 4096 := by have := HN.out; omega
          have htd : Int.tdiv (p : Int) 100 = (i : Int) := by rw [Int.tdiv_eq_ediv_of_nonneg (by omega)]; omega
          obtain ⟨k1, k2⟩ := cut_block (g := ib) (n := m) hpq hqm
          obtain ⟨pa, pn, pc', p1, p2, -, p3⟩ := cutz_lh (z1 := (p : Int)) (z2 := (q : Int)) (a := ia) (n := m) (c := ic) (K := p) (M := q) rfl rfl (by omega) hqm hic
          have HD1 := Lib.hid (show rBy.rd wr (fun b => b = ib) [.slice (some ⟨ib, p, none⟩) (q - p) (m - p)] (chunk J i) from by
            have := row_chunk (HJ3.out.keep HB.out) HJL.out hpq hqm (by omega)
            rwa [chunk_cut J i p q hp hq] at this)
          have HD2 := Lib.hid (show Dat wr (.slice pa pn pc') (chunk g.img i) from by
            have := p3 wr g.img HM.out.symm (by rw [HM.out]; exact (Dat.of_rd HR2.out).keep HBW.out)
            rwa [chunk_cut g.img i p q hp hq] at this)
          have HPQ := Lib.hid (And.intro hp hq)
          obtain ⟨eb, heb⟩ : ∃ eb, eb = decide (chunk J i = chunk g.img i) := ⟨_, rfl⟩
          have HEB := Lib.hid heb
          clear p3 hp hq heb
          go_wp2_with fail
          refine (bytes_equal_q HEB (Dat.of_rd HD1.out).1 HD2.out.1).mono ?_
          rintro e w4 ⟨rfl, hb4⟩
          have HB4 := Lib.hid hb4
          have HW4 := Lib.hid (HW.out.keep hb4)
          have HD4 := Lib.hid (show rBy.rd w4 (fun b => b = ib) [.slice (some ⟨ib, p, none⟩) (q - p) (m - p)] (chunk J i) from rBy.keep (fun b _ hl => hb4.block b hl) hb4.size HD1.out)
          clear hb4
          cases eb with
          | true =>
            have HX := Lib.hid (diffs_same (of_decide_eq_true HEB.out.symm))
            go_wp2
            go_roundg (gk - 1)
            case rel => exact ⟨i + 1, _, rfl, by omega, by have := HGK.out; omega, by rw [show 100 * (i + 1) = q by have := HPQ.out; omega], by rw [HX.out]; exact HW4.out, HB.out.trans (HB4.out.mono HB.out.size)⟩
            case measure => have := HGK.out; omega
          | false =>
            have HX := Lib.hid (diffs_new (of_decide_eq_false HEB.out.symm))
            have HBA := Lib.hid (show Below w4.heap.size w4 (w4.alloc (.cells #[.int .i64 (i : Int), .slice (some ⟨ib, p, none⟩) (q - p) (m - p)] 82)) from (Below.refl _ _).alloc (Nat.le_refl _) _)
            have HOB := Lib.hid (show ∀ b, b = ib → some b ≠ u.ownBlock from fun b hb e => by
              obtain ⟨xs, h1, _⟩ := HW4.out
              have h2 := own_base' h1 b e.symm
              have := HIBL.out
              omega)
            go_wp2_with (at_builtin; refine wpList_wr rfl _ _ rfl rfl (HW4.out.keep HBA.out) (i : Int) (WalkArith.wf_i64 (by omega)) (.slice (some ⟨ib, p, none⟩) (q - p) (m - p)) rfl (chunk J i) w4.heap.size rfl 82 (0, 0) (heap_alloc_new w4 _) (rBy.keep (fun b _ hl => HBA.out.block b hl) HBA.out.size HD4.out) (fun b hb => HOB.out b hb) (by have := diffs_len g.img J i; omega) (by have := HB.out.size; have := HB4.out.size; have := HBA.out.size; omega) ?_)
            intro v5 w5 h5 hg5 hb5
            have H5 := Lib.hid h5
            have HB5 := Lib.hid (((HB.out.trans (HB4.out.mono HB.out.size)).trans (HBA.out.mono (Nat.le_trans HB.out.size HB4.out.size))).trans hb5)
            clear h5 hg5 hb5
            go_wp2
            go_roundg (gk - 1)
            case rel => exact ⟨i + 1, _, rfl, by omega, by have := HGK.out; omega, by rw [show 100 * (i + 1) = q by have := HPQ.out; omega], by rw [HX.out]; exact H5.out, HB5.out⟩
            case measure => have := HGK.out; omega
        · have hie : i = n := by omega
          subst hie
          have hd1 : decide (((100 * i : Nat) : Int) < (m : Int)) = false := by have := HI.out; simp; omega
          have hd1' : ¬ ((100 * i : Nat) : Int) < (m : Int) := by have := HI.out; omega
          have HNI := HN.out
          have HLW := Lib.hid (show Wrs wr w3.heap.size (fun b => b = ib) u LW from by rw [HP.out]; exact HW.out)
          have HF4 := Lib.hid (HLG.out.2.1.keep (Chg.of_below HBW.out (F := fun _ => False)) (fun h => h))
          have HD4 := Lib.hid (HLG.out.2.2.below HBW.out)
          have HL4 := Lib.hid (HLG.out.1.below HBW.out)
          have HBL := Lib.hid (show ∀ b, B.has b ∨ b = fb → b < w.heap.size from fun b hb => by
            have h1 := HLG.out.2.2.lt
            have h2 := HLG.out.2.1.lt
            rcases hb with (e | e | e) | e <;> (subst e; omega))
          have HRW := Lib.hid (show (rSlice rPW).rd wr (Aside fb B wr) [u] LW from HLW.out.rd
            (fun b hb hl => ⟨fun e => by have := HBL.out b (.inl e); have := HB3.out.size; omega, fun e => by have := HBL.out b (.inr e); have := HB3.out.size; omega, hl⟩)
            (fun b hb hl => ⟨fun e => by have := HBL.out b (.inl e); have := HIB.out.1; omega, fun e => by have := HBL.out b (.inr e); have := HIB.out.1; omega, hl⟩))
          have HWL := Lib.hid (show LW.length ≤ 100000 from by rw [HP.out]; have := diffs_len g.img J i; omega)
          have HR4 := Lib.hid (show Row wr ib (.slice (some ⟨ib, 0, none⟩) m m) J from HJ3.out.keep HB.out)
          clear hd1 HNI
          have hd1 : decide (((100 * i : Nat) : Int) < (m : Int)) = false := by simpa using hd1'
          go_wp2_with fail
          refine (pf_Write HF4.out HD4.out u LW HRW.out HWL.out).mono ?_
          rintro e w5 ⟨rfl, hT⟩
          obtain ⟨C, hC⟩ : ∃ C, C = pfWrite f d LW := ⟨_, rfl⟩
          rw [← hC] at hT HR3 ⊢
          have HT := Lib.hid (show LTurns X lb fb B w w5 g C.1 C.2.1 from ⟨HL4.out.turns hT, hT.1, hT.2.1, (Chg.of_below HBW.out).trans (hT.2.2.more (fun b _ e => e.elim .inl (fun e => .inr (.inl e))))⟩)
          have HJ5 := Lib.hid (show rBy.rd w5 (LFree X B fb lb) [.slice (some ⟨ib, 0, none⟩) m m] J from
            rBy.keep (fun b hb hl => hT.2.2.block b hl (fun e => e.elim hb.1 hb.2.1)) hT.2.2.size (HR4.out.rd (fun b hb hl => ⟨fun e => by have := HBL.out b (.inl e); have := HIB.out.1; omega, fun e => by have := HBL.out b (.inr e); have := HIB.out.1; omega, fun e => by have := HLG.out.1.lt; have := HIB.out.1; omega, fun e => by have := HXX.out b e; have := HIB.out.1; omega⟩)))
          have HL5 := Lib.hid (show rRs.rd w5 (LFree X B fb lb) [.slice la L.length lc] L from
            rRs.keep (fun b hb hl => hT.2.2.block b hl (fun e => e.elim hb.1 hb.2.1)) hT.2.2.size (rRs.keep (fun b _ hl => HBW.out.block b hl) HBW.out.size HLL.out))
          clear hT hC
          obtain ⟨c, hc⟩ : ∃ c, c = C.2.2 := ⟨_, rfl⟩
          rw [← hc] at HR3 ⊢
          clear hc
          obtain ⟨o1, e1, _⟩ := HT.out.1.c1
          obtain ⟨o2, e2, _⟩ := HT.out.1.c2
          have e3 := HT.out.1.c3
          have f1 := HT.out.1.fr 1
          have f2 := HT.out.1.fr 2
          have f3 := HT.out.1.fr 3
          clear c0' c2' hd1 hd1'
          by_cases h0 : c = 0
          · subst h0
            have HR5 := Lib.hid (show R = (⟨L, J, g.failed⟩, C.1, C.2.1, 0) from by rw [HR3.out, if_pos rfl])
            have HFIN := Lib.hid (show LTurns X lb fb B w ((w5.setCell ⟨lb, 1, none⟩ (.slice la L.length lc)).setCell ⟨lb, 2, none⟩ (.slice (some ⟨ib, 0, none⟩) m m)) ⟨L, J, g.failed⟩ C.1 C.2.1 from by
              have s1 := HT.out.set (HT.out.1.setRecs HL5.out)
              exact s1.set (s1.1.setImg ((HT.out.1.rds 1 _).2.2 _ _ HJ5.out)))
            go_wp2
            go_ret
            exact ⟨by rw [HR5.out]; rfl, by rw [HR5.out]; exact HFIN.out⟩
          · have g0 : (c != 0) = true := by simpa using h0
            have HR5 := Lib.hid (show R = ({ g with failed := decide (c = 13) }, C.1, C.2.1, c) from by rw [HR3.out, if_neg h0])
            by_cases h13 : c = 13
            · subst h13
              have HFIN := Lib.hid (HT.out.set (HT.out.1.setFailed true))
              go_wp2
              go_ret
              exact ⟨by rw [HR5.out]; rfl, by rw [HR5.out]; exact HFIN.out⟩
            · have g13 : (c == 13) = false := by simpa using h13
              have HFIN := Lib.hid (HT.out.set (HT.out.1.setFailed false))
              go_wp2
              go_ret
              exact ⟨by rw [HR5.out]; rfl, by rw [HR5.out, decide_eq_false h13]; exact HFIN.out⟩
end
end Go.Proofs.YtngddhoolijimaaGreatDoor
