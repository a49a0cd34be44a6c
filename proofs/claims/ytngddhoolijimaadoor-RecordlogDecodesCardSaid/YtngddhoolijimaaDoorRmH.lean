/-
  Merged: RlT, RlU.
-/
import Derived.Test.YtngddhoolijimaaDoorRmD
namespace Go.Proofs.YtngddhoolijimaaDoor
open Go.RowKit
set_option linter.unusedVariables false
set_option linter.unusedSimpArgs false

theorem first_short {b : List UInt8} (h : b.length < 8) : firstR b = none := by unfold firstR; rw [if_pos h]
theorem first_long {b : List UInt8} (h : 8 ≤ b.length) : firstR b = if wordAt b = 0 ∨ 1048577 < wordAt b then none else if b.length < 7 + wordAt b then none else if sumOf (b.take 4 ++ (b.drop 8).take (wordAt b - 1)) ≠ wordAt (b.drop 4) then none else some ((b.drop 8).take (wordAt b - 1)) := by
  conv => lhs; unfold firstR
  rw [if_neg (by omega)]

set_option maxRecDepth 100000 in
set_option maxHeartbeats 8000000 in
theorem rf_Decode (v : Value) (b : List UInt8) (w : World) (h : Dat w v b) (hl : b.length ≤ 100000000) :
    Calls Tryd.prog 41 #[v] w fun e w' => ∃ v', e = .returned (.tuple #[v', .int .i64 ((dec b).2 : Int)]) ∧ Recs w' w.heap.size v' (dec b).1 ∧ Below w.heap.size w w' := by
  obtain ⟨a, c, rfl⟩ := h.len
  have hlc := h.le.2.1
  have HD := Lib.hid h
  have HL := Lib.hid hl
  have hl0 : 0 ≤ (b.length : Int) ∧ (b.length : Int) ≤ 100000000 := by omega
  obtain ⟨D, hD⟩ : ∃ D, D = dec b := ⟨_, rfl⟩
  rw [← hD]
  have HDD := Lib.hid hD
  clear h hl hD
  go_enter Tryd.func41, Tryd.ntmps41
  go_wp2
  go_loopg [4, 5] (b.length + 1) (fun gk t4 t5 wr => ∃ (k : Nat) (l : List (List UInt8)) (u : Value), u = t4 ∧ k ≤ b.length ∧ gk = b.length + 1 - k ∧ l.length ≤ k ∧ t5 = .int .i64 (k : Int) ∧ dec b = (l ++ (dec (b.drop k)).1, k + (dec (b.drop k)).2) ∧ Recs wr w.heap.size u l ∧ Below w.heap.size w wr)
  case atStart => exact ⟨0, [], _, rfl, by omega, by omega, by simp, rfl, by rw [List.drop_zero]; simp, Recs.nil _ _, Below.refl _ _⟩
  case round =>
    obtain ⟨k, l, u, rfl, hk, hgk, hlk, rfl, hdec, hrec, hB⟩ := hrel
    have HGK := Lib.hid hgk
    have HDE := Lib.hid hdec
    have HR := Lib.hid hrec
    have HB := Lib.hid hB
    have HLK := Lib.hid hlk
    obtain ⟨ua, uc, rfl⟩ := hrec.len
    have hk0 : 0 ≤ (k : Int) ∧ (k : Int) ≤ 100000000 := by omega
    have hkb : (k : Int) ≤ (b.length : Int) := by omega
    have HDL := Lib.hid (show (b.drop k).length = b.length - k from by rw [List.length_drop])
    clear hgk hdec hrec hB hlk
    have stop : firstR (b.drop k) = none → D = (l, k) := fun e => by rw [HDD.out]; exact dec_stop HDE.out e
    have HST := Lib.hid stop
    clear stop
    by_cases h8 : b.length - k < 8
    · have g8 : decide ((8 : Int) ≤ (b.length : Int) - (k : Int)) = false := by simp; omega
      have g8' : ¬ (8 : Int) ≤ (b.length : Int) - (k : Int) := by omega
      have HFIN := Lib.hid (HST.out (first_short (by rw [HDL.out]; exact h8)))
      go_wp2
      go_ret2
      exact ⟨_, by rw [HFIN.out]; rfl, by rw [HFIN.out]; exact HR.out, HB.out⟩
    · have g8 : decide ((8 : Int) ≤ (b.length : Int) - (k : Int)) = true := by simp; omega
      have g8' : (8 : Int) ≤ (b.length : Int) - (k : Int) := by omega
      obtain ⟨sa, sn, sc, s1, s2, -, s3⟩ := cutz_l (z1 := (k : Int)) (a := a) (n := b.length) (c := c) (K := k) rfl hk hlc
      have HC := Lib.hid (s3 wr b rfl (HD.out.keep HB.out))
      have HFL := Lib.hid (first_long (b := b.drop k) (by rw [HDL.out]; omega))
      have HW := Lib.hid (rf_number _ (b.drop k) wr HC.out.1 (by rw [HDL.out]; omega))
      have hwl := wordAt_lt (b.drop k)
      obtain ⟨n, hn⟩ : ∃ n, n = wordAt (b.drop k) := ⟨_, rfl⟩
      rw [← hn] at HFL HW hwl
      clear s3 hn
      have hn0 : 0 ≤ (n : Int) ∧ (n : Int) < 4294967296 := by omega
      by_cases hz : n = 0
      · subst hz
        have HFIN := Lib.hid (HST.out (by rw [HFL.out, if_pos (.inl rfl)]))
        go_wp2_with fail
        refine HW.out.mono ?_
        rintro e w1 ⟨rfl, hb1⟩
        have HR1 := Lib.hid (HR.out.keep hb1)
        have HB1 := Lib.hid (HB.out.trans (hb1.mono HB.out.size))
        clear hb1
        go_wp2
        go_ret2
        exact ⟨_, by rw [HFIN.out]; rfl, by rw [HFIN.out]; exact HR1.out, HB1.out⟩
      · obtain ⟨m, hm⟩ : ∃ m, m = n - 1 := ⟨_, rfl⟩
        have hmI : (n : Int) - 1 = (m : Int) := by omega
        have hm0 : 0 ≤ (m : Int) ∧ (m : Int) < 4294967296 := by omega
        have HMN := Lib.hid hm
        have gz : decide ((m : Int) < 0) = false := by simp
        have gz' : ¬ (m : Int) < 0 := by omega
        by_cases hbig : 1048577 < n
        · have gb : decide ((1048576 : Int) < (m : Int)) = true := by simp; omega
          have gb' : (1048576 : Int) < (m : Int) := by omega
          clear hm
          have HFIN := Lib.hid (HST.out (by rw [HFL.out, if_pos (.inr hbig)]))
          go_wp2_with fail
          refine HW.out.mono ?_
          rintro e w1 ⟨rfl, hb1⟩
          have HR1 := Lib.hid (HR.out.keep hb1)
          have HB1 := Lib.hid (HB.out.trans (hb1.mono HB.out.size))
          clear hb1
          go_wp2
          go_ret2
          exact ⟨_, by rw [HFIN.out]; rfl, by rw [HFIN.out]; exact HR1.out, HB1.out⟩
        · have gb : decide ((1048576 : Int) < (m : Int)) = false := by simp; omega
          have gb' : ¬ (1048576 : Int) < (m : Int) := by omega
          have hmm : (m : Int) ≤ 1048576 := by omega
          clear hm
          by_cases hlong : b.length - k < 8 + m
          · have gl : decide ((b.length : Int) - (k : Int) - 8 < (m : Int)) = true := by simp; omega
            have gl' : (b.length : Int) - (k : Int) - 8 < (m : Int) := by omega
            have HFIN := Lib.hid (HST.out (by rw [HFL.out, if_neg (by omega), if_pos (by rw [HDL.out]; have := HMN.out; omega)]))
            go_wp2_with fail
            refine HW.out.mono ?_
            rintro e w1 ⟨rfl, hb1⟩
            have HR1 := Lib.hid (HR.out.keep hb1)
            have HB1 := Lib.hid (HB.out.trans (hb1.mono HB.out.size))
            clear hb1
            go_wp2
            go_ret2
            exact ⟨_, by rw [HFIN.out]; rfl, by rw [HFIN.out]; exact HR1.out, HB1.out⟩
          · have gl : decide ((b.length : Int) - (k : Int) - 8 < (m : Int)) = false := by simp; omega
            have gl' : ¬ (b.length : Int) - (k : Int) - 8 < (m : Int) := by omega
            obtain ⟨k4, hk4⟩ : ∃ k4, k4 = k + 4 := ⟨_, rfl⟩
            obtain ⟨k8, hk8⟩ : ∃ k8, k8 = k + 8 := ⟨_, rfl⟩
            obtain ⟨ke, hke⟩ : ∃ ke, ke = k8 + m := ⟨_, rfl⟩
            have e4 : (k : Int) + 4 = (k4 : Int) := by omega
            have e8 : (k : Int) + 8 = (k8 : Int) := by omega
            have ee : (k8 : Int) + (m : Int) = (ke : Int) := by omega
            have b4 : 0 ≤ (k4 : Int) ∧ (k4 : Int) ≤ 100000000 := by omega
            have b8 : 0 ≤ (k8 : Int) ∧ (k8 : Int) ≤ 100000000 := by omega
            have be : 0 ≤ (ke : Int) ∧ (ke : Int) ≤ 100000000 := by omega
            obtain ⟨pa, pn, pc', p1, p2, -, p3⟩ := cutz_lh (z1 := (k8 : Int)) (z2 := (ke : Int)) (a := a) (n := b.length) (c := c) (K := k8) (M := ke) rfl rfl (by omega) (by omega) hlc
            obtain ⟨qa, qn, qc, q1, q2, -, q3⟩ := cutz_lh (z1 := (k : Int)) (z2 := (k4 : Int)) (a := a) (n := b.length) (c := c) (K := k) (M := k4) rfl rfl (by omega) (by omega) hlc
            obtain ⟨ra, rn, rc, r1, r2, -, r3⟩ := cutz_l (z1 := (k4 : Int)) (a := a) (n := b.length) (c := c) (K := k4) rfl (by omega) hlc
            have hp : (b.take ke).drop k8 = ((b.drop k).drop 8).take m := by rw [List.drop_drop, ← hk8, List.drop_take, show ke - k8 = m by omega]
            have hq : (b.take k4).drop k = (b.drop k).take 4 := by rw [List.drop_take, show k4 - k = 4 by omega]
            have hr : b.drop k4 = (b.drop k).drop 4 := by rw [List.drop_drop, ← hk4]
            obtain ⟨R, hR⟩ : ∃ R, R = ((b.drop k).drop 8).take m := ⟨_, rfl⟩
            obtain ⟨H4, hH⟩ : ∃ H4, H4 = (b.drop k).take 4 := ⟨_, rfl⟩
            obtain ⟨T, hT⟩ : ∃ T, T = (b.drop k).drop 4 := ⟨_, rfl⟩
            rw [← hR] at hp
            rw [← hH] at hq
            rw [← hT] at hr
            have HP := Lib.hid (fun w h => show Dat w _ R from hp ▸ p3 w b rfl h)
            have HQ := Lib.hid (fun w h => show Dat w _ H4 from hq ▸ q3 w b rfl h)
            have HRR := Lib.hid (fun w h => show Dat w _ T from hr ▸ r3 w b rfl h)
            have HFH := Lib.hid (show firstR (b.drop k) = if sumOf (H4 ++ R) ≠ wordAt T then none else some R from by
              rw [HFL.out, if_neg (by omega), if_neg (by rw [HDL.out]; have := HMN.out; omega), ← HMN.out, ← hR, ← hH, ← hT])
            have HRL := Lib.hid (show R.length = m from by rw [hR, List.length_take, List.length_drop, HDL.out]; omega)
            have HHL := Lib.hid (show H4.length = 4 from by rw [hH, List.length_take, HDL.out]; omega)
            have HTL := Lib.hid (show 4 ≤ T.length from by rw [hT, List.length_drop, HDL.out]; omega)
            have HKE := Lib.hid (show ke = k + (8 + m) ∧ ke ≤ b.length ∧ k8 = k + 8 from by omega)
            clear p3 q3 r3 hp hq hr hR hH hT HFL hk4 hk8 hke
            go_wp2_with fail
            refine HW.out.mono ?_
            rintro e w1 ⟨rfl, hb1⟩
            have HR1 := Lib.hid (HR.out.keep hb1)
            have HB1 := Lib.hid (HB.out.trans (hb1.mono HB.out.size))
            have HD1 := Lib.hid (HD.out.keep HB1.out)
            clear hb1
            go_wp2_with fail
            obtain ⟨z, hz'⟩ : ∃ z, z = sumOf (H4 ++ R) := ⟨_, rfl⟩
            obtain ⟨y, hy'⟩ : ∃ y, y = wordAt T := ⟨_, rfl⟩
            rw [← hz', ← hy'] at HFH
            have HZ := Lib.hid hz'
            have HY := Lib.hid hy'
            obtain ⟨pz, hpz⟩ : ∃ pz : Bool, pz = decide (z = y) := ⟨_, rfl⟩
            have HPZ := Lib.hid hpz
            have gzy : ((z : Int) != (y : Int)) = !pz := by
              rw [hpz]
              by_cases e : z = y
              · subst e; simp
              · rw [decide_eq_false e]; simp; omega
            clear hpz hz' hy'
            have HB0 := Lib.hid (show Below w1.heap.size w1 w1.drew from (Below.refl _ _).drew)
            have wk4 : IntKind.i64.wrap (k4 : Int) = (k4 : Int) := by rw [IntKind.wrap_i64]; omega
            cases pz with
            | false =>
              have hne : z ≠ y := by simpa using HPZ.out
              have hne' : ¬ (z : Int) = (y : Int) := by omega
              have HFIN := Lib.hid (HST.out (by rw [HFH.out, if_pos hne]))
              go_region_held3 (fun W => True) (first | trivial)
                (first | (refine step_app (by rfl) (.const (.slice none 0 0)) (.tmp 48) (by rfl) w1.heap.size (.slice none 0 0) [] (by simp [Act.eval]) (Row.nil _ _) (.slice qa qn qc) H4 (by simp [Act.eval, Act.put]) (HQ.out _ (HD1.out.keep HB0.out)) (by rw [HHL.out]; simp) HB0.out.size w1 HB0.out ?_; intro vA wA hA hgA hbA; rw [List.nil_append] at hA) | (refine step_app (by rfl) (.tmp 49) (.tmp 50) (by rfl) w1.heap.size vA H4 (by simp [Act.eval, Act.put]) hA (.slice pa pn pc') R (by simp [Act.eval, Act.put]) (HP.out _ (HD1.out.keep hbA)) (by rw [HHL.out, HRL.out]; omega) hbA.size w1 hbA ?_; intro vB wB hB hgB hbB) | (go_at_call 35; refine (rf_Checksum vB (H4 ++ R) wB hB.dat.1 (by rw [List.length_append, HHL.out, HRL.out]; omega)).mono ?_; rintro e wC ⟨rfl, rfl⟩; rw [← HZ.out]) | (go_at_call 67; refine (rf_number _ T _ (HRR.out _ (HD1.out.keep hbB)).1 HTL.out).mono ?_; rintro e wE ⟨rfl, hbE⟩; rw [← HY.out]; have HBE := Lib.hid (HB1.out.trans (hbB.mono HB1.out.size) |>.trans (hbE.mono (Nat.le_trans HB1.out.size hbB.size))); have HRE := Lib.hid ((HR1.out.keep hbB).keep hbE); clear hbE) | fail)
              all_goals
                go_wp2
                go_ret2
                exact ⟨_, by rw [HFIN.out]; rfl, by rw [HFIN.out]; exact HRE.out, HBE.out⟩
            | true =>
              have heq : z = y := by simpa using HPZ.out
              have hne' : (z : Int) = (y : Int) := by omega
              have HFS := Lib.hid (show firstR (b.drop k) = some R from by rw [HFH.out, if_neg (by simpa using heq)])
              have HDE2 := Lib.hid (show dec b = ((l ++ [R]) ++ (dec (b.drop ke)).1, ke + (dec (b.drop ke)).2) from by
                have := dec_step HDE.out HFS.out
                rwa [HRL.out, ← HKE.out.1] at this)
              go_region_held3 (fun W => True) (first | trivial)
                (first | (refine step_app (by rfl) (.const (.slice none 0 0)) (.tmp 48) (by rfl) w1.heap.size (.slice none 0 0) [] (by simp [Act.eval]) (Row.nil _ _) (.slice qa qn qc) H4 (by simp [Act.eval, Act.put]) (HQ.out _ (HD1.out.keep HB0.out)) (by rw [HHL.out]; simp) HB0.out.size w1 HB0.out ?_; intro vA wA hA hgA hbA; rw [List.nil_append] at hA) | (refine step_app (by rfl) (.tmp 49) (.tmp 50) (by rfl) w1.heap.size vA H4 (by simp [Act.eval, Act.put]) hA (.slice pa pn pc') R (by simp [Act.eval, Act.put]) (HP.out _ (HD1.out.keep hbA)) (by rw [HHL.out, HRL.out]; omega) hbA.size w1 hbA ?_; intro vB wB hB hgB hbB) | (go_at_call 35; refine (rf_Checksum vB (H4 ++ R) wB hB.dat.1 (by rw [List.length_append, HHL.out, HRL.out]; omega)).mono ?_; rintro e wC ⟨rfl, rfl⟩; rw [← HZ.out]) | (go_at_call 67; refine (rf_number _ T _ (HRR.out _ (HD1.out.keep hbB)).1 HTL.out).mono ?_; rintro e wE ⟨rfl, hbE⟩; rw [← HY.out]; have HBE := Lib.hid (HB1.out.trans (hbB.mono HB1.out.size) |>.trans (hbE.mono (Nat.le_trans HB1.out.size hbB.size))); have HRE := Lib.hid ((HR1.out.keep hbB).keep hbE); clear hbE) | fail)
              all_goals
                have HP2 := Lib.hid (HP.out _ (HD.out.keep HBE.out))
                have HWE := Lib.hid HBE.out.size
                go_wp2_with (at_builtin; refine wpList_app rfl _ _ rfl wE.heap.size (.slice none 0 0) [] rfl (Row.nil _ _) _ R rfl HP2.out (by rw [HRL.out]; simp; omega) (Nat.le_refl _) ?_)
                intro v6 w6 h6 _ hb6
                have h6' : Row w6 w.heap.size v6 R := Row.low (by simpa using h6) HWE.out
                obtain ⟨xa, xc, rfl⟩ := h6'.dat.len
                have H6 := Lib.hid h6'
                have HB6 := Lib.hid (HBE.out.trans (hb6.mono HWE.out))
                have HR6 := Lib.hid (HRE.out.keep hb6)
                have HBA := Lib.hid (show Below w6.heap.size w6 (w6.alloc (.cells #[.slice xa R.length xc] 25)) from (Below.refl _ _).alloc (Nat.le_refl _) _)
                clear h6 h6' hb6
                go_wp2_with (at_builtin; refine wpList_rec rfl _ _ rfl rfl (HR6.out.keep HBA.out) (.slice xa R.length xc) R w6.heap.size rfl 25 (0, 0) (heap_alloc_new w6 _) (H6.out.keep HBA.out) (by have := HLK.out; have := HL.out; omega) (by have := HB6.out.size; have := HBA.out.size; omega) ?_)
                intro v7 w7 h7 hb7
                have H7 := Lib.hid h7
                have HB7 := Lib.hid ((HB6.out.trans (HBA.out.mono HB6.out.size)).trans hb7)
                clear h7 hb7
                go_wp2
                go_roundg (b.length + 1 - ke)
                case rel => exact ⟨ke, l ++ [R], _, rfl, HKE.out.2.1, rfl, by rw [List.length_append, List.length_singleton]; have := HLK.out; have := HKE.out; omega, by go_num, HDE2.out, H7.out, HB7.out⟩
                case measure => have := HGK.out; have := HKE.out; omega
end Go.Proofs.YtngddhoolijimaaDoor
namespace Go.Proofs.YtngddhoolijimaaDoor
open Go.RowKit
set_option linter.unusedVariables false
set_option linter.unusedSimpArgs false

theorem few_small2 {L : List (List UInt8)} (h : L.length ≤ 20 ∧ ∀ x ∈ L, x.length ≤ 500) : Small L ∧ (encs L).length ≤ 10160 := by
  have := encs_len_le h.1 h.2
  exact ⟨⟨fun r hr => by have := h.2 r hr; omega, by omega⟩, by omega⟩

set_option maxRecDepth 100000 in
set_option maxHeartbeats 8000000 in
theorem decodes37_walk (v : Value) (L : List (List UInt8)) (v1 : Value) (b : List UInt8) (W : World) (h : rRs.rd W (· < W.heap.size) [v] L) (h1 : rBy.rd W (· < W.heap.size) [v1] b) :
    Calls Tryd.prog 10 #[v, v1] W (Holds W) := by
  obtain ⟨a, c, rfl, _, _, _⟩ := rs_get h
  obtain ⟨ba, bc, rfl⟩ := (Dat.of_rd h1).len
  have HL := Lib.hid h
  have HD := Lib.hid (Dat.of_rd h1)
  have hbl : 0 ≤ (b.length : Int) := by omega
  clear h h1
  go_enter Tryd.func10, Tryd.ntmps10
  go_wp2_with fail
  refine (few37 _ L W HL.out).mono ?_
  rintro e w1 ⟨r, rfl, rfl, hr⟩
  cases r with
  | false =>
    go_wp2_with fail
    refine (awake37_any _).mono ?_
    rintro e w2 ⟨rfl, hb⟩
    have HB := Lib.hid hb
    clear hb hr
    go_wp2
    go_ret
    exact ⟨rfl, HB.out⟩
  | true =>
    have HS := Lib.hid (few_small2 (hr rfl))
    clear hr
    by_cases hlong : 3000 < b.length
    · have g3 : decide ((3000 : Int) < (b.length : Int)) = true := by simp; omega
      have g3' : (3000 : Int) < (b.length : Int) := by omega
      go_wp2_with fail
      refine (awake37_any _).mono ?_
      rintro e w2 ⟨rfl, hb⟩
      have HB := Lib.hid hb
      clear hb
      go_wp2
      go_ret
      exact ⟨rfl, HB.out⟩
    · have g3 : decide ((3000 : Int) < (b.length : Int)) = false := by simp; omega
      have g3' : ¬ (3000 : Int) < (b.length : Int) := by omega
      go_wp2_with fail
      refine (rf_EncodeRecords _ L w1 HL.out HS.out.1).mono ?_
      rintro e w2 ⟨ve, rfl, hre, hbe⟩
      obtain ⟨E, hE⟩ : ∃ E, E = encs L := ⟨_, rfl⟩
      rw [← hE] at hre HS
      obtain ⟨ea, ec, rfl⟩ := hre.dat.len
      have HRE := Lib.hid hre
      have HBE := Lib.hid hbe
      clear hre hbe hE
      go_wp2_with (at_builtin; refine wpList_app rfl _ _ rfl w1.heap.size _ E rfl HRE.out _ b rfl (HD.out.keep HBE.out) (by have := HS.out.2; omega) HBE.out.size ?_)
      intro vb w3 hrb _ hbb
      obtain ⟨Al, hAl⟩ : ∃ Al, Al = E ++ b := ⟨_, rfl⟩
      rw [← hAl] at hrb
      have HAL := Lib.hid (show Al.length ≤ 100000000 from by rw [hAl, List.length_append]; have := HS.out.2; omega)
      obtain ⟨xa, xc, rfl⟩ := hrb.dat.len
      have HRB := Lib.hid hrb
      have HBB := Lib.hid (HBE.out.trans hbb)
      clear hrb hbb hAl
      go_wp2_with fail
      have hc1 := rl_Decode _ Al w3 HRB.out.dat HAL.out
      have hc2 := fun w h => rf_Decode (.slice xa Al.length xc) Al w h HAL.out
      obtain ⟨D, hD⟩ : ∃ D, D = dec Al := ⟨_, rfl⟩
      rw [← hD] at hc1
      simp only [← hD] at hc2
      have HC2 := Lib.hid hc2
      clear hD hc2
      refine hc1.mono ?_
      rintro e w4 ⟨v4, rfl, hr4, hb4⟩
      obtain ⟨ya, yc, rfl⟩ := hr4.len
      have HR4 := Lib.hid (hr4.rd (F := fun b => True) (fun _ _ _ => trivial))
      have HB4 := Lib.hid (HBB.out.trans (hb4.mono HBB.out.size))
      have HD4 := Lib.hid (HRB.out.dat.keep hb4)
      clear hc1 hr4 hb4
      go_wp2_with fail
      refine (HC2.out w4 HD4.out).mono ?_
      rintro e w5 ⟨v5, rfl, hr5, hb5⟩
      obtain ⟨za, zc, rfl⟩ := hr5.len
      have HR5 := Lib.hid (hr5.rd (F := fun b => True) (fun _ _ _ => trivial))
      have HR45 := Lib.hid (rRs.keep (fun b _ hl => hb5.block b hl) hb5.size HR4.out)
      have HB5 := Lib.hid (HB4.out.trans (hb5.mono HB4.out.size))
      clear hr5 hb5
      go_wp2_with fail
      refine (awake37_any _).mono ?_
      rintro e w6 ⟨rfl, hb6⟩
      have HB6 := Lib.hid (HB5.out.trans (hb6.mono HB5.out.size))
      have HR6 := Lib.hid (rRs.keep (fun b _ hl => hb6.block b hl) hb6.size HR45.out)
      have HR7 := Lib.hid (rRs.keep (fun b _ hl => hb6.block b hl) hb6.size HR5.out)
      clear hb6
      go_wp2_with fail
      refine (rf_Same _ _ D.1 w6 HR6.out HR7.out).mono ?_
      rintro e w7 ⟨rfl, hb7⟩
      have HFIN := Lib.hid (HB6.out.trans (hb7.mono HB6.out.size))
      clear hb7
      go_wp2
      go_ret
      exact ⟨rfl, HFIN.out⟩
end Go.Proofs.YtngddhoolijimaaDoor
