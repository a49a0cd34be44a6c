/-
  Merged: RlT, RlV, RlW, RlX, RlY, RlZ.
-/
import Derived.Test.YtngddhoolijimaaDoorRmD
namespace Go.Proofs.YtngddhoolijimaaDoor
open Go.RowKit
set_option linter.unusedVariables false
set_option linter.unusedSimpArgs false

theorem first_short {b : List UInt8} (h : b.length < 8) : firstR b = none := by unfold firstR; rw [if_pos h]
theorem first_long {b : List UInt8} (h : 8 ≤ b.length) : firstR b = if wordAt b = 0 ∨ 1048577 < wordAt b then none else if b.length < 7 + wordAt b then none else if sumOf (b.take 4 ++ (b.drop 8).take (wordAt b - 1)) ≠ wordAt (b.drop 4) then none else some ((b.drop 8).take (wordAt b - 1)) := by
  conv => lhs; unfold firstR
  rw [if_neg (by omega)]

set_option maxRecDepth 100000 in
set_option maxHeartbeats 8000000 in
theorem rf_Decode (v : Value) (b : List UInt8) (w : World) (h : Dat w v b) (hl : b.length ≤ 100000000) :
    Calls Tryd.prog 41 #[v] w fun e w' => ∃ v', e = .returned (.tuple #[v', .int .i64 ((dec b).2 : Int)]) ∧ Recs w' w.heap.size v' (dec b).1 ∧ Below w.heap.size w w' := by
  obtain ⟨a, c, rfl⟩ := h.len
  have hlc := h.le.2.1
  have HD := Lib.hid h
  have HL := Lib.hid hl
  have hl0 : 0 ≤ (b.length : Int) ∧ (b.length : Int) ≤ 100000000 := by omega
  obtain ⟨D, hD⟩ : ∃ D, D = dec b := ⟨_, rfl⟩
  rw [← hD]
  have HDD := Lib.hid hD
  clear h hl hD
  go_enter Tryd.func41, Tryd.ntmps41
  go_wp2
  go_loopg [4, 5] (b.length + 1) (fun gk t4 t5 wr => ∃ (k : Nat) (l : List (List UInt8)) (u : Value), u = t4 ∧ k ≤ b.length ∧ gk = b.length + 1 - k ∧ l.length ≤ k ∧ t5 = .int .i64 (k : Int) ∧ dec b = (l ++ (dec (b.drop k)).1, k + (dec (b.drop k)).2) ∧ Recs wr w.heap.size u l ∧ Below w.heap.size w wr)
  case atStart => exact ⟨0, [], _, rfl, by omega, by omega, by simp, rfl, by rw [List.drop_zero]; simp, Recs.nil _ _, Below.refl _ _⟩
  case round =>
    obtain ⟨k, l, u, rfl, hk, hgk, hlk, rfl, hdec, hrec, hB⟩ := hrel
    have HGK := Lib.hid hgk
    have HDE := Lib.hid hdec
    have HR := Lib.hid hrec
    have HB := Lib.hid hB
    have HLK := Lib.hid hlk
    obtain ⟨ua, uc, rfl⟩ := hrec.len
    have hk0 : 0 ≤ (k : Int) ∧ (k : Int) ≤ 100000000 := by omega
    have hkb : (k : Int) ≤ (b.length : Int) := by omega
    have HDL := Lib.hid (show (b.drop k).length = b.length - k from by rw [List.length_drop])
    clear hgk hdec hrec hB hlk
    have stop : firstR (b.drop k) = none → D = (l, k) := fun e => by rw [HDD.out]; exact dec_stop HDE.out e
    have HST := Lib.hid stop
    clear stop
    by_cases h8 : b.length - k < 8
    · have g8 : decide ((8 : Int) ≤ (b.length : Int) - (k : Int)) = false := by simp; omega
      have g8' : ¬ (8 : Int) ≤ (b.length : Int) - (k : Int) := by omega
      have HFIN := Lib.hid (HST.out (first_short (by rw [HDL.out]; exact h8)))
      go_wp2
      go_ret2
      exact ⟨_, by rw [HFIN.out]; rfl, by rw [HFIN.out]; exact HR.out, HB.out⟩
    · have g8 : decide ((8 : Int) ≤ (b.length : Int) - (k : Int)) = true := by simp; omega
      have g8' : (8 : Int) ≤ (b.length : Int) - (k : Int) := by omega
      obtain ⟨sa, sn, sc, s1, s2, -, s3⟩ := cutz_l (z1 := (k : Int)) (a := a) (n := b.length) (c := c) (K := k) rfl hk hlc
      have HC := Lib.hid (s3 wr b rfl (HD.out.keep HB.out))
      have HFL := Lib.hid (first_long (b := b.drop k) (by rw [HDL.out]; omega))
      have HW := Lib.hid (rf_number _ (b.drop k) wr HC.out.1 (by rw [HDL.out]; omega))
      have hwl := wordAt_lt (b.drop k)
      obtain ⟨n, hn⟩ : ∃ n, n = wordAt (b.drop k) := ⟨_, rfl⟩
      rw [← hn] at HFL HW hwl
      clear s3 hn
      have hn0 : 0 ≤ (n : Int) ∧ (n : Int) < 4294967296 := by omega
      by_cases hz : n = 0
      · subst hz
        have HFIN := Lib.hid (HST.out (by rw [HFL.out, if_pos (.inl rfl)]))
        go_wp2_with fail
        refine HW.out.mono ?_
        rintro e w1 ⟨rfl, hb1⟩
        have HR1 := Lib.hid (HR.out.keep hb1)
        have HB1 := Lib.hid (HB.out.trans (hb1.mono HB.out.size))
        clear hb1
        go_wp2
        go_ret2
        exact ⟨_, by rw [HFIN.out]; rfl, by rw [HFIN.out]; exact HR1.out, HB1.out⟩
      · obtain ⟨m, hm⟩ : ∃ m, m = n - 1 := ⟨_, rfl⟩
        have hmI : (n : Int) - 1 = (m : Int) := by omega
        have hm0 : 0 ≤ (m : Int) ∧ (m : Int) < 4294967296 := by omega
        have HMN := Lib.hid hm
        have gz : decide ((m : Int) < 0) = false := by simp
        have gz' : ¬ (m : Int) < 0 := by omega
        by_cases hbig : 1048577 < n
        · have gb : decide ((1048576 : Int) < (m : Int)) = true := by simp; omega
          have gb' : (1048576 : Int) < (m : Int) := by omega
          clear hm
          have HFIN := Lib.hid (HST.out (by rw [HFL.out, if_pos (.inr hbig)]))
          go_wp2_with fail
          refine HW.out.mono ?_
          rintro e w1 ⟨rfl, hb1⟩
          have HR1 := Lib.hid (HR.out.keep hb1)
          have HB1 := Lib.hid (HB.out.trans (hb1.mono HB.out.size))
          clear hb1
          go_wp2
          go_ret2
          exact ⟨_, by rw [HFIN.out]; rfl, by rw [HFIN.out]; exact HR1.out, HB1.out⟩
        · have gb : decide ((1048576 : Int) < (m : Int)) = false := by simp; omega
          have gb' : ¬ (1048576 : Int) < (m : Int) := by omega
          have hmm : (m : Int) ≤ 1048576 := by omega
          clear hm
          by_cases hlong : b.length - k < 8 + m
          · have gl : decide ((b.length : Int) - (k : Int) - 8 < (m : Int)) = true := by simp; omega
            have gl' : (b.length : Int) - (k : Int) - 8 < (m : Int) := by omega
            have HFIN := Lib.hid (HST.out (by rw [HFL.out, if_neg (by omega), if_pos (by rw [HDL.out]; have := HMN.out; omega)]))
            go_wp2_with fail
            refine HW.out.mono ?_
            rintro e w1 ⟨rfl, hb1⟩
            have HR1 := Lib.hid (HR.out.keep hb1)
            have HB1 := Lib.hid (HB.out.trans (hb1.mono HB.out.size))
            clear hb1
            go_wp2
            go_ret2
            exact ⟨_, by rw [HFIN.out]; rfl, by rw [HFIN.out]; exact HR1.out, HB1.out⟩
          · have gl : decide ((b.length : Int) - (k : Int) - 8 < (m : Int)) = false := by simp; omega
            have gl' : ¬ (b.length : Int) - (k : Int) - 8 < (m : Int) := by omega
            obtain ⟨k4, hk4⟩ : ∃ k4, k4 = k + 4 := ⟨_, rfl⟩
            obtain ⟨k8, hk8⟩ : ∃ k8, k8 = k + 8 := ⟨_, rfl⟩
            obtain ⟨ke, hke⟩ : ∃ ke, ke = k8 + m := ⟨_, rfl⟩
            have e4 : (k : Int) + 4 = (k4 : Int) := by omega
            have e8 : (k : Int) + 8 = (k8 : Int) := by omega
            have ee : (k8 : Int) + (m : Int) = (ke : Int) := by omega
            have b4 : 0 ≤ (k4 : Int) ∧ (k4 : Int) ≤ 100000000 := by omega
            have b8 : 0 ≤ (k8 : Int) ∧ (k8 : Int) ≤ 100000000 := by omega
            have be : 0 ≤ (ke : Int) ∧ (ke : Int) ≤ 100000000 := by omega
            obtain ⟨pa, pn, pc', p1, p2, -, p3⟩ := cutz_lh (z1 := (k8 : Int)) (z2 := (ke : Int)) (a := a) (n := b.length) (c := c) (K := k8) (M := ke) rfl rfl (by omega) (by omega) hlc
            obtain ⟨qa, qn, qc, q1, q2, -, q3⟩ := cutz_lh (z1 := (k : Int)) (z2 := (k4 : Int)) (a := a) (n := b.length) (c := c) (K := k) (M := k4) rfl rfl (by omega) (by omega) hlc
            obtain ⟨ra, rn, rc, r1, r2, -, r3⟩ := cutz_l (z1 := (k4 : Int)) (a := a) (n := b.length) (c := c) (K := k4) rfl (by omega) hlc
            have hp : (b.take ke).drop k8 = ((b.drop k).drop 8).take m := by rw [List.drop_drop, ← hk8, List.drop_take, show ke - k8 = m by omega]
            have hq : (b.take k4).drop k = (b.drop k).take 4 := by rw [List.drop_take, show k4 - k = 4 by omega]
            have hr : b.drop k4 = (b.drop k).drop 4 := by rw [List.drop_drop, ← hk4]
            obtain ⟨R, hR⟩ : ∃ R, R = ((b.drop k).drop 8).take m := ⟨_, rfl⟩
            obtain ⟨H4, hH⟩ : ∃ H4, H4 = (b.drop k).take 4 := ⟨_, rfl⟩
            obtain ⟨T, hT⟩ : ∃ T, T = (b.drop k).drop 4 := ⟨_, rfl⟩
            rw [← hR] at hp
            rw [← hH] at hq
            rw [← hT] at hr
            have HP := Lib.hid (fun w h => show Dat w _ R from hp ▸ p3 w b rfl h)
            have HQ := Lib.hid (fun w h => show Dat w _ H4 from hq ▸ q3 w b rfl h)
            have HRR := Lib.hid (fun w h => show Dat w _ T from hr ▸ r3 w b rfl h)
            have HFH := Lib.hid (show firstR (b.drop k) = if sumOf (H4 ++ R) ≠ wordAt T then none else some R from by
              rw [HFL.out, if_neg (by omega), if_neg (by rw [HDL.out]; have := HMN.out; omega), ← HMN.out, ← hR, ← hH, ← hT])
            have HRL := Lib.hid (show R.length = m from by rw [hR, List.length_take, List.length_drop, HDL.out]; omega)
            have HHL := Lib.hid (show H4.length = 4 from by rw [hH, List.length_take, HDL.out]; omega)
            have HTL := Lib.hid (show 4 ≤ T.length from by rw [hT, List.length_drop, HDL.out]; omega)
            have HKE := Lib.hid (show ke = k + (8 + m) ∧ ke ≤ b.length ∧ k8 = k + 8 from by omega)
            clear p3 q3 r3 hp hq hr hR hH hT HFL hk4 hk8 hke
            go_wp2_with fail
            refine HW.out.mono ?_
            rintro e w1 ⟨rfl, hb1⟩
            have HR1 := Lib.hid (HR.out.keep hb1)
            have HB1 := Lib.hid (HB.out.trans (hb1.mono HB.out.size))
            have HD1 := Lib.hid (HD.out.keep HB1.out)
            clear hb1
            go_wp2_with fail
            obtain ⟨z, hz'⟩ : ∃ z, z = sumOf (H4 ++ R) := ⟨_, rfl⟩
            obtain ⟨y, hy'⟩ : ∃ y, y = wordAt T := ⟨_, rfl⟩
            rw [← hz', ← hy'] at HFH
            have HZ := Lib.hid hz'
            have HY := Lib.hid hy'
            obtain ⟨pz, hpz⟩ : ∃ pz : Bool, pz = decide (z = y) := ⟨_, rfl⟩
            have HPZ := Lib.hid hpz
            have gzy : ((z : Int) != (y : Int)) = !pz := by
              rw [hpz]
              by_cases e : z = y
              · subst e; simp
              · rw [decide_eq_false e]; simp; omega
            clear hpz hz' hy'
            have HB0 := Lib.hid (show Below w1.heap.size w1 w1.drew from (Below.refl _ _).drew)
            have wk4 : IntKind.i64.wrap (k4 : Int) = (k4 : Int) := by rw [IntKind.wrap_i64]; omega
            cases pz with
            | false =>
              have hne : z ≠ y := by simpa using HPZ.out
              have hne' : ¬ (z : Int) = (y : Int) := by omega
              have HFIN := Lib.hid (HST.out (by rw [HFH.out, if_pos hne]))
              go_region_held3 (fun W => True) (first | trivial)
                (first | (refine step_app (by rfl) (.const (.slice none 0 0)) (.tmp 48) (by rfl) w1.heap.size (.slice none 0 0) [] (by simp [Act.eval]) (Row.nil _ _) (.slice qa qn qc) H4 (by simp [Act.eval, Act.put]) (HQ.out _ (HD1.out.keep HB0.out)) (by rw [HHL.out]; simp) HB0.out.size w1 HB0.out ?_; intro vA wA hA hgA hbA; rw [List.nil_append] at hA) | (refine step_app (by rfl) (.tmp 49) (.tmp 50) (by rfl) w1.heap.size vA H4 (by simp [Act.eval, Act.put]) hA (.slice pa pn pc') R (by simp [Act.eval, Act.put]) (HP.out _ (HD1.out.keep hbA)) (by rw [HHL.out, HRL.out]; omega) hbA.size w1 hbA ?_; intro vB wB hB hgB hbB) | (go_at_call 35; refine (rf_Checksum vB (H4 ++ R) wB hB.dat.1 (by rw [List.length_append, HHL.out, HRL.out]; omega)).mono ?_; rintro e wC ⟨rfl, rfl⟩; rw [← HZ.out]) | (go_at_call 67; refine (rf_number _ T _ (HRR.out _ (HD1.out.keep hbB)).1 HTL.out).mono ?_; rintro e wE ⟨rfl, hbE⟩; rw [← HY.out]; have HBE := Lib.hid (HB1.out.trans (hbB.mono HB1.out.size) |>.trans (hbE.mono (Nat.le_trans HB1.out.size hbB.size))); have HRE := Lib.hid ((HR1.out.keep hbB).keep hbE); clear hbE) | fail)
              all_goals
                go_wp2
                go_ret2
                exact ⟨_, by rw [HFIN.out]; rfl, by rw [HFIN.out]; exact HRE.out, HBE.out⟩
            | true =>
              have heq : z = y := by simpa using HPZ.out
              have hne' : (z : Int) = (y : Int) := by omega
              have HFS := Lib.hid (show firstR (b.drop k) = some R from by rw [HFH.out, if_neg (by simpa using heq)])
              have HDE2 := Lib.hid (show dec b = ((l ++ [R]) ++ (dec (b.drop ke)).1, ke + (dec (b.drop ke)).2) from by
                have := dec_step HDE.out HFS.out
                rwa [HRL.out, ← HKE.out.1] at this)
              go_region_held3 (fun W => True) (first | trivial)
                (first | (refine step_app (by rfl) (.const (.slice none 0 0)) (.tmp 48) (by rfl) w1.heap.size (.slice none 0 0) [] (by simp [Act.eval]) (Row.nil _ _) (.slice qa qn qc) H4 (by simp [Act.eval, Act.put]) (HQ.out _ (HD1.out.keep HB0.out)) (by rw [HHL.out]; simp) HB0.out.size w1 HB0.out ?_; intro vA wA hA hgA hbA; rw [List.nil_append] at hA) | (refine step_app (by rfl) (.tmp 49) (.tmp 50) (by rfl) w1.heap.size vA H4 (by simp [Act.eval, Act.put]) hA (.slice pa pn pc') R (by simp [Act.eval, Act.put]) (HP.out _ (HD1.out.keep hbA)) (by rw [HHL.out, HRL.out]; omega) hbA.size w1 hbA ?_; intro vB wB hB hgB hbB) | (go_at_call 35; refine (rf_Checksum vB (H4 ++ R) wB hB.dat.1 (by rw [List.length_append, HHL.out, HRL.out]; omega)).mono ?_; rintro e wC ⟨rfl, rfl⟩; rw [← HZ.out]) | (go_at_call 67; refine (rf_number _ T _ (HRR.out _ (HD1.out.keep hbB)).1 HTL.out).mono ?_; rintro e wE ⟨rfl, hbE⟩; rw [← HY.out]; have HBE := Lib.hid (HB1.out.trans (hbB.mono HB1.out.size) |>.trans (hbE.mono (Nat.le_trans HB1.out.size hbB.size))); have HRE := Lib.hid ((HR1.out.keep hbB).keep hbE); clear hbE) | fail)
              all_goals
                have HP2 := Lib.hid (HP.out _ (HD.out.keep HBE.out))
                have HWE := Lib.hid HBE.out.size
                go_wp2_with (at_builtin; refine wpList_app rfl _ _ rfl wE.heap.size (.slice none 0 0) [] rfl (Row.nil _ _) _ R rfl HP2.out (by rw [HRL.out]; simp; omega) (Nat.le_refl _) ?_)
                intro v6 w6 h6 _ hb6
                have h6' : Row w6 w.heap.size v6 R := Row.low (by simpa using h6) HWE.out
                obtain ⟨xa, xc, rfl⟩ := h6'.dat.len
                have H6 := Lib.hid h6'
                have HB6 := Lib.hid (HBE.out.trans (hb6.mono HWE.out))
                have HR6 := Lib.hid (HRE.out.keep hb6)
                have HBA := Lib.hid (show Below w6.heap.size w6 (w6.alloc (.cells #[.slice xa R.length xc] 25)) from (Below.refl _ _).alloc (Nat.le_refl _) _)
                clear h6 h6' hb6
                go_wp2_with (at_builtin; refine wpList_rec rfl _ _ rfl rfl (HR6.out.keep HBA.out) (.slice xa R.length xc) R w6.heap.size rfl 25 (0, 0) (heap_alloc_new w6 _) (H6.out.keep HBA.out) (by have := HLK.out; have := HL.out; omega) (by have := HB6.out.size; have := HBA.out.size; omega) ?_)
                intro v7 w7 h7 hb7
                have H7 := Lib.hid h7
                have HB7 := Lib.hid ((HB6.out.trans (HBA.out.mono HB6.out.size)).trans hb7)
                clear h7 hb7
                go_wp2
                go_roundg (b.length + 1 - ke)
                case rel => exact ⟨ke, l ++ [R], _, rfl, HKE.out.2.1, rfl, by rw [List.length_append, List.length_singleton]; have := HLK.out; have := HKE.out; omega, by go_num, HDE2.out, H7.out, HB7.out⟩
                case measure => have := HGK.out; have := HKE.out; omega
end Go.Proofs.YtngddhoolijimaaDoor
namespace Go.Proofs.YtngddhoolijimaaDoor
open Go.RowKit
set_option linter.unusedVariables false
set_option linter.unusedSimpArgs false

/-- Another S from here on. -/
theorem held_turn {P : Program} {md : Region.Mode} {ops : Array Oper} {Q : Exit → Act → World → Prop} {S S' : World → Prop} (hSS : ∀ w, S' w → S w) : ∀ (fuel : Nat) (listed : Array Bool) (a : Act) (w : World), wpAnyH P md ops Q S' fuel listed a w → wpAnyH P md ops Q S fuel listed a w
  | 0, _, _, _, h => h
  | fuel + 1, _, _, _, h => ⟨h.1, fun i hi => wpOp_mono (fun a' w' h' => ⟨hSS _ h'.1, held_turn hSS fuel _ a' w' h'.2⟩) (h.2 i hi)⟩

/-- Bytes that may be written over. -/
def ScrN (w : World) (a : Option Addr) (n : Nat) : Prop := n = 0 ∨ ∃ g, a = some ⟨g, 0, none⟩ ∧ ∀ j, j < n → (∃ z : Int, w.cell? ⟨g, j, none⟩ = some (.int .u8 z)) ∧ w.frozen? ⟨g, j, none⟩ = false

theorem Row.scr {w : World} {base c : Nat} {a : Option Addr} {l : List UInt8} (h : Row w base (.slice a l.length c) l) : ScrN w a l.length := by
  rcases h.2 with ⟨_, h0⟩ | ⟨g, cap, cur, e, _⟩
  · exact .inl h0
  · cases e
    refine .inr ⟨g, rfl, fun j hj => ⟨⟨(l[j].toNat : Int), ?_⟩, World.ownsRow.frozenAt (w := w) h j⟩⟩
    have := World.ownsRow.cellAt (w := w) h j (by omega)
    exact this.trans (pc_get (List.getElem?_eq_getElem hj))

theorem scr_set {w : World} {g n k : Nat} (h : ∀ j, j < n → (∃ z : Int, w.cell? ⟨g, j, none⟩ = some (.int .u8 z)) ∧ w.frozen? ⟨g, j, none⟩ = false) (hk : k < n) (u : Int) : ∀ j, j < n → (∃ z : Int, (w.setCell ⟨g, k, none⟩ (.int .u8 u)).cell? ⟨g, j, none⟩ = some (.int .u8 z)) ∧ (w.setCell ⟨g, k, none⟩ (.int .u8 u)).frozen? ⟨g, j, none⟩ = false := fun j hj => by
  refine ⟨?_, by rw [World.frozen?_setCell]; exact (h j hj).2⟩
  by_cases e : j = k
  · subst e
    obtain ⟨z, hz⟩ := (h j hj).1
    exact ⟨u, World.cell?_setCell_same _ _ _ hz⟩
  · obtain ⟨z, hz⟩ := (h j hj).1
    exact ⟨z, (World.cell?_setCell_other _ _ _ _ (fun e2 => e (congrArg Addr.off e2).symm)).trans hz⟩

section
variable {X : Nat → Prop} {w : World} {lb fb wb n N : Nat} {B : DB} {g : LG} {d : DK} {P L : List (List UInt8)} {G : Nat → Prop}

/-- What same leaves. -/
def SameOf (fb : Nat) (B : DB) (n : Nat) (d : DK) (w w' : World) : Prop := PTurns fb B w w' ⟨n, false⟩ d

set_option maxRecDepth 100000 in
set_option maxHeartbeats 8000000 in
theorem same37 (hlog : IsLog X w lb fb B g) (hf : IsFile w fb B ⟨n, false⟩) (hd : IsDisk w B d) (hw : ¬ (B.has wb ∨ wb = fb)) (hwl : wb < w.heap.size) (k1 : w.cell? ⟨wb, 1, none⟩ = some (pfPtr fb)) (k2 : w.cell? ⟨wb, 2, none⟩ = some (lgPtr lb))
    (rv : Value) (hL : rRs.rd w G [rv] L) (hG : ∀ b, G b → ¬ (B.has b ∨ b = fb)) (hr : g.recs = L) (hsm : Small L) (hLm : L.length ≤ 1000000) (bytes : Bool) (hb : bytes = true → Clean n N P d ∧ P.flatten = padTo (100 * n) (encs L) ∧ (encs L).length ≤ 100 * n) :
    Calls Tryd.prog 43 #[.pointer (some ⟨wb, 0, none⟩), rv, .bool bytes] w fun e w' => e = .returned (.bool true) ∧ SameOf fb B n d w w' := by
  obtain ⟨ra, rc, rfl, _, _, hget⟩ := rs_get hL
  have HLOG := Lib.hid hlog
  have HFD := Lib.hid (And.intro hf hd)
  have HW := Lib.hid (And.intro hw hwl)
  have HK := Lib.hid (And.intro k1 k2)
  have HL := Lib.hid hL
  have HG := Lib.hid hG
  have HGET := Lib.hid hget
  have HRS := Lib.hid hr
  have HSM := Lib.hid hsm
  have HB := Lib.hid hb
  have hll : 0 ≤ (L.length : Int) ∧ (L.length : Int) ≤ 1000000 := by omega
  have hrl : g.recs.length = L.length := by rw [hr]
  have HLEN := Lib.hid (rl_Len hlog)
  rw [hrl] at HLEN
  clear hlog hf hd hw hwl hL hG hget hr hsm hLm hb hrl
  unfold lgPtr at *
  unfold pfPtr at *
  go_enter Tryd.func43, Tryd.ntmps43
  go_wp2_with fail
  refine HLEN.out.mono ?_
  rintro e w1 ⟨rfl, rfl⟩
  clear k1 k2
  go_wp2
  go_loopg [26] (L.length) (fun gk t26 wr => ∃ k : Nat, k ≤ L.length ∧ gk + k = L.length ∧ t26 = .int .i64 (k : Int) ∧ Below w1.heap.size w1 wr)
  case atStart => exact ⟨0, by omega, by omega, rfl, Below.refl _ _⟩
  case round =>
    obtain ⟨k, hk, hgk, rfl, hB⟩ := hrel
    have HGK := Lib.hid hgk
    have HBW := Lib.hid hB
    have k2 := (hB.cell (p := ⟨wb, 2, none⟩) HW.out.2).trans HK.out.2
    clear hgk hB
    by_cases hin : k < L.length
    · have hd1 : decide ((k : Int) < (L.length : Int)) = true := by simp; omega
      have i0 : (0 : Int) ≤ (k : Int) := by omega
      have i1 : (k : Int) < (L.length : Int) := by omega
      obtain ⟨x, hx⟩ : ∃ x, L[k]? = some x := ⟨_, List.getElem?_eq_getElem hin⟩
      obtain ⟨rg, off, u, rfl, _, hgl, hc, hu⟩ := HGET.out k x hx
      obtain ⟨ua, uc, rfl⟩ := (Dat.of_rd hu).len
      have HU := Lib.hid (Dat.of_rd hu)
      have HXL := Lib.hid (HSM.out.1 x (List.mem_of_getElem? hx))
      have hxl0 : 0 ≤ (x.length : Int) ∧ (x.length : Int) ≤ 1048576 := by have := HXL.out; omega
      have HC := Lib.hid (And.intro hgl hc)
      have HRD := Lib.hid (rl_Read (HLOG.out.below HBW.out) k x (by rw [HRS.out]; exact hx) (by have := HXL.out; omega))
      clear hu hx hc hgl
      unfold lgPtr at HRD
      go_wp2_with fail
      refine HRD.out.mono ?_
      rintro e w2 ⟨v, rfl, hrow, hb2⟩
      obtain ⟨va, vc, rfl⟩ := hrow.dat.len
      have HROW := Lib.hid hrow
      have HB2 := Lib.hid (HBW.out.trans (hb2.mono HBW.out.size))
      have HGE := Lib.hid (show ∀ b, va = some b → w1.heap.size ≤ b.block from fun b e => by
        rcases hrow.2 with ⟨e1, _⟩ | ⟨g', cap, cur, e1, hB', _⟩
        · simp only [Value.slice.injEq] at e1
          rw [e1.1] at e; cases e
        · simp only [Value.slice.injEq] at e1
          rw [e1.1] at e; cases e; have := HBW.out.size; exact Nat.le_trans this hB')
      clear hrow hb2 k2
      go_wp2_with fail
      refine region_all (by kernel_rfl) (by kernel_rfl) ?_
      intro wD hWD
      have hbD : Below w2.heap.size w2 wD := by rw [hWD]; exact (Below.refl _ _).drew
      have HBD := Lib.hid (HB2.out.trans (hbD.mono HB2.out.size))
      have cc := (HBD.out.cell (p := ⟨rg, off + k, none⟩) HC.out.1).trans HC.out.2
      have cv1 := convert_data (HROW.out.dat.keep hbD).1
      have cv2 := convert_data (HU.out.keep HBD.out).1
      have HSC := Lib.hid (HROW.out.keep hbD).scr
      unfold txt at cv1 cv2
      clear hWD hbD
      generalize (⟨x.toArray⟩ : ByteArray) = sx at *
      iterate 12 (refine stillH_want (by kernel_rfl) (fun K hK => ?_); go_simp; refine hK _ ?_; clear hK K)
      refine stillH_nil ?_
      clear cv1 cv2 cc
      go_wp2
      generalize gk = GK at *
      go_loopg [52] (x.length) (fun gk t52 wr => ∃ j : Nat, j ≤ x.length ∧ gk + j = x.length ∧ t52 = .int .i64 (j : Int) ∧ ScrN wr va x.length ∧ Below w1.heap.size w1 wr)
      case atStart => exact ⟨0, by omega, by omega, rfl, HSC.out, HBD.out⟩
      case round =>
        obtain ⟨j, hj, hgj, rfl, hscr, hB⟩ := hrel
        have HGJ := Lib.hid hgj
        have HBJ := Lib.hid hB
        have HSJ := Lib.hid hscr
        clear hgj hB hscr
        by_cases hjn : j < x.length
        · have hd2 : decide ((j : Int) < (x.length : Int)) = true := by simp; omega
          have j0 : (0 : Int) ≤ (j : Int) := by omega
          have j1 : (j : Int) < (x.length : Int) := by omega
          rcases HSJ.out with h0 | ⟨vg, rfl, hs⟩
          · omega
          obtain ⟨⟨z, hz⟩, hfz⟩ := hs j hjn
          have HST := Lib.hid (scr_set hs hjn (bits .xor .u8 z 255))
          have HBS := Lib.hid (show Below w1.heap.size w1 (wr.setCell ⟨vg, j, none⟩ (.int .u8 (bits .xor .u8 z 255))) from HBJ.out.setCell (show w1.heap.size ≤ vg from HGE.out ⟨vg, 0, none⟩ rfl) _)
          clear hs
          go_wp2
          go_roundg (gk - 1)
          case rel => exact ⟨j + 1, by omega, by have := HGJ.out; omega, by go_num, .inr ⟨vg, rfl, HST.out⟩, HBS.out⟩
          case measure => have := HGJ.out; omega
        · have hd2 : decide ((j : Int) < (x.length : Int)) = false := by simp; omega
          have hd2' : ¬ (j : Int) < (x.length : Int) := by omega
          go_wp2
          go_roundg (GK - 1)
          case rel => exact ⟨k + 1, by omega, by have := HGK.out; omega, by go_num, HBJ.out⟩
          case measure => have := HGK.out; omega
    · have hd1 : decide ((k : Int) < (L.length : Int)) = false := by simp; omega
      obtain rfl : k = L.length := by omega
      clear k2 hin
      cases bytes with
      | false =>
        have HFIN := Lib.hid (show SameOf fb B n d w1 wr from ⟨HFD.out.1.keep (Chg.of_below HBW.out (F := fun _ => False)) (fun h => h), HFD.out.2.below HBW.out, Chg.of_below HBW.out⟩)
        go_wp2
        go_ret
        exact ⟨rfl, HFIN.out⟩
      | true =>
        obtain ⟨hcl, hpf, hfit⟩ := HB.out rfl
        have HC := Lib.hid (And.intro hcl (And.intro hpf hfit))
        have hn := HFD.out.1.few
        have hn0 : 0 ≤ (n : Int) ∧ (n : Int) ≤ 4096 := by show 0 ≤ (n : Int) ∧ (n : Int) ≤ 4096; simp only at hn; omega
        have HBL := Lib.hid (show ∀ b, B.has b ∨ b = fb → b < w1.heap.size from fun b hb => by
          have h1 := HFD.out.2.lt
          have h2 := HFD.out.1.lt
          rcases hb with (e | e | e) | e <;> (subst e; omega))
        have HPT := Lib.hid (show PTurns fb B w1 wr ⟨n, false⟩ d from ⟨HFD.out.1.keep (Chg.of_below HBW.out (F := fun _ => False)) (fun h => h), HFD.out.2.below HBW.out, Chg.of_below HBW.out⟩)
        clear hcl hpf hfit hn
        generalize wr = wo at *
        go_wp2
        go_loopg [11, 12] n (fun gk t11 t12 wr => ∃ (i : Nat) (u : Value), u = t11 ∧ i ≤ n ∧ gk + i = n ∧ t12 = .int .i64 (i : Int) ∧ Row wr w1.heap.size u ((P.take i).flatten) ∧ PTurns fb B w1 wr ⟨n, false⟩ d)
        case atStart => exact ⟨0, _, rfl, by omega, by omega, rfl, by rw [List.take_zero]; exact Row.nil _ _, HPT.out⟩
        case round =>
          obtain ⟨i, u, rfl, hin, hgk, rfl, hrow, hT⟩ := hrel
          obtain ⟨I, hI⟩ : ∃ I, I = (P.take i).flatten := ⟨_, rfl⟩
          rw [← hI] at hrow
          have HI := Lib.hid hI
          have HGK := Lib.hid hgk
          have HT := Lib.hid hT
          have HRO := Lib.hid hrow
          obtain ⟨va, vc, rfl⟩ := hrow.dat.len
          have k1 := (hT.2.2.cell (a := ⟨wb, 1, none⟩) HW.out.1 HW.out.2).trans HK.out.1
          have hi0 : 0 ≤ (i : Int) ∧ (i : Int) ≤ 4096 := by omega
          clear hgk hT hrow hI
          by_cases hlt : i < n
          · have hd1 : decide ((i : Int) < (n : Int)) = true := by simp; omega
            have hd1' : (i : Int) < (n : Int) := by omega
            have hdn : PF.down ⟨n, false⟩ d = false := by unfold PF.down; rw [HC.out.1.up]; rfl
            have hperr : pfErr ⟨n, false⟩ d (i : Int) = 0 := by unfold pfErr; rw [hdn]; show (if (i : Int) < 0 ∨ (n : Int) ≤ (i : Int) then (10 : Int) else 0) = 0; rw [if_neg (by omega)]
            have hpay : d.pay (i : Int).toNat = P.getD i [] := by rw [Int.toNat_natCast, HC.out.1.pay hlt]
            have hNl : (⟨n, false⟩ : PF).n ≤ d.st.length := by rw [HC.out.1.len]; have := HC.out.1.pos; show n ≤ N; omega
            have hrdc := pf_Read HT.out.1 HT.out.2.1 (i : Int) (WalkArith.wf_i64 (by omega)) hNl
            rw [hperr, hpay, hdn] at hrdc
            obtain ⟨pg, hpg⟩ : ∃ pg, pg = P.getD i [] := ⟨_, rfl⟩
            rw [← hpg] at hrdc
            have HRC := Lib.hid hrdc
            have HPI := Lib.hid (show P[i]? = some pg ∧ pg.length = 100 from ⟨by rw [hpg, List.getD_eq_getElem?_getD, List.getElem?_eq_getElem (by rw [HC.out.1.pays.len]; exact hlt)]; rfl, by rw [hpg]; exact HC.out.1.pays.each i hlt⟩)
            have HCP := Lib.hid (pf_cap HT.out.1)
            clear hrdc hpay hperr hdn hNl hpg
            unfold pfPtr at HRC HCP
            go_wp2_with fail
            refine HCP.out.mono ?_
            rintro e wr ⟨rfl, rfl⟩
            go_wp2_with fail
            refine HRC.out.mono ?_
            rintro e w3 ⟨pv, rfl, hG, hT⟩
            obtain ⟨gp, rfl, hPA⟩ := hG.1 rfl
            have HPT3 := Lib.hid (show PTurns fb B w1 w3 ⟨n, false⟩ d from HT.out.trans hT)
            have HRO3 := Lib.hid (show Row w3 w1.heap.size (.slice va I.length vc) I from own_chg HRO.out hT.2.2 (fun b hb e => by have h1 := own_base HRO.out b hb; have h2 := HBL.out b e; omega))
            have HPA := Lib.hid (show Dat w3 (.slice (some ⟨gp, 0, none⟩) 100 100) pg from ⟨hPA.data, fun n c e => by cases e⟩)
            have HFL := Lib.hid (show I.length ≤ 409600 from by rw [HI.out, flat_len (pays_take HC.out.1.pays (Nat.le_of_lt hlt))]; omega)
            clear hG hT hPA
            go_wp2_with (at_builtin; refine wpList_app rfl _ _ rfl w1.heap.size _ I rfl HRO3.out _ pg rfl HPA.out (by have := HFL.out; have := HPI.out.2; omega) HPT3.out.2.2.size ?_)
            intro v6 w6 h6 _ hb6
            obtain ⟨I6, hI6⟩ : ∃ I6, I6 = I ++ pg := ⟨_, rfl⟩
            rw [← hI6] at h6
            have HX := Lib.hid (show (P.take (i + 1)).flatten = I6 from by rw [hI6, snoc_take HPI.out.1, List.flatten_append, HI.out]; simp)
            have H6 := Lib.hid h6
            have HPT6 := Lib.hid (show PTurns fb B w1 w6 ⟨n, false⟩ d from by
              have hc2 : Chg (fun b => w1.heap.size ≤ b) w3 w6 := ⟨hb6.os, hb6.tape, hb6.output, hb6.size, fun b _ hn => hb6.block b (by omega)⟩
              exact ⟨HPT3.out.1.keep hc2 (fun e => by have := HBL.out fb (.inr rfl); omega), HPT3.out.2.1.keep hc2 (fun b hb e => by have := HBL.out b (.inl hb); omega), chg_fresh' HPT3.out.2.2 hc2⟩)
            clear h6 hb6 hI6
            go_wp2
            go_roundg (gk - 1)
            case rel => exact ⟨i + 1, _, rfl, by omega, by have := HGK.out; omega, by go_num, by rw [HX.out]; exact H6.out, HPT6.out⟩
            case measure => have := HGK.out; omega
          · have hd1 : decide ((i : Int) < (n : Int)) = false := by simp; omega
            have hd1' : ¬ (i : Int) < (n : Int) := by omega
            obtain rfl : i = n := by omega
            have HCP := Lib.hid (pf_cap HT.out.1)
            have hIP : I = P.flatten := by rw [HI.out, List.take_of_length_le (by rw [HC.out.1.pays.len]; exact Nat.le_refl _)]
            obtain ⟨E, hE⟩ : ∃ E, E = encs L := ⟨_, rfl⟩
            have hIE : I = padTo (100 * i) E := by rw [hIP, HC.out.2.1, hE]
            have hEl : E.length ≤ 100 * i := by rw [hE]; exact HC.out.2.2
            have hIL : I.length = 100 * i := by rw [hIE]; exact padTo_len hEl
            obtain ⟨z, hz⟩ : ∃ z, z = I.length - E.length := ⟨_, rfl⟩
            have HIZ := Lib.hid (show E ++ List.replicate z 0 = I from by rw [hz, hIL, hIE]; rfl)
            have hsub : (I.length : Int) - (E.length : Int) = (z : Int) := by omega
            have hz0 : 0 ≤ (z : Int) ∧ (z : Int) ≤ 409600 := by omega
            have wz : IntKind.i64.wrap (z : Int) = (z : Int) := by rw [IntKind.wrap_i64]; omega
            have hge : decide ((E.length : Int) ≤ (I.length : Int)) = true := by simp; omega
            have hge' : (E.length : Int) ≤ (I.length : Int) := by omega
            have HEI := Lib.hid hE
            have HLZ := Lib.hid (show E.length + z ≤ 1000000000 ∧ I.length ≤ 409600 from by omega)
            have hRl := rf_EncodeRecords (.slice ra L.length rc) L wr (rRs.keep (fun b hb hl => HT.out.2.2.block b hl (HG.out b hb)) HT.out.2.2.size HL.out) HSM.out
            rw [← hE] at hRl
            have HEN := Lib.hid hRl
            clear hIP hIE hEl hIL hz hRl hE hlt
            unfold pfPtr at HCP
            go_wp2_with fail
            refine HCP.out.mono ?_
            rintro e wr ⟨rfl, rfl⟩
            go_wp2_with fail
            refine HEN.out.mono ?_
            rintro e w5 ⟨v5, rfl, hr5, hb5⟩
            obtain ⟨ea, ec, rfl⟩ := hr5.dat.len
            have HR5 := Lib.hid hr5
            have HI5 := Lib.hid (HRO.out.keep hb5)
            have HPT5 := Lib.hid (HT.out.of_below hb5)
            have HWR := Lib.hid hb5.size
            have HIX := Lib.hid (show ∀ b, (Value.slice va I.length vc).ownBlock = some b → b < wr.heap.size from fun b hb => (HRO.out.ge b hb).2)
            clear hr5 hb5
            go_wp2_with fail
            have HB6 := Lib.hid (show Below w5.heap.size w5 w5.drew from (Below.refl _ _).drew)
            have cv0 := convert_data (HI5.out.keep HB6.out).dat.1
            unfold txt at cv0
            obtain ⟨sI, hsI⟩ : ∃ sI : ByteArray, sI = ⟨I.toArray⟩ := ⟨_, rfl⟩
            rw [← hsI] at cv0
            have HSI := Lib.hid hsI
            obtain ⟨v7, w7, hrun, h7, hg7⟩ := run_append_z (w := w5.drew) 3 25 .i64 .i64 Tryd.underlying3 (HR5.out.keep HB6.out) z HLZ.out.1 (Nat.le_trans HWR.out HB6.out.size)
            have HB7 := Lib.hid (show Below wr.heap.size w5 w7 from (HB6.out.mono HWR.out).trans ((Below.refl _ _).grown hg7 (Nat.le_trans HWR.out HB6.out.size) (fun b hb => ((HR5.out.keep HB6.out).ge b hb).1)))
            have HI7 := Lib.hid (show Row w7 w1.heap.size (.slice va I.length vc) I from (HI5.out.keep HB6.out).other hg7 (fun b hb e => by
              have a1 := HIX.out b hb
              have a2 := (HR5.out.ge b e.symm).1
              omega))
            have cv7 := convert_data HI7.out.dat.1
            have cvR := convert_data h7.dat.1
            rw [HIZ.out] at h7
            unfold txt at cv7 cvR
            rw [HIZ.out] at cvR
            rw [← hsI] at cv7 cvR
            obtain ⟨ya, yc, rfl⟩ := h7.dat.len
            have HRUN := Lib.hid hrun
            have HPT7 := Lib.hid (show PTurns fb B w1 w7 ⟨i, false⟩ d from by
              have hc2 : Chg (fun b => w1.heap.size ≤ b) w5 w7 := ⟨HB7.out.os, HB7.out.tape, HB7.out.output, HB7.out.size, fun b _ hn => HB7.out.block b (by have := HT.out.2.2.size; omega)⟩
              exact ⟨HPT5.out.1.keep hc2 (fun e => by have := HBL.out fb (.inr rfl); omega), HPT5.out.2.1.keep hc2 (fun b hb e => by have := HBL.out b (.inl hb); omega), chg_fresh' HPT5.out.2.2 hc2⟩)
            clear hrun h7 hg7 hsI
            refine wp_region_noPanic ?_
            refine wp_region_held_drew (S := fun W => Sem.run Tryd.prog (convert 25 9 (.slice va I.length vc)) W = .ok (.string sI) W) (by kernel_rfl) cv0 ?_
            intro hS0
            refine wpAnyH_take (i := 0) (v := ?_) (by simp only [List.getElem?_toArray, List.getElem?_cons_succ, List.getElem?_cons_zero] <;> rfl) (by kernel_rfl) (by kernel_rfl) (by kernel_rfl) (fun _ _ _ h => h) (Or.inl ⟨by rfl, ?_⟩) (by assumption) ?_
            rotate_left
            · intro w hSw
              (try dsimp only at hSw)
              go_simp
              (try with_reducible rfl)
            (try simp only [Act.put, List.setIfInBounds_toArray, List.set_cons_zero, List.set_cons_succ])
            refine wpAnyH_take (i := 1) (v := ?_) (by simp only [List.getElem?_toArray, List.getElem?_cons_succ, List.getElem?_cons_zero] <;> rfl) (by kernel_rfl) (by kernel_rfl) (by kernel_rfl) (fun _ _ _ h => h) (Or.inl ⟨by rfl, ?_⟩) (by assumption) ?_
            rotate_left
            · intro w hSw
              (try dsimp only at hSw)
              go_simp
              (try with_reducible rfl)
            (try simp only [Act.put, List.setIfInBounds_toArray, List.set_cons_zero, List.set_cons_succ])
            refine wpAnyH_take (i := 2) (v := ?_) (by simp only [List.getElem?_toArray, List.getElem?_cons_succ, List.getElem?_cons_zero] <;> rfl) (by kernel_rfl) (by kernel_rfl) (by kernel_rfl) (fun _ _ _ h => h) (Or.inl ⟨by rfl, ?_⟩) (by assumption) ?_
            rotate_left
            · intro w hSw
              (try dsimp only at hSw)
              go_simp
              (try with_reducible rfl)
            (try simp only [Act.put, List.setIfInBounds_toArray, List.set_cons_zero, List.set_cons_succ])
            refine wpAnyH_take (i := 3) (v := ?_) (by simp only [List.getElem?_toArray, List.getElem?_cons_succ, List.getElem?_cons_zero] <;> rfl) (by kernel_rfl) (by kernel_rfl) (by kernel_rfl) (fun _ _ _ h => h) (Or.inl ⟨by rfl, ?_⟩) (by assumption) ?_
            rotate_left
            · intro w hSw
              (try dsimp only at hSw)
              go_simp
              (try with_reducible rfl)
            (try simp only [Act.put, List.setIfInBounds_toArray, List.set_cons_zero, List.set_cons_succ])
            refine wpAnyH_take (i := 4) (v := .bool true) (by simp only [List.getElem?_toArray, List.getElem?_cons_succ, List.getElem?_cons_zero] <;> rfl) (by kernel_rfl) (by kernel_rfl) (by kernel_rfl) (fun _ _ _ h => h) (Or.inl ⟨by rfl, ?_⟩) (by assumption) ?_
            · intro w hSw
              (try dsimp only at hSw)
              go_simp
              (try with_reducible rfl)
            (try simp only [Act.put, List.setIfInBounds_toArray, List.set_cons_zero, List.set_cons_succ])
            refine wpAnyH_take (i := 5) (v := ?_) (by simp only [List.getElem?_toArray, List.getElem?_cons_succ, List.getElem?_cons_zero] <;> rfl) (by kernel_rfl) (by kernel_rfl) (by kernel_rfl) (fun _ _ _ h => h) (Or.inl ⟨by rfl, ?_⟩) (by assumption) ?_
            rotate_left
            · intro w hSw
              (try dsimp only at hSw)
              go_simp
              (try with_reducible rfl)
            (try simp only [Act.put, List.setIfInBounds_toArray, List.set_cons_zero, List.set_cons_succ])
            refine wpAnyH_take (i := 6) (v := ?_) (by simp only [List.getElem?_toArray, List.getElem?_cons_succ, List.getElem?_cons_zero] <;> rfl) (by kernel_rfl) (by kernel_rfl) (by kernel_rfl) (fun _ _ _ h => h) (Or.inl ⟨by rfl, ?_⟩) (by assumption) ?_
            rotate_left
            · intro w hSw
              (try dsimp only at hSw)
              go_simp
              (try with_reducible rfl)
            (try simp only [Act.put, List.setIfInBounds_toArray, List.set_cons_zero, List.set_cons_succ])
            refine wpAnyH_take (i := 7) (v := .string sI) (by simp only [List.getElem?_toArray, List.getElem?_cons_succ, List.getElem?_cons_zero] <;> rfl) (by kernel_rfl) (by kernel_rfl) (by kernel_rfl) (fun _ _ _ h => h) (Or.inl ⟨by rfl, ?_⟩) (by assumption) ?_
            · intro w hSw
              (try dsimp only at hSw)
              go_simp
              (try with_reducible rfl)
            (try simp only [Act.put, List.setIfInBounds_toArray, List.set_cons_zero, List.set_cons_succ])
            refine wpAnyH_take (i := 8) (v := ?_) (by simp only [List.getElem?_toArray, List.getElem?_cons_succ, List.getElem?_cons_zero] <;> rfl) (by kernel_rfl) (by kernel_rfl) (by kernel_rfl) (fun _ _ _ h => h) (Or.inl ⟨by rfl, ?_⟩) (by assumption) ?_
            rotate_left
            · intro w hSw
              (try dsimp only at hSw)
              go_simp
              (try with_reducible rfl)
            (try simp only [Act.put, List.setIfInBounds_toArray, List.set_cons_zero, List.set_cons_succ])
            refine wpAnyH_take (i := 9) (v := ?_) (by simp only [List.getElem?_toArray, List.getElem?_cons_succ, List.getElem?_cons_zero] <;> rfl) (by kernel_rfl) (by kernel_rfl) (by kernel_rfl) (fun _ _ _ h => h) (Or.inl ⟨by rfl, ?_⟩) (by assumption) ?_
            rotate_left
            · intro w hSw
              (try dsimp only at hSw)
              go_simp
              (try with_reducible rfl)
            (try simp only [Act.put, List.setIfInBounds_toArray, List.set_cons_zero, List.set_cons_succ])
            refine wpAnyH_take (i := 10) (v := ?_) (by simp only [List.getElem?_toArray, List.getElem?_cons_succ, List.getElem?_cons_zero] <;> rfl) (by kernel_rfl) (by kernel_rfl) (by kernel_rfl) (fun _ _ _ h => h) (Or.inl ⟨by rfl, ?_⟩) (by assumption) ?_
            rotate_left
            · intro w hSw
              (try dsimp only at hSw)
              go_simp
              (try with_reducible rfl)
            (try simp only [Act.put, List.setIfInBounds_toArray, List.set_cons_zero, List.set_cons_succ])
            refine wpAnyH_take (i := 11) (v := ?_) (by simp only [List.getElem?_toArray, List.getElem?_cons_succ, List.getElem?_cons_zero] <;> rfl) (by kernel_rfl) (by kernel_rfl) (by kernel_rfl) (fun _ _ _ h => h) (Or.inl ⟨by rfl, ?_⟩) (by assumption) ?_
            rotate_left
            · intro w hSw
              (try dsimp only at hSw)
              go_simp
              (try with_reducible rfl)
            (try simp only [Act.put, List.setIfInBounds_toArray, List.set_cons_zero, List.set_cons_succ])
            refine wpAnyH_take (i := 12) (v := ?_) (by simp only [List.getElem?_toArray, List.getElem?_cons_succ, List.getElem?_cons_zero] <;> rfl) (by kernel_rfl) (by kernel_rfl) (by kernel_rfl) (fun _ _ _ h => h) (Or.inl ⟨by rfl, ?_⟩) (by assumption) ?_
            rotate_left
            · intro w hSw
              (try dsimp only at hSw)
              go_simp
              (try with_reducible rfl)
            (try simp only [Act.put, List.setIfInBounds_toArray, List.set_cons_zero, List.set_cons_succ])
            refine wpAnyH_take (i := 13) (v := .int .i64 (z : Int)) (by simp only [List.getElem?_toArray, List.getElem?_cons_succ, List.getElem?_cons_zero] <;> rfl) (by kernel_rfl) (by kernel_rfl) (by kernel_rfl) (fun _ _ _ h => h) (Or.inl ⟨by rfl, ?_⟩) (by assumption) ?_
            · intro w hSw
              (try dsimp only at hSw)
              go_simp
              (try with_reducible rfl)
            (try simp only [Act.put, List.setIfInBounds_toArray, List.set_cons_zero, List.set_cons_succ])
            refine wpAnyH_ready (rs := [14]) (by kernel_rfl) (by simp) ?_
            refine AllReadyH.cons (by simp only [List.getElem?_toArray, List.getElem?_cons_succ, List.getElem?_cons_zero] <;> rfl) (fun K hK => ?_) AllReadyH.nil
            rw [if_pos (by kernel_rfl)]
            refine Lib.wp_append_run _ _ _ _ _ rfl _ (.int .i64 (z : Int)) rfl rfl _ w7 HRUN.out ?_
            refine hK.out _ _ cv7 ?_
            intro hS1
            clear hK hS0 cv0
            refine held_turn (S' := fun W => (Sem.run Tryd.prog (convert 25 9 (.slice va I.length vc)) W = .ok (.string sI) W) ∧ Sem.run Tryd.prog (convert 25 9 (.slice ya I.length yc)) W = .ok (.string sI) W) (fun _ h => h.1) _ _ _ _ ?_
            have hS2 := And.intro cv7 cvR
            (try simp only [Act.put, List.setIfInBounds_toArray, List.set_cons_zero, List.set_cons_succ])
            refine wpAnyH_take (i := 15) (v := .string sI) (by simp only [List.getElem?_toArray, List.getElem?_cons_succ, List.getElem?_cons_zero] <;> rfl) (by kernel_rfl) (by kernel_rfl) (by kernel_rfl) (fun _ _ _ h => h) (Or.inl ⟨by rfl, ?_⟩) (by assumption) ?_
            · intro w hSw
              (try dsimp only at hSw)
              go_simp
              (try with_reducible rfl)
            (try simp only [Act.put, List.setIfInBounds_toArray, List.set_cons_zero, List.set_cons_succ])
            refine wpAnyH_take (i := 16) (v := .bool true) (by simp only [List.getElem?_toArray, List.getElem?_cons_succ, List.getElem?_cons_zero] <;> rfl) (by kernel_rfl) (by kernel_rfl) (by kernel_rfl) (fun _ _ _ h => h) (Or.inl ⟨by rfl, ?_⟩) (by assumption) ?_
            · intro w hSw
              (try dsimp only at hSw)
              go_simp
              (try with_reducible rfl)
            (try simp only [Act.put, List.setIfInBounds_toArray, List.set_cons_zero, List.set_cons_succ])
            refine wpAnyH_take (i := 17) (v := .bool true) (by simp only [List.getElem?_toArray, List.getElem?_cons_succ, List.getElem?_cons_zero] <;> rfl) (by kernel_rfl) (by kernel_rfl) (by kernel_rfl) (fun _ _ _ h => h) (Or.inl ⟨by rfl, ?_⟩) (by assumption) ?_
            · intro w hSw
              (try dsimp only at hSw)
              go_simp
              (try with_reducible rfl)
            (try simp only [Act.put, List.setIfInBounds_toArray, List.set_cons_zero, List.set_cons_succ])
            refine wpAnyH_take (i := 18) (v := .bool true) (by simp only [List.getElem?_toArray, List.getElem?_cons_succ, List.getElem?_cons_zero] <;> rfl) (by kernel_rfl) (by kernel_rfl) (by kernel_rfl) (fun _ _ _ h => h) (Or.inl ⟨by rfl, ?_⟩) (by assumption) ?_
            · intro w hSw
              (try dsimp only at hSw)
              go_simp
              (try with_reducible rfl)
            (try simp only [Act.put, List.setIfInBounds_toArray, List.set_cons_zero, List.set_cons_succ])
            refine wpAnyH_done (by kernel_rfl) ?_ _
            refine NoPanic.normal ?_
            go_wp2
            go_ret
            exact ⟨rfl, HPT7.out⟩
end
end Go.Proofs.YtngddhoolijimaaDoor
namespace Go.Proofs.YtngddhoolijimaaDoor
open Go.RowKit
set_option linter.unusedVariables false
set_option linter.unusedSimpArgs false

theorem four_word {b : List UInt8} (h : 4 ≤ b.length) : four (wordAt b) = b.take 4 := by
  have h0 : four (wordAt b) = four (wordAt (b.take 4)) := by
    have : wordAt b = wordAt (b.take 4) := by
      conv => lhs; rw [← List.take_append_drop 4 b]
      exact word_prefix (by rw [List.length_take]; omega)
    rw [this]
  have hl : (b.take 4).length = 4 := by rw [List.length_take]; omega
  have hw : wordAt (four (wordAt b)) = wordAt (b.take 4) := by
    rw [word_four' (wordAt_lt b), ← List.take_append_drop 4 b, word_prefix (by omega)]
    simp
  have hi := word_inj hw
  apply List.ext_getElem?
  intro i
  by_cases h4 : i < 4
  · have := hi i h4
    rw [List.getD_eq_getElem?_getD, List.getD_eq_getElem?_getD, List.getElem?_eq_getElem (by rw [four_len]; exact h4), List.getElem?_eq_getElem (by omega)] at this
    rw [List.getElem?_eq_getElem (by rw [four_len]; exact h4), List.getElem?_eq_getElem (by omega)]
    exact congrArg some this
  · rw [List.getElem?_eq_none (by rw [four_len]; omega), List.getElem?_eq_none (by omega)]

theorem first_stands {b r : List UInt8} (h : firstR b = some r) : recB r = b.take (8 + r.length) ∧ r.length ≤ 1048576 := by
  unfold firstR at h
  split at h
  · cases h
  · rename_i h8
    split at h
    · cases h
    · rename_i hw
      split at h
      · cases h
      · rename_i hl
        split at h
        · cases h
        · rename_i hs
          have hr : (b.drop 8).take (wordAt b - 1) = r := by simpa using h
          have hrl : r.length = wordAt b - 1 := by rw [← hr, List.length_take, List.length_drop]; omega
          rw [hr] at hs
          have hs' : sumOf (b.take 4 ++ r) = wordAt (b.drop 4) := by simpa using hs
          have h4 := four_word (b := b) (by omega)
          have h4' := four_word (b := b.drop 4) (by rw [List.length_drop]; omega)
          refine ⟨?_, by omega⟩
          unfold recB
          rw [show r.length + 1 = wordAt b by omega, h4, hs', h4', show 8 + r.length = 4 + (4 + r.length) by omega, List.take_add, List.append_assoc]
          congr 1
          rw [List.take_add, List.drop_drop, hrl, show 4 + 4 = 8 from rfl, hr]

theorem dec_stands : ∀ (m : Nat) (b : List UInt8), b.length ≤ m → encs (dec b).1 = b.take (dec b).2 ∧ (dec b).2 ≤ b.length ∧ (∀ r ∈ (dec b).1, r.length ≤ 1048576) ∧ (dec b).1.length ≤ (dec b).2
  | m, b, hm => by
    cases hf : firstR b with
    | none => rw [dec_none hf]; exact ⟨by simp [encs_nil], by omega, by simp, by simp⟩
    | some r =>
      have hl := firstR_len hf
      obtain ⟨h1, h2⟩ := first_stands hf
      obtain ⟨m', rfl⟩ : ∃ k, m = k + 1 := ⟨m - 1, by omega⟩
      obtain ⟨i1, i2, i3, i4⟩ := dec_stands m' (b.drop (8 + r.length)) (by rw [List.length_drop]; omega)
      rw [dec_some hf]
      refine ⟨?_, ?_, ?_, ?_⟩
      · show encs (r :: (dec (b.drop (8 + r.length))).1) = _
        rw [encs_cons, i1, h1, ← List.take_add]
      · show 8 + r.length + _ ≤ _
        rw [List.length_drop] at i2; omega
      · intro x hx
        rcases List.mem_cons.1 hx with rfl | hx
        · exact h2
        · exact i3 x hx
      · show ((dec (b.drop (8 + r.length))).1.length + 1) ≤ _
        omega

/-- Where the law's records may lie. -/
def NF (B : DB) (fb lb wb b : Nat) : Prop := ¬ LT B fb lb b ∧ b ≠ wb

/-- The world of law 37 in memory. -/
structure LN (W w : World) (wb : Nat) (B : DB) (fb lb : Nat) (g : LG) (f : PF) (d : DK) (R : List (List UInt8)) (mv : Value) (maybe down : Bool) : Prop where
  bel : Below W.heap.size W w
  ge : ∀ b, LT B fb lb b ∨ b = wb → W.heap.size ≤ b
  nw : ¬ LT B fb lb wb
  c0 : w.cell? ⟨wb, 0, none⟩ = some (.pointer (some ⟨B.db, 0, none⟩))
  c1 : w.cell? ⟨wb, 1, none⟩ = some (pfPtr fb)
  c2 : w.cell? ⟨wb, 2, none⟩ = some (lgPtr lb)
  c3 : ∃ v, w.cell? ⟨wb, 3, none⟩ = some v ∧ rRs.rd w (NF B fb lb wb) [v] R
  c4 : w.cell? ⟨wb, 4, none⟩ = some mv
  c5 : w.cell? ⟨wb, 5, none⟩ = some (.bool maybe)
  c6 : w.cell? ⟨wb, 6, none⟩ = some (.bool down)
  fr : ∀ j, w.frozen? ⟨wb, j, none⟩ = false
  log : IsLog (fun b => b = wb) w lb fb B g
  file : IsFile w fb B f
  disk : IsDisk w B d

section
variable {W w w' : World} {wb fb lb : Nat} {B : DB} {g g' : LG} {f f' : PF} {d d' : DK} {R : List (List UInt8)} {mv : Value} {maybe down : Bool}

theorem LN.wl (h : LN W w wb B fb lb g f d R mv maybe down) : wb < w.heap.size := cell_lt h.c0
theorem LN.lt (h : LN W w wb B fb lb g f d R mv maybe down) : ∀ b, LT B fb lb b ∨ b = wb → b < w.heap.size := fun b hb => by
  have h1 := h.disk.lt
  have h2 := h.file.lt
  have h3 := h.log.lt
  have h4 := h.wl
  rcases hb with ((e | e | e) | e | e) | e <;> (subst e; omega)

/-- The log, its file and its disk have turned. -/
theorem LN.turns (h : LN W w wb B fb lb g f d R mv maybe down) (ht : LTurns (fun b => b = wb) lb fb B w w' g' f' d') : LN W w' wb B fb lb g' f' d' R mv maybe down := by
  have c : ∀ j, w'.cell? ⟨wb, j, none⟩ = w.cell? ⟨wb, j, none⟩ := fun j => ht.2.2.2.cell (a := ⟨wb, j, none⟩) h.nw h.wl
  obtain ⟨v3, e3, r3⟩ := h.c3
  exact ⟨h.bel.trans (ht.2.2.2.below h.bel.size (fun b hb => h.ge b (.inl hb))), h.ge, h.nw, (c 0).trans h.c0, (c 1).trans h.c1, (c 2).trans h.c2, ⟨v3, (c 3).trans e3, rRs.keep (fun b hb hl => ht.2.2.2.block b hl hb.1) ht.2.2.2.size r3⟩, (c 4).trans h.c4, (c 5).trans h.c5, (c 6).trans h.c6, fun j => (ht.2.2.2.frozen (a := ⟨wb, j, none⟩) h.nw h.wl).trans (h.fr j), ht.1, ht.2.1, ht.2.2.1⟩

theorem LN.below (h : LN W w wb B fb lb g f d R mv maybe down) (hb : Below w.heap.size w w') : LN W w' wb B fb lb g f d R mv maybe down :=
  h.turns ⟨h.log.below hb, h.file.keep (Chg.of_below hb (F := fun _ => False)) (fun h => h), h.disk.below hb, Chg.of_below hb⟩

theorem LN.pturns (h : LN W w wb B fb lb g f d R mv maybe down) (ht : PTurns fb B w w' f' d') : LN W w' wb B fb lb g f' d' R mv maybe down :=
  h.turns ⟨h.log.turns ht, ht.1, ht.2.1, ht.2.2.more (fun b _ e => e.elim .inl (fun e => .inr (.inl e)))⟩

/-- What a store to the world's block keeps. -/
theorem LN.sets (h : LN W w wb B fb lb g f d R mv maybe down) (k : Nat) (u : Value) : Below W.heap.size W (w.setCell ⟨wb, k, none⟩ u) ∧ (∀ j, (w.setCell ⟨wb, k, none⟩ u).frozen? ⟨wb, j, none⟩ = false) ∧ IsLog (fun b => b = wb) (w.setCell ⟨wb, k, none⟩ u) lb fb B g ∧ IsFile (w.setCell ⟨wb, k, none⟩ u) fb B f ∧ IsDisk (w.setCell ⟨wb, k, none⟩ u) B d ∧ (∀ v L, rRs.rd w (NF B fb lb wb) [v] L → rRs.rd (w.setCell ⟨wb, k, none⟩ u) (NF B fb lb wb) [v] L) := by
  have g1 : Chg (fun b => b = wb) w (w.setCell ⟨wb, k, none⟩ u) := Chg.setCell _ _ rfl
  have hlg : IsLog (fun b => b = wb) (w.setCell ⟨wb, k, none⟩ u) lb fb B g := by
    exact h.log.keep g1 (fun e => h.nw (.inr (.inr e.symm))) (fun b hb _ e => hb.2.2.2 e)
  exact ⟨h.bel.setCell (h.ge wb (.inr rfl)) _, fun j => by rw [World.frozen?_setCell]; exact h.fr j, hlg, h.file.keep g1 (fun e => h.nw (.inr (.inl e.symm))), h.disk.keep g1 (fun b hb e => h.nw (.inl (e ▸ hb))), fun v L hL => rRs.keep (fun b hb hl => g1.block b hl hb.2) g1.size hL⟩
end

set_option maxRecDepth 100000 in
theorem room37 {w : World} {wb fb : Nat} {B : DB} {f : PF} (hf : IsFile w fb B f) (k1 : w.cell? ⟨wb, 1, none⟩ = some (pfPtr fb)) : Calls Tryd.prog 68 #[.pointer (some ⟨wb, 0, none⟩)] w fun e w' => e = .returned (.int .i64 ((100 * f.n : Nat) : Int)) ∧ w' = w := by
  have HC := Lib.hid (pf_cap hf)
  have hn : 0 ≤ (f.n : Int) ∧ (f.n : Int) ≤ 4096 := by have := hf.few; omega
  have e1 : ((100 * f.n : Nat) : Int) = (f.n : Int) * 100 := by omega
  rw [e1]
  clear hf
  unfold pfPtr at *
  go_enter Tryd.func68, Tryd.ntmps68
  go_wp2_with fail
  refine HC.out.mono ?_
  rintro e w1 ⟨rfl, rfl⟩
  go_wp2
  go_ret
  exact ⟨rfl, rfl⟩
end Go.Proofs.YtngddhoolijimaaDoor
namespace Go.Proofs.YtngddhoolijimaaDoor
open Go.RowKit
set_option linter.unusedVariables false
set_option linter.unusedSimpArgs false

section
variable {W w : World} {wb fb lb n N : Nat} {B : DB} {g : LG} {d : DK} {P R : List (List UInt8)} {mv : Value} {maybe : Bool}

theorem LN.setRecs {f : PF} {down : Bool} {v : Value} {L : List (List UInt8)} (h : LN W w wb B fb lb g f d R mv maybe down) (hL : rRs.rd w (NF B fb lb wb) [v] L) : LN W (w.setCell ⟨wb, 3, none⟩ v) wb B fb lb g f d L mv maybe down := by
  obtain ⟨k1, k2, k3, k4, k5, k6⟩ := h.sets 3 v
  obtain ⟨v3, e3, _⟩ := h.c3
  exact ⟨k1, h.ge, h.nw, (lset_ne (by decide)).trans h.c0, (lset_ne (by decide)).trans h.c1, (lset_ne (by decide)).trans h.c2, ⟨v, World.cell?_setCell_same _ _ _ e3, k6 _ _ hL⟩, (lset_ne (by decide)).trans h.c4, (lset_ne (by decide)).trans h.c5, (lset_ne (by decide)).trans h.c6, k2, k3, k4, k5⟩

set_option maxRecDepth 100000 in
set_option maxHeartbeats 8000000 in
theorem change37_app (h : LN W w wb B fb lb g ⟨n, false⟩ d R mv maybe false) (hc : Clean n N P d) (hfu : d.fuse = 0) (hI : g.img = P.flatten) (hg : g.recs = R) (hgf : g.failed = false)
    (rv : Value) (rs : List (List UInt8)) (hrv : rRs.rd w (NF B fb lb wb) [rv] rs) (data : List UInt8) (h0 : rs[0]? = some data) (hdl : data.length ≤ 1000) (hSm : (∀ r ∈ R, r.length ≤ 1048576) ∧ (encs R).length ≤ 40000000) (hRl : R.length ≤ 100000)
    (hfull : 100 * n < (encs (R ++ [data])).length → P.flatten = padTo (100 * n) (encs R) ∧ (encs R).length ≤ 100 * n) :
    Calls Tryd.prog 44 #[.pointer (some ⟨wb, 0, none⟩), rv, .bool false] w fun e w' => e = .returned (.bool true) ∧ Below W.heap.size W w' := by
  obtain ⟨va, vc, rfl, _, _, hget⟩ := rs_get hrv
  obtain ⟨rg, ro, u, rfl, hrgN, hrgl, hrgc, hu⟩ := hget 0 data h0
  obtain ⟨ua, uc, rfl⟩ := (Dat.of_rd hu).len
  rw [Nat.add_zero] at hrgc
  obtain ⟨wv, c3, r3⟩ := h.c3
  obtain ⟨wa, wc, rfl, _, _, _⟩ := rs_get r3
  obtain ⟨xs, hsl, hone, hget3⟩ := rs_open (rs_shrink (G := fun b => NF B fb lb wb b ∧ b < w.heap.size) (fun b hb hl => ⟨hb, hl⟩) r3)
  have HSL := Lib.hid (And.intro hsl (And.intro hone (And.intro hget3 (rs_nil r3))))
  have HU := Lib.hid (by_shrink (G := fun b => NF B fb lb wb b ∧ b < w.heap.size) (fun b hb hl => ⟨hb, hl⟩) hu)
  have HLN := Lib.hid h
  have HC := Lib.hid (And.intro hc (And.intro hfu (And.intro hI (And.intro hg hgf))))
  have HRG := Lib.hid (And.intro hrgN (And.intro hrgl hrgc))
  obtain ⟨NX, hNX⟩ : ∃ NX, NX = R ++ [data] := ⟨_, rfl⟩
  rw [← hNX] at hfull
  have hNl : NX.length = R.length + 1 := by rw [hNX]; simp
  have hNe : (encs NX).length = (encs R).length + (8 + data.length) := by rw [hNX, encs_append, List.length_append, encs_cons, encs_nil, List.append_nil, recB_len]
  have HSN := Lib.hid (show Small NX from ⟨fun r hr => by
    rw [hNX] at hr
    rcases List.mem_append.1 hr with hr | hr
    · exact hSm.1 r hr
    · rw [List.mem_singleton.1 hr]; omega, by omega⟩)
  have HSR := Lib.hid (show Small R from ⟨hSm.1, by omega⟩)
  have HNL := Lib.hid (show NX.length ≤ 1000000 ∧ R.length ≤ 1000000 from by omega)
  have HFU := Lib.hid hfull
  have HNX := Lib.hid hNX
  have hst := lgStore_any (g := g) (L := NX) hc (f := ⟨n, false⟩) rfl hI
  have hla : lgAppend g ⟨n, false⟩ d data = lgStore g ⟨n, false⟩ d NX := by
    unfold lgAppend
    rw [if_neg (by rw [hgf]; simp), if_neg (by omega), hg, hNX]
  have HIL := Lib.hid (show g.img.length = 100 * n from by rw [hI, flat_len hc.pays])
  have i1 : (0 : Int) < (rs.length : Int) := by have := (List.getElem?_eq_some_iff.1 h0).1; omega
  obtain ⟨ql, hql⟩ : ∃ ql, ql = rs.length := ⟨_, rfl⟩
  rw [← hql] at i1 ⊢
  have j1 : 0 < ql := by omega
  have HDL := Lib.hid hdl
  have HRL := Lib.hid hRl
  have HSM := Lib.hid hSm.1
  obtain ⟨i0, hi0, hz0, hz1, hz2⟩ := info_parts bs_info
  obtain ⟨rm, hrm⟩ : ∃ rm, rm = 100 * n := ⟨_, rfl⟩
  have hn4 := h.file.few
  have hrm0 : 0 ≤ (rm : Int) ∧ (rm : Int) ≤ 409600 := by simp only at hn4; omega
  have hen0 : 0 ≤ ((encs NX).length : Int) ∧ ((encs NX).length : Int) ≤ 50000000 := by omega
  obtain ⟨EL, hEL⟩ : ∃ EL, EL = (encs NX).length := ⟨_, rfl⟩
  rw [← hEL] at hen0
  have HEL := Lib.hid hEL
  have HRM := Lib.hid hrm
  have INIT := Lib.hid (show w.drew.cell? ⟨wb, 3, none⟩ = some (.slice wa R.length wc) ∧ w.drew.cell? ⟨rg, ro, none⟩ = some (.slice ua data.length uc) from ⟨c3, hrgc⟩)
  have HWL := Lib.hid h.wl
  have KEEP := Lib.hid (show ∀ w', Below w.heap.size w w' → (w'.cell? ⟨wb, 3, none⟩ = some (.slice wa R.length wc) ∧ w'.cell? ⟨rg, ro, none⟩ = some (.slice ua data.length uc)) from fun w' hb => ⟨(hb.cell (p := ⟨wb, 3, none⟩) h.wl).trans c3, (hb.cell (p := ⟨rg, ro, none⟩) hrgl).trans hrgc⟩)
  clear h hc hfu hI hg hgf hrv h0 hdl hSm hRl hfull hget hrgN hrgl hrgc hu c3 r3 hsl hone hget3 hNX hNl hNe hn4 hrm hEL hql
  go_enter Tryd.func44, Tryd.ntmps44
  go_wp2_with fail
  go_region_held3 (fun W' => W'.cell? ⟨wb, 3, none⟩ = some (.slice wa R.length wc) ∧ W'.cell? ⟨rg, ro, none⟩ = some (.slice ua data.length uc))
    (first | assumption | exact INIT.out | exact KEEP.out _ ((Below.refl _ _).drew.alloc (Nat.le_refl _) _) | exact KEEP.out _ hb2 | exact KEEP.out _ (hb1.alloc hb1.size _) | exact KEEP.out _ hb1)
    (first | (refine step_append_sl (by rfl) (.const (.slice none 0 0)) (.tmp 15) 57 (by rfl) w.heap.size 25 i0 (.slice none 0 0) 1 24 Tryd.underlying57 hi0 hz0 hz1 hz2 rfl (by decide) (.slice none 0 0) 0 [] (by simp [Act.eval]) (World.ownsRow_nil _ _ _ _) (.slice wa R.length wc) R.length xs (by simp [Act.eval, Act.put]) (by first | exact HSL.out.1.keep (Below.refl _ _).drew | exact HSL.out.1.keep ((Below.refl _ _).drew.alloc (Nat.le_refl _) _)) (fun c h => HSL.out.2.2.2 _ c h) HSL.out.2.1 (by unfold maxLen; have := HRL.out; omega) (by have := HRL.out; omega) (by simp) w (by first | exact (Below.refl _ _).drew | exact (Below.refl _ _).drew.alloc (Nat.le_refl _) _) ?_; intro v1 w1 hown1 hg1 hb1; rw [Nat.zero_add, List.nil_append] at hown1) | (refine step_append_sl (by rfl) (.tmp 16) (.tmp 20) 57 (by rfl) w.heap.size 25 i0 (.slice none 0 0) 1 24 Tryd.underlying57 hi0 hz0 hz1 hz2 rfl (by decide) v1 R.length xs (by simp [Act.eval, Act.put]) (by first | exact hown1 | exact own_at hown1 ((Below.refl _ _).alloc (Nat.le_refl _) _)) _ 1 [.slice ua data.length uc] (by first | (simp [Act.eval, Act.put]; done) | (simp [Act.eval, Act.put]; rfl)) (by first | exact sl_at rfl | exact sl_at (by simp) | exact sl_grown (sl_keep3 (Below.refl _ _).drew (sl_at rfl)) hg1 (by simp [Value.ownBlock])) (fun c h => by cases h) (one_val _ rfl) (by unfold maxLen; have := HRL.out; omega) (by have := HRL.out; omega) (by first | exact hb1.size | (have := hb1.size; simp; omega)) w (by first | exact hb1 | exact hb1.alloc hb1.size _) ?_; intro v2 w2 hown2 hg2 hb2) | fail)
  all_goals
    have HB2 := Lib.hid hb2
    have HN2 := Lib.hid (HLN.out.below (hb2.mono (Nat.le_refl _)))
    have HFR := Lib.hid (show ∀ b, w.heap.size ≤ b → NF B fb lb wb b from fun b hb => ⟨fun e => by have := HLN.out.lt b (.inl e); omega, fun e => by have := HLN.out.lt b (.inr e); omega⟩)
    have HX2 := Lib.hid (show rRs.rd w2 (NF B fb lb wb) [v2] NX from by
      rw [HNX.out]
      refine refs_rd (base := w.heap.size) (xs := xs ++ [.slice ua data.length uc]) (by rw [List.length_append]; exact hown2) (fun j p hp => ?_) (fun b hb _ => HFR.out b hb)
      have hxl : xs.length = R.length := by have := HSL.out.1.1; omega
      by_cases hj : j < R.length
      · rw [List.getElem?_append_left hj] at hp
        obtain ⟨y, e, hy⟩ := HSL.out.2.2.1 j p hp
        exact ⟨y, by rw [List.getElem?_append_left (by omega)]; exact e, rBy.more (fun b hb => hb.1) (rBy.keep (fun b hb _ => HB2.out.block b hb.2) HB2.out.size hy)⟩
      · have hjl := (List.getElem?_eq_some_iff.1 hp).1
        rw [List.length_append, List.length_singleton] at hjl
        obtain rfl : j = R.length := by omega
        rw [List.getElem?_append_right (Nat.le_refl _), Nat.sub_self] at hp
        obtain rfl : data = p := by simpa using hp
        exact ⟨_, by rw [List.getElem?_append_right (by omega), hxl, Nat.sub_self]; rfl, rBy.more (fun b hb => hb.1) (rBy.keep (fun b hb _ => HB2.out.block b hb.2) HB2.out.size HU.out)⟩)
    obtain ⟨xa, xc, rfl⟩ : ∃ xa xc, v2 = .slice xa NX.length xc := by obtain ⟨a, c, e, _⟩ := rs_get HX2.out; exact ⟨a, c, e⟩
    have HND := Lib.hid (HN2.out.below (Below.refl _ _).drew)
    have HXD := Lib.hid (rRs.keep (w' := w2.drew) (fun b _ hl => (Below.refl w2.heap.size w2).drew.block b hl) (Nat.le_refl _) HX2.out)
    have HUD := Lib.hid (show Dat w2.drew (.slice ua data.length uc) data from Dat.keep (Dat.of_rd (rBy.keep (fun b hb _ => HB2.out.block b hb.2) HB2.out.size HU.out)) (Below.refl _ _).drew)
    have hap := rl_Append (fun b hb => by rw [hb]; exact HND.out.wl) HND.out.log HND.out.file HND.out.disk (.slice ua data.length uc) data HUD.out (by rw [HIL.out]) (by rw [HC.out.2.2.2.1]; exact HSM.out) (by rw [HC.out.2.2.2.1]; have := HRL.out; omega) (by have := HDL.out; omega)
    rw [hla] at hap
    have INIT2 := Lib.hid (show w2.drew.cell? ⟨wb, 2, none⟩ = some (lgPtr lb) ∧ w2.drew.cell? ⟨rg, ro, none⟩ = some (.slice ua data.length uc) from ⟨HND.out.c2, (KEEP.out w2.drew hb2.drew).2⟩)
    have KEEP2 := Lib.hid (show ∀ w' g' f' d', LTurns (fun b => b = wb) lb fb B w2.drew w' g' f' d' → (w'.cell? ⟨wb, 2, none⟩ = some (.pointer (some ⟨lb, 0, none⟩)) ∧ w'.cell? ⟨rg, ro, none⟩ = some (.slice ua data.length uc)) from fun w' g' f' d' ht => ⟨(HND.out.turns ht).c2, (ht.2.2.2.cell (a := ⟨rg, ro, none⟩) HRG.out.1.1 (Nat.lt_of_lt_of_le HRG.out.2.1 HB2.out.size)).trans INIT2.out.2⟩)
    clear hown1 hg1 hb1 hown2 hg2 hb2
    rcases hst with ⟨h1, h2⟩ | ⟨h1, d', h2, h3, h4⟩ | ⟨_, d', _, h3, _⟩
    · rw [h2] at hap
      have HAP := Lib.hid hap
      have HFL := Lib.hid (HFU.out h1)
      have hgt : decide ((rm : Int) < (EL : Int)) = true := by have := HRM.out; have := HEL.out; simp; omega
      have hgt' : (rm : Int) < (EL : Int) := by have := HRM.out; have := HEL.out; omega
      clear hap hla h1 h2
      unfold lgPtr at INIT2 HAP
      go_wp2_with fail
      go_region_held3 (fun W' => W'.cell? ⟨wb, 2, none⟩ = some (.pointer (some ⟨lb, 0, none⟩)) ∧ W'.cell? ⟨rg, ro, none⟩ = some (.slice ua data.length uc))
        (first | assumption | exact INIT2.out | exact KEEP2.out _ _ _ _ hT)
        (first | (go_at_call 46; refine HAP.out.mono ?_; rintro e w3 ⟨rfl, hT⟩) | fail)
      all_goals
        have HN3 := Lib.hid (HND.out.turns hT)
        have HX3 := Lib.hid (rRs.keep (fun b hb hl => hT.2.2.2.block b hl hb.1) hT.2.2.2.size HXD.out)
        have c6 := HN3.out.c6
        clear hT
        go_wp2_with fail
        refine (rf_EncodeRecords _ NX w3 HX3.out HSN.out).mono ?_
        rintro e w4 ⟨v4, rfl, hr4, hb4⟩
        obtain ⟨ea, ec, rfl⟩ : ∃ ea ec, v4 = .slice ea EL ec := by
          obtain ⟨a, c, e⟩ := hr4.dat.len
          exact ⟨a, c, by rw [HEL.out]; exact e⟩
        have HN4 := Lib.hid (HN3.out.below hb4)
        have HX4 := Lib.hid (rRs.keep (fun b _ hl => hb4.block b hl) hb4.size HX3.out)
        obtain ⟨v3, c3, r3⟩ := HN4.out.c3
        obtain ⟨a3, k3, rfl, _⟩ := rs_get r3
        have HR3 := Lib.hid r3
        have f3 := HN4.out.fr 3
        clear hr4 hb4 c6 r3
        go_wp2_with fail
        refine (room37 HN4.out.file HN4.out.c1).mono ?_
        rintro e w5 ⟨rfl, rfl⟩
        rw [show ((100 * PF.n ⟨n, false⟩ : Nat) : Int) = (rm : Int) from by rw [HRM.out]]
        have HG := Lib.hid (show ∀ b, NF B fb lb wb b → ¬ (B.has b ∨ b = fb) from fun b hb e => hb.1 (e.elim .inl (fun e => .inr (.inl e))))
        have HNW := Lib.hid (show ¬ (B.has wb ∨ wb = fb) from fun e => HN4.out.nw (e.elim .inl (fun e => .inr (.inl e))))
        go_wp2_with fail
        refine (same37 HN4.out.log HN4.out.file HN4.out.disk HNW.out HN4.out.wl HN4.out.c1 HN4.out.c2 _ HR3.out HG.out HC.out.2.2.2.1 HSR.out HNL.out.2 true (fun _ => ⟨HC.out.1, HFL.out⟩)).mono ?_
        rintro e w6 ⟨rfl, hS⟩
        have HFIN := Lib.hid (HN4.out.pturns hS).bel
        clear hS
        go_wp2
        go_ret
        exact ⟨rfl, HFIN.out⟩
    · rw [h2] at hap
      have HAP := Lib.hid hap
      have HC3 := Lib.hid (And.intro h1 h3)
      have hgt : decide ((rm : Int) < (EL : Int)) = false := by have := HRM.out; have := HEL.out; simp; omega
      have hgt' : ¬ (rm : Int) < (EL : Int) := by have := HRM.out; have := HEL.out; omega
      clear hap hla h1 h2 h3 h4
      unfold lgPtr at INIT2 HAP
      go_wp2_with fail
      go_region_held3 (fun W' => W'.cell? ⟨wb, 2, none⟩ = some (.pointer (some ⟨lb, 0, none⟩)) ∧ W'.cell? ⟨rg, ro, none⟩ = some (.slice ua data.length uc))
        (first | assumption | exact INIT2.out | exact KEEP2.out _ _ _ _ hT)
        (first | (go_at_call 46; refine HAP.out.mono ?_; rintro e w3 ⟨rfl, hT⟩) | fail)
      all_goals
        have HN3 := Lib.hid (HND.out.turns hT)
        have HX3 := Lib.hid (rRs.keep (fun b hb hl => hT.2.2.2.block b hl hb.1) hT.2.2.2.size HXD.out)
        have c6 := HN3.out.c6
        clear hT
        go_wp2_with fail
        refine (rf_EncodeRecords _ NX w3 HX3.out HSN.out).mono ?_
        rintro e w4 ⟨v4, rfl, hr4, hb4⟩
        obtain ⟨ea, ec, rfl⟩ : ∃ ea ec, v4 = .slice ea EL ec := by
          obtain ⟨a, c, e⟩ := hr4.dat.len
          exact ⟨a, c, by rw [HEL.out]; exact e⟩
        have HN4 := Lib.hid (HN3.out.below hb4)
        have HX4 := Lib.hid (rRs.keep (fun b _ hl => hb4.block b hl) hb4.size HX3.out)
        obtain ⟨v3, c3, r3⟩ := HN4.out.c3
        obtain ⟨a3, k3, rfl, _⟩ := rs_get r3
        have HR3 := Lib.hid r3
        have f3 := HN4.out.fr 3
        clear hr4 hb4 c6 r3
        go_wp2_with fail
        refine (room37 HN4.out.file HN4.out.c1).mono ?_
        rintro e w5 ⟨rfl, rfl⟩
        rw [show ((100 * PF.n ⟨n, false⟩ : Nat) : Int) = (rm : Int) from by rw [HRM.out]]
        have HG := Lib.hid (show ∀ b, NF B fb lb wb b → ¬ (B.has b ∨ b = fb) from fun b hb e => hb.1 (e.elim .inl (fun e => .inr (.inl e))))
        have HNW := Lib.hid (show ¬ (B.has wb ∨ wb = fb) from fun e => HN4.out.nw (e.elim .inl (fun e => .inr (.inl e))))
        go_wp2_with fail
        have HN6 := Lib.hid (HN4.out.setRecs HX4.out)
        have HX6 := Lib.hid ((HN4.out.sets 3 (.slice xa NX.length xc)).2.2.2.2.2 _ _ HX4.out)
        obtain ⟨w6, hw6⟩ : ∃ w6, w6 = w5.setCell ⟨wb, 3, none⟩ (.slice xa NX.length xc) := ⟨_, rfl⟩
        rw [← hw6] at HN6 HX6 ⊢
        clear hw6
        refine (same37 HN6.out.log HN6.out.file HN6.out.disk HNW.out HN6.out.wl HN6.out.c1 HN6.out.c2 _ HX6.out HG.out rfl HSN.out HNL.out.1 true (fun _ => ⟨HC3.out.2, pgs_flat (padTo_len HC3.out.1), HC3.out.1⟩)).mono ?_
        rintro e w7 ⟨rfl, hS⟩
        have HFIN := Lib.hid (HN6.out.pturns hS).bel
        clear hS
        go_wp2
        go_ret
        exact ⟨rfl, HFIN.out⟩
    · exact absurd HC.out.2.1 h3
end
end Go.Proofs.YtngddhoolijimaaDoor
namespace Go.Proofs.YtngddhoolijimaaDoor
open Go.RowKit
set_option linter.unusedVariables false
set_option linter.unusedSimpArgs false

theorem pays_ext' {n : Nat} {P Q : List (List UInt8)} (hQ : Pays n Q) (hP : Pays n P) (h : ∀ j, j < n → Q.getD j [] = P.getD j []) : Q = P := by
  apply List.ext_getElem?
  intro j
  have h1 := hP.len
  have h2 := hQ.len
  by_cases hj : j < n
  · have := h j hj
    rw [List.getD_eq_getElem?_getD, List.getD_eq_getElem?_getD, List.getElem?_eq_getElem (by omega), List.getElem?_eq_getElem (by omega)] at this
    rw [List.getElem?_eq_getElem (by omega), List.getElem?_eq_getElem (by omega)]
    exact congrArg some this
  · rw [List.getElem?_eq_none (by omega), List.getElem?_eq_none (by omega)]

/-- The first k pieces of some bytes. -/
def pieces (A : List UInt8) (k : Nat) : List (Int × List UInt8) := (List.range k).map fun i : Nat => ((i : Int), chunk A i)
theorem pieces_zero (A : List UInt8) : pieces A 0 = [] := rfl
theorem pieces_succ (A : List UInt8) (k : Nat) : pieces A (k + 1) = pieces A k ++ [((k : Int), chunk A k)] := by unfold pieces; rw [List.range_succ, List.map_append]; rfl
theorem pieces_len (A : List UInt8) (k : Nat) : (pieces A k).length = k := by simp [pieces]

theorem chunk_le (A : List UInt8) (i : Nat) : (chunk A i).length ≤ 100 := by unfold chunk; rw [List.length_take]; omega

theorem pieces_right {n k : Nat} (A : List UInt8) (hk : k ≤ n) : Right n (pieces A k) := fun x hx => by
  unfold pieces at hx
  obtain ⟨i, hi, rfl⟩ := List.mem_map.1 hx
  have := List.mem_range.1 hi
  exact ⟨by simp, by simp; omega, chunk_le A i⟩

theorem pieces_last (A : List UInt8) (k i : Nat) : lastOf (pieces A k) i = if i < k then some (fill (chunk A i)) else none := by
  induction k with
  | zero => simp [pieces_zero, lastOf]
  | succ k ih =>
    rw [pieces_succ, lastOf_eq, List.foldl_append, ← lastOf_eq, ih]
    show lastStep i _ _ = _
    by_cases e : i = k
    · subst e
      rw [lastStep_eq rfl, if_pos (by omega)]
    · rw [lastStep_ne (by show ¬ ((k : Int) = (i : Int)); omega)]
      by_cases h : i < k
      · rw [if_pos h, if_pos (by omega)]
      · rw [if_neg h, if_neg (by omega)]

theorem fill_chunk {A : List UInt8} {m i : Nat} (hA : A.length ≤ m) (hi : 100 * i + 100 ≤ m) : fill (chunk A i) = chunk (padTo m A) i := by
  apply List.ext_getElem?
  intro j
  unfold fill chunk padTo
  by_cases hj : j < 100
  · rw [List.getElem?_take_of_lt hj, List.getElem?_drop]
    by_cases h1 : 100 * i + j < A.length
    · rw [List.getElem?_append_left (by rw [List.length_take, List.length_drop]; omega), List.getElem?_take_of_lt hj, List.getElem?_drop, List.getElem?_append_left h1]
    · rw [List.getElem?_append_right (by rw [List.length_take, List.length_drop]; omega), List.getElem?_append_right (by omega), List.getElem?_replicate, List.getElem?_replicate, if_pos (by rw [List.length_take, List.length_drop]; omega), if_pos (by omega)]
  · rw [List.getElem?_eq_none (by rw [List.length_append, List.length_replicate, List.length_take, List.length_drop]; omega), List.getElem?_eq_none (by rw [List.length_take]; omega)]

theorem chunk_zero (m i : Nat) (hi : 100 * i + 100 ≤ m) : chunk (List.replicate m (0 : UInt8)) i = List.replicate 100 0 := by
  unfold chunk
  rw [List.drop_replicate, List.take_replicate, Nat.min_eq_left (by omega)]

theorem chunk_past {A : List UInt8} {m i : Nat} (hA : A.length ≤ 100 * i) (hi : 100 * i + 100 ≤ m) : chunk (padTo m A) i = List.replicate 100 0 := by
  unfold chunk padTo
  rw [List.drop_append, List.drop_of_length_le hA, List.nil_append, List.drop_replicate, List.take_replicate, Nat.min_eq_left (by omega)]

theorem pieces_all {A : List UInt8} {n k : Nat} (hA : A.length ≤ 100 * n) (hk : A.length ≤ 100 * k) (hkn : k ≤ n) : withW (zeroP n) (pieces A k) = pgs n (padTo (100 * n) A) := by
  have hpad := padTo_len hA
  refine pays_ext' (withW_pays (pieces_right A hkn) (zeroP_pays n)) (pgs_pays hpad) fun j hj => ?_
  rw [withW_get (fun x hx => ((pieces_right A hkn) x hx).1) (by simp [zeroP]; exact hj), pieces_last, pgs_getD hj]
  by_cases h : j < k
  · rw [if_pos h]; exact fill_chunk hA (by omega)
  · rw [if_neg h, chunk_past (by omega) (by omega)]
    show (zeroP n).getD j [] = _
    unfold zeroP
    rw [List.getD_eq_getElem?_getD, List.getElem?_replicate, if_pos hj]; rfl

theorem cut_block' {g n c p q : Nat} (hpq : p < q) (hq : q ≤ n) (hc : n ≤ c) : (∀ W, Sem.run Tryd.prog (Instr.sliceAt 25 (.slice (some ⟨g, 0, none⟩) n c) (some (.int .i64 (p : Int))) (some (.int .i64 (q : Int))) none) W = .ok (.slice (some ⟨g, p, none⟩) (q - p) (c - p)) W) ∧
    (∀ W, Sem.run Tryd.prog (Instr.slice 25 (.slice (some ⟨g, 0, none⟩) n c) (some (.int .i64 (p : Int))) (some (.int .i64 (q : Int))) none) W = .ok (.slice (some ⟨g, p, none⟩) (q - p) (c - p)) W) := by
  have h2 : ∀ W, Sem.run Tryd.prog (Instr.slice 25 (.slice (some ⟨g, 0, none⟩) n c) (some (.int .i64 (p : Int))) (some (.int .i64 (q : Int))) none) W = .ok (.slice (some ⟨g, p, none⟩) (q - p) (c - p)) W := by
    intro W
    rw [run_slice_lh W 25 (some ⟨g, 0, none⟩) n c under_bytes .i64 .i64 (p : Int) (q : Int) (by omega) (by omega) (by omega), size_byte]
    simp only [Result.andThen, sliced, Int.toNat_natCast]
    rw [if_neg (by omega)]
    simp [Addr.add_mid]
  exact ⟨fun W => (run_sliceAt_slice W 25 _ _ _ _ under_bytes).trans (h2 W), h2⟩

theorem row_chunk' {w : World} {base g n c p q : Nat} {l : List UInt8} (h : Row w base (.slice (some ⟨g, 0, none⟩) n c) l) (hn : l.length = n) (hpq : p < q) (hq : q ≤ n) : rBy.rd w (fun b => b = g) [.slice (some ⟨g, p, none⟩) (q - p) (c - p)] ((l.take q).drop p) := by
  have hlen : ((l.take q).drop p).length = q - p := by rw [List.length_drop, List.length_take]; omega
  have hcc : n ≤ c ∧ c ≤ maxLen := by
    rcases h.2 with ⟨e, _⟩ | ⟨g', cap, cur, e, _, _, h1, h2, _⟩
    · cases e
    · simp only [Value.slice.injEq] at e
      obtain ⟨_, _, rfl⟩ := e
      exact ⟨by omega, h2⟩
  refine ⟨⟨_, q - p, c - p, rfl, hlen.symm, by omega, by omega, .inr ⟨g, p, rfl, rfl, ?_, fun i x hx => ?_⟩⟩, fun n c e => by simp at e⟩
  · have := h.dat.le.2.2 (by omega)
    obtain ⟨g', off, e, hg⟩ := this
    cases e; exact hg
  · refine ⟨[.int .u8 (x.toNat : Int)], fun j u hu => ?_, rfl⟩
    match j, hu with
    | 0, hu =>
      obtain rfl : Value.int .u8 (x.toNat : Int) = u := by simpa using hu
      rw [List.getElem?_drop, List.getElem?_take] at hx
      split at hx
      · obtain ⟨g', off, e, _, hc⟩ := data_byte h.dat.1 hx
        cases e
        rw [show p + i * rByte.size + 0 = 0 + (p + i) by show p + i * 1 + 0 = _; omega]
        exact hc
      · cases hx

theorem foreign_full {PA Al data : List UInt8} {m : Nat} (hPA : PA = padTo m Al) (hAl : Al.length ≤ m) (hm : Al.length + 8 + data.length ≤ m) (hb : m < (encs ((dec PA).1 ++ [data])).length) : PA = padTo m (encs (dec PA).1) ∧ (encs (dec PA).1).length ≤ m := by
  obtain ⟨h1, h2, _, _⟩ := dec_stands PA.length PA (Nat.le_refl _)
  have hl : PA.length = m := by rw [hPA]; exact padTo_len hAl
  rw [encs_append, List.length_append, encs_cons, encs_nil, List.append_nil, recB_len] at hb
  have he : (encs (dec PA).1).length = (dec PA).2 := by rw [h1, List.length_take]; omega
  refine ⟨?_, by omega⟩
  have hd : PA.drop (dec PA).2 = List.replicate (m - (dec PA).2) 0 := by
    obtain ⟨N2, hN⟩ : ∃ N2, N2 = (dec PA).2 := ⟨_, rfl⟩
    rw [← hN]
    rw [← hN] at he
    rw [hPA]
    unfold padTo
    rw [List.drop_append, List.drop_of_length_le (by omega), List.nil_append, List.drop_replicate]
    congr 1; omega
  conv => lhs; rw [← List.take_append_drop (dec PA).2 PA, hd, ← h1]
  unfold padTo
  rw [he]
end Go.Proofs.YtngddhoolijimaaDoor
namespace Go.Proofs.YtngddhoolijimaaDoor
open Go.RowKit
set_option linter.unusedVariables false
set_option linter.unusedSimpArgs false

theorem chunk_min {A : List UInt8} {i p q : Nat} (hp : p = 100 * i) (hq : q = min A.length (p + 100)) : (A.take q).drop p = chunk A i := by
  unfold chunk
  rw [List.drop_take, ← hp]
  by_cases h : p + 100 ≤ A.length
  · rw [hq, Nat.min_eq_right h, Nat.add_sub_cancel_left]
  · rw [hq, Nat.min_eq_left (by omega), List.take_of_length_le (by rw [List.length_drop]; exact Nat.le_refl _), List.take_of_length_le (by rw [List.length_drop]; omega)]

theorem few_small3 {L : List (List UInt8)} (h : L.length ≤ 20 ∧ ∀ x ∈ L, x.length ≤ 500) : Small L ∧ (encs L).length ≤ 10160 := by
  have := encs_len_le h.1 h.2
  exact ⟨⟨fun r hr => by have := h.2 r hr; omega, by omega⟩, by omega⟩

/-- One record, in a slice of its own. -/
theorem rd_one1 {w : World} {F : Nat → Prop} {u : Value} {T : TypeId} {r : List UInt8} (h : rBy.rd w F [u] r) (hF : F w.heap.size) : rRs.rd (w.alloc (.cells #[u] T)) F [.slice (some ⟨w.heap.size, 0, none⟩) 1 1] [r] := by
  have hb : Below w.heap.size w (w.alloc (.cells #[u] T)) := (Below.refl _ _).alloc (Nat.le_refl _) _
  refine ⟨⟨_, 1, 1, rfl, rfl, Nat.le_refl _, by unfold maxLen; omega, .inr ⟨w.heap.size, 0, rfl, hF, by simp, fun i x hx => ?_⟩⟩, fun n c e => by simp at e⟩
  match i, hx with
  | 0, hx =>
    obtain rfl : r = x := by simpa using hx
    refine ⟨[u], fun j y hy => ?_, rBy.keep (fun b _ hl => hb.block b hl) hb.size h⟩
    have := new_cells w [u] T j y hy
    rw [Addr.add_mid] at this
    simpa using this

set_option maxRecDepth 100000 in
set_option maxHeartbeats 16000000 in
theorem foreign37_walk (v : Value) (L : List (List UInt8)) (v1 : Value) (b : List UInt8) (v2 : Value) (data : List UInt8) (W : World) (h : rRs.rd W (· < W.heap.size) [v] L) (h1 : rBy.rd W (· < W.heap.size) [v1] b) (h2 : rBy.rd W (· < W.heap.size) [v2] data) :
    Calls Tryd.prog 12 #[v, v1, v2] W (Holds W) := by
  obtain ⟨a, c, rfl, _, _, _⟩ := rs_get h
  obtain ⟨ba, bc, rfl⟩ := (Dat.of_rd h1).len
  obtain ⟨da, dc, rfl⟩ := (Dat.of_rd h2).len
  have HL := Lib.hid h
  have HD := Lib.hid (Dat.of_rd h1)
  have HDA := Lib.hid h2
  have hbl : 0 ≤ (b.length : Int) := by omega
  have hdl : 0 ≤ (data.length : Int) := by omega
  clear h h1 h2
  go_enter Tryd.func12, Tryd.ntmps12
  go_wp2_with fail
  refine (few37 _ L W HL.out).mono ?_
  rintro e w1 ⟨r, rfl, rfl, hr⟩
  cases r with
  | false =>
    go_wp2_with fail
    refine (awake37_any _).mono ?_
    rintro e w2 ⟨rfl, hb⟩
    have HB := Lib.hid hb
    clear hb hr
    go_wp2
    go_ret
    exact ⟨rfl, HB.out⟩
  | true =>
    have HS := Lib.hid (few_small3 (hr rfl))
    clear hr
    by_cases hlong : 1500 < b.length
    · have g3 : decide ((1500 : Int) < (b.length : Int)) = true := by simp; omega
      have g3' : (1500 : Int) < (b.length : Int) := by omega
      go_wp2_with fail
      refine (awake37_any _).mono ?_
      rintro e w2 ⟨rfl, hb⟩
      have HB := Lib.hid hb
      clear hb
      go_wp2
      go_ret
      exact ⟨rfl, HB.out⟩
    · have g3 : decide ((1500 : Int) < (b.length : Int)) = false := by simp; omega
      have g3' : ¬ (1500 : Int) < (b.length : Int) := by omega
      by_cases hlong2 : 300 < data.length
      · have g4 : decide ((300 : Int) < (data.length : Int)) = true := by simp; omega
        have g4' : (300 : Int) < (data.length : Int) := by omega
        go_wp2_with fail
        refine (awake37_any _).mono ?_
        rintro e w2 ⟨rfl, hb⟩
        have HB := Lib.hid hb
        clear hb
        go_wp2
        go_ret
        exact ⟨rfl, HB.out⟩
      · have g4 : decide ((300 : Int) < (data.length : Int)) = false := by simp; omega
        have g4' : ¬ (300 : Int) < (data.length : Int) := by omega
        have HLN' := Lib.hid (show b.length ≤ 1500 ∧ data.length ≤ 300 from by omega)
        have hcl := new_clean (N := 400) (by omega)
        have hc10 : capN 400 = 132 := rfl
        rw [hc10] at hcl
        have HCL := Lib.hid hcl
        clear hcl hc10
        go_wp2_with fail
        refine (dk_new (400 : Int) 400 (by rfl) _).mono ?_
        rintro e w2 ⟨B, rfl, hM⟩
        have HM := Lib.hid hM
        have HBG := Lib.hid (show ∀ b, B.has b → w1.heap.size ≤ b from fun b hb => by
          have := hM.2.2
          rcases hb with rfl | rfl | rfl <;> omega)
        clear hM
        unfold DB.ptr
        go_wp2_with fail
        refine (fd_open (W := w1) HM.out.1 HCL.out.up HCL.out.buf HCL.out.len HCL.out.cap (by omega) HCL.out.recs HM.out.2.1 HBG.out).mono ?_
        rintro e w3 (⟨fb, d2, rfl, hfb, hfd, hc2, hfu, hch⟩ | ⟨d2, rfl, hfu, _⟩)
        · have HFD := Lib.hid hfd
          have HC2 := Lib.hid hc2
          have HFU := Lib.hid (hfu rfl)
          have HBL := Lib.hid (show ∀ b, B.has b ∨ b = fb → b < w3.heap.size from fun b hb => by
            have h1 := hfd.disk.lt
            have h2 := hfd.file.lt
            rcases hb with (e | e | e) | e <;> (subst e; omega))
          clear hfd hc2 hfu hch hfb HM
          unfold pfPtr
          go_wp2_with fail
          refine (rf_EncodeRecords _ L w3 (rRs.keep (fun b hb _ => HFD.out.bel.block b hb) HFD.out.bel.size HL.out) HS.out.1).mono ?_
          rintro e w4 ⟨ve, rfl, hre, hbe⟩
          obtain ⟨E, hE⟩ : ∃ E, E = encs L := ⟨_, rfl⟩
          rw [← hE] at hre HS
          obtain ⟨ea, ec, rfl⟩ := hre.dat.len
          have HRE := Lib.hid hre
          have HBE := Lib.hid hbe
          clear hre hbe hE
          go_wp2_with (at_builtin; refine wpList_app rfl _ _ rfl w3.heap.size _ E rfl HRE.out _ b rfl (HD.out.keep (HFD.out.bel.trans (HBE.out.mono HFD.out.bel.size))) (by have := HS.out.2; omega) HBE.out.size ?_)
          intro vb w5 hrb _ hbb
          obtain ⟨Al, hAl⟩ : ∃ Al, Al = E ++ b := ⟨_, rfl⟩
          rw [← hAl] at hrb
          have HAL := Lib.hid (show Al.length ≤ 11660 from by rw [hAl, List.length_append]; have := HS.out.2; have := HLN'.out.1; omega)
          obtain ⟨xa, xc, rfl⟩ := hrb.dat.len
          have HRB := Lib.hid hrb
          have HFD5 := Lib.hid (HFD.out.below (HBE.out.trans hbb))
          have HW35 := Lib.hid (HBE.out.trans hbb).size
          have HCX := Lib.hid hrb.dat.le.2.1
          clear hrb hbb hAl
          have hal0 : 0 ≤ (Al.length : Int) ∧ (Al.length : Int) ≤ 11660 := by have := HAL.out; omega
          have gal : decide ((13200 : Int) < (Al.length : Int)) = false := by simp; omega
          have gal' : ¬ (13200 : Int) < (Al.length : Int) := by omega
          have HCP := Lib.hid (pf_cap HFD5.out.file)
          unfold pfPtr at HCP
          go_wp2_with fail
          refine HCP.out.mono ?_
          rintro e w5' ⟨rfl, hw5⟩
          subst hw5
          rw [show ((PF.n ⟨132, false⟩ : Nat) : Int) = 132 from rfl]
          clear HCP
          obtain ⟨K, hK⟩ : ∃ K, K = (Al.length + 99) / 100 := ⟨_, rfl⟩
          have HKK := Lib.hid (show Al.length ≤ 100 * K ∧ K ≤ 117 ∧ (∀ i, i < K → 100 * i < Al.length) from by have := HAL.out; exact ⟨by omega, by omega, fun i hi => by omega⟩)
          clear hK
          go_wp2
          go_loopg [11, 12] K (fun gk t11 t12 wr => ∃ (i : Nat) (u : Value), u = t11 ∧ i ≤ K ∧ gk + i = K ∧ t12 = .int .i64 (i : Int) ∧ Wrs wr w5'.heap.size (fun x => (Value.slice xa Al.length xc).ownBlock = some x) u (pieces Al i) ∧ Below w5'.heap.size w5' wr)
          case atStart => exact ⟨0, _, rfl, by omega, by omega, rfl, by rw [pieces_zero]; exact Wrs.nil _ _ _, Below.refl _ _⟩
          case round =>
            obtain ⟨i, u, rfl, hin, hgk, rfl, hW, hB⟩ := hrel
            have HGK := Lib.hid hgk
            have HW := Lib.hid hW
            have HB := Lib.hid hB
            have hi0 : 0 ≤ (i : Int) ∧ (i : Int) ≤ 117 := by have := HKK.out.2.1; omega
            obtain ⟨p, hp⟩ : ∃ p, p = 100 * i := ⟨_, rfl⟩
            have hpI : (i : Int) * 100 = (p : Int) := by omega
            have hp0 : 0 ≤ (p : Int) ∧ (p : Int) ≤ 11700 := by omega
            clear hgk hW hB
            by_cases hlt : i < K
            · have hpl : p < Al.length := by rw [hp]; exact HKK.out.2.2 i hlt
              have hd1 : decide ((p : Int) < (Al.length : Int)) = true := by simp; omega
              have hd1' : (p : Int) < (Al.length : Int) := by omega
              obtain ⟨i1, hi1⟩ : ∃ i1, i1 = i + 1 := ⟨_, rfl⟩
              obtain ⟨q1, hq1⟩ : ∃ q1, q1 = p + 100 := ⟨_, rfl⟩
              obtain ⟨q, hq⟩ : ∃ q, q = min Al.length q1 := ⟨_, rfl⟩
              have e1 : (i : Int) + 1 = (i1 : Int) := by omega
              have e2 : (i1 : Int) * 100 = (q1 : Int) := by omega
              have hmin : min (Al.length : Int) (q1 : Int) = (q : Int) := by omega
              have hi10 : 0 ≤ (i1 : Int) ∧ (i1 : Int) ≤ 118 := by omega
              have hq10 : 0 ≤ (q1 : Int) ∧ (q1 : Int) ≤ 11800 := by omega
              have hq0 : 0 ≤ (q : Int) ∧ (q : Int) ≤ 11660 := by omega
              obtain ⟨bg, rfl, hbg, hbl2⟩ : ∃ bg, xa = some ⟨bg, 0, none⟩ ∧ w3.heap.size ≤ bg ∧ bg < w5'.heap.size := by
                rcases HRB.out.2 with ⟨_, h0⟩ | ⟨g', cap, cur, e, hB', hcell, _⟩
                · omega
                · simp only [Value.slice.injEq] at e
                  exact ⟨g', e.1, hB', (Array.getElem?_eq_some_iff.1 hcell).1⟩
              obtain ⟨s1, s2⟩ := cut_block' (g := bg) (n := Al.length) (c := xc) (p := p) (q := q) (by omega) (by omega) HCX.out
              have HDT := Lib.hid (show rBy.rd wr (fun x => (Value.slice (some ⟨bg, 0, none⟩) Al.length xc).ownBlock = some x) [.slice (some ⟨bg, p, none⟩) (q - p) (xc - p)] (chunk Al i) from by
                have := row_chunk' (HRB.out.keep HB.out) rfl (p := p) (q := q) (by omega) (by omega)
                rw [chunk_min hp (by rw [hq, hq1])] at this
                exact rBy.more (fun b e => by rw [e]; rfl) this)
              have HOB := Lib.hid (show ∀ x, (Value.slice (some ⟨bg, 0, none⟩) Al.length xc).ownBlock = some x → some x ≠ u.ownBlock from fun x hx e => by
                simp only [Value.ownBlock, Option.some.injEq] at hx
                obtain ⟨xs, k1, _⟩ := HW.out
                have k2 := own_base' k1 x e.symm
                omega)
              have HPK := Lib.hid (show i1 = i + 1 from hi1)
              have HBA := Lib.hid (show Below wr.heap.size wr (wr.alloc (.cells #[.int .i64 (i : Int), .slice (some ⟨bg, p, none⟩) (q - p) (xc - p)] 42)) from (Below.refl _ _).alloc (Nat.le_refl _) _)
              clear hp hq1 hq hi1 hbg hbl2 hpl
              go_wp2_with (at_builtin; refine wpList_wr rfl _ _ rfl rfl (HW.out.keep HBA.out) (i : Int) (WalkArith.wf_i64 (by omega)) (.slice (some ⟨bg, p, none⟩) (q - p) (xc - p)) rfl (chunk Al i) wr.heap.size rfl 42 (0, 0) (heap_alloc_new wr _) (rBy.keep (fun b _ hl => HBA.out.block b hl) HBA.out.size HDT.out) HOB.out (by rw [pieces_len]; omega) (by have := HB.out.size; have := HBA.out.size; omega) ?_)
              intro v6 w6 h6 hg6 hb6
              have H6 := Lib.hid h6
              have HB6 := Lib.hid ((HB.out.trans (HBA.out.mono HB.out.size)).trans hb6)
              clear h6 hg6 hb6
              go_wp2
              go_roundg (gk - 1)
              case rel => exact ⟨i + 1, _, rfl, by omega, by have := HGK.out; omega, by rw [HPK.out], by rw [pieces_succ]; exact H6.out, HB6.out⟩
              case measure => have := HGK.out; omega
            · obtain rfl : i = K := by omega
              have hd1 : decide ((p : Int) < (Al.length : Int)) = false := by have := HKK.out.1; simp; omega
              have hd1' : ¬ (p : Int) < (Al.length : Int) := by have := HKK.out.1; omega
              have hi132 : i ≤ 132 := by have := HKK.out.2.1; omega
              have HFW := Lib.hid (HFD5.out.below HB.out)
              have HRW := Lib.hid (show (rSlice rPW).rd wr (Aside fb B wr) [u] (pieces Al i) from HW.out.rd
                (fun b hb hl => ⟨fun e => by have := HBL.out b (.inl e); have := HW35.out; omega, fun e => by have := HBL.out b (.inr e); have := HW35.out; omega, hl⟩)
                (fun b hb hl => ⟨fun e => by have := HBL.out b (.inl e); have := (HRB.out.ge b hb).1; omega, fun e => by have := HBL.out b (.inr e); have := (HRB.out.ge b hb).1; omega, hl⟩))
              have hany := pfWrite_any (l := pieces Al i) HC2.out (f := ⟨132, false⟩) rfl
              have hpr := pieces_right Al hi132
              have hpall := pieces_all (A := Al) (n := 132) (k := i) (by have := HAL.out; omega) HKK.out.1 hi132
              have HPL := Lib.hid (show (pieces Al i).length ≤ 100000 from by rw [pieces_len]; omega)
              have HW3r := Lib.hid (show w3.heap.size ≤ wr.heap.size from Nat.le_trans HW35.out HB.out.size)
              have HRBr := Lib.hid (HRB.out.keep HB.out)
              clear hp hi132
              go_wp2_with fail
              refine (pf_Write HFW.out.file HFW.out.disk u (pieces Al i) HRW.out HPL.out).mono ?_
              rintro e w7 ⟨rfl, hT⟩
              rcases hany with ⟨k1, _⟩ | ⟨_, k1, k2, k3, k4⟩ | ⟨_, _, _, k4, _⟩
              · exact absurd (wrongs_zero.2 hpr) k1
              · rw [k1] at hT
                rw [k2]
                rw [hpall] at k3
                obtain ⟨d3, hd3⟩ : ∃ d3, d3 = (pfWrite ⟨132, false⟩ d2 (pieces Al i)).2.1 := ⟨_, rfl⟩
                rw [← hd3] at hT k3 k4
                obtain ⟨PA, hPA⟩ : ∃ PA, PA = padTo (100 * 132) Al := ⟨_, rfl⟩
                rw [← hPA] at k3
                have hPAl : PA.length = 13200 := by rw [hPA]; exact padTo_len (by have := HAL.out; omega)
                have HC3 := Lib.hid k3
                have HFU3 := Lib.hid (k4 HFU.out)
                have HFD7 := Lib.hid (HFW.out.turns hT)
                have HR7 := Lib.hid (show Row w7 w3.heap.size (.slice xa Al.length xc) Al from own_chg HRBr.out hT.2.2 (fun b hb e => by have h1 := own_base HRBr.out b hb; have h2 := HBL.out b e; omega))
                have HW37 := Lib.hid (show w3.heap.size ≤ w7.heap.size from Nat.le_trans HW3r.out hT.2.2.size)
                obtain ⟨z, hz⟩ : ∃ z, z = 13200 - Al.length := ⟨_, rfl⟩
                have hsub : (13200 : Int) - (Al.length : Int) = (z : Int) := by have := HAL.out; omega
                have hz0 : 0 ≤ (z : Int) ∧ (z : Int) ≤ 13200 := by omega
                have HPZ := Lib.hid (show Al ++ List.replicate z 0 = PA ∧ Al.length + z = 13200 from ⟨by rw [hPA, hz]; rfl, by have := HAL.out; omega⟩)
                have HPA := Lib.hid (And.intro hPA hPAl)
                have HCP := Lib.hid (pf_cap HFD7.out.file)
                unfold pfPtr at HCP
                clear k1 k2 k3 k4 hT hpall hpr hd3 hPA hPAl hz hd1 hd1'
                go_wp2_with fail
                refine HCP.out.mono ?_
                rintro e w7' ⟨rfl, hw7⟩
                subst hw7
                rw [show ((PF.n ⟨132, false⟩ : Nat) : Int) = 132 from rfl]
                clear HCP
                go_wp2_with (at_builtin; refine wpList_zeros rfl _ _ 3 rfl .i64 .i64 Tryd.underlying3 w3.heap.size _ Al rfl HR7.out z rfl (by have := HPZ.out.2; omega) HW37.out ?_)
                intro v8 w8 h8 hg8 hb8
                have H8 := Lib.hid (show Row w8 w3.heap.size v8 PA from by rw [← HPZ.out.1]; exact h8)
                have HFD8 := Lib.hid (show Fd w1 w8 B fb ⟨132, false⟩ d3 from by
                  have hc2 : Chg (fun b => w3.heap.size ≤ b) w7' w8 := ⟨hb8.os, hb8.tape, hb8.output, hb8.size, fun b _ hn => hb8.block b (by omega)⟩
                  exact ⟨HFD7.out.file.keep hc2 (fun e => by have := HBL.out fb (.inr rfl); omega), HFD7.out.disk.keep hc2 (fun b hb e => by have := HBL.out b (.inl hb); omega), HFD7.out.bel.trans (hb8.mono HFD.out.bel.size), HFD7.out.bge, HFD7.out.fge⟩)
                have HW38 := Lib.hid (show w3.heap.size ≤ w8.heap.size from Nat.le_trans HW37.out hb8.size)
                clear h8 hg8 hb8
                go_wp2_with fail
                obtain ⟨D, hD⟩ : ∃ D, D = dec PA := ⟨_, rfl⟩
                have hcall := rf_Decode v8 PA w8 H8.out.dat (by rw [HPA.out.2]; omega)
                rw [← hD] at hcall
                have HDD := Lib.hid hD
                clear hD
                refine hcall.mono ?_
                rintro e w9 ⟨v9, rfl, hr9, hb9⟩
                obtain ⟨ya, yc, rfl⟩ := hr9.len
                have HWA := Lib.hid (hr9.rd (F := fun x => w8.heap.size ≤ x ∧ x < w9.heap.size) (fun b h1 h2 => ⟨h1, h2⟩))
                have HFD9 := Lib.hid (HFD8.out.below hb9)
                have HW89 := Lib.hid hb9.size
                clear hcall hr9 hb9
                have ho := ld_open HFD9.out HC3.out
                rw [pgs_flat HPA.out.2, ← HDD.out] at ho
                have HO := Lib.hid ho
                clear ho
                unfold pfPtr at HO
                go_wp2_with fail
                refine HO.out.mono ?_
                rintro e w10 ⟨rfl, hLD, hch⟩
                obtain ⟨lb, hlb⟩ : ∃ lb, lb = w9.heap.size := ⟨_, rfl⟩
                rw [← hlb] at hLD ⊢
                have HLD := Lib.hid hLD
                have HLB := Lib.hid hlb
                have HW910 := Lib.hid hch.size
                have HWA10 := Lib.hid (rRs.keep (fun b hb hl => hch.block b hl (fun e => by have := HBL.out b e; have := HW38.out; omega)) hch.size HWA.out)
                clear hLD hch hlb HO
                unfold lgPtr
                go_wp2_with fail
                obtain ⟨w11, hw11⟩ : ∃ w11, w11 = w10.alloc (.cells #[.pointer (some ⟨B.db, 0, none⟩), .pointer (some ⟨fb, 0, none⟩), .pointer (some ⟨lb, 0, none⟩), .slice ya D.1.length yc, .slice none 0 0, .bool false, .bool false] 84) := ⟨_, rfl⟩
                have hb11 : Below w10.heap.size w10 w11 := by rw [hw11]; exact (Below.refl _ _).alloc (Nat.le_refl _) _
                have hcs : ∀ j u, ([.pointer (some ⟨B.db, 0, none⟩), .pointer (some ⟨fb, 0, none⟩), .pointer (some ⟨lb, 0, none⟩), .slice ya D.1.length yc, .slice none 0 0, .bool false, .bool false] : List Value)[j]? = some u → w11.cell? ⟨w10.heap.size, j, none⟩ = some u := fun j u hu => by
                  rw [hw11]
                  have := new_cells w10 [.pointer (some ⟨B.db, 0, none⟩), .pointer (some ⟨fb, 0, none⟩), .pointer (some ⟨lb, 0, none⟩), .slice ya D.1.length yc, .slice none 0 0, .bool false, .bool false] 84 j u hu
                  rw [Addr.add_mid, Nat.zero_add] at this; exact this
                have hfr : ∀ j, w11.frozen? ⟨w10.heap.size, j, none⟩ = false := fun j => by rw [hw11]; go_simp
                rw [← hw11]
                obtain ⟨wb, hwb⟩ : ∃ wb, wb = w10.heap.size := ⟨_, rfl⟩
                have HNFW := Lib.hid (show ∀ x, w8.heap.size ≤ x ∧ x < w9.heap.size → NF B fb lb wb x from fun x hx => ⟨fun e => by
                  have h3 := HW38.out
                  rcases e with e | e | e
                  · have := HBL.out x (.inl e); omega
                  · have := HBL.out x (.inr e); omega
                  · have := HLB.out; omega, fun e => by have := HW910.out; omega⟩)
                have HLN := Lib.hid (show LN w1 w11 wb B fb lb ⟨D.1, PA, false⟩ ⟨132, false⟩ d3 D.1 (.slice none 0 0) false false from by
                  rw [← hwb] at hcs hfr
                  have hlt := HLD.out.lt
                  exact ⟨HLD.out.bel.trans (hb11.mono HLD.out.bel.size), fun b hb => hb.elim (HLD.out.ge b) (fun e => by rw [e, hwb]; exact HLD.out.bel.size), fun e => by have := hlt _ e; omega, hcs 0 _ rfl, hcs 1 _ rfl, hcs 2 _ rfl, ⟨_, hcs 3 _ rfl, rRs.more HNFW.out (rRs.keep (fun b _ hl => hb11.block b hl) hb11.size HWA10.out)⟩, hcs 4 _ rfl, hcs 5 _ rfl, hcs 6 _ rfl, hfr, (HLD.out.log.more (X' := fun b => b = wb) (fun b hb e => by omega)).below hb11, HLD.out.file.keep (Chg.of_below hb11 (F := fun _ => False)) (fun h => h), HLD.out.disk.below hb11⟩)
                have HX11 := Lib.hid (rRs.more HNFW.out (rRs.keep (fun b _ hl => hb11.block b hl) hb11.size HWA10.out))
                rw [← hwb]
                clear hcs hfr hw11 hb11 hwb
                refine (awake37_any _).mono ?_
                rintro e w12 ⟨rfl, hb12⟩
                have HL12 := Lib.hid (HLN.out.below hb12)
                have HX12 := Lib.hid (rRs.keep (fun b _ hl => hb12.block b hl) hb12.size HX11.out)
                have HG := Lib.hid (show ∀ b, NF B fb lb wb b → ¬ (B.has b ∨ b = fb) from fun b hb e => hb.1 (e.elim .inl (fun e => .inr (.inl e))))
                have HNW := Lib.hid (show ¬ (B.has wb ∨ wb = fb) from fun e => HL12.out.nw (e.elim .inl (fun e => .inr (.inl e))))
                have HDS := Lib.hid (show (∀ r ∈ D.1, r.length ≤ 1048576) ∧ (encs D.1).length ≤ 13200 ∧ D.1.length ≤ 13200 from by
                  obtain ⟨q1, q2, q3, q4⟩ := dec_stands PA.length PA (Nat.le_refl _)
                  rw [← HDD.out] at q1 q2 q3 q4
                  have := HPA.out.2
                  exact ⟨q3, by rw [q1, List.length_take]; omega, by omega⟩)
                clear hb12
                go_wp2_with fail
                refine (same37 (n := 132) (N := 400) (P := []) HL12.out.log HL12.out.file HL12.out.disk HNW.out HL12.out.wl HL12.out.c1 HL12.out.c2 _ HX12.out HG.out rfl ⟨HDS.out.1, by have := HDS.out.2.1; omega⟩ (by have := HDS.out.2.2; omega) false (fun h => by cases h)).mono ?_
                rintro e w13 ⟨rfl, hS⟩
                have HL13 := Lib.hid (HL12.out.pturns hS)
                clear hS
                go_wp2_with fail
                obtain ⟨w14, hw14⟩ : ∃ w14, w14 = w13.alloc (.cells #[.slice da data.length dc] 25) := ⟨_, rfl⟩
                have HL14 := Lib.hid (show LN w1 w14 wb B fb lb _ _ _ _ _ _ _ from by rw [hw14]; exact HL13.out.below ((Below.refl _ _).alloc (Nat.le_refl _) _))
                have HRV := Lib.hid (show rRs.rd w14 (NF B fb lb wb) [.slice (some ⟨w13.heap.size, 0, none⟩) 1 1] [data] from by
                  rw [hw14]
                  exact rd_one1 (rBy.more (fun b hb => ⟨fun e => by have := HL13.out.ge b (.inl e); omega, fun e => by have := HL13.out.ge b (.inr e); omega⟩) (rBy.keep (fun b hb _ => HL13.out.bel.block b hb) HL13.out.bel.size HDA.out)) ⟨fun e => by have := HL13.out.lt _ (.inl e); omega, fun e => by have := HL13.out.lt _ (.inr e); omega⟩)
                rw [← hw14]
                clear hw14
                refine (change37_app HL14.out HC3.out HFU3.out (pgs_flat HPA.out.2).symm rfl rfl _ [data] HRV.out data rfl (by have := HLN'.out; omega) ⟨HDS.out.1, by have := HDS.out.2.1; omega⟩ (by have := HDS.out.2.2; omega) (fun hh => by
                  have := foreign_full (data := data) HPA.out.1 (by have := HAL.out; omega) (by have := HAL.out; have := HLN'.out; omega) (by rw [← HDD.out]; exact hh)
                  rw [← HDD.out] at this
                  rw [pgs_flat HPA.out.2]
                  exact this)).mono ?_
                rintro e w15 ⟨rfl, hbF⟩
                have HFIN := Lib.hid hbF
                clear hbF
                go_wp2
                go_ret
                exact ⟨rfl, HFIN.out⟩
              · exact absurd HFU.out k4
        · exact absurd rfl hfu
end Go.Proofs.YtngddhoolijimaaDoor
