/-
  Write.
-/
import Derived.Test.YtngddhoolijimaaGreatDoorPfI
namespace Go.Proofs.YtngddhoolijimaaGreatDoor
open Go.RowKit
set_option linter.unusedVariables false

theorem effect_good {n : Nat} {l : List (Int × List UInt8)} (h : Right n l) : ∀ x ∈ effect n l, 0 ≤ x.1 ∧ x.1 < (n : Int) ∧ x.2.length = 100 := fun y hy => by
  obtain ⟨i, p, hi, hL, rfl⟩ := effect_mem.1 hy
  exact ⟨by simp, by simpa using hi, lastOf_len (fun x hx => (h x hx).2.2) hL⟩

theorem effect_few (n : Nat) (l : List (Int × List UInt8)) : (effect n l).length ≤ n := by
  unfold effect
  exact Nat.le_trans (List.length_filterMap_le _ _) (by rw [List.length_range]; exact Nat.le_refl _)

theorem wrongs_first {n k : Nat} {l : List (Int × List UInt8)} {x : Int × List UInt8} (h : Right n (l.take k)) (hx : l[k]? = some x) (hw : wrong n x ≠ 0) : wrongs n l = wrong n x := by
  induction l generalizing k with
  | nil => simp at hx
  | cons y l ih =>
    cases k with
    | zero =>
      obtain rfl : y = x := by simpa using hx
      rw [wrongs_cons, if_neg hw]
    | succ k =>
      have hy : wrong n y = 0 := wrong_zero.2 (h y (by simp))
      rw [wrongs_cons, if_pos hy]
      exact ih (k := k) (fun z hz => h z (by rw [List.take_succ_cons]; exact List.mem_cons_of_mem _ hz)) (by simpa using hx)

theorem right_snoc {n k : Nat} {l : List (Int × List UInt8)} {x : Int × List UInt8} (h : Right n (l.take k)) (hx : l[k]? = some x) (hw : wrong n x = 0) : Right n (l.take (k + 1)) := by
  rw [take_snoc hx]
  intro y hy
  rcases List.mem_append.1 hy with hy | hy
  · exact h y hy
  · rw [List.mem_singleton.1 hy]; exact wrong_zero.1 hw

section
variable {w : World} {fb : Nat} {B : DB} {f : PF} {d : DK}

/-- Where data that a call of the file is given may lie. -/
def Aside (fb : Nat) (B : DB) (w : World) (b : Nat) : Prop := ¬ B.has b ∧ b ≠ fb ∧ b < w.heap.size

set_option maxRecDepth 100000 in
set_option maxHeartbeats 2000000 in
theorem pf_Write (h : IsFile w fb B f) (hd : IsDisk w B d) (wv : Value) (l : List (Int × List UInt8)) (hw : (rSlice rPW).rd w (Aside fb B w) [wv] l) (hlm : l.length ≤ 100000) :
    Calls Tryz.prog 57 #[pfPtr fb, wv] w fun e w' => e = .returned (.int .i64 (pfWrite f d l).2.2) ∧ PTurns fb B w w' (pfWrite f d l).1 (pfWrite f d l).2.1 := by
  have HK := Lib.hid (pf_check h hd)
  obtain ⟨wa, wc, rfl, _⟩ := pw_get hw
  have HW := Lib.hid hw
  have hfew := h.few
  have HLM := Lib.hid hlm
  have HFR := Lib.hid (And.intro h hd)
  clear h hd hw hlm
  generalize hR : pfWrite f d l = R at *
  have HR := Lib.hid (show R = if f.down d then ({ f with failed := true }, d, 13) else if wrongs f.n l ≠ 0 then (f, d, wrongs f.n l) else if (d.pages f.n l).2 = 0 then (f, d.pages f.n l) else ({ f with failed := true }, (d.pages f.n l).1, 13) from hR.symm)
  clear hR
  unfold pfPtr at *
  by_cases hdn : f.down d = true
  · have HR2 := Lib.hid (show R = ({ f with failed := true }, d, 13) from by rw [HR.out, if_pos hdn])
    rw [hdn] at HK
    clear HR
    go_enter Tryz.func57, Tryz.ntmps57
    go_wp2_with fail
    refine HK.out.mono ?_
    rintro e w1 ⟨rfl, hT⟩
    have HT := Lib.hid hT
    clear hT HK
    go_wp2
    go_ret
    exact ⟨by rw [HR2.out]; rfl, by rw [HR2.out]; exact HT.out⟩
  · have hdn : f.down d = false := by simpa using hdn
    have hff : f.failed = false := by unfold PF.down at hdn; simp at hdn; exact hdn.1
    have hfe : { f with failed := f.down d } = f := by rw [hdn, ← hff]
    have HR2 := Lib.hid (show R = if wrongs f.n l ≠ 0 then (f, d, wrongs f.n l) else if (d.pages f.n l).2 = 0 then (f, d.pages f.n l) else ({ f with failed := true }, (d.pages f.n l).1, 13) from by rw [HR.out, hdn]; rfl)
    rw [hfe, hdn] at HK
    clear HR hff hfe hdn
    go_enter Tryz.func57, Tryz.ntmps57
    go_wp2_with fail
    refine HK.out.mono ?_
    rintro e w1 ⟨rfl, hT⟩
    have HT := Lib.hid hT
    have HW1 := Lib.hid (show (rSlice rPW).rd w1 (Aside fb B w) [.slice wa l.length wc] l from (rSlice rPW).keep (fun b hb hl => hT.2.2.block b hl (fun hF => hF.elim hb.1 hb.2.1)) hT.2.2.size HW.out)
    have HZ1 := Lib.hid hT.2.2.size
    clear hT HK HW
    go_wp2
    go_loopg [16] (l.length) (fun gk t16 wr => ∃ k : Nat, k ≤ l.length ∧ gk + k = l.length ∧ t16 = .int .i64 (k : Int) ∧ Right f.n (l.take k) ∧ Below w1.heap.size w1 wr)
    case atStart => exact ⟨0, by omega, by omega, rfl, fun x hx => by simp at hx, Below.refl _ _⟩
    case round =>
      obtain ⟨k, hk, hgk, rfl, hr, hB⟩ := hrel
      have HGK := Lib.hid hgk
      have HRT := Lib.hid hr
      have HB := Lib.hid hB
      clear hgk hr hB
      by_cases hin : k < l.length
      · have hd1 : decide ((k : Int) < (l.length : Int)) = true := by simp; omega
        have i0 : (0 : Int) ≤ (k : Int) := by omega
        have i1 : (k : Int) < (l.length : Int) := by omega
        have i2 : (k : Int) ≤ 100000 := by have := HLM.out; omega
        obtain ⟨x, hx⟩ : ∃ x, l[k]? = some x := ⟨_, List.getElem?_eq_getElem hin⟩
        obtain ⟨_, _, e1, hg1⟩ := pw_get HW1.out
        obtain ⟨g, off, u, rfl, hgF, hgl, c0, c1, hxw, hu⟩ := hg1 k x hx
        cases e1
        obtain ⟨ua, uc, rfl⟩ := Sl.len (data_of hu)
        have hb1 : wr.cell? ⟨g, off + k * 2, none⟩ = some (.int .i64 x.1) := (HB.out.cell (p := ⟨g, off + k * 2, none⟩) hgl).trans c0
        have hb2 : wr.cell? ⟨g, off + k * 2 + 1, none⟩ = some (.slice ua x.2.length uc) := (HB.out.cell (p := ⟨g, off + k * 2 + 1, none⟩) hgl).trans c1
        have HX := Lib.hid hx
        have hwn : wrong f.n x = if x.1 < 0 ∨ (f.n : Int) ≤ x.1 then 10 else if 100 < x.2.length then 4 else 0 := rfl
        have HWN := Lib.hid hwn
        have hfile := HT.out.1.keep (Chg.of_below HB.out (F := fun _ => False)) (fun h => h)
        have c2 := hfile.hn
        have hfl := hfile.lt
        clear hg1 c0 c1 hu hx hwn hfile
        go_wp2_with fail
        obtain ⟨W0, hW0⟩ : ∃ W0, W0 = wr.alloc (.cells #[.int .i64 x.1, .slice ua x.2.length uc] 82) := ⟨_, rfl⟩
        have q0 : W0.cell? ⟨wr.heap.size, 0, none⟩ = some (.int .i64 x.1) := by rw [hW0]; go_simp
        have q1 : W0.cell? ⟨wr.heap.size, 1, none⟩ = some (.slice ua x.2.length uc) := by rw [hW0]; go_simp
        have q2 : W0.cell? ⟨fb, 1, none⟩ = some (.int .i64 (f.n : Int)) := by rw [hW0]; exact (World.cell?_of_block (a := ⟨fb, 1, none⟩) (heap_alloc_old wr _ hfl)).trans c2
        have HB0 := Lib.hid (show Below w1.heap.size w1 W0 from by rw [hW0]; exact HB.out.alloc HB.out.size _)
        rw [← hW0]
        clear hW0 hb1 hb2 c2 hfl
        refine region_all (by kernel_rfl) (by kernel_rfl) ?_
        intro wD hWD
        have r0 : wD.cell? ⟨wr.heap.size, 0, none⟩ = some (.int .i64 x.1) := by rw [hWD]; exact q0
        have r1 : wD.cell? ⟨wr.heap.size, 1, none⟩ = some (.slice ua x.2.length uc) := by rw [hWD]; exact q1
        have r2 : wD.cell? ⟨fb, 1, none⟩ = some (.int .i64 (f.n : Int)) := by rw [hWD]; exact q2
        have HBD := Lib.hid (show Below w1.heap.size w1 wD from by rw [hWD]; exact HB0.out.drew)
        clear hWD q0 q1 q2 HB0
        by_cases h1 : x.1 < 0
        · have g1 : decide (x.1 < 0) = true := by simpa using h1
          have hwv : wrong f.n x = 10 := by rw [HWN.out, if_pos (.inl h1)]
          have HR3 := Lib.hid (show R = (f, d, 10) from by rw [HR2.out, wrongs_first HRT.out HX.out (by rw [hwv]; decide), hwv]; rfl)
          clear hwv
          iterate 4 (refine stillH_want (by kernel_rfl) (fun K hK => ?_); go_simp; refine hK _ ?_; clear hK K)
          iterate 7 (refine stillH_skip (by kernel_rfl) (fun K hK => ?_); refine hK _ ?_; clear hK K)
          (refine stillH_want (by kernel_rfl) (fun K hK => ?_); go_simp; refine hK _ ?_; clear hK K)
          refine stillH_nil ?_
          go_wp2
          go_ret
          exact ⟨by rw [HR3.out]; rfl, by rw [HR3.out]; exact HT.out.of_below HBD.out⟩
        · have g1 : decide (x.1 < 0) = false := by simpa using h1
          by_cases h2 : (f.n : Int) ≤ x.1
          · have g2 : decide ((f.n : Int) ≤ x.1) = true := by simpa using h2
            have hwv : wrong f.n x = 10 := by rw [HWN.out, if_pos (.inr h2)]
            have HR3 := Lib.hid (show R = (f, d, 10) from by rw [HR2.out, wrongs_first HRT.out HX.out (by rw [hwv]; decide), hwv]; rfl)
            clear hwv
            iterate 12 (refine stillH_want (by kernel_rfl) (fun K hK => ?_); go_simp; refine hK _ ?_; clear hK K)
            refine stillH_nil ?_
            go_wp2
            go_ret
            exact ⟨by rw [HR3.out]; rfl, by rw [HR3.out]; exact HT.out.of_below HBD.out⟩
          · have g2 : decide ((f.n : Int) ≤ x.1) = false := by simpa using h2
            by_cases h3 : 100 < x.2.length
            · have g3 : decide ((100 : Int) < (x.2.length : Int)) = true := by simp; omega
              have hwv : wrong f.n x = 4 := by rw [HWN.out, if_neg (by omega), if_pos h3]
              have HR3 := Lib.hid (show R = (f, d, 4) from by rw [HR2.out, wrongs_first HRT.out HX.out (by rw [hwv]; decide), hwv]; rfl)
              clear hwv
              iterate 12 (refine stillH_want (by kernel_rfl) (fun K hK => ?_); go_simp; refine hK _ ?_; clear hK K)
              refine stillH_nil ?_
              go_wp2
              go_ret
              exact ⟨by rw [HR3.out]; rfl, by rw [HR3.out]; exact HT.out.of_below HBD.out⟩
            · have g3 : decide ((100 : Int) < (x.2.length : Int)) = false := by simp; omega
              have HRT2 := Lib.hid (right_snoc HRT.out HX.out (by rw [HWN.out, if_neg (by omega), if_neg h3]))
              iterate 12 (refine stillH_want (by kernel_rfl) (fun K hK => ?_); go_simp; refine hK _ ?_; clear hK K)
              refine stillH_nil ?_
              go_wp2
              go_roundg (gk - 1)
              case rel => exact ⟨k + 1, by omega, by have := HGK.out; omega, by go_num, HRT2.out, HBD.out⟩
              case measure => have := HGK.out; omega
      · have hd1 : decide ((k : Int) < (l.length : Int)) = false := by simp; omega
        obtain rfl : k = l.length := by omega
        have hrt := HRT.out
        rw [List.take_length] at hrt
        have HRT2 := Lib.hid hrt
        have HR3 := Lib.hid (show R = if (d.pages f.n l).2 = 0 then (f, d.pages f.n l) else ({ f with failed := true }, (d.pages f.n l).1, 13) from by rw [HR2.out, if_neg (by rw [wrongs_zero.2 hrt]; simp)])
        have hrd := (rSlice rPW).keep (F := Aside fb B w) (fun b hb hl => HB.out.block b hl) HB.out.size HW1.out
        clear hrt HR2 HRT
        go_wp2_with fail
        refine (pf_effective (Aside fb B w) _ f.n l hrd (fun b hb => by have := hb.2.2; have := HZ1.out; have := HB.out.size; omega) HLM.out hfew HRT2.out).mono ?_
        rintro e w2 ⟨v, rfl, hv, hb2⟩
        obtain ⟨va, vc, rfl, _⟩ := pw_get hv
        have HP2 := Lib.hid ((HT.out.of_below HB.out).of_below hb2)
        have HV := Lib.hid hv
        have HZ2 := Lib.hid (show w1.heap.size ≤ wr.heap.size from HB.out.size)
        have hoff : ∀ b, wr.heap.size ≤ b → B.off b := fun b hb hB => by
          have := HT.out.2.1.lt
          have := HB.out.size
          rcases hB with rfl | rfl | rfl <;> omega
        have HOFF := Lib.hid hoff
        have hel := effect_few f.n l
        have HEG := Lib.hid (effect_good HRT2.out)
        have HPG := Lib.hid (show d.pages f.n l = if effect f.n l = [] then (d, 0) else thn (d.commit f.n (effect f.n l)) fun d => d.finish f.n (effect f.n l) from rfl)
        clear hv hb2 hrd hoff
        generalize d.pages f.n l = PG at *
        generalize effect f.n l = eff at *
        by_cases h0 : eff.length = 0
        · have g0 : decide ((eff.length : Int) = 0) = true := by simp [h0]
          have hnil : eff = [] := List.eq_nil_of_length_eq_zero h0
          have HR4 := Lib.hid (show R = (f, d, 0) from by rw [HR3.out, HPG.out, if_pos hnil, if_pos rfl])
          go_wp2
          go_ret
          exact ⟨by rw [HR4.out]; rfl, by rw [HR4.out]; exact HP2.out⟩
        · have g0 : decide ((eff.length : Int) = 0) = false := decide_eq_false (by omega)
          have hne : eff ≠ [] := fun e => h0 (by rw [e]; rfl)
          have HPG2 := Lib.hid (show PG = thn (d.commit f.n eff) fun d => d.finish f.n eff from by rw [HPG.out, if_neg hne])
          have hr2 := (rSlice rPW).more (G := fun b => B.off b ∧ b < w2.heap.size) (fun b hb => ⟨HOFF.out b hb.1, hb.2⟩) HV.out
          clear HPG hne
          go_wp2_with fail
          refine (pf_commit HP2.out.1 HP2.out.2.1 _ eff hr2 (by omega) HEG.out).mono ?_
          rintro e w3 ⟨rfl, hT3⟩
          have HP3 := Lib.hid (HP2.out.of_turns hT3)
          have hr3 : (rSlice rPW).rd w3 (fun b => B.off b ∧ b < w3.heap.size) [.slice va eff.length vc] eff :=
            (rSlice rPW).more (fun b hb => ⟨hb.1, by have h1 := hT3.2.size; have h2 := hb.2; omega⟩) ((rSlice rPW).keep (fun b hb hl => hT3.2.block b hl hb.1) hT3.2.size hr2)
          clear hT3 hr2
          generalize d.commit f.n eff = C at *
          by_cases hc : C.2 = 0
          · have gc : (C.2 != 0) = false := by simp [hc]
            have HPG3 := Lib.hid (show PG = C.1.finish f.n eff from by rw [HPG2.out]; exact if_pos hc)
            go_wp2_with fail
            refine (pf_finish HP3.out.1 HP3.out.2.1 _ eff hr3 (by omega) (fun x hx => (HEG.out x hx).2.1)).mono ?_
            rintro e w4 ⟨rfl, hT4⟩
            have HP4 := Lib.hid (HP3.out.of_turns hT4)
            clear hT4 hr3
            generalize C.1.finish f.n eff = E at *
            by_cases hc2 : E.2 = 0
            · have gc2 : (E.2 != 0) = false := by simp [hc2]
              have HR4 := Lib.hid (show R = (f, E.1, 0) from by rw [HR3.out, HPG3.out, if_pos hc2, ← hc2])
              go_wp2
              go_ret
              exact ⟨by rw [HR4.out]; rfl, by rw [HR4.out]; exact HP4.out⟩
            · have gc2 : (E.2 != 0) = true := by simpa using hc2
              have HR4 := Lib.hid (show R = ({ f with failed := true }, E.1, 13) from by rw [HR3.out, HPG3.out, if_neg hc2])
              have hfz := HP4.out.1.fr 2
              have hcell := HP4.out.1.hf
              go_wp2
              go_ret
              refine ⟨by rw [HR4.out]; rfl, ?_⟩
              rw [HR4.out]
              exact HP4.out.trans (fail_turns HP4.out.1 HP4.out.2.1)
          · have gc : (C.2 != 0) = true := by simpa using hc
            have HR4 := Lib.hid (show R = ({ f with failed := true }, C.1, 13) from by
              have : PG = C := by rw [HPG2.out]; exact if_neg hc
              rw [HR3.out, this, if_neg hc])
            have hfz := HP3.out.1.fr 2
            have hcell := HP3.out.1.hf
            clear hr3
            go_wp2
            go_ret
            refine ⟨by rw [HR4.out]; rfl, ?_⟩
            rw [HR4.out]
            exact HP3.out.trans (fail_turns HP3.out.1 HP3.out.2.1)
end
end Go.Proofs.YtngddhoolijimaaGreatDoor
