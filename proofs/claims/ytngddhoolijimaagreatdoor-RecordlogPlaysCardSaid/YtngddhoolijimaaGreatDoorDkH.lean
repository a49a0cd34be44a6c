/-
  The disk's Crash.
-/
import Derived.Test.YtngddhoolijimaaGreatDoorDkG
namespace Go.Proofs.YtngddhoolijimaaGreatDoor
open Go.RowKit Go.Maps
set_option linter.unusedVariables false

section
variable {w : World} {B : DB} {d : DK}

set_option maxRecDepth 100000 in
set_option maxHeartbeats 8000000 in
theorem dk_crash (h : IsDisk w B d) (kv : Value) (keep : List Int) (hk : Keep w B kv keep) (hm : keep.length ≤ 1000000) : Calls Tryz.prog 12 #[B.ptr, kv] w fun e w' => e = .returned (.tuple #[]) ∧ Turns B w w' (d.crash keep) := by
  obtain ⟨hkw, ka, kc, rfl, hkc⟩ := hk
  have hzl : (pc zeroPage).length = 128 := rfl
  have hal := zero_run
  have hlt := h.lt
  obtain ⟨hl1, hl2, hl3⟩ := hlt
  have hn1 := h.n1
  have hn2 := h.n2
  have hn3 := h.n3
  have c1 := h.hm
  obtain ⟨c, c0, hcn⟩ := h.hs
  have hfew := h.ok.few
  have HOK := Lib.hid h.ok
  have H := Lib.hid h
  have HKW := Lib.hid hkw
  have HKC := Lib.hid hkc
  have HKEY := Lib.hid (keys_call (some B.mb) w)
  have HSRT := Lib.hid (sorted_call B.mb d.st.length d.buf w h.mp (fun i p hp => (h.ok.inside i p hp).1) h.ok.few)
  have hlen : (nums d.buf d.st.length).length ≤ 4096 := Nat.le_trans (List.length_filter_le _ _) (by rw [List.length_range]; exact hfew)
  clear h hkw hkc
  obtain ⟨ks, hks⟩ : ∃ ks, ks = nums d.buf d.st.length := ⟨_, rfl⟩
  rw [← hks] at HSRT hlen
  have HKS := Lib.hid hks
  clear hks
  unfold DB.ptr
  go_enter Tryz.func12, Tryz.ntmps12
  go_wp2_with fail
  refine HKEY.out.mono ?_
  rintro e w0 ⟨rfl, rfl⟩
  go_wp2_with fail
  refine HSRT.out.mono ?_
  rintro e w1 ⟨v, rfl, hv, hb1⟩
  clear HKEY HSRT
  obtain ⟨va, vc, rfl⟩ := Sl.len (Sl.of_own hv)
  have hsz1 := hb1.size
  have HV := Lib.hid (show ∀ (k i : Nat), ks[k]? = some i → ∃ g, va = some ⟨g, 0, none⟩ ∧ w.heap.size ≤ g ∧ g < w1.heap.size ∧ w1.cell? ⟨g, k, none⟩ = some (.int .i64 (i : Int)) from by
    intro k i hki
    rcases hv.2 with ⟨e, h0⟩ | ⟨g, cap, cur, e, hg1, hg2, hg3, _, hg5, hg6⟩
    · have := (List.getElem?_eq_some_iff.1 hki).1; omega
    · simp only [Value.slice.injEq, true_and] at e
      obtain ⟨rfl, rfl⟩ := e
      refine ⟨g, rfl, hg1, (Array.getElem?_eq_some_iff.1 hg2).1, ?_⟩
      have hkl := (List.getElem?_eq_some_iff.1 hki).1
      have hc := hv.cellAt k (by rw [Nat.mul_one]; exact hkl)
      have : ((ks.map fun i : Nat => Value.int .i64 (i : Int))[k]?) = some (.int .i64 (i : Int)) := by rw [List.getElem?_map, hki]; rfl
      rw [this] at hc
      exact hc)
  have HB1 := Lib.hid hb1
  have H1 := Lib.hid (H.out.below hb1)
  have c01 : w1.cell? ⟨B.db, 0, none⟩ = some (.slice (some ⟨B.sb, 0, none⟩) d.st.length c) := (hb1.cell (p := ⟨B.db, 0, none⟩) hl1).trans c0
  have c11 : w1.cell? ⟨B.db, 1, none⟩ = some (.map (some B.mb)) := (hb1.cell (p := ⟨B.db, 1, none⟩) hl1).trans c1
  have hl11 : B.db < w1.heap.size := by omega
  clear hv hb1 c0 c1
  go_wp2
  go_loopg [17] (ks.length) (fun gk t wr => ∃ k : Nat, k ≤ ks.length ∧ gk + k = ks.length ∧ t = .int .i64 (k : Int) ∧ Stable wr B.sb (fallen d keep k) ∧ Chg (fun b => b = B.sb) w1 wr)
  case atStart => exact ⟨0, by omega, by omega, rfl, by rw [fallen_zero]; exact H1.out.pg, Chg.refl _ _⟩
  case round =>
    obtain ⟨k, hkl, hgk, rfl, hst, hch⟩ := hrel
    have HGK := Lib.hid hgk
    have HST := Lib.hid hst
    have HCH := Lib.hid hch
    have k0 : wr.cell? ⟨B.db, 0, none⟩ = some (.slice (some ⟨B.sb, 0, none⟩) d.st.length c) := (hch.cell (a := ⟨B.db, 0, none⟩) hn1 hl11).trans c01
    have k1 : wr.cell? ⟨B.db, 1, none⟩ = some (.map (some B.mb)) := (hch.cell (a := ⟨B.db, 1, none⟩) hn1 hl11).trans c11
    have hlr : B.db < wr.heap.size := Nat.lt_of_lt_of_le hl11 hch.size
    have hlrs : B.sb < wr.heap.size := Nat.lt_of_lt_of_le (by omega) hch.size
    have HMP := Lib.hid (H1.out.mp.keep hch (fun e => hn3 e.symm))
    clear hst hgk
    by_cases hkk : k < ks.length
    · obtain ⟨i, hi⟩ : ∃ i, ks[k]? = some i := ⟨_, List.getElem?_eq_getElem hkk⟩
      have hat := nums_at (buf := d.buf) (N := d.st.length) (k := k) (i := i) (by rw [← HKS.out]; exact hi)
      obtain ⟨p, hbp⟩ := Option.isSome_iff_exists.1 hat.2.1
      obtain ⟨q, hq⟩ : ∃ q, d.st[i]? = some q := ⟨_, List.getElem?_eq_getElem hat.1⟩
      obtain ⟨g, rfl, hg1, hg2, hg3⟩ := HV.out k i hi
      have hg3r : wr.cell? ⟨g, k, none⟩ = some (.int .i64 (i : Int)) := (hch.cell (a := ⟨g, k, none⟩) (by show ¬ g = B.sb; omega) hg2).trans hg3
      have hgr : g < wr.heap.size := Nat.lt_of_lt_of_le hg2 hch.size
      have hkd : decide ((k : Int) < (ks.length : Int)) = true := by simp; omega
      have hpl := (HOK.out.inside i p hbp).2
      have hwfi : (Lit.int .i64 (i : Int)).wf = true := wf_small (by omega)
      obtain ⟨D, n, hown, hof⟩ := HMP.out
      have hl := look_run (t := 40) Tryz.underlying3 Tryz.underlying40 (z := zeroPage) (zero_run wr) hown hof hwfi false
      rw [hbp] at hl
      simp only [Option.getD_some, Bool.false_eq_true, if_false] at hl
      have hxl : (pc p).length = 128 := by rw [pc_len, hpl]
      have hsto := fun W => store_page W 68 (pc zeroPage) (pc p) hzl hxl (pc_one p)
      have hi0 : (0 : Int) ≤ (i : Int) := by omega
      have hi1 : (i : Int) < (d.st.length : Int) := by omega
      have HSTEP := Lib.hid (fallen_step (d := d) (keep := keep) (k := k) (i := i) (p := p) (q := q) (by rw [← HKS.out]; exact hi) hbp hq)
      have HAT := Lib.hid (fallen_at (d := d) (keep := keep) (k := k) (i := i) (q := q) (by rw [← HKS.out]; exact hi) hq)
      have HPL := Lib.hid hpl
      have HIL := Lib.hid hat.1
      unfold pv at hl
      clear hown hof hbp hq hat hg3 hi hwfi c01 c11 hch hpl
      generalize hX : pc p = X at hsto hl hxl
      generalize pc zeroPage = Z at hal hsto hzl
      have HX := Lib.hid hX
      clear hX
      by_cases hkm : k < keep.length
      · have hd1 : decide ((k : Int) < (keep.length : Int)) = true := by simp; omega
        obtain ⟨z, hz⟩ : ∃ z, keep[k]? = some z := ⟨_, List.getElem?_eq_getElem hkm⟩
        obtain ⟨kb, ko, rfl, hkb1, hkb2, hkb3⟩ := HKC.out k z hz
        have hkb : kb < wr.heap.size := Nat.lt_of_lt_of_le (Nat.lt_of_lt_of_le hkb1 (by omega)) HCH.out.size
        have hkb3r : wr.cell? ⟨kb, ko + k, none⟩ = some (.int .i64 z) := by
          refine (HCH.out.cell (a := ⟨kb, ko + k, none⟩) hkb2 (by show kb < _; omega)).trans ?_
          exact (HB1.out.cell (p := ⟨kb, ko + k, none⟩) hkb1).trans hkb3
        have hKO : keepOf keep k = (min (max z 0) 128).toNat := by unfold keepOf; rw [hz]
        clear hkb3 hkb1 hz
        obtain ⟨nn, hnz⟩ : ∃ nn : Nat, min (max z 0) 128 = (nn : Int) := ⟨(min (max z 0) 128).toNat, by omega⟩
        have hn128 : nn ≤ 128 := by omega
        have hn129 : (nn : Int) ≤ 128 := by omega
        have hn127 : (0 : Int) ≤ (nn : Int) := by omega
        have hnn : keepOf keep k = nn := by rw [hKO, hnz]; rfl
        clear hKO
        have Hnn := Lib.hid hnn
        clear hnn
        go_wp2_with fail
        refine region_still 10 (by kernel_rfl) (by kernel_rfl) ?_
        intro wD hWD
        simp only [List.take_succ_cons, List.take_zero, List.drop_succ_cons, List.drop_zero]
        have k0' : wD.cell? ⟨B.db, 0, none⟩ = some (.slice (some ⟨B.sb, 0, none⟩) d.st.length c) := by rw [hWD]; go_simp
        have hWg : wr.grownBy wD none := by rw [hWD]; exact (World.grownBy_alloc wr _ none).trans (grown_drew _)
        have HRNG := Lib.hid (show wD.rangeAt wr.heap.size 0 (pc p) from by rw [hWD, HX.out]; exact (World.rangeAt_drew _ _ _ _).2 new_page)
        have HWG := Lib.hid hWg
        have HKD := Lib.hid hkd
        have HK128 := Lib.hid (show keepOf keep k ≤ 128 from keepOf_le _ _)
        clear hWD k0 k1 hsto hal hWg hl hkd hg3r
        refine stillH_want (by kernel_rfl) (fun K hK => ?_); go_simp; refine hK _ ?_; clear hK K
        refine stillH_want (by kernel_rfl) (fun K hK => ?_); go_simp; refine hK _ ?_; clear hK K
        refine stillH_want (by kernel_rfl) (fun K hK => ?_); go_simp; refine hK _ ?_; clear hK K
        refine stillH_want (by kernel_rfl) (fun K hK => ?_); go_simp; refine hK _ ?_; clear hK K
        refine stillH_want (by kernel_rfl) (fun K hK => ?_); go_simp; refine hK _ ?_; clear hK K
        refine stillH_want (by kernel_rfl) (fun K hK => ?_); go_simp; refine hK _ ?_; clear hK K
        refine stillH_want (by kernel_rfl) (fun K hK => ?_); go_simp; refine hK _ ?_; clear hK K
        refine stillH_want (by kernel_rfl) (fun K hK => ?_); go_simp; refine hK _ ?_; clear hK K
        refine stillH_want (by kernel_rfl) (fun K hK => ?_); go_simp; refine hK _ ?_; clear hK K
        refine stillH_want (by kernel_rfl) (fun K hK => ?_); go_simp; refine hK _ ?_; clear hK K
        refine stillH_nil ?_
        have hSD : Stable wD B.sb (fallen d keep k) := HST.out.keep (Chg.grown (F := fun _ => False) HWG.out (fun b e => by cases e)) (fun h => h)
        have hth : wD.there B.sb (i * 128) 128 := fun j hj => by
          have := hSD.2.2 (i * 128 + j) (by rw [fallen_len]; have := HIL.out; omega)
          rwa [Nat.zero_add] at this
        refine wpList_bcopy rfl _ _ _ _ rfl (copy_torn (p := p) (nn := nn) HPL.out (by have := Hnn.out; have := HK128.out; omega) HRNG.out hth _) ?_
        have hst3 : Stable (wD.setCells B.sb (i * 128) (pc (p.take (nn)))) B.sb (fallen d keep (k + 1)) := by
          have := hSD.torn (nn := nn) (p := p) ((HOK.out.fall keep _).pages) HAT.out HPL.out (by have := Hnn.out; have := HK128.out; omega)
          rwa [← Hnn.out, HSTEP.out, Hnn.out] at this
        have hch3 : Chg (fun b => b = B.sb) w1 (wD.setCells B.sb (i * 128) (pc (p.take (nn)))) := (HCH.out.trans (Chg.grown HWG.out (fun b e => by cases e))).trans (Chg.setCells _ _ _ rfl)
        have HST3 := Lib.hid hst3
        have HCH3 := Lib.hid hch3
        clear hst3 hch3 hSD hth k0'
        generalize wD.setCells B.sb (i * 128) (pc (p.take (nn))) = wF at *
        go_wp2
        go_roundg (gk - 1)
        case rel => exact ⟨k + 1, by omega, by have := HGK.out; omega, rfl, HST3.out, HCH3.out⟩
        case measure => have := HGK.out; omega
      · have hd1 : decide ((k : Int) < (keep.length : Int)) = false := by simp; omega
        have hnn : keepOf keep k = 0 := by unfold keepOf; rw [List.getElem?_eq_none (by omega)]
        have H0 := Lib.hid hnn
        clear hnn
        go_wp2_with fail
        refine region_still 10 (by kernel_rfl) (by kernel_rfl) ?_
        intro wD hWD
        simp only [List.take_succ_cons, List.take_zero, List.drop_succ_cons, List.drop_zero]
        have k0' : wD.cell? ⟨B.db, 0, none⟩ = some (.slice (some ⟨B.sb, 0, none⟩) d.st.length c) := by rw [hWD]; go_simp
        have hWg : wr.grownBy wD none := by rw [hWD]; exact (World.grownBy_alloc wr _ none).trans (grown_drew _)
        have HRNG := Lib.hid (show wD.rangeAt wr.heap.size 0 (pc p) from by rw [hWD, HX.out]; exact (World.rangeAt_drew _ _ _ _).2 new_page)
        have HWG := Lib.hid hWg
        have HKD := Lib.hid hkd
        have HK128 := Lib.hid (show keepOf keep k ≤ 128 from keepOf_le _ _)
        clear hWD k0 k1 hsto hal hWg hl hkd hg3r
        refine stillH_want (by kernel_rfl) (fun K hK => ?_); go_simp; refine hK _ ?_; clear hK K
        refine stillH_want (by kernel_rfl) (fun K hK => ?_); go_simp; refine hK _ ?_; clear hK K
        refine stillH_want (by kernel_rfl) (fun K hK => ?_); go_simp; refine hK _ ?_; clear hK K
        refine stillH_want (by kernel_rfl) (fun K hK => ?_); go_simp; refine hK _ ?_; clear hK K
        refine stillH_want (by kernel_rfl) (fun K hK => ?_); go_simp; refine hK _ ?_; clear hK K
        refine stillH_want (by kernel_rfl) (fun K hK => ?_); go_simp; refine hK _ ?_; clear hK K
        refine stillH_want (by kernel_rfl) (fun K hK => ?_); go_simp; refine hK _ ?_; clear hK K
        refine stillH_want (by kernel_rfl) (fun K hK => ?_); go_simp; refine hK _ ?_; clear hK K
        refine stillH_want (by kernel_rfl) (fun K hK => ?_); go_simp; refine hK _ ?_; clear hK K
        refine stillH_want (by kernel_rfl) (fun K hK => ?_); go_simp; refine hK _ ?_; clear hK K
        refine stillH_nil ?_
        have hSD : Stable wD B.sb (fallen d keep k) := HST.out.keep (Chg.grown (F := fun _ => False) HWG.out (fun b e => by cases e)) (fun h => h)
        have hth : wD.there B.sb (i * 128) 128 := fun j hj => by
          have := hSD.2.2 (i * 128 + j) (by rw [fallen_len]; have := HIL.out; omega)
          rwa [Nat.zero_add] at this
        refine wpList_bcopy rfl _ _ _ _ rfl (copy_torn (p := p) (nn := 0) HPL.out (by have := H0.out; have := HK128.out; omega) HRNG.out hth _) ?_
        have hst3 : Stable (wD.setCells B.sb (i * 128) (pc (p.take (0)))) B.sb (fallen d keep (k + 1)) := by
          have := hSD.torn (nn := 0) (p := p) ((HOK.out.fall keep _).pages) HAT.out HPL.out (by have := H0.out; have := HK128.out; omega)
          rwa [← H0.out, HSTEP.out, H0.out] at this
        have hch3 : Chg (fun b => b = B.sb) w1 (wD.setCells B.sb (i * 128) (pc (p.take (0)))) := (HCH.out.trans (Chg.grown HWG.out (fun b e => by cases e))).trans (Chg.setCells _ _ _ rfl)
        have HST3 := Lib.hid hst3
        have HCH3 := Lib.hid hch3
        clear hst3 hch3 hSD hth k0'
        generalize wD.setCells B.sb (i * 128) (pc (p.take (0))) = wF at *
        go_wp2
        go_roundg (gk - 1)
        case rel => exact ⟨k + 1, by omega, by have := HGK.out; omega, rfl, HST3.out, HCH3.out⟩
        case measure => have := HGK.out; omega
    · obtain rfl : k = ks.length := by omega
      have hkd : decide ((ks.length : Int) < (ks.length : Int)) = false := by simp
      obtain ⟨D, n, hown, hof⟩ := HMP.out
      obtain ⟨w3, hrun, hown3, hg3⟩ := clear_run (ty := 0) Tryz.underlying40 hown
      have hcm : Chg (fun b => b = B.mb) wr w3 := Chg.grown hg3 (fun b e => by cases e; rfl)
      have hall : fallen d keep ks.length = fall d.st d.buf keep (fun _ => true) := by rw [HKS.out]; exact fallen_all HOK.out keep
      have h3 : IsDisk w3 B { d with st := fall d.st d.buf keep (fun _ => true), buf := fun _ => none } := by
        have h2 := H1.out.newPages HCH.out (fall_len d.st d.buf keep (fun _ => true)) (by have := HST.out; rwa [hall] at this) (HOK.out.fall keep _)
        exact h2.newMap hcm ⟨_, _, hown3, mapOf_empty⟩ (by have := HOK.out.crash keep; exact ⟨this.pages, this.inside, this.few, this.fuse⟩)
      have c23 := h3.hd
      have f23 := h3.fr 2
      have HE := Lib.hid (show Turns B w (w3.setCell ⟨B.db, 2, none⟩ (.bool true)) (d.crash keep) from by
        refine ⟨h3.setDown true, ?_⟩
        refine ((Chg.of_below HB1.out).trans ?_).trans (Chg.setCell _ _ (.inl rfl))
        exact (HCH.out.more (fun b _ e => .inr (.inl e))).trans (hcm.more (fun b _ e => .inr (.inr e))))
      clear h3 hown hown3 hg3 hof hall hcm c01 c11 k0 HCH hch
      go_wp2
      first | go_end0 | refine bodyPost_ret (results_none rfl _ _ _) rfl ?_
      exact ⟨rfl, HE.out⟩
end

end Go.Proofs.YtngddhoolijimaaGreatDoor
