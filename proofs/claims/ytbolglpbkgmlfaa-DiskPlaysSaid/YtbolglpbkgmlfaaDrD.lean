/-
  The reference's disk: Sync.
-/
import Derived.Test.YtbolglpbkgmlfaaDrC
namespace Go.Proofs.Ytbolglpbkgmlfaa
open Go.RowKit Go.Maps
set_option linter.unusedVariables false

/-- The disk in the midst of a sync. -/
def DK.mid (d : DK) (i : Nat) : DK := { d with st := over d.st d.buf (fun j => decide (j < i)), buf := fun j => if j < i then none else d.buf j }

theorem mid_len (d : DK) (i : Nat) : (d.mid i).st.length = d.st.length := over_len _ _ _

theorem mid_zero (d : DK) : d.mid 0 = d := by
  unfold DK.mid
  rw [over_nothing (fun i p _ => by simp)]
  simp

theorem mid_none {d : DK} {i : Nat} (h : d.buf i = none) : d.mid (i + 1) = d.mid i := by
  unfold DK.mid
  rw [over_same (S' := fun j => decide (j < i)) (fun j p hp => by
    by_cases e : j = i
    · subst e; rw [h] at hp; cases hp
    · have : j < i + 1 ↔ j < i := by omega
      simp [this])]
  congr 1
  funext j
  by_cases e : j = i
  · subst e; simp [h]
  · have : j < i + 1 ↔ j < i := by omega
    simp [this]

theorem mid_some {d : DK} {i : Nat} {p : Page} (h : d.buf i = some p) : d.mid (i + 1) = { { d.mid i with st := (d.mid i).st.set i p } with buf := fun j => if j = i then none else (d.mid i).buf j } := by
  unfold DK.mid
  simp only
  rw [over_step h, over_same (S := fun j => decide (j < i + 1)) (S' := fun j => decide (j < i) || decide (j = i)) (fun j q _ => by
    have : j < i + 1 ↔ (j < i ∨ j = i) := by omega
    simp [this])]
  congr 1
  funext j
  by_cases e : j = i
  · subst e; simp
  · have : j < i + 1 ↔ j < i := by omega
    simp [this, e]

theorem mid_all {d : DK} (h : d.Ok) : d.mid d.st.length = d.flush := by
  unfold DK.mid DK.flush
  rw [over_same (S' := fun _ => true) (fun j p hp => by have := (h.inside j p hp).1; simp [this])]
  congr 1
  funext j
  by_cases e : j < d.st.length
  · simp [e]
  · rw [if_neg e]
    cases hb : d.buf j with
    | none => rfl
    | some p => exact absurd (h.inside j p hb).1 e

theorem mid_buf {d : DK} {i : Nat} : (d.mid i).buf i = d.buf i := by simp [DK.mid]

section
variable {w : World} {R : RB} {d : DK} {Bad : Nat → Prop}

set_option maxRecDepth 100000 in
set_option maxHeartbeats 4000000 in
theorem rf_sync_ok (h : IsRef w R d Bad) (hd : d.down = false) (hb : d.burn.2 = false) : Calls Try.prog 27 #[R.ptr] w fun e w' => e = .returned (.int .i64 d.sync.2) ∧ RTurns R Bad w w' d d.sync.1 := by
  have hr : d.sync = (d.burn.1.flush, 0) := by unfold DK.sync; rw [if_neg (by simp [hd]), if_neg (by simp [hb])]
  have c3 := h.hd
  have hk := Lib.hid (rf_burn h)
  rw [hb] at hk
  rw [hd] at c3
  rw [hr]
  clear h hr hd hb
  simp only
  generalize d.burn.1 = d1 at *
  unfold RB.ptr at *
  go_enter Try.func27, Try.ntmps27
  go_wp2_with fail
  refine hk.out.mono ?_
  rintro e w1 ⟨rfl, ht⟩
  clear hk c3
  have HT := Lib.hid ht
  have HLEN := Lib.hid ht.2.2
  have hrl := ht.1.rb_lt
  have hfew := ht.1.ok.few
  clear ht
  go_wp2
  go_loopg [3] (d1.st.length) (fun gk t wr => ∃ k : Nat, k ≤ d1.st.length ∧ gk + k = d1.st.length ∧ t = .int .i64 (k : Int) ∧ IsRef wr R (d1.mid k) Bad ∧ Chg (R.has d1.st.length) w1 wr)
  case atStart => exact ⟨0, by omega, by omega, rfl, by rw [mid_zero]; exact HT.out.1, Chg.refl _ _⟩
  case round =>
    obtain ⟨k, hkl, hgk, rfl, hI, hch⟩ := hrel
    have HGK := Lib.hid hgk
    have HI := Lib.hid hI
    have HCH := Lib.hid hch
    obtain ⟨sa, sc, c0, hsa⟩ := hI.hs
    obtain ⟨ba, bc, c1, hba⟩ := hI.hb
    obtain ⟨wa, wc, c2, hwa⟩ := hI.hw
    rw [mid_len] at c0 c1 c2 hsa hba hwa
    have hrr := hI.rb_lt
    clear hgk hch
    by_cases hkk : k < d1.st.length
    · have hn : 0 < d1.st.length := by omega
      have hkm : k < (d1.mid k).st.length := by rw [mid_len]; exact hkk
      have hnm : 0 < (d1.mid k).st.length := by rw [mid_len]; exact hn
      obtain rfl := hsa hn
      obtain rfl := hba hn
      obtain rfl := hwa hn
      have hkd : decide ((k : Int) < (d1.st.length : Int)) = true := by simp; omega
      have hk0 : (0 : Int) ≤ (k : Int) := by omega
      have hk1 : (k : Int) < (d1.st.length : Int) := by omega
      have hwt := hI.wt k hkm
      rw [mid_buf] at hwt
      have hsl := (hI.good R.ss (.inr ⟨hnm, .inl rfl⟩)).1
      have hbl := (hI.good R.bs (.inr ⟨hnm, .inr (.inl rfl)⟩)).1
      have hwl := (hI.good R.ws (.inr ⟨hnm, .inr (.inr rfl)⟩)).1
      cases hbk : d1.buf k with
      | none =>
        rw [hbk] at hwt
        simp only [Option.isSome_none] at hwt
        have HM := Lib.hid (mid_none (d := d1) (i := k) hbk)
        clear hI hbk
        go_wp2
        go_roundg (gk - 1)
        case rel => exact ⟨k + 1, by omega, by have := HGK.out; omega, rfl, by rw [HM.out]; exact HI.out, HCH.out⟩
        case measure => have := HGK.out; omega
      | some p =>
        obtain ⟨v, hcell, hpay⟩ := hI.bf k hkm
        have hp := hpay p (by rw [mid_buf]; exact hbk)
        obtain ⟨q, hq⟩ : ∃ q, (d1.mid k).st[k]? = some q := ⟨_, List.getElem?_eq_getElem hkm⟩
        obtain ⟨v0, hcell0, _⟩ := hI.st k q hq
        have f1 := (hI.fs hnm k).1
        have f2 := (hI.fs hnm k).2.2
        obtain ⟨x1, x2, x3, x4, x5, x6⟩ := hI.a1 hnm
        rw [hbk] at hwt
        simp only [Option.isSome_some] at hwt
        obtain ⟨hpl, pb, po, pcp, rfl, hrest⟩ := hp
        have h1 := hI.setStable hkm (show Pay wr R (d1.mid k).st.length Bad _ p from ⟨hpl, pb, po, pcp, rfl, hrest⟩)
        have h2 := h1.noBuf (i := k) (by simpa using hkm)
        have HM := Lib.hid (mid_some (d := d1) (i := k) hbk)
        have HDR := Lib.hid (show IsRef ((wr.drew.setCell ⟨R.ss, k, none⟩ (.slice (some ⟨pb, po, none⟩) 128 pcp)).setCell ⟨R.ws, k, none⟩ (.bool false)) R (d1.mid (k + 1)) Bad from by
          rw [HM.out]
          exact h2.keep (F := fun _ => False) ⟨rfl, rfl, rfl, Nat.le_refl _, fun _ _ _ => rfl⟩ (fun _ h => h.elim))
        have HCD := Lib.hid (show Chg (R.has d1.st.length) w1 ((wr.drew.setCell ⟨R.ss, k, none⟩ (.slice (some ⟨pb, po, none⟩) 128 pcp)).setCell ⟨R.ws, k, none⟩ (.bool false)) from
          ((HCH.out.trans (⟨rfl, rfl, rfl, Nat.le_refl _, fun _ _ _ => rfl⟩ : Chg _ wr wr.drew)).trans (Chg.setCell _ _ (.inr ⟨hn, .inl rfl⟩))).trans (Chg.setCell _ _ (.inr ⟨hn, .inr (.inr rfl)⟩)))
        clear hI hbk h1 h2 hpay hrest hq hsa hba hwa
        go_wp2_with fail
        refine region_still 13 (by kernel_rfl) (by kernel_rfl) ?_
        intro wD hWD
        simp only [List.take_succ_cons, List.take_zero, List.drop_succ_cons, List.drop_zero]
        have k0 : wD.cell? ⟨R.rb, 0, none⟩ = some (.slice (some ⟨R.ss, 0, none⟩) d1.st.length sc) := by rw [hWD]; exact c0
        have k1 : wD.cell? ⟨R.rb, 1, none⟩ = some (.slice (some ⟨R.bs, 0, none⟩) d1.st.length bc) := by rw [hWD]; exact c1
        have k2 : wD.cell? ⟨R.rb, 2, none⟩ = some (.slice (some ⟨R.ws, 0, none⟩) d1.st.length wc) := by rw [hWD]; exact c2
        have k3 : wD.cell? ⟨R.bs, k, none⟩ = some (.slice (some ⟨pb, po, none⟩) 128 pcp) := by rw [hWD]; exact hcell
        have k4 : wD.cell? ⟨R.ss, k, none⟩ = some v0 := by rw [hWD]; exact hcell0
        have k5 : wD.cell? ⟨R.ws, k, none⟩ = some (.bool true) := by rw [hWD]; exact hwt
        have f1' : wD.frozen? ⟨R.ss, k, none⟩ = false := by rw [hWD]; exact f1
        have f2' : wD.frozen? ⟨R.ws, k, none⟩ = false := by rw [hWD]; exact f2
        rw [← hWD] at HDR HCD
        clear hWD c0 c1 c2 hcell hcell0 hwt f1 f2
        refine stillH_want (by kernel_rfl) (fun K hK => ?_); go_simp; refine hK _ ?_; clear hK K
        refine stillH_want (by kernel_rfl) (fun K hK => ?_); go_simp; refine hK _ ?_; clear hK K
        refine stillH_want (by kernel_rfl) (fun K hK => ?_); go_simp; refine hK _ ?_; clear hK K
        refine stillH_want (by kernel_rfl) (fun K hK => ?_); go_simp; refine hK _ ?_; clear hK K
        refine stillH_want (by kernel_rfl) (fun K hK => ?_); go_simp; refine hK _ ?_; clear hK K
        refine stillH_want (by kernel_rfl) (fun K hK => ?_); go_simp; refine hK _ ?_; clear hK K
        refine stillH_want (by kernel_rfl) (fun K hK => ?_); go_simp; refine hK _ ?_; clear hK K
        refine stillH_want (by kernel_rfl) (fun K hK => ?_); go_simp; refine hK _ ?_; clear hK K
        refine stillH_want (by kernel_rfl) (fun K hK => ?_); go_simp; refine hK _ ?_; clear hK K
        refine stillH_want (by kernel_rfl) (fun K hK => ?_); go_simp; refine hK _ ?_; clear hK K
        refine stillH_want (by kernel_rfl) (fun K hK => ?_); go_simp; refine hK _ ?_; clear hK K
        refine stillH_want (by kernel_rfl) (fun K hK => ?_); go_simp; refine hK _ ?_; clear hK K
        refine stillH_want (by kernel_rfl) (fun K hK => ?_); go_simp; refine hK _ ?_; clear hK K
        refine stillH_nil ?_
        go_wp2
        go_roundg (gk - 1)
        case rel => exact ⟨k + 1, by omega, by have := HGK.out; omega, rfl, HDR.out, HCD.out⟩
        case measure => have := HGK.out; omega
    · obtain rfl : k = d1.st.length := by omega
      have hkd : decide ((d1.st.length : Int) < (d1.st.length : Int)) = false := by simp
      have HE := Lib.hid (show RTurns R Bad w wr d d1.flush from by
        have := HI.out
        rw [mid_all HT.out.1.ok] at this
        refine ⟨this, HT.out.2.1.trans ?_, ?_⟩
        · rw [← HLEN.out]; exact HCH.out
        · rw [show d1.flush.st.length = d1.st.length from over_len _ _ _]; exact HLEN.out)
      clear hI
      go_wp2
      go_ret
      exact ⟨rfl, HE.out⟩
end

end Go.Proofs.Ytbolglpbkgmlfaa
