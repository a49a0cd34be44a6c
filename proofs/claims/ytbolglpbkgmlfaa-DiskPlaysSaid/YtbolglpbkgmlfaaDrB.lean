/-
  The reference's disk: burn, FailAfter, Read, Write.
-/
import Derived.Test.YtbolglpbkgmlfaaDrA
import Derived.Test.YtbolglpbkgmlfaaApp
namespace Go.Proofs.Ytbolglpbkgmlfaa
open Go.RowKit Go.Maps
set_option linter.unusedVariables false

section
variable {w : World} {R : RB} {d : DK} {Bad : Nat → Prop}

set_option maxRecDepth 100000 in
theorem rf_failAfter (h : IsRef w R d Bad) (n : Int) (hn : (Lit.int .i64 n).wf = true) : Calls Try.prog 28 #[R.ptr, .int .i64 n] w fun e w' => e = .returned (.tuple #[]) ∧ RTurns R Bad w w' d (d.arm n) := by
  have hf := h.hf
  have f3 := h.fr 4
  have hmax : max n 0 = ((max n 0).toNat : Int) := by omega
  have hwf : (Lit.int .i64 (max n 0)).wf = true := by have := bounds_i64 hn; exact WalkArith.wf_i64 (by omega)
  have H := Lib.hid (show RTurns R Bad w (w.setCell ⟨R.rb, 4, none⟩ (.int .i64 (max n 0))) d (d.arm n) from by rw [hmax]; exact ⟨h.setFuse (by rw [← hmax]; exact hwf), h.setRb _ _, rfl⟩)
  unfold RB.ptr
  clear h hmax hwf
  go_enter Try.func28, Try.ntmps28
  go_wp2
  all_goals (first | go_end0 | refine bodyPost_ret (results_none rfl _ _ _) rfl ?_)
  all_goals first | exact ⟨rfl, H.out⟩ | (rw [show max n 0 = 0 by omega] at H; exact ⟨rfl, H.out⟩) | (rw [show max n 0 = n by omega] at H; exact ⟨rfl, H.out⟩)

set_option maxRecDepth 100000 in
theorem rf_burn (h : IsRef w R d Bad) : Calls Try.prog 37 #[R.ptr] w fun e w' => e = .returned (.bool d.burn.2) ∧ RTurns R Bad w w' d d.burn.1 := by
  have hf := h.hf
  have hd := h.hd
  have f3 := h.fr 4
  have f2 := h.fr 3
  have hb := bounds_i64 h.ok.fuse
  have hbd : d.burn = if d.fuse = 0 then (d, false) else ({ d with fuse := d.fuse - 1, down := decide (d.fuse = 1) }, decide (d.fuse = 1)) := rfl
  by_cases h0 : d.fuse = 0
  · have g0 : decide ((d.fuse : Int) = 0) = true := by simp [h0]
    rw [hbd, if_pos h0]
    have H := Lib.hid h
    clear h hbd hb
    unfold RB.ptr
    generalize hdb : R.rb = db at *
    clear hdb
    generalize d.fuse = f at *
    go_enter Try.func37, Try.ntmps37
    go_wp2
    go_ret
    exact ⟨rfl, H.out, Chg.refl _ _, rfl⟩
  · have g0 : decide ((d.fuse : Int) = 0) = false := by simp; omega
    rw [hbd, if_neg h0]
    have h1 : IsRef (w.setCell ⟨R.rb, 4, none⟩ (.int .i64 ((d.fuse - 1 : Nat) : Int))) R { d with fuse := d.fuse - 1 } Bad := h.setFuse (WalkArith.wf_i64 (n := ((d.fuse - 1 : Nat) : Int)) (by omega))
    have hcast : ((d.fuse - 1 : Nat) : Int) = (d.fuse : Int) - 1 := by omega
    have h2 := h1.setDown ((d.fuse : Int) - 1 == 0)
    have hdec : ((d.fuse : Int) - 1 == 0) = decide (d.fuse = 1) := by rw [Bool.eq_iff_iff]; simp; omega
    rw [hcast] at h2
    have HC : Chg (R.has d.st.length) w ((w.setCell ⟨R.rb, 4, none⟩ (.int .i64 ((d.fuse : Int) - 1))).setCell ⟨R.rb, 3, none⟩ (.bool ((d.fuse : Int) - 1 == 0))) := (Chg.setCell _ _ (.inl rfl)).trans (Chg.setCell _ _ (.inl rfl))
    have H := Lib.hid h2
    have HC := Lib.hid HC
    have HD := Lib.hid hdec
    clear h h1 h2 hbd hdec hcast
    unfold RB.ptr
    rw [← HD.out]
    go_enter Try.func37, Try.ntmps37
    go_wp2
    go_ret
    exact ⟨rfl, by simpa [HD.out] using H.out, HC.out, rfl⟩

/-- Bytes are copied behind nil. -/
theorem one_pc (l : List UInt8) : ∀ u ∈ pc l, u.oneCell' = true := pc_one l

set_option maxRecDepth 100000 in
set_option maxHeartbeats 2000000 in
theorem rf_read (h : IsRef w R d Bad) (i : Int) : Calls Try.prog 31 #[R.ptr, .int .i64 i] w fun e w' => ∃ v, e = .returned (.tuple #[v, .int .i64 (d.chk i)]) ∧ ReadOf w w' v d i := by
  obtain ⟨sa, sc, c0, hsa⟩ := h.hs
  obtain ⟨ba, bc, c1, hba⟩ := h.hb
  obtain ⟨wa, wc, c2, hwa⟩ := h.hw
  have c3 := h.hd
  have hrl := h.rb_lt
  by_cases hc : d.chk i = 0
  · obtain ⟨hdn, h0, hlt⟩ := DK.chk_zero hc
    obtain ⟨k, rfl⟩ : ∃ k : Nat, i = (k : Int) := ⟨i.toNat, by omega⟩
    rw [Int.toNat_natCast] at hlt
    have hn : 0 < d.st.length := by omega
    obtain rfl := hsa hn
    obtain rfl := hba hn
    obtain rfl := hwa hn
    obtain ⟨i0, hi0, hz0, hz1, hz2⟩ := info_parts byte_info
    have hr : d.read k = d.get k := by unfold DK.read; rw [if_pos hc, Int.toNat_natCast]
    have hgl := DK.get_len h.ok hlt
    have hx := h.wt k hlt
    have hk0 : (0 : Int) ≤ (k : Int) := by omega
    have hk1 : (k : Int) < (d.st.length : Int) := by omega
    have g1 : decide ((k : Int) < 0) = false := by simp
    have g2 : decide ((d.st.length : Int) ≤ (k : Int)) = false := by simp; omega
    have hsl := (h.good R.ss (.inr ⟨hn, .inl rfl⟩)).1
    have hbl := (h.good R.bs (.inr ⟨hn, .inr (.inl rfl)⟩)).1
    have hwl := (h.good R.ws (.inr ⟨hn, .inr (.inr rfl)⟩)).1
    rw [hdn] at c3
    rw [hc]
    cases hb : d.buf k with
    | some p =>
      obtain ⟨v, hcell, hpay⟩ := h.bf k hlt
      have hp := hpay p hb
      have hg : d.get k = p := by unfold DK.get; rw [hb]; rfl
      have HR := Lib.hid (show d.read k = p from hr.trans hg)
      obtain ⟨hpl, b, off, c, rfl, hc128, hbl2, _, _, _⟩ := hp
      have HPL := Lib.hid hpl
      have HD := Lib.hid ((hpay p hb).data)
      rw [hb] at hx
      simp only [Option.isSome_some] at hx
      clear h hr hgl hg hb hpay hc hsa hba hwa hpl
      unfold RB.ptr
      go_enter Try.func31, Try.ntmps31
      go_wp2_with (at_builtin; refine wpList_append_sl rfl _ _ 24 rfl w.heap.size 5 i0 _ 1 1 Try.underlying24 hi0 hz0 hz1 hz2 rfl (by decide) _ _ _ rfl (World.ownsRow_nil _ _ _ _) _ 128 (pc p) rfl (by have := HD.out; rw [Data, HPL.out] at this; exact this) (fun _ _ h => by cases h) (pc_one p) (by unfold maxLen; omega) (by omega) (Nat.le_refl _) ?_)
      intro v' w' hown _ hbel
      have HO := Lib.hid hown
      have HB := Lib.hid hbel
      clear hown hbel
      go_wp2
      go_ret2
      exact ⟨_, rfl, ⟨by rw [HR.out, HPL.out]; have := HO.out; simpa using this, HB.out⟩⟩
    | none =>
      obtain ⟨q, hq⟩ : ∃ q, d.st[k]? = some q := ⟨_, List.getElem?_eq_getElem hlt⟩
      obtain ⟨v, hcell, hpay⟩ := h.st k q hq
      have hg : d.get k = q := by unfold DK.get; rw [hb, List.getD_eq_getElem?_getD, hq]; rfl
      have HR := Lib.hid (show d.read k = q from hr.trans hg)
      have HD := Lib.hid hpay.data
      obtain ⟨hpl, b, off, c, rfl, hc128, hbl2, _, _, _⟩ := hpay
      have HPL := Lib.hid hpl
      rw [hb] at hx
      simp only [Option.isSome_none] at hx
      clear h hr hgl hg hb hc hsa hba hwa hpl hq
      unfold RB.ptr
      go_enter Try.func31, Try.ntmps31
      go_wp2_with (at_builtin; refine wpList_append_sl rfl _ _ 24 rfl w.heap.size 5 i0 _ 1 1 Try.underlying24 hi0 hz0 hz1 hz2 rfl (by decide) _ _ _ rfl (World.ownsRow_nil _ _ _ _) _ 128 (pc q) rfl (by have := HD.out; rw [Data, HPL.out] at this; exact this) (fun _ _ h => by cases h) (pc_one q) (by unfold maxLen; omega) (by omega) (Nat.le_refl _) ?_)
      intro v' w' hown _ hbel
      have HO := Lib.hid hown
      have HB := Lib.hid hbel
      clear hown hbel
      go_wp2
      go_ret2
      exact ⟨_, rfl, ⟨by rw [HR.out, HPL.out]; have := HO.out; simpa using this, HB.out⟩⟩
  · have hr : d.read i = [] := by unfold DK.read; rw [if_neg hc]
    have H := Lib.hid (show ReadOf w w (.slice none 0 0) d i from ⟨by rw [hr]; exact ⟨rfl, .inl ⟨rfl, rfl⟩⟩, Below.refl _ _⟩)
    have hv : d.chk i = (if d.down then 13 else if i < 0 ∨ (d.st.length : Int) ≤ i then 10 else 0) := rfl
    have HC := Lib.hid hc
    have hV := Lib.hid hv
    clear hr h hc hv hsa hba hwa
    unfold RB.ptr
    generalize R.rb = db at *
    generalize d.st.length = n at *
    generalize d.down = dn at *
    generalize d.chk i = v at *
    cases dn with
    | true =>
      go_enter Try.func31, Try.ntmps31
      go_wp2
      go_ret2
      exact ⟨_, by rw [hV.out]; rfl, H.out⟩
    | false =>
      by_cases h1 : i < 0
      · have g1 : decide (i < 0) = true := by simpa using h1
        go_enter Try.func31, Try.ntmps31
        go_wp2
        go_ret2
        exact ⟨_, by rw [hV.out]; simp [h1], H.out⟩
      · have g1 : decide (i < 0) = false := by simpa using h1
        by_cases h2 : (n : Int) ≤ i
        · have g2 : decide ((n : Int) ≤ i) = true := by simpa using h2
          go_enter Try.func31, Try.ntmps31
          go_wp2
          go_ret2
          exact ⟨_, by rw [hV.out]; simp [h2], H.out⟩
        · exact absurd (by rw [hV.out]; simp [h1, h2]) HC.out
end

end Go.Proofs.Ytbolglpbkgmlfaa
