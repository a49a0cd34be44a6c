/-
  The reference's disk: Write.
-/
import Derived.Test.YtbolglpbkgmlfaaDrB
import Derived.Test.YtbolglpbkgmlfaaDkN
namespace Go.Proofs.Ytbolglpbkgmlfaa
open Go.RowKit Go.Maps
set_option linter.unusedVariables false

section
variable {w : World} {R : RB} {d : DK} {Bad : Nat → Prop}

set_option maxRecDepth 100000 in
set_option maxHeartbeats 2000000 in
theorem rf_write (h : IsRef w R d Bad) (hBad : ∀ b, Bad b → b < w.heap.size) (i : Int) (v : Value) (data : List UInt8) (hd : Data w v data) : Calls Try.prog 26 #[R.ptr, .int .i64 i, v] w fun e w' => e = .returned (.int .i64 (d.write i data).2) ∧ RTurns R Bad w w' d (d.write i data).1 := by
  obtain ⟨sa, sc, c0, hsa⟩ := h.hs
  obtain ⟨ba, bc, c1, hba⟩ := h.hb
  obtain ⟨wa, wc, c2, hwa⟩ := h.hw
  have c3 := h.hd
  have hrl := h.rb_lt
  obtain ⟨da, dc, rfl⟩ := Sl.len hd
  by_cases hc : d.chk i = 0
  · obtain ⟨hdn, h0, hlt⟩ := DK.chk_zero hc
    obtain ⟨k, rfl⟩ : ∃ k : Nat, i = (k : Int) := ⟨i.toNat, by omega⟩
    rw [Int.toNat_natCast] at hlt
    have hk0 : (0 : Int) ≤ (k : Int) := by omega
    have hk1 : (k : Int) < (d.st.length : Int) := by omega
    have g1 : decide ((k : Int) < 0) = false := by simp
    have g2 : decide ((d.st.length : Int) ≤ (k : Int)) = false := by simp; omega
    rw [hdn] at c3
    by_cases hl : 128 < data.length
    · have hr : d.write k data = (d, 4) := by unfold DK.write; rw [if_neg (by simpa using hc), if_pos hl]
      have g3 : decide ((128 : Int) < (data.length : Int)) = true := by simp; omega
      have H := Lib.hid h
      rw [hr]
      clear hr h hc hd hsa hba hwa
      unfold RB.ptr
      simp only
      go_enter Try.func26, Try.ntmps26
      go_wp2
      go_ret
      exact ⟨rfl, H.out, Chg.refl _ _, rfl⟩
    · have hn : 0 < d.st.length := by omega
      obtain rfl := hsa hn
      obtain rfl := hba hn
      obtain rfl := hwa hn
      obtain ⟨x1, x2, x3, x4, x5, x6⟩ := h.a1 hn
      have hr : d.write k data = (((d.put k data).burn).1, if ((d.put k data).burn).2 then 13 else 0) := by unfold DK.write; rw [if_neg (by simpa using hc), if_neg (by omega)]; rfl
      have g3 : decide ((128 : Int) < (data.length : Int)) = false := by simp; omega
      have hmk := make_run
      have hcp := fun ty => copy_new hd (show data.length ≤ 128 by omega) ty 5
      obtain ⟨v0, k0, _⟩ := h.bf k hlt
      have k1 := h.wt k hlt
      have hbl := (h.good R.bs (.inr ⟨hn, .inr (.inl rfl)⟩)).1
      have hwl := (h.good R.ws (.inr ⟨hn, .inr (.inr rfl)⟩)).1
      have f1 := (h.fs hn k).2.1
      have f2 := (h.fs hn k).2.2
      obtain ⟨w1, hw1⟩ : ∃ w1, w1 = w.alloc (.cells (pc (pad data)).toArray 5) := ⟨_, rfl⟩
      have hb1 : Below w.heap.size w w1 := by rw [hw1]; exact (Below.refl _ _).alloc (Nat.le_refl _) _
      have hpad := pad_len (show data.length ≤ 128 by omega)
      have hpay : Pay w1 R d.st.length Bad (.slice (some ⟨w.heap.size, 0, none⟩) 128 128) (pad data) := by
        refine ⟨hpad, _, _, _, rfl, Nat.le_refl _, by rw [hw1]; simp, fun hx => ?_, fun hx => ?_, by rw [hw1]; exact new_page⟩
        · have := (h.good _ hx).1; omega
        · have := hBad _ hx; omega
      have h1 := h.below hb1
      have h2 := h1.setBuf (i := k) hlt hpay
      have HCH := Lib.hid ((Chg.of_below hb1 : Chg (R.has d.st.length) w w1).trans ((Chg.setCell (w := w1) ⟨R.bs, k, none⟩ (.slice (some ⟨w.heap.size, 0, none⟩) 128 128) (.inr ⟨hn, .inr (.inl rfl)⟩)).trans (Chg.setCell _ (.bool true) (.inr ⟨hn, .inr (.inr rfl)⟩) : Chg _ _ ((w1.setCell ⟨R.bs, k, none⟩ (.slice (some ⟨w.heap.size, 0, none⟩) 128 128)).setCell ⟨R.ws, k, none⟩ (.bool true)))))
      have HB := Lib.hid (rf_burn (show IsRef _ R (d.put k data) Bad from h2))
      rw [hr]
      clear hr h hc hd hsa hba hwa h1 h2 hpay hb1
      subst hw1
      rw [World.setCell_alloc_past _ _ _ _ hbl, World.setCell_alloc_past _ _ _ _ (by simpa using hwl)] at HB HCH
      unfold RB.ptr at *
      simp only
      have HLB := Lib.hid (show (d.put k data).burn.1.st.length = d.st.length from by unfold DK.burn; split <;> rfl)
      generalize (d.put k data).burn = br at *
      obtain ⟨d2, bb⟩ := br
      simp only at HB HLB ⊢
      generalize data.length = n at *
      generalize pc zeroPage = Z at *
      generalize pc (pad data) = X at *
      go_enter Try.func26, Try.ntmps26
      go_wp2_with fail
      refine HB.out.mono ?_
      rintro e w3 ⟨rfl, ht⟩
      cases bb <;> go_wp2 <;> go_ret <;> exact ⟨rfl, ht.1, HCH.out.trans ht.2.1, HLB.out⟩
  · have hr : d.write i data = (d, d.chk i) := by unfold DK.write; rw [if_pos hc]
    have H := Lib.hid h
    have hv : d.chk i = (if d.down then 13 else if i < 0 ∨ (d.st.length : Int) ≤ i then 10 else 0) := rfl
    have HC := Lib.hid hc
    have hV := Lib.hid hv
    rw [hr]
    clear hr h hc hv hsa hba hwa hd
    unfold RB.ptr
    simp only
    generalize d.st.length = n at c0 c1 c2 hV
    generalize d.down = dn at *
    generalize d.chk i = v at *
    cases dn with
    | true =>
      go_enter Try.func26, Try.ntmps26
      go_wp2
      go_ret
      exact ⟨by rw [hV.out]; rfl, H.out, Chg.refl _ _, rfl⟩
    | false =>
      by_cases h1 : i < 0
      · have g1 : decide (i < 0) = true := by simpa using h1
        go_enter Try.func26, Try.ntmps26
        go_wp2
        go_ret
        exact ⟨by rw [hV.out]; simp [h1], H.out, Chg.refl _ _, rfl⟩
      · have g1 : decide (i < 0) = false := by simpa using h1
        by_cases h2 : (n : Int) ≤ i
        · have g2 : decide ((n : Int) ≤ i) = true := by simpa using h2
          go_enter Try.func26, Try.ntmps26
          go_wp2
          go_ret
          exact ⟨by rw [hV.out]; simp [h2], H.out, Chg.refl _ _, rfl⟩
        · exact absurd (by rw [hV.out]; simp [h1, h2]) HC.out
end

end Go.Proofs.Ytbolglpbkgmlfaa
