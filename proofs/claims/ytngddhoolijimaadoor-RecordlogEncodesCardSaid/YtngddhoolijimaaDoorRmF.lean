/-
  Merged: RlQ.
-/
import Derived.Test.YtngddhoolijimaaDoorRmD
namespace Go.Proofs.YtngddhoolijimaaDoor
open Go.RowKit
set_option linter.unusedVariables false
set_option linter.unusedSimpArgs false

/-- Another S from here on. -/
theorem held_switch {P : Program} {md : Region.Mode} {ops : Array Oper} {Q : Exit → Act → World → Prop} {S S' : World → Prop} (hSS : ∀ w, S' w → S w) : ∀ (fuel : Nat) (listed : Array Bool) (a : Act) (w : World), wpAnyH P md ops Q S' fuel listed a w → wpAnyH P md ops Q S fuel listed a w
  | 0, _, _, _, h => h
  | fuel + 1, _, _, _, h => ⟨h.1, fun i hi => wpOp_mono (fun a' w' h' => ⟨hSS _ h'.1, held_switch hSS fuel _ a' w' h'.2⟩) (h.2 i hi)⟩

theorem few_small {L : List (List UInt8)} (h : L.length ≤ 20 ∧ ∀ x ∈ L, x.length ≤ 500) : Small L ∧ (encs L).length ≤ 10160 := by
  have := encs_len_le h.1 h.2
  exact ⟨⟨fun r hr => by have := h.2 r hr; omega, by omega⟩, by omega⟩

theorem wf_u8z {p : Int} (h : (Lit.int .u8 p).wf = true) : ∃ n : Nat, n < 256 ∧ p = (n : Int) := by
  have h : 0 ≤ p ∧ p ≤ 255 := by simpa [Lit.wf, IntKind.min, IntKind.max, IntKind.bits, IntKind.signed] using h
  exact ⟨p.toNat, by omega, by omega⟩

set_option maxRecDepth 100000 in
set_option maxHeartbeats 8000000 in
theorem encodes37_walk (v : Value) (L : List (List UInt8)) (z : Int) (hz : (Lit.int .u8 z).wf = true) (W : World) (h : rRs.rd W (· < W.heap.size) [v] L) : Calls Tryd.prog 9 #[v, .int .u8 z] W (Holds W) := by
  obtain ⟨m, hm, rfl⟩ := wf_u8z hz
  obtain ⟨a, c, rfl, _, _, _⟩ := rs_get h
  have HL := Lib.hid h
  have HM := Lib.hid hm
  clear h hz hm
  go_enter Tryd.func9, Tryd.ntmps9
  go_wp2_with fail
  refine (few37 _ L W HL.out).mono ?_
  rintro e w1 ⟨r, rfl, rfl, hr⟩
  cases r with
  | false =>
    go_wp2_with fail
    refine (awake37_any _).mono ?_
    rintro e w2 ⟨rfl, hb⟩
    have HB := Lib.hid hb
    clear hb hr
    go_wp2
    go_ret
    exact ⟨rfl, HB.out⟩
  | true =>
    have HS := Lib.hid (few_small (hr rfl))
    clear hr
    go_wp2_with fail
    refine (rl_Encode _ L w1 HL.out HS.out.1).mono ?_
    rintro e w2 ⟨v2, rfl, hr2, hb2⟩
    obtain ⟨E, hE⟩ : ∃ E, E = encs L := ⟨_, rfl⟩
    rw [← hE] at hr2 HS
    obtain ⟨xa, xc, rfl⟩ := hr2.dat.len
    have HE := Lib.hid hE
    have HR2 := Lib.hid hr2
    have HB2 := Lib.hid hb2
    clear hr2 hb2 hE
    go_wp2_with (at_builtin; refine wpList_app rfl _ _ rfl w2.heap.size (.slice none 0 0) [] rfl (Row.nil _ _) _ E rfl HR2.out.dat (by have := HS.out.2; simp; omega) (Nat.le_refl _) ?_)
    intro v3 w3 h3 _ hb3
    have H3 := Lib.hid h3
    have HB3 := Lib.hid hb3
    clear h3 hb3
    go_wp2_with (at_builtin; refine wpList_zeros rfl _ _ 5 rfl .u8 .u8 Tryd.underlying5 w2.heap.size v3 E rfl H3.out m rfl (by have := HS.out.2; have := HM.out; omega) HB3.out.size ?_)
    intro v4 w4 h4 _ hb4
    have H4 := Lib.hid h4
    have HB4 := Lib.hid (HB3.out.trans hb4)
    clear h4 hb4
    go_wp2_with fail
    have hdec : dec (E ++ List.replicate m 0) = (L, E.length) := by
      rw [HE.out, dec_encs HS.out.1.1, dec_zero]; simp
    have hcall := rl_Decode v4 _ w4 H4.out.dat (by rw [List.length_append, List.length_replicate]; have := HS.out.2; have := HM.out; omega)
    rw [hdec] at hcall
    refine hcall.mono ?_
    rintro e w5 ⟨v5, rfl, hr5, hb5⟩
    obtain ⟨ya, yc, rfl⟩ := hr5.len
    have HB5 := Lib.hid ((HB2.out.trans (HB4.out.mono HB2.out.size)).trans (hb5.mono (Nat.le_trans HB2.out.size HB4.out.size)))
    have HR5 := Lib.hid (hr5.rd (F := fun b => True) (fun _ _ _ => trivial))
    have HE5 := Lib.hid (show Dat w5 (.slice xa E.length xc) E from (HR2.out.dat.keep HB4.out).keep hb5)
    clear hcall hdec hr5 hb5
    go_wp2_with fail
    have cv0 := convert_data (HE5.out.keep (Below.refl _ _).drew).1
    unfold txt at cv0
    obtain ⟨sE, hsE⟩ : ∃ sE : ByteArray, sE = ⟨E.toArray⟩ := ⟨_, rfl⟩
    rw [← hsE] at cv0
    have HSE := Lib.hid hsE
    clear hsE
    refine wp_region_noPanic ?_
    refine wp_region_held_drew (S := fun W => Sem.run Tryd.prog (convert 25 9 (.slice xa E.length xc)) W = .ok (.string sE) W) (by kernel_rfl) cv0 ?_
    intro hS0
    refine wpAnyH_ready (rs := [0]) (by kernel_rfl) (by simp) ?_
    refine AllReadyH.cons (by simp only [List.getElem?_toArray, List.getElem?_cons_succ, List.getElem?_cons_zero] <;> rfl) (fun K hK => ?_) AllReadyH.nil
    rw [if_pos (by kernel_rfl)]
    go_wp2_with fail
    refine (awake37_any _).mono ?_
    rintro e wX ⟨rfl, hbX⟩
    have HBX := Lib.hid ((Below.refl _ _).drew.trans hbX)
    have cvX := convert_data (HE5.out.keep HBX.out).1
    unfold txt at cvX
    rw [← HSE.out] at cvX
    clear hbX cv0 hS0
    dsimp only
    refine hK.out _ _ cvX ?_
    intro hS1
    clear hK
    (try simp only [Act.put, List.setIfInBounds_toArray, List.set_cons_zero, List.set_cons_succ])
    refine wpAnyH_take (i := 1) (v := ?_) (by simp only [List.getElem?_toArray, List.getElem?_cons_succ, List.getElem?_cons_zero] <;> rfl) (by kernel_rfl) (by kernel_rfl) (by kernel_rfl) (fun _ _ _ h => h) (Or.inl ⟨by rfl, ?_⟩) (by assumption) ?_
    rotate_left
    · intro w hSw
      (try dsimp only at hSw)
      go_simp
      (try with_reducible rfl)
    (try simp only [Act.put, List.setIfInBounds_toArray, List.set_cons_zero, List.set_cons_succ])
    refine wpAnyH_take (i := 2) (v := ?_) (by simp only [List.getElem?_toArray, List.getElem?_cons_succ, List.getElem?_cons_zero] <;> rfl) (by kernel_rfl) (by kernel_rfl) (by kernel_rfl) (fun _ _ _ h => h) (Or.inl ⟨by rfl, ?_⟩) (by assumption) ?_
    rotate_left
    · intro w hSw
      (try dsimp only at hSw)
      go_simp
      (try with_reducible rfl)
    (try simp only [Act.put, List.setIfInBounds_toArray, List.set_cons_zero, List.set_cons_succ])
    refine wpAnyH_take (i := 3) (v := ?_) (by simp only [List.getElem?_toArray, List.getElem?_cons_succ, List.getElem?_cons_zero] <;> rfl) (by kernel_rfl) (by kernel_rfl) (by kernel_rfl) (fun _ _ _ h => h) (Or.inl ⟨by rfl, ?_⟩) (by assumption) ?_
    rotate_left
    · intro w hSw
      (try dsimp only at hSw)
      go_simp
      (try with_reducible rfl)
    (try simp only [Act.put, List.setIfInBounds_toArray, List.set_cons_zero, List.set_cons_succ])
    refine wpAnyH_take (i := 4) (v := ?_) (by simp only [List.getElem?_toArray, List.getElem?_cons_succ, List.getElem?_cons_zero] <;> rfl) (by kernel_rfl) (by kernel_rfl) (by kernel_rfl) (fun _ _ _ h => h) (Or.inl ⟨by rfl, ?_⟩) (by assumption) ?_
    rotate_left
    · intro w hSw
      (try dsimp only at hSw)
      go_simp
      (try with_reducible rfl)
    (try simp only [Act.put, List.setIfInBounds_toArray, List.set_cons_zero, List.set_cons_succ])
    refine wpAnyH_ready (rs := [5]) (by kernel_rfl) (by simp) ?_
    refine AllReadyH.cons (by simp only [List.getElem?_toArray, List.getElem?_cons_succ, List.getElem?_cons_zero] <;> rfl) (fun K hK => ?_) AllReadyH.nil
    rw [if_pos (by kernel_rfl)]
    go_wp2_with fail
    refine (rf_EncodeRecords _ L wX (rRs.keep (fun b hb _ => (HB5.out.trans (HBX.out.mono HB5.out.size)).block b hb) (HB5.out.trans (HBX.out.mono HB5.out.size)).size HL.out) HS.out.1).mono ?_
    rintro e wY ⟨vY, rfl, hrY, hbY⟩
    rw [← HE.out] at hrY
    obtain ⟨za, zc, rfl⟩ := hrY.dat.len
    have HBY := Lib.hid (HBX.out.trans (hbY.mono HBX.out.size))
    have cvY := convert_data (HE5.out.keep HBY.out).1
    have cvZ := convert_data hrY.dat.1
    unfold txt at cvY cvZ
    rw [← HSE.out] at cvY cvZ
    have HRY := Lib.hid hrY.dat
    clear hrY hbY cvX hS1
    dsimp only
    refine hK.out _ _ cvY ?_
    intro hS2
    clear hK
    refine held_switch (S' := fun W => (Sem.run Tryd.prog (convert 25 9 (.slice xa E.length xc)) W = .ok (.string sE) W) ∧ Sem.run Tryd.prog (convert 25 9 (.slice za E.length zc)) W = .ok (.string sE) W) (fun _ h => h.1) _ _ _ _ ?_
    have hS3 := And.intro cvY cvZ
    (try simp only [Act.put, List.setIfInBounds_toArray, List.set_cons_zero, List.set_cons_succ])
    refine wpAnyH_take (i := 6) (v := .string sE) (by simp only [List.getElem?_toArray, List.getElem?_cons_succ, List.getElem?_cons_zero] <;> rfl) (by kernel_rfl) (by kernel_rfl) (by kernel_rfl) (fun _ _ _ h => h) (Or.inl ⟨by rfl, ?_⟩) (by assumption) ?_
    · intro w hSw
      (try dsimp only at hSw)
      go_simp
      (try with_reducible rfl)
    (try simp only [Act.put, List.setIfInBounds_toArray, List.set_cons_zero, List.set_cons_succ])
    refine wpAnyH_take (i := 7) (v := .bool true) (by simp only [List.getElem?_toArray, List.getElem?_cons_succ, List.getElem?_cons_zero] <;> rfl) (by kernel_rfl) (by kernel_rfl) (by kernel_rfl) (fun _ _ _ h => h) (Or.inl ⟨by rfl, ?_⟩) (by assumption) ?_
    · intro w hSw
      (try dsimp only at hSw)
      go_simp
      (try with_reducible rfl)
    (try simp only [Act.put, List.setIfInBounds_toArray, List.set_cons_zero, List.set_cons_succ])
    refine wpAnyH_take (i := 8) (v := .bool true) (by simp only [List.getElem?_toArray, List.getElem?_cons_succ, List.getElem?_cons_zero] <;> rfl) (by kernel_rfl) (by kernel_rfl) (by kernel_rfl) (fun _ _ _ h => h) (Or.inl ⟨by rfl, ?_⟩) (by assumption) ?_
    · intro w hSw
      (try dsimp only at hSw)
      go_simp
      (try with_reducible rfl)
    (try simp only [Act.put, List.setIfInBounds_toArray, List.set_cons_zero, List.set_cons_succ])
    refine wpAnyH_take (i := 9) (v := .bool true) (by simp only [List.getElem?_toArray, List.getElem?_cons_succ, List.getElem?_cons_zero] <;> rfl) (by kernel_rfl) (by kernel_rfl) (by kernel_rfl) (fun _ _ _ h => h) (Or.inl ⟨by rfl, ?_⟩) (by assumption) ?_
    · intro w hSw
      (try dsimp only at hSw)
      go_simp
      (try with_reducible rfl)
    (try simp only [Act.put, List.setIfInBounds_toArray, List.set_cons_zero, List.set_cons_succ])
    refine wpAnyH_take (i := 10) (v := .int .i64 (E.length : Int)) (by simp only [List.getElem?_toArray, List.getElem?_cons_succ, List.getElem?_cons_zero] <;> rfl) (by kernel_rfl) (by kernel_rfl) (by kernel_rfl) (fun _ _ _ h => h) (Or.inl ⟨by rfl, ?_⟩) (by assumption) ?_
    · intro w hSw
      (try dsimp only at hSw)
      go_simp
      (try with_reducible rfl)
    (try simp only [Act.put, List.setIfInBounds_toArray, List.set_cons_zero, List.set_cons_succ])
    refine wpAnyH_take (i := 11) (v := ?_) (by simp only [List.getElem?_toArray, List.getElem?_cons_succ, List.getElem?_cons_zero] <;> rfl) (by kernel_rfl) (by kernel_rfl) (by kernel_rfl) (fun _ _ _ h => h) (Or.inl ⟨by rfl, ?_⟩) (by assumption) ?_
    rotate_left
    · intro w hSw
      (try dsimp only at hSw)
      go_simp
      (try with_reducible rfl)
    (try simp only [Act.put, List.setIfInBounds_toArray, List.set_cons_zero, List.set_cons_succ])
    refine wpAnyH_take (i := 12) (v := .int .i64 (E.length : Int)) (by simp only [List.getElem?_toArray, List.getElem?_cons_succ, List.getElem?_cons_zero] <;> rfl) (by kernel_rfl) (by kernel_rfl) (by kernel_rfl) (fun _ _ _ h => h) (Or.inl ⟨by rfl, ?_⟩) (by assumption) ?_
    · intro w hSw
      (try dsimp only at hSw)
      go_simp
      (try with_reducible rfl)
    (try simp only [Act.put, List.setIfInBounds_toArray, List.set_cons_zero, List.set_cons_succ])
    refine wpAnyH_take (i := 13) (v := .bool true) (by simp only [List.getElem?_toArray, List.getElem?_cons_succ, List.getElem?_cons_zero] <;> rfl) (by kernel_rfl) (by kernel_rfl) (by kernel_rfl) (fun _ _ _ h => h) (Or.inl ⟨by rfl, ?_⟩) (by assumption) ?_
    · intro w hSw
      (try dsimp only at hSw)
      go_simp
      (try with_reducible rfl)
    (try simp only [Act.put, List.setIfInBounds_toArray, List.set_cons_zero, List.set_cons_succ])
    refine wpAnyH_take (i := 14) (v := .bool true) (by simp only [List.getElem?_toArray, List.getElem?_cons_succ, List.getElem?_cons_zero] <;> rfl) (by kernel_rfl) (by kernel_rfl) (by kernel_rfl) (fun _ _ _ h => h) (Or.inl ⟨by rfl, ?_⟩) (by assumption) ?_
    · intro w hSw
      (try dsimp only at hSw)
      go_simp
      (try with_reducible rfl)
    (try simp only [Act.put, List.setIfInBounds_toArray, List.set_cons_zero, List.set_cons_succ])
    refine wpAnyH_take (i := 15) (v := .bool true) (by simp only [List.getElem?_toArray, List.getElem?_cons_succ, List.getElem?_cons_zero] <;> rfl) (by kernel_rfl) (by kernel_rfl) (by kernel_rfl) (fun _ _ _ h => h) (Or.inl ⟨by rfl, ?_⟩) (by assumption) ?_
    · intro w hSw
      (try dsimp only at hSw)
      go_simp
      (try with_reducible rfl)
    (try simp only [Act.put, List.setIfInBounds_toArray, List.set_cons_zero, List.set_cons_succ])
    refine wpAnyH_take (i := 16) (v := ?_) (by simp only [List.getElem?_toArray, List.getElem?_cons_succ, List.getElem?_cons_zero] <;> rfl) (by kernel_rfl) (by kernel_rfl) (by kernel_rfl) (fun _ _ _ h => h) (Or.inl ⟨by rfl, ?_⟩) (by assumption) ?_
    rotate_left
    · intro w hSw
      (try dsimp only at hSw)
      go_simp
      (try with_reducible rfl)
    (try simp only [Act.put, List.setIfInBounds_toArray, List.set_cons_zero, List.set_cons_succ])
    refine wpAnyH_take (i := 17) (v := ?_) (by simp only [List.getElem?_toArray, List.getElem?_cons_succ, List.getElem?_cons_zero] <;> rfl) (by kernel_rfl) (by kernel_rfl) (by kernel_rfl) (fun _ _ _ h => h) (Or.inl ⟨by rfl, ?_⟩) (by assumption) ?_
    rotate_left
    · intro w hSw
      (try dsimp only at hSw)
      go_simp
      (try with_reducible rfl)
    (try simp only [Act.put, List.setIfInBounds_toArray, List.set_cons_zero, List.set_cons_succ])
    refine wpAnyH_ready (rs := [18]) (by kernel_rfl) (by simp) ?_
    refine AllReadyH.cons (by simp only [List.getElem?_toArray, List.getElem?_cons_succ, List.getElem?_cons_zero] <;> rfl) (fun K hK => ?_) AllReadyH.nil
    rw [if_pos (by kernel_rfl)]
    go_wp2_with fail
    refine (rf_Same _ _ L wY (rRs.keep (fun b hb _ => (HB5.out.trans (HBY.out.mono HB5.out.size)).block b hb) (HB5.out.trans (HBY.out.mono HB5.out.size)).size HL.out) (rRs.keep (fun b _ hl => HBY.out.block b hl) HBY.out.size HR5.out)).mono ?_
    rintro e wZ ⟨rfl, hbZ⟩
    have HFIN := Lib.hid ((HB5.out.trans (HBY.out.mono HB5.out.size)).trans (hbZ.mono (Nat.le_trans HB5.out.size HBY.out.size)))
    have cvW := convert_data (HE5.out.keep (HBY.out.trans (hbZ.mono HBY.out.size))).1
    have cvV := convert_data (HRY.out.keep hbZ).1
    unfold txt at cvW cvV
    rw [← HSE.out] at cvW cvV
    clear hbZ hS3 hS2
    dsimp only
    refine hK.out _ _ (And.intro cvW cvV) ?_
    intro hS4
    clear hK
    (try simp only [Act.put, List.setIfInBounds_toArray, List.set_cons_zero, List.set_cons_succ])
    refine wpAnyH_take (i := 19) (v := .bool true) (by simp only [List.getElem?_toArray, List.getElem?_cons_succ, List.getElem?_cons_zero] <;> rfl) (by kernel_rfl) (by kernel_rfl) (by kernel_rfl) (fun _ _ _ h => h) (Or.inl ⟨by rfl, ?_⟩) (by assumption) ?_
    · intro w hSw
      (try dsimp only at hSw)
      go_simp
      (try with_reducible rfl)
    (try simp only [Act.put, List.setIfInBounds_toArray, List.set_cons_zero, List.set_cons_succ])
    refine wpAnyH_take (i := 20) (v := .bool true) (by simp only [List.getElem?_toArray, List.getElem?_cons_succ, List.getElem?_cons_zero] <;> rfl) (by kernel_rfl) (by kernel_rfl) (by kernel_rfl) (fun _ _ _ h => h) (Or.inl ⟨by rfl, ?_⟩) (by assumption) ?_
    · intro w hSw
      (try dsimp only at hSw)
      go_simp
      (try with_reducible rfl)
    (try simp only [Act.put, List.setIfInBounds_toArray, List.set_cons_zero, List.set_cons_succ])
    refine wpAnyH_done (by kernel_rfl) ?_ _
    refine NoPanic.normal ?_
    go_wp2
    go_ret
    exact ⟨rfl, HFIN.out⟩
end Go.Proofs.YtngddhoolijimaaDoor
