/-
  The reference's new disk as a disk; the disk's Clone.
-/
import Derived.Test.YtbolglpbkgmlfaaDrH
namespace Go.Proofs.Ytbolglpbkgmlfaa
open Go.RowKit Go.Maps
set_option linter.unusedVariables false

theorem own_block {w : World} {base n : Nat} {e : TypeId} {v : Value} {xs : List Value} (h : w.ownsRow base e 1 v n xs) : ∃ g c, (∃ a, v = .slice a n c ∧ (0 < n → a = some ⟨g, 0, none⟩)) ∧ (0 < n → base ≤ g ∧ g < w.heap.size ∧ v.ownBlock = some g ∧ (∀ j u, xs[j]? = some u → w.cell? ⟨g, j, none⟩ = some u) ∧ ∀ j, w.frozen? ⟨g, j, none⟩ = false) := by
  rcases h.2 with ⟨rfl, h0⟩ | ⟨g, cap, cur, rfl, hB, hc, rest⟩
  · exact ⟨0, 0, ⟨none, by rw [h0], fun hn => by omega⟩, fun hn => by omega⟩
  · refine ⟨g, cap, ⟨_, rfl, fun _ => rfl⟩, fun hn => ⟨hB, (Array.getElem?_eq_some_iff.1 hc).1, rfl, fun j u hu => ?_, fun j => h.frozenAt j⟩⟩
    have hj := (List.getElem?_eq_some_iff.1 hu).1
    have hl := h.1
    have := h.cellAt j (by omega)
    exact this.trans hu

theorem Grow.isRef {wr : World} {rb n : Nat} {sv bv wv : Value} {xs : List Value} (h : Grow wr rb n n n sv bv wv xs) (hn : n ≤ 4096) {Bad : Nat → Prop} (hBad : ∀ b, Bad b → b < rb) : ∃ R : RB, R.rb = rb ∧ IsRef wr R (DK.new n) Bad := by
  obtain ⟨gs, cs, ⟨ax, e1, e2⟩, hs⟩ := own_block h.os
  obtain ⟨gb, cb, ⟨ab, e3, e4⟩, hb⟩ := own_block h.ob
  obtain ⟨gw, cw, ⟨aw, e5, e6⟩, hw⟩ := own_block h.ow
  have hlr := h.lt
  have hlen : (DK.new n).st.length = n := by simp [DK.new]
  have hxl : xs.length = n := by have := h.os.1; omega
  have hx : ∀ u, xs[0]? = some u → u ≠ .slice none 0 0 := fun u hu => by
    obtain ⟨g', e, _⟩ := h.py 0 u hu
    subst e; intro e; cases e
  have d1 : 0 < n → gs ≠ gb := fun hp e => by
    have := rows_apart h.os h.ob h.z1 h.z2 (.inr (fun p1 p2 e => by
      obtain ⟨u, hu⟩ : ∃ u, xs[0]? = some u := ⟨_, List.getElem?_eq_getElem (by omega)⟩
      rw [hu, List.getElem?_replicate, if_pos p2] at e
      exact hx u hu (Option.some.inj e))) gs (hs hp).2.2.1
    rw [(hb hp).2.2.1] at this
    exact this (by rw [e])
  have d2 : 0 < n → gs ≠ gw := fun hp e => by
    have := rows_apart h.os h.ow h.z1 h.z3 (.inl (by decide)) gs (hs hp).2.2.1
    rw [(hw hp).2.2.1] at this
    exact this (by rw [e])
  have d3 : 0 < n → gb ≠ gw := fun hp e => by
    have := rows_apart h.ob h.ow h.z2 h.z3 (.inl (by decide)) gb (hb hp).2.2.1
    rw [(hw hp).2.2.1] at this
    exact this (by rw [e])
  refine ⟨⟨rb, gs, gb, gw⟩, rfl, ⟨DK.Ok.new hn, ?_, ?_, ?_, ?_, ?_, h.c3, h.c4, h.fr, ?_, ?_, ?_, ?_⟩⟩
  · rw [hlen]
    intro hp
    have := (hs hp).1
    have := (hb hp).1
    have := (hw hp).1
    exact ⟨by show rb ≠ gs; omega, by show rb ≠ gb; omega, by show rb ≠ gw; omega, d1 hp, d2 hp, d3 hp⟩
  · rw [hlen]
    rintro b (rfl | ⟨hp, rfl | rfl | rfl⟩)
    · exact ⟨hlr, fun hx => by have := hBad _ hx; omega⟩
    · exact ⟨(hs hp).2.1, fun hx => by have := hBad _ hx; have := (hs hp).1; omega⟩
    · exact ⟨(hb hp).2.1, fun hx => by have := hBad _ hx; have := (hb hp).1; omega⟩
    · exact ⟨(hw hp).2.1, fun hx => by have := hBad _ hx; have := (hw hp).1; omega⟩
  · rw [hlen]; exact ⟨ax, cs, by rw [← e1]; exact h.c0, e2⟩
  · rw [hlen]; exact ⟨ab, cb, by rw [← e3]; exact h.c1, e4⟩
  · rw [hlen]; exact ⟨aw, cw, by rw [← e5]; exact h.c2, e6⟩
  · rw [hlen]; intro hp j; exact ⟨(hs hp).2.2.2.2 j, (hb hp).2.2.2.2 j, (hw hp).2.2.2.2 j⟩
  · intro i q hq
    have hi : i < n := by have := (List.getElem?_eq_some_iff.1 hq).1; rwa [hlen] at this
    have hp : 0 < n := by omega
    have hqz : q = zeroPage := by
      simp only [DK.new] at hq
      rw [List.getElem?_replicate, if_pos hi] at hq
      exact (Option.some.inj hq).symm
    obtain ⟨u, hu⟩ : ∃ u, xs[i]? = some u := ⟨_, List.getElem?_eq_getElem (by omega)⟩
    obtain ⟨g, e, hg, hz⟩ := h.py i u hu
    refine ⟨u, (hs hp).2.2.2.1 i u hu, by rw [hqz]; rfl, g, 0, 128, e, Nat.le_refl _, (Array.getElem?_eq_some_iff.1 hz).1, ?_, fun hx => by have := hBad _ hx; omega, ?_⟩
    · rw [hlen]
      rintro (e1 | ⟨_, e1 | e1 | e1⟩)
      · have : g = rb := e1; omega
      · exact row_block h.os (by decide) hz (by rw [(hs hp).2.2.1]; exact congrArg some e1)
      · exact row_block h.ob (by decide) hz (by rw [(hb hp).2.2.1]; exact congrArg some e1)
      · exact row_block h.ow (by decide) hz (by rw [(hw hp).2.2.1]; exact congrArg some e1)
    · rw [hqz]
      intro j x hx
      rw [Nat.zero_add]
      unfold World.cell?
      simp only [hz]
      simpa using hx
  · intro i hi
    rw [hlen] at hi
    have hp : 0 < n := by omega
    exact ⟨_, (hb hp).2.2.2.1 i _ (by rw [List.getElem?_replicate, if_pos hi]), fun p hp' => by cases hp'⟩
  · intro i hi
    rw [hlen] at hi
    have hp : 0 < n := by omega
    exact (hw hp).2.2.2.1 i _ (by rw [List.getElem?_replicate, if_pos hi]; rfl)

theorem own_some {w : World} {base n size : Nat} {e : TypeId} {v : Value} {xs : List Value} (h : w.ownsRow base e size v n xs) (hv : v ≠ .slice none 0 0) : ∃ g c, v = .slice (some ⟨g, 0, none⟩) n c ∧ base ≤ g ∧ n ≤ c := by
  rcases h.2 with ⟨rfl, _⟩ | ⟨g, cap, cur, rfl, hB, hc, hn, _⟩
  · exact absurd rfl hv
  · exact ⟨g, cap, rfl, hB, hn⟩

section
variable {w : World} {B : DB} {d : DK}

set_option maxRecDepth 100000 in
set_option maxHeartbeats 4000000 in
theorem dk_clone (h : IsDisk w B d) : Calls Try.prog 20 #[B.ptr] w fun e w' => ∃ B' : DB, e = .returned B'.ptr ∧ Made w w' B' d := by
  obtain ⟨c, c0, hcn⟩ := h.hs
  have c1 := h.hm
  have c2 := h.hd
  have c3 := h.hf
  have hdl := h.lt.1
  have H := Lib.hid h
  clear h
  unfold DB.ptr
  go_enter Try.func20, Try.ntmps20
  go_wp2_with fail
  have hS0 : w.drew.cell? ⟨B.db, 0, none⟩ = some (.slice (some ⟨B.sb, 0, none⟩) d.st.length c) ∧ w.drew.cell? ⟨B.db, 1, none⟩ = some (.map (some B.mb)) ∧ w.drew.cell? ⟨B.db, 2, none⟩ = some (.bool d.down) ∧ w.drew.cell? ⟨B.db, 3, none⟩ = some (.int .i64 (d.fuse : Int)) ∧ IsDisk w.drew B d ∧ Below w.heap.size w w.drew := ⟨c0, c1, c2, c3, H.out.drew, (Below.refl _ _).drew⟩
  have INIT := Lib.hid hS0
  have KEEP := Lib.hid (show ∀ W1 W2 : World, (W1.cell? ⟨B.db, 0, none⟩ = some (.slice (some ⟨B.sb, 0, none⟩) d.st.length c) ∧ W1.cell? ⟨B.db, 1, none⟩ = some (.map (some B.mb)) ∧ W1.cell? ⟨B.db, 2, none⟩ = some (.bool d.down) ∧ W1.cell? ⟨B.db, 3, none⟩ = some (.int .i64 (d.fuse : Int)) ∧ IsDisk W1 B d ∧ Below w.heap.size w W1) → Below W1.heap.size W1 W2 →
      (W2.cell? ⟨B.db, 0, none⟩ = some (.slice (some ⟨B.sb, 0, none⟩) d.st.length c) ∧ W2.cell? ⟨B.db, 1, none⟩ = some (.map (some B.mb)) ∧ W2.cell? ⟨B.db, 2, none⟩ = some (.bool d.down) ∧ W2.cell? ⟨B.db, 3, none⟩ = some (.int .i64 (d.fuse : Int)) ∧ IsDisk W2 B d ∧ Below w.heap.size w W2) from
    fun W1 W2 ⟨a0, a1, a2, a3, hD, hB⟩ hb => by
      have hl := hD.lt.1
      exact ⟨(hb.cell (p := ⟨B.db, 0, none⟩) hl).trans a0, (hb.cell (p := ⟨B.db, 1, none⟩) hl).trans a1, (hb.cell (p := ⟨B.db, 2, none⟩) hl).trans a2, (hb.cell (p := ⟨B.db, 3, none⟩) hl).trans a3, hD.below hb, hB.trans (hb.mono hB.size)⟩)
  have HP := Lib.hid H.out.ok.pages
  have HFEW := Lib.hid H.out.ok.few
  clear hS0 c0 c1 c2 c3
  go_region_held3 (fun W => W.cell? ⟨B.db, 0, none⟩ = some (.slice (some ⟨B.sb, 0, none⟩) d.st.length c) ∧ W.cell? ⟨B.db, 1, none⟩ = some (.map (some B.mb)) ∧ W.cell? ⟨B.db, 2, none⟩ = some (.bool d.down) ∧ W.cell? ⟨B.db, 3, none⟩ = some (.int .i64 (d.fuse : Int)) ∧ IsDisk W B d ∧ Below w.heap.size w W) (first | assumption | exact INIT.out | exact KEEP.out _ _ (by assumption) (by assumption) | exact KEEP.out _ _ (by assumption) ((Below.refl _ _).alloc (Nat.le_refl _) _))
    (first | (go_at_call 32; refine (clone_pages B.sb c d.st _ HP.out HFEW.out ?_).mono ?_; (first | exact INIT.out.2.2.2.2.1.pg | exact (‹_ ∧ _ ∧ _ ∧ _ ∧ IsDisk _ B d ∧ _›).2.2.2.2.1.pg); rintro e wP ⟨vP, rfl, hoP, hnP, hbP⟩; obtain ⟨gP, cP, rfl, hgP, hcP⟩ := own_some hoP hnP) | (go_at_call 33; refine (clone_map B.mb d.buf _ ?_).mono ?_; (first | exact INIT.out.2.2.2.2.1.mp | exact (‹_ ∧ _ ∧ _ ∧ _ ∧ IsDisk _ B d ∧ _›).2.2.2.2.1.mp); rintro e wM ⟨mM, rfl, hlM, hMM, hbM⟩) | fail)
  have hstP : Stable wP gP d.st := stable_of_own HP.out rfl hoP
  have hsM := hbM.size
  have hsP := hbP.size
  have hszd : w.drew.heap.size = w.heap.size := rfl
  have hgl := hstP.1
  obtain ⟨DM, nM, hoM, hofM⟩ := hMM
  have hml := hoM.lt
  have hcB : Chg (fun _ => False) wM (wM.alloc (.cells #[.slice (some ⟨gP, 0, none⟩) d.st.length cP, .map (some mM), .bool d.down, .int .i64 (d.fuse : Int)] 51)) := Chg.of_below ((Below.refl _ _).alloc (Nat.le_refl _) _)
  have HE := Lib.hid (show Made w (wM.alloc (.cells #[.slice (some ⟨gP, 0, none⟩) d.st.length cP, .map (some mM), .bool d.down, .int .i64 (d.fuse : Int)] 51)) ⟨wM.heap.size, gP, mM⟩ d from by
    refine ⟨⟨H.out.ok, ?_, ?_, ?_, ⟨cP, ?_, hcP⟩, ?_, ?_, ?_, fun j => ?_, ?_, ?_⟩, ?_, ?_, ?_, ?_⟩
    · show wM.heap.size ≠ gP; omega
    · show wM.heap.size ≠ mM; omega
    · show gP ≠ mM; omega
    · go_simp
    · go_simp
    · go_simp
    · go_simp
    · go_simp
    · exact (hstP.keep (F := fun _ => False) (Chg.of_below hbM) (fun h => h)).keep hcB (fun h => h)
    · exact (show Buffer wM mM d.buf from ⟨DM, nM, hoM, hofM⟩).keep hcB (fun h => h)
    · exact below_alloc (((Below.refl _ _).drew.trans (hbP.mono (Nat.le_refl _))).trans (hbM.mono (by omega))) _
    · show w.heap.size ≤ wM.heap.size; omega
    · show w.heap.size ≤ gP; omega
    · show w.heap.size ≤ mM; omega)
  clear hstP hoM hofM hcB hoP hbM hbP
  go_wp2
  go_ret
  exact ⟨⟨wM.heap.size, gP, mM⟩, rfl, HE.out⟩
end

end Go.Proofs.Ytbolglpbkgmlfaa
