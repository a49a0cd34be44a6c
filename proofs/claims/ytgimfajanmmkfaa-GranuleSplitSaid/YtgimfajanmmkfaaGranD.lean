/-
  sort.Search at a function value; what granule.Span returns, and the reference's.
-/
import Derived.Test.YtgimfajanmmkfaaGranC
import Derived.Deep.RegionHeld3
import Derived.Shelf.RegionOpenPlain
namespace Go.Proofs.Ytgimfajanmmkfaa
open Go.RowKit

set_option maxRecDepth 100000 in
set_option maxHeartbeats 1000000 in
theorem span_closure (k s i n : Int) (ba bi : Nat) (W : World) (hv : Gr.vg k s = true) (h0 : 0 ≤ n) (h1 : n < 1000000) (hba : ba < W.heap.size) (hbi : bi < W.heap.size)
    (c0 : W.cell? ⟨ba, 0, none⟩ = some (.int .i64 k)) (c1 : W.cell? ⟨ba, 1, none⟩ = some (.int .i64 s)) (c2 : W.cell? ⟨bi, 0, none⟩ = some (.int .i64 i)) :
    Calls Try.prog 28 #[.int .i64 n, .pointer (some ⟨ba, 0, none⟩), .pointer (some ⟨bi, 0, none⟩)] W fun e w' => e = .returned (.bool (decide (i ≤ Gr.idx k s n))) ∧ Below W.heap.size W w' := by
  have KEEP := Lib.hid (show ∀ W1 W2 : World, (W1.cell? ⟨ba, 0, none⟩ = some (.int .i64 k) ∧ W1.cell? ⟨ba, 1, none⟩ = some (.int .i64 s) ∧ W1.cell? ⟨bi, 0, none⟩ = some (.int .i64 i) ∧ Below W.heap.size W W1) → Below W1.heap.size W1 W2 →
      (W2.cell? ⟨ba, 0, none⟩ = some (.int .i64 k) ∧ W2.cell? ⟨ba, 1, none⟩ = some (.int .i64 s) ∧ W2.cell? ⟨bi, 0, none⟩ = some (.int .i64 i) ∧ Below W.heap.size W W2) from
    fun W1 W2 ⟨a, b, c, d⟩ hb => by
      have := d.size
      exact ⟨(hb.cell (p := ⟨ba, 0, none⟩) (by simp; omega)).trans a, (hb.cell (p := ⟨ba, 1, none⟩) (by simp; omega)).trans b, (hb.cell (p := ⟨bi, 0, none⟩) (by simp; omega)).trans c, d.trans (hb.mono d.size)⟩)
  have INIT := Lib.hid (show (W.drew.cell? ⟨ba, 0, none⟩ = some (.int .i64 k) ∧ W.drew.cell? ⟨ba, 1, none⟩ = some (.int .i64 s) ∧ W.drew.cell? ⟨bi, 0, none⟩ = some (.int .i64 i) ∧ Below W.heap.size W W.drew) from ⟨c0, c1, c2, (Below.refl _ _).drew⟩)
  have HV := Lib.hid hv
  clear hv
  go_enter Try.func28, Try.ntmps28
  go_wp2_with fail
  go_region_held3 (fun w' => w'.cell? ⟨ba, 0, none⟩ = some (.int .i64 k) ∧ w'.cell? ⟨ba, 1, none⟩ = some (.int .i64 s) ∧ w'.cell? ⟨bi, 0, none⟩ = some (.int .i64 i) ∧ Below W.heap.size W w') (first | exact INIT.out | exact KEEP.out _ _ (by assumption) (by assumption) | exact ⟨by assumption, by assumption, by assumption, by assumption⟩)
    (first | (go_at_call 25; refine (gran_index k s n _ HV.out h0 h1).mono ?_; rintro e w2 ⟨rfl, hb⟩))
  obtain ⟨_, _, _, hB⟩ := ‹_ ∧ _›
  go_wp2
  go_ret
  exact ⟨rfl, hB⟩

/-- A function value whose call says p at every number below n, whatever has been laid behind. -/
def Says (g : FuncId) (cb : Array Value) (n : Int) (p : Int → Bool) (W : World) : Prop :=
  ∀ (W1 : World) (x : Int), Below W.heap.size W W1 → 0 ≤ x → x < n → Calls Try.prog g (#[.int .i64 x] ++ cb) W1 fun e w' => e = .returned (.bool (p x)) ∧ Below W1.heap.size W1 w'

/-- The least number below n at which p holds, or n. -/
def Found (n : Int) (p : Int → Bool) (w : World) (e : Ending) (w' : World) : Prop :=
  (∃ x : Int, e = .returned (.int .i64 x) ∧ 0 ≤ x ∧ x ≤ n ∧ (∀ t, 0 ≤ t → t < x → p t = false) ∧ (x < n → p x = true)) ∧ Below w.heap.size w w'

set_option maxRecDepth 100000 in
set_option maxHeartbeats 2000000 in
theorem sort_Search (g : FuncId) (cb : Array Value) (n : Int) (p : Int → Bool) (w : World) (eg : ∀ args w, (callFunc g args).run Try.prog w = .ok (.enter g args) w) (hn0 : 0 ≤ n) (hsz : n < 4611686018427387904)
    (hf : Says g cb n p w) (hmono : ∀ a b, 0 ≤ a → a ≤ b → b < n → p a = true → p b = true) :
    Calls Try.prog 27 #[.int .i64 n, .func (.func g) #[] cb] w (Found n p w) := by
  have HF := Lib.hid hf
  have M := Lib.hid hmono
  clear hf hmono
  go_enter Try.func27, Try.ntmps27
  go_wp2
  go_loopw [5, 6] (fun s5 s6 wr => ∃ lo hi : Int, s5 = .int .i64 lo ∧ s6 = .int .i64 hi ∧ 0 ≤ lo ∧ lo ≤ hi ∧ hi ≤ n ∧ Below w.heap.size w wr ∧ Hid ((∀ t, 0 ≤ t → t < lo → p t = false) ∧ (hi < n → p hi = true))) (fun s5 s6 _ => (intOf s6 - intOf s5).toNat)
  case atStart => exact ⟨0, n, rfl, rfl, by omega, hn0, by omega, Below.refl _ _, Lib.hid ⟨fun t a b => by omega, fun h => by omega⟩⟩
  case round =>
    obtain ⟨lo, hi, rfl, rfl, hl0, hlh, hin, hB, I⟩ := hrel
    by_cases hlt : lo < hi
    · have hc := HF.out wr ((lo + hi) / 2) hB (by omega) (by omega)
      cases hp : p ((lo + hi) / 2) <;> rw [hp] at hc
      · have HP := Lib.hid hp
        have HC := Lib.hid hc
        clear hp hc
        go_wp2_with (go_at_fn g; refine HC.out.mono ?_; rintro e w2 ⟨rfl, hb2⟩)
        go_roundw
        case measure => simp [intOf]; omega
        case rel =>
          exact ⟨(lo + hi) / 2 + 1, hi, rfl, rfl, by omega, by omega, hin, hB.trans (hb2.mono hB.size), Lib.hid ⟨fun t a b => (by
            cases h : p t with
            | false => rfl
            | true => have := M.out t ((lo + hi) / 2) a (by omega) (by omega) h; rw [HP.out] at this; cases this), I.out.2⟩⟩
      · have HP := Lib.hid hp
        have HC := Lib.hid hc
        clear hp hc
        go_wp2_with (go_at_fn g; refine HC.out.mono ?_; rintro e w2 ⟨rfl, hb2⟩)
        go_roundw
        case measure => simp [intOf]; omega
        case rel => exact ⟨lo, (lo + hi) / 2, rfl, rfl, by omega, by omega, by omega, hB.trans (hb2.mono hB.size), Lib.hid ⟨I.out.1, fun _ => HP.out⟩⟩
    · obtain rfl : hi = lo := by omega
      go_wp2
      go_ret
      exact ⟨⟨hi, rfl, hl0, hin, I.out.1, I.out.2⟩, hB⟩

/-- Is there a granule with this number? -/
noncomputable def spB (k s i : Int) : Bool := Gr.vg k s && (decide (0 ≤ i) && decide (i ≤ Gr.idx k s 999999))
noncomputable def spF (k s i : Int) : Int := if spB k s i = true then Gr.fs k s i else 0
noncomputable def spT (k s i : Int) : Int := if spB k s i = true then Gr.fs k s (i + 1) else 0
theorem sp_no {k s i : Int} (h : spB k s i = false) : spF k s i = 0 ∧ spT k s i = 0 := by unfold spF spT; rw [h]; exact ⟨rfl, rfl⟩
theorem sp_yes {k s i : Int} (h : spB k s i = true) : spF k s i = Gr.fs k s i ∧ spT k s i = Gr.fs k s (i + 1) := by unfold spF spT; rw [if_pos h, if_pos h]; exact ⟨rfl, rfl⟩
theorem spB_iff (k s i : Int) : spB k s i = true ↔ Gr.vg k s = true ∧ 0 ≤ i ∧ i ≤ Gr.idx k s 999999 := by unfold spB; simp
theorem spB_no {k s i : Int} (h : ¬ (Gr.vg k s = true ∧ 0 ≤ i ∧ i ≤ Gr.idx k s 999999)) : spB k s i = false := by
  cases e : spB k s i with
  | false => rfl
  | true => exact absurd ((spB_iff k s i).1 e) h

/-- Three blocks of the call's own: the granularity, the number, the result. -/
structure Sp3 (w w3 : World) (k s i : Int) : Prop where
  c0 : w3.cell? ⟨w.heap.size, 0, none⟩ = some (.int .i64 k)
  c1 : w3.cell? ⟨w.heap.size, 1, none⟩ = some (.int .i64 s)
  c2 : w3.cell? ⟨w.heap.size + 1, 0, none⟩ = some (.int .i64 i)
  c3 : w3.cell? ⟨w.heap.size + 2, 0, none⟩ = some (.int .i64 0)
  c4 : w3.cell? ⟨w.heap.size + 2, 1, none⟩ = some (.int .i64 0)
  f3 : w3.frozen? ⟨w.heap.size + 2, 0, none⟩ = false
  f4 : w3.frozen? ⟨w.heap.size + 2, 1, none⟩ = false
  sz : w.heap.size + 3 ≤ w3.heap.size
  bl : Below w.heap.size w w3

theorem Sp3.keep {w w3 w4 : World} {k s i : Int} (h : Sp3 w w3 k s i) (hb : Below w3.heap.size w3 w4) : Sp3 w w4 k s i := by
  have hz := h.sz
  have hz' := hb.size
  exact ⟨(hb.cell (p := ⟨w.heap.size, 0, none⟩) (by simp; omega)).trans h.c0, (hb.cell (p := ⟨w.heap.size, 1, none⟩) (by simp; omega)).trans h.c1, (hb.cell (p := ⟨w.heap.size + 1, 0, none⟩) (by simp; omega)).trans h.c2,
    (hb.cell (p := ⟨w.heap.size + 2, 0, none⟩) (by simp; omega)).trans h.c3, (hb.cell (p := ⟨w.heap.size + 2, 1, none⟩) (by simp; omega)).trans h.c4, (hb.frozen (p := ⟨w.heap.size + 2, 0, none⟩) (by simp; omega)).trans h.f3,
    (hb.frozen (p := ⟨w.heap.size + 2, 1, none⟩) (by simp; omega)).trans h.f4, by omega, h.bl.trans (hb.mono h.bl.size)⟩

theorem sp3_at (w : World) (k s i : Int) (t1 t2 t3 : TypeId) : Sp3 w (((w.alloc (.cells #[.int .i64 k, .int .i64 s] t1)).alloc (.cells #[.int .i64 i] t2)).alloc (.cells #[.int .i64 0, .int .i64 0] t3)) k s i := by
  refine ⟨?_, ?_, ?_, ?_, ?_, ?_, ?_, ?_, ?_⟩
  · go_simp
  · go_simp
  · go_simp
  · go_simp
  · go_simp
  · go_simp
  · go_simp
  · simp
  · exact (((Below.refl _ _).alloc (Nat.le_refl _) _).alloc (by simp) _).alloc (by simp; omega) _

theorem Sp3.drew {w w3 : World} {k s i : Int} (h : Sp3 w w3 k s i) : Sp3 w w3.drew k s i := h.keep ((Below.refl _ _).drew)

set_option maxRecDepth 100000 in
set_option maxHeartbeats 2000000 in
theorem gran_Span (k s i : Int) (w : World) :
    Calls Try.prog 16 #[.agg #[.int .i64 k, .int .i64 s], .int .i64 i] w fun e w' => e = .returned (.tuple #[.agg #[.int .i64 (spF k s i), .int .i64 (spT k s i)], .bool (spB k s i)]) ∧ Below w.heap.size w w' := by
  generalize hv : (Value.tuple #[.agg #[.int .i64 (spF k s i), .int .i64 (spT k s i)], .bool (spB k s i)]) = V
  have HV := Lib.hid hv
  clear hv
  obtain ⟨w3, hw3⟩ : ∃ w3 : World, w3 = ((w.alloc (.cells #[.int .i64 k, .int .i64 s] 23)).alloc (.cells #[.int .i64 i] 3)).alloc (.cells #[.int .i64 0, .int .i64 0] 30) := ⟨_, rfl⟩
  have S3 : Sp3 w w3 k s i := by rw [hw3]; exact sp3_at _ _ _ _ _ _ _
  have HW := Lib.hid hw3
  clear hw3
  obtain ⟨c0, c1, c2, c3, c4, f3, f4, sz, bl⟩ := S3
  cases hg : Gr.vg k s with
  | false =>
    have HF := Lib.hid (spB_no (k := k) (s := s) (i := i) (fun h => by rw [hg] at h; cases h.1))
    go_enter Try.func16, Try.ntmps16
    go_wp2_with fail
    rw [← HW.out]
    go_region_with (go_at_call 14; refine (gran_Valid k s _).mono ?_; rintro e w2 ⟨rfl, hb⟩)
    all_goals
      obtain ⟨d0, d1, d2, d3, d4, g3, g4, sz', bl'⟩ := (Sp3.drew (i := i) ⟨c0, c1, c2, c3, c4, f3, f4, sz, bl⟩).keep hb
      go_wp2
      refine bodyPost_ret (v := .tuple #[.agg #[.int .i64 0, .int .i64 0], .bool false]) (by simp [results, Try.results16, go_sem, *]) rfl ⟨by rw [← HV.out, (sp_no HF.out).1, (sp_no HF.out).2, HF.out], ?_⟩
      exact (bl'.setCell (by simp; omega) _).setCell (by simp; omega) _
  | true =>
    have HG := Lib.hid hg
    have h99 := Gr.idx_bd (n := 999999) hg (by omega) (by omega)
    obtain ⟨h99a, h99b⟩ := h99
    have eg : ∀ args w, (callFunc 28 args).run Try.prog w = .ok (.enter 28 args) w := enters_of Try.func28 (by kernel_rfl) rfl
    by_cases hi0 : i < 0
    · have HF := Lib.hid (spB_no (k := k) (s := s) (i := i) (fun h => by omega))
      have hd : decide (i < 0) = true := by simp; omega
      go_enter Try.func16, Try.ntmps16
      go_wp2_with fail
      rw [← HW.out]
      go_region_with (go_at_call 14; refine (gran_Valid k s _).mono ?_; rintro e w2 ⟨rfl, hb⟩; obtain ⟨d0, d1, d2, d3, d4, g3, g4, sz', bl'⟩ := (Sp3.drew (i := i) ⟨c0, c1, c2, c3, c4, f3, f4, sz, bl⟩).keep hb)
      all_goals
        go_wp2
        refine bodyPost_ret (v := .tuple #[.agg #[.int .i64 0, .int .i64 0], .bool false]) (by simp [results, Try.results16, go_sem, *]) rfl ⟨by rw [← HV.out, (sp_no HF.out).1, (sp_no HF.out).2, HF.out], ?_⟩
        exact (bl'.setCell (by simp; omega) _).setCell (by simp; omega) _
    · have KEEP := Lib.hid (show ∀ W1 W2 : World, (W1.cell? ⟨w.heap.size, 0, none⟩ = some (.int .i64 k) ∧ W1.cell? ⟨w.heap.size, 1, none⟩ = some (.int .i64 s) ∧ W1.cell? ⟨w.heap.size + 1, 0, none⟩ = some (.int .i64 i) ∧ Sp3 w W1 k s i) → Below W1.heap.size W1 W2 →
        (W2.cell? ⟨w.heap.size, 0, none⟩ = some (.int .i64 k) ∧ W2.cell? ⟨w.heap.size, 1, none⟩ = some (.int .i64 s) ∧ W2.cell? ⟨w.heap.size + 1, 0, none⟩ = some (.int .i64 i) ∧ Sp3 w W2 k s i) from
        fun W1 W2 ⟨_, _, _, h⟩ hb => ⟨(h.keep hb).c0, (h.keep hb).c1, (h.keep hb).c2, h.keep hb⟩)
      have INIT := Lib.hid (show (w3.drew.cell? ⟨w.heap.size, 0, none⟩ = some (.int .i64 k) ∧ w3.drew.cell? ⟨w.heap.size, 1, none⟩ = some (.int .i64 s) ∧ w3.drew.cell? ⟨w.heap.size + 1, 0, none⟩ = some (.int .i64 i) ∧ Sp3 w w3.drew k s i) from ⟨c0, c1, c2, Sp3.drew ⟨c0, c1, c2, c3, c4, f3, f4, sz, bl⟩⟩)
      have hd : decide (i < 0) = false := by simp; omega
      go_enter Try.func16, Try.ntmps16
      go_wp2_with fail
      rw [← HW.out]
      go_region_held3 (fun w' => w'.cell? ⟨w.heap.size, 0, none⟩ = some (.int .i64 k) ∧ w'.cell? ⟨w.heap.size, 1, none⟩ = some (.int .i64 s) ∧ w'.cell? ⟨w.heap.size + 1, 0, none⟩ = some (.int .i64 i) ∧ Sp3 w w' k s i) (first | exact INIT.out | exact KEEP.out _ _ (by assumption) (by assumption) | exact ⟨by assumption, by assumption, by assumption, by assumption⟩)
        (first | (go_at_call 14; refine (gran_Valid k s _).mono ?_; rintro e w2 ⟨rfl, hb⟩) | (go_at_call 25; refine (gran_index k s 999999 _ HG.out (by omega) (by omega)).mono ?_; rintro e w2 ⟨rfl, hb⟩))
      obtain ⟨d0, d1, d2, H4⟩ := ‹_ ∧ _›
      by_cases hi9 : Gr.idx k s 999999 < i
      · have HF := Lib.hid (spB_no (k := k) (s := s) (i := i) (fun h => by omega))
        obtain ⟨_, _, _, d3, d4, g3, g4, sz', bl'⟩ := H4
        go_wp2
        refine bodyPost_ret (v := .tuple #[.agg #[.int .i64 0, .int .i64 0], .bool false]) (by simp [results, Try.results16, go_sem, *]) rfl ⟨by rw [← HV.out, (sp_no HF.out).1, (sp_no HF.out).2, HF.out], ?_⟩
        exact (bl'.setCell (by simp; omega) _).setCell (by simp; omega) _
      · have HF := Lib.hid ((spB_iff k s i).2 ⟨hg, by omega, by omega⟩)
        have HL := Lib.hid (Gr.fs_lt hg (i := i) (by omega))
        have hS := sort_Search 28 #[.pointer (some ⟨w.heap.size, 0, none⟩), .pointer (some ⟨w.heap.size + 1, 0, none⟩)] 1000000 (fun x => decide (i ≤ Gr.idx k s x)) w2 eg (by omega) (by omega)
          (fun W1 x hb5 x0 x1 => span_closure k s i x w.heap.size (w.heap.size + 1) W1 HG.out x0 x1 (by have := hb5.size; have := H4.sz; omega) (by have := hb5.size; have := H4.sz; omega)
            ((hb5.cell (p := ⟨w.heap.size, 0, none⟩) (by have := H4.sz; simp; omega)).trans H4.c0) ((hb5.cell (p := ⟨w.heap.size, 1, none⟩) (by have := H4.sz; simp; omega)).trans H4.c1) ((hb5.cell (p := ⟨w.heap.size + 1, 0, none⟩) (by have := H4.sz; simp; omega)).trans H4.c2))
          (fun a b a0 ab b1 h => by
            have := (Gr.idx_mono HG.out a0 ab b1).1
            simp only [decide_eq_true_eq] at h ⊢; omega)
        have HSr := Lib.hid hS
        clear hS
        go_wp2_with (go_at_call 27; refine HSr.out.mono ?_; intro e w5 hpost; obtain ⟨⟨x, rfl, x0, x1, x2, x3⟩, hb5⟩ := hpost; have H5 := H4.keep hb5; obtain ⟨e0, e1, e2, e3, e4, g3, g4, sz5, bl5⟩ := H5; have hx := Lib.hid (Gr.fs_eq (k := k) (s := s) (i := i) (x := x) ⟨x0, x1, fun n a b => by simpa using x2 n a b, fun h => by simpa using x3 h⟩); clear x2 x3; have hx1 : x < 1000000 := (by have := HL.out; rw [hx.out] at this; exact this); go_wp2_with (go_at_call 29; refine (gran_next k s x _ HG.out x0 hx1).mono ?_; rintro e w6 ⟨rfl, hb6⟩; obtain ⟨k0, k1, k2, k3, k4, l3, l4, sz6, bl6⟩ := (Sp3.mk e0 e1 e2 e3 e4 g3 g4 sz5 bl5).keep hb6))
        have hnx := Lib.hid (show nx k s x = Gr.fs k s (i + 1) by unfold nx; rw [← hx.out, Gr.fs_idx HG.out (by omega) HL.out])
        refine bodyPost_ret (v := .tuple #[.agg #[.int .i64 x, .int .i64 (nx k s x)], .bool true]) (by simp [results, Try.results16, go_sem, *]) rfl ⟨by rw [← HV.out, (sp_yes HF.out).1, (sp_yes HF.out).2, HF.out, hnx.out, hx.out], ?_⟩
        exact (bl6.setCell (by simp; omega) _).setCell (by simp; omega) _

end Go.Proofs.Ytgimfajanmmkfaa
