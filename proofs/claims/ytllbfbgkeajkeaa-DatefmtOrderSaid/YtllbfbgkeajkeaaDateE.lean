/-
  The text of a period, plain; datefmt.ParsePeriod.
-/
import Derived.Test.YtllbfbgkeajkeaaDateD
namespace Go.Proofs.Ytllbfbgkeajkeaa
open Go.RowKit

set_option maxRecDepth 100000 in
theorem str_Cut_no (s : ByteArray) (w : World) (h : ixb s 44 = -1) : Calls Try.prog 24 #[.string s, .string ⟨#[44]⟩] w fun e w' => e = .returned (.tuple #[.string s, .string ⟨#[]⟩, .bool false]) ∧ Below w.heap.size w w' := by
  go_enter Try.func24, Try.ntmps24
  go_wp2_with fail
  refine (lite_Cut_no _ _ h).mono ?_
  rintro e w1 ⟨rfl, hb⟩
  go_wp2_with fail
  refine bodyPost_ret (v := .tuple #[.string s, .string ⟨#[]⟩, .bool false]) (by simp [results, Try.results24, go_sem]) rfl ⟨rfl, hb⟩

set_option maxRecDepth 100000 in
theorem str_Cut_yes (s : ByteArray) (k : Nat) (w : World) (h : ixb s 44 = k) (hk : k < s.size) (hz : (s.size : Int) ≤ 9223372036854775807) :
    Calls Try.prog 24 #[.string s, .string ⟨#[44]⟩] w fun e w' => e = .returned (.tuple #[.string (s.extract 0 k), .string (s.extract (k + 1) s.size), .bool true]) ∧ Below w.heap.size w w' := by
  go_enter Try.func24, Try.ntmps24
  go_wp2_with fail
  refine (lite_Cut_yes _ _ _ h hk hz).mono ?_
  rintro e w1 ⟨rfl, hb⟩
  go_wp2_with fail
  refine bodyPost_ret (v := .tuple #[.string (s.extract 0 k), .string (s.extract (k + 1) s.size), .bool true]) (by simp [results, Try.results24, go_sem]) rfl ⟨rfl, hb⟩

theorem two_cells {w : World} {B : Nat} {a b : Value} (h0 : w.cell? ⟨B, 0, none⟩ = some a) (h1 : w.cell? ⟨B, 1, none⟩ = some b) :
    (∀ u, (w.setCell ⟨B, 0, none⟩ u).cell? ⟨B, 0, none⟩ = some u) ∧ (∀ u v, ((w.setCell ⟨B, 0, none⟩ u).setCell ⟨B, 1, none⟩ v).cell? ⟨B, 1, none⟩ = some v) := by
  refine ⟨fun u => World.cell?_setCell_same' _ _ _ (by rw [h0]; rfl), fun u v => World.cell?_setCell_same' _ _ _ ?_⟩
  have e : (w.setCell ⟨B, 0, none⟩ u).cell? ⟨B, 1, none⟩ = w.cell? ⟨B, 1, none⟩ := by go_simp
  rw [e, h1]; rfl

/-- The text has the form of a period; its first comma stands at k. -/
structure PF (s : ByteArray) (k : Nat) : Prop where
  k1 : 1 ≤ k
  k2 : k + 3 ≤ s.size
  b0 : dgv s 0 = 91
  bk : dgv s k = 44
  nk : ∀ j, 1 ≤ j → j < k → dgv s j ≠ 44
  sp : dgv s (k + 1) = 32
  bl : dgv s (s.size - 1) = 41
  nl : ∀ j, k + 2 ≤ j → j < s.size - 1 → dgv s j ≠ 41

theorem PF.one {s : ByteArray} {k k' : Nat} (h : PF s k) (h' : PF s k') : k = k' := by
  rcases Nat.lt_trichotomy k k' with g | g | g
  · exact absurd h.bk (h'.nk k h.k1 g)
  · exact g
  · exact absurd h'.bk (h.nk k' h'.k1 g)

/-- A period out of two days. -/
def ppair (a b : Int × Int) : Int × Int × Int :=
  if a.2 ≠ 0 then (0, 0, a.2) else if b.2 ≠ 0 then (0, 0, b.2) else if b.1 ≤ a.1 then (0, 0, 10) else (a.1, b.1, 0)

open Classical in
/-- What ParsePeriod returns: the period and the error. -/
noncomputable def pp (s : ByteArray) : Int × Int × Int :=
  if h : ∃ k, PF s k then ppair (pd (s.extract 1 h.choose)) (pd (s.extract (h.choose + 2) (s.size - 1))) else (0, 0, 5)

theorem pp_yes {s : ByteArray} {k : Nat} (h : PF s k) : pp s = ppair (pd (s.extract 1 k)) (pd (s.extract (k + 2) (s.size - 1))) := by
  have hx : ∃ k, PF s k := ⟨k, h⟩
  unfold pp
  rw [dif_pos hx, hx.choose_spec.one h]

theorem pp_no {s : ByteArray} (h : ∀ k, ¬ PF s k) : pp s = (0, 0, 5) := by
  unfold pp
  rw [dif_neg (by rintro ⟨k, hk⟩; exact h k hk)]

noncomputable def ppV (s : ByteArray) : Value := .tuple #[.agg #[.int .i64 (pp s).1, .int .i64 (pp s).2.1], .int .i64 (pp s).2.2]

/-- The form, as the program looks for it. -/
theorem pf_code {s u v : ByteArray} {k0 : Nat} (hu : s.extract 1 s.size = u) (hv : u.extract (k0 + 1) u.size = v) (h0 : hp s 91 = true) (h1 : k0 < u.size) (h2 : dgv u k0 = 44) (h3 : ∀ j, j < k0 → dgv u j ≠ 44)
    (h4 : hp v 32 = true) (h5 : ixb v 41 = (v.size : Int) - 1) : PF s (k0 + 1) := by
  obtain ⟨g1, g2⟩ := (hp_iff _ _).1 h0
  obtain ⟨g3, g4⟩ := (hp_iff _ _).1 h4
  have e1 : u.size = s.size - 1 := by rw [← hu, ByteArray.size_extract]; omega
  have e2 : v.size = s.size - 2 - k0 := by rw [← hv, ByteArray.size_extract, e1]; omega
  have d1 : ∀ j, j < s.size - 1 → dgv u j = dgv s (1 + j) := fun j hj => by rw [← hu]; exact dgv_extract s 1 s.size j (by omega) (Nat.le_refl _)
  have d2 : ∀ j, j < s.size - 2 - k0 → dgv v j = dgv s (1 + (k0 + 1 + j)) := fun j hj => by
    rw [← hv, dgv_extract _ _ _ _ (by omega) (Nat.le_refl _), d1 _ (by omega)]
  rw [e1] at h1
  rw [e2] at g3 h5
  rw [d2 0 (by omega)] at g4
  rcases ixb_cases v 41 (by omega) with ⟨i1, i2⟩ | ⟨k, i1, i2, i3, i4⟩
  · omega
  · have hk : k = s.size - 2 - k0 - 1 := by omega
    subst hk
    rw [d2 _ (by omega)] at i3
    have hne : s.size - 2 - k0 ≠ 1 := by
      intro e
      rw [e] at i3
      have g4' : dgv s (1 + (k0 + 1 + 0)) = 32 := g4
      have i3' : dgv s (1 + (k0 + 1 + 0)) = 41 := i3
      omega
    refine ⟨by omega, by omega, g2, ?_, ?_, ?_, ?_, ?_⟩
    · rw [d1 _ (by omega)] at h2
      rw [← h2]; congr 1; omega
    · intro j j1 j2
      have := h3 (j - 1) (by omega)
      rw [d1 _ (by omega)] at this
      rwa [show 1 + (j - 1) = j by omega] at this
    · have g4' : dgv s (1 + (k0 + 1 + 0)) = 32 := g4
      rw [← g4']; congr 1; omega
    · rw [← i3]; congr 1; omega
    · intro j j1 j2
      have := i4 (j - (k0 + 2)) (by omega)
      rw [d2 _ (by omega)] at this
      rwa [show 1 + (k0 + 1 + (j - (k0 + 2))) = j by omega] at this

theorem pf_b0 {s : ByteArray} (h : hp s 91 = false) (k : Nat) : ¬ PF s k := by
  intro p
  have : hp s 91 = true := (hp_iff s 91).2 ⟨by have := p.k2; omega, p.b0⟩
  rw [h] at this; cases this

/-- The form says what the program looks for. -/
theorem pf_back {s u : ByteArray} {k : Nat} (hu : s.extract 1 s.size = u) (p : PF s k) : ∃ k0, k = k0 + 1 ∧ ixb u 44 = (k0 : Int) ∧ hp (u.extract (k0 + 1) u.size) 32 = true ∧ ixb (u.extract (k0 + 1) u.size) 41 = ((u.extract (k0 + 1) u.size).size : Int) - 1 := by
  obtain ⟨k1, k2, b0, bk, nk, sp, bl, nl⟩ := p
  obtain ⟨k0, rfl⟩ : ∃ k0, k = k0 + 1 := ⟨k - 1, by omega⟩
  refine ⟨k0, rfl, ?_⟩
  generalize hv : u.extract (k0 + 1) u.size = v
  have e1 : u.size = s.size - 1 := by rw [← hu, ByteArray.size_extract]; omega
  have e2 : v.size = s.size - 2 - k0 := by rw [← hv, ByteArray.size_extract, e1]; omega
  have d1 : ∀ j, j < s.size - 1 → dgv u j = dgv s (1 + j) := fun j hj => by rw [← hu]; exact dgv_extract s 1 s.size j (by omega) (Nat.le_refl _)
  have d2 : ∀ j, j < s.size - 2 - k0 → dgv v j = dgv s (1 + (k0 + 1 + j)) := fun j hj => by
    rw [← hv, dgv_extract _ _ _ _ (by omega) (Nat.le_refl _), d1 _ (by omega)]
  rw [e2]
  refine ⟨?_, ?_, ?_⟩
  · rcases ixb_cases u 44 (by omega) with ⟨i1, i2⟩ | ⟨k, i1, i2, i3, i4⟩
    · have := i2 k0 (by omega)
      rw [d1 _ (by omega), show 1 + k0 = k0 + 1 by omega] at this
      exact absurd bk this
    · rw [i1]
      rcases Nat.lt_trichotomy k k0 with g | g | g
      · rw [d1 _ (by omega)] at i3
        exact absurd i3 (nk (1 + k) (by omega) (by omega))
      · rw [g]
      · have := i4 k0 g
        rw [d1 _ (by omega), show 1 + k0 = k0 + 1 by omega] at this
        exact absurd bk this
  · refine (hp_iff _ _).2 ⟨by omega, ?_⟩
    rw [d2 0 (by omega), show 1 + (k0 + 1 + 0) = k0 + 1 + 1 by omega]
    exact sp
  · rcases ixb_cases v 41 (by omega) with ⟨i1, i2⟩ | ⟨k, i1, i2, i3, i4⟩
    · have := i2 (s.size - 2 - k0 - 1) (by omega)
      rw [d2 _ (by omega), show 1 + (k0 + 1 + (s.size - 2 - k0 - 1)) = s.size - 1 by omega] at this
      exact absurd bl this
    · rw [i1]
      rw [e2] at i2
      rw [d2 _ (by omega)] at i3
      have hk : k = s.size - 2 - k0 - 1 := by
        rcases Nat.lt_or_ge k (s.size - 2 - k0 - 1) with g | g
        · exfalso
          cases k with
          | zero =>
            have i3' : dgv s (k0 + 1 + 1) = 41 := by rw [← i3]; congr 1; omega
            omega
          | succ k => exact nl (1 + (k0 + 1 + (k + 1))) (by omega) (by omega) i3
        · omega
      omega

theorem cutPrefix_yes (s u : ByteArray) (w : World) (h : hp s 91 = true) (hu : s.extract 1 s.size = u) : Calls Try.prog 23 #[.string s, .string ⟨#[91]⟩] w fun e w' => e = .returned (.tuple #[.string u, .bool true]) ∧ w = w' := by
  subst hu; exact str_CutPrefix_yes s w h

theorem cut_yes (s f v : ByteArray) (k : Nat) (w : World) (h : ixb s 44 = k) (hk : k < s.size) (hz : (s.size : Int) ≤ 9223372036854775807) (hf : s.extract 0 k = f) (hv : s.extract (k + 1) s.size = v) :
    Calls Try.prog 24 #[.string s, .string ⟨#[44]⟩] w fun e w' => e = .returned (.tuple #[.string f, .string v, .bool true]) ∧ Below w.heap.size w w' := by
  subst hf; subst hv; exact str_Cut_yes s k w h hk hz

theorem parse_day (s : ByteArray) (a b : Int) (w : World) (ha : (pd s).1 = a) (hb : (pd s).2 = b) : Calls Try.prog 9 #[.string s] w fun e w' => e = .returned (.tuple #[.int .i64 a, .int .i64 b]) ∧ Below w.heap.size w w' := by
  subst ha; subst hb; exact datefmt_ParseDay s w

set_option maxRecDepth 100000 in
set_option maxHeartbeats 1000000 in
theorem datefmt_ParsePeriod (s : ByteArray) (w : World) (hz : (s.size : Int) ≤ 9223372036854775807) : Calls Try.prog 12 #[.string s] w fun e w' => e = .returned (ppV s) ∧ Below w.heap.size w w' := by
  generalize hv : ppV s = V
  have HV := Lib.hid hv
  clear hv
  cases h0 : hp s 91 with
  | false =>
    have HP := Lib.hid (pp_no (pf_b0 h0))
    have hB0 : Below w.heap.size w w := Below.refl _ _
    go_enter Try.func12, Try.ntmps12
    go_wp2_with fail
    refine (str_CutPrefix_no _ _ h0).mono ?_
    rintro e w' ⟨rfl, rfl⟩
    go_wp2_with fail
    refine bodyPost_ret (v := .tuple #[.agg #[.int .i64 0, .int .i64 0], .int .i64 5]) (by simp [results, Try.results12, go_sem]) rfl ?_
    exact ⟨by rw [← HV.out, ppV, HP.out], by first | exact (below_alloc hB0 _) | exact (below_alloc hB0 _).setCell (Nat.le_refl _) _ | exact ((below_alloc hB0 _).setCell (Nat.le_refl _) _).setCell (Nat.le_refl _) _⟩
  | true =>
    obtain ⟨u, hu⟩ : ∃ u, s.extract 1 s.size = u := ⟨_, rfl⟩
    have hu := Lib.hid hu
    have hzu : (u.size : Int) ≤ 9223372036854775807 := by rw [← hu.out, ByteArray.size_extract]; omega
    rcases ixb_cases u 44 (by omega) with ⟨i1, i2⟩ | ⟨k, i1, i2, i3, i4⟩
    · have HP := Lib.hid (pp_no (s := s) (fun k p => by obtain ⟨k0, _, e, _⟩ := pf_back hu.out p; omega))
      clear i2
      have hB0 : Below w.heap.size w w := Below.refl _ _
      go_enter Try.func12, Try.ntmps12
      go_wp2_with fail
      refine (cutPrefix_yes s u _ h0 hu.out).mono ?_
      rintro e w' ⟨rfl, rfl⟩
      go_wp2_with fail
      refine (str_Cut_no _ _ i1).mono ?_
      rintro e w1 ⟨rfl, hb1⟩
      have hB1 : Below w.heap.size w w1 := below_chain (below_alloc (hB0) _) hb1
      have hz1 := hb1.size
      simp only [World.size_alloc] at hz1
      have hl1_0 : w.heap.size < w1.heap.size := by omega
      have hm1_0 : w.heap.size ≤ w1.heap.size := by omega
      obtain ⟨hc1, hf1⟩ := bcell hb1
      clear hb1
      go_wp2_with fail
      have sc := two_cells (w := w1) (B := w.heap.size) (a := .int .i64 0) (b := .int .i64 0) (by go_simp) (by go_simp)
      obtain ⟨sc0, sc1⟩ := sc
      refine bodyPost_ret (v := .tuple #[.agg #[.int .i64 0, .int .i64 0], .int .i64 5]) (by simp [sc0, sc1, results, Try.results12, go_sem]) rfl ?_
      exact ⟨by rw [← HV.out, ppV, HP.out], by first | exact hB1 | exact hB1.setCell (Nat.le_refl _) _ | exact (hB1.setCell (Nat.le_refl _) _).setCell (Nat.le_refl _) _⟩
    · have I4 := Lib.hid i4
      clear i4
      have I3 := Lib.hid i3
      clear i3
      have hq := Lib.hid (fun (p : ∃ k, PF s k) => show hp (u.extract (k + 1) u.size) 32 = true ∧ ixb (u.extract (k + 1) u.size) 41 = ((u.extract (k + 1) u.size).size : Int) - 1 by
        obtain ⟨k', p⟩ := p
        obtain ⟨k0, _, e, e2⟩ := pf_back hu.out p
        have : k0 = k := by omega
        subst this
        exact e2)
      have HX := Lib.hid (show u.extract 0 k = s.extract 1 (k + 1) by
        rw [← hu.out, ByteArray.extract_extract]
        have : (s.extract 1 s.size).size = s.size - 1 := by rw [ByteArray.size_extract]; omega
        rw [hu.out] at this
        congr 1; omega)
      obtain ⟨f, hf⟩ : ∃ f, u.extract 0 k = f := ⟨_, rfl⟩
      have hf := Lib.hid hf
      obtain ⟨v, hv⟩ : ∃ v, u.extract (k + 1) u.size = v := ⟨_, rfl⟩
      have hv := Lib.hid hv
      rw [hv.out] at hq
      have hzv : (v.size : Int) ≤ 9223372036854775807 := by rw [← hv.out, ByteArray.size_extract]; omega
      cases h4 : hp v 32 with
      | false =>
        have HP := Lib.hid (pp_no (s := s) (fun k p => by have := (hq.out ⟨k, p⟩).1; rw [h4] at this; cases this))
        have hB0 : Below w.heap.size w w := Below.refl _ _
        go_enter Try.func12, Try.ntmps12
        go_wp2_with fail
        refine (cutPrefix_yes s u _ h0 hu.out).mono ?_
        rintro e w' ⟨rfl, rfl⟩
        go_wp2_with fail
        refine (cut_yes u f v k _ i1 i2 hzu hf.out hv.out).mono ?_
        rintro e w1 ⟨rfl, hb1⟩
        have hB1 : Below w.heap.size w w1 := below_chain (below_alloc (hB0) _) hb1
        have hz1 := hb1.size
        simp only [World.size_alloc] at hz1
        have hl1_0 : w.heap.size < w1.heap.size := by omega
        have hm1_0 : w.heap.size ≤ w1.heap.size := by omega
        obtain ⟨hc1, hf1⟩ := bcell hb1
        clear hb1
        go_wp2_with fail
        refine (str_HasPrefix _ _).mono ?_
        rintro e w' ⟨rfl, rfl⟩
        go_wp2_with fail
        have sc := two_cells (w := w1) (B := w.heap.size) (a := .int .i64 0) (b := .int .i64 0) (by go_simp) (by go_simp)
        obtain ⟨sc0, sc1⟩ := sc
        refine bodyPost_ret (v := .tuple #[.agg #[.int .i64 0, .int .i64 0], .int .i64 5]) (by simp [sc0, sc1, results, Try.results12, go_sem]) rfl ?_
        exact ⟨by rw [← HV.out, ppV, HP.out], by first | exact hB1 | exact hB1.setCell (Nat.le_refl _) _ | exact (hB1.setCell (Nat.le_refl _) _).setCell (Nat.le_refl _) _⟩
      | true =>
        have h4s := ((hp_iff _ _).1 h4).1
        have hw1 : wrap64 ((v.size : Int) - 1) = (v.size : Int) - 1 := IntWalk.wrap64_in _ (by omega)
        by_cases h5 : ixb v 41 = (v.size : Int) - 1
        case neg =>
          have HP := Lib.hid (pp_no (s := s) (fun k p => h5 (hq.out ⟨k, p⟩).2))
          have hB0 : Below w.heap.size w w := Below.refl _ _
          go_enter Try.func12, Try.ntmps12
          go_wp2_with fail
          refine (cutPrefix_yes s u _ h0 hu.out).mono ?_
          rintro e w' ⟨rfl, rfl⟩
          go_wp2_with fail
          refine (cut_yes u f v k _ i1 i2 hzu hf.out hv.out).mono ?_
          rintro e w1 ⟨rfl, hb1⟩
          have hB1 : Below w.heap.size w w1 := below_chain (below_alloc (hB0) _) hb1
          have hz1 := hb1.size
          simp only [World.size_alloc] at hz1
          have hl1_0 : w.heap.size < w1.heap.size := by omega
          have hm1_0 : w.heap.size ≤ w1.heap.size := by omega
          obtain ⟨hc1, hf1⟩ := bcell hb1
          clear hb1
          go_wp2_with fail
          refine (str_HasPrefix _ _).mono ?_
          rintro e w' ⟨rfl, rfl⟩
          go_wp2_with fail
          refine (str_IndexByte _ _ _).mono ?_
          rintro e w' ⟨rfl, rfl⟩
          go_wp2_with fail
          have sc := two_cells (w := w1) (B := w.heap.size) (a := .int .i64 0) (b := .int .i64 0) (by go_simp) (by go_simp)
          obtain ⟨sc0, sc1⟩ := sc
          refine bodyPost_ret (v := .tuple #[.agg #[.int .i64 0, .int .i64 0], .int .i64 5]) (by simp [sc0, sc1, results, Try.results12, go_sem]) rfl ?_
          exact ⟨by rw [← HV.out, ppV, HP.out], by first | exact hB1 | exact hB1.setCell (Nat.le_refl _) _ | exact (hB1.setCell (Nat.le_refl _) _).setCell (Nat.le_refl _) _⟩
        have hpf := pf_code hu.out hv.out h0 i2 I3.out I4.out h4 h5
        have HY := Lib.hid (pp_yes hpf)
        have HZ := Lib.hid hpf
        clear hpf
        have hvs : 2 ≤ v.size := by
          have := HZ.out.k2
          have e1 : u.size = s.size - 1 := by rw [← hu.out, ByteArray.size_extract]; omega
          have e2 : v.size = s.size - 2 - k := by rw [← hv.out, ByteArray.size_extract, e1]; omega
          omega
        obtain ⟨x, hx⟩ : ∃ x, v.extract 1 (v.size - 1) = x := ⟨_, rfl⟩
        have HW := Lib.hid (show x = s.extract (k + 1 + 2) (s.size - 1) by
          have := HZ.out.k2
          have e1 : u.size = s.size - 1 := by rw [← hu.out, ByteArray.size_extract]; omega
          have e2 : v.size = s.size - 2 - k := by rw [← hv.out, ByteArray.size_extract, e1]; omega
          rw [← hx, e2, ← hv.out, ByteArray.extract_extract, e1, ← hu.out, ByteArray.extract_extract]
          congr 1 <;> omega)
        have HF := Lib.hid (show f = s.extract 1 (k + 1) by rw [← hf.out, HX.out])
        rw [← HW.out, ← HF.out] at HY
        obtain ⟨a1, ha1⟩ : ∃ z, (pd f).1 = z := ⟨_, rfl⟩
        obtain ⟨a2, ha2⟩ : ∃ z, (pd f).2 = z := ⟨_, rfl⟩
        obtain ⟨b1, hb1⟩ : ∃ z, (pd x).1 = z := ⟨_, rfl⟩
        obtain ⟨b2, hb2⟩ : ∃ z, (pd x).2 = z := ⟨_, rfl⟩
        have HA := Lib.hid (show pd f = (a1, a2) by rw [← ha1, ← ha2])
        have HC := Lib.hid (show pd x = (b1, b2) by rw [← hb1, ← hb2])
        have HA1 := Lib.hid ha1; have HA2 := Lib.hid ha2; have HB1 := Lib.hid hb1; have HB2 := Lib.hid hb2
        clear ha1 ha2 hb1 hb2
        have HX2 := Lib.hid hx
        have hw2 : ((v.size : Int) - 1).toNat = v.size - 1 := by omega
        have hw3 : (1 : Int) ≤ (v.size : Int) - 1 := by omega
        have hw4 : (0 : Int) ≤ (v.size : Int) - 1 := by omega
        have hw5 : (v.size : Int) - 1 ≤ (v.size : Int) := by omega
        by_cases g1 : a2 = 0
        case neg =>
          have HP := Lib.hid (show pp s = (0, 0, a2) by rw [HY.out, HA.out, HC.out]; unfold ppair; rw [if_pos g1])
          clear hx
          have hB0 : Below w.heap.size w w := Below.refl _ _
          go_enter Try.func12, Try.ntmps12
          go_wp2_with fail
          refine (cutPrefix_yes s u _ h0 hu.out).mono ?_
          rintro e w' ⟨rfl, rfl⟩
          go_wp2_with fail
          refine (cut_yes u f v k _ i1 i2 hzu hf.out hv.out).mono ?_
          rintro e w1 ⟨rfl, hb1⟩
          have hB1 : Below w.heap.size w w1 := below_chain (below_alloc (hB0) _) hb1
          have hz1 := hb1.size
          simp only [World.size_alloc] at hz1
          have hl1_0 : w.heap.size < w1.heap.size := by omega
          have hm1_0 : w.heap.size ≤ w1.heap.size := by omega
          obtain ⟨hc1, hf1⟩ := bcell hb1
          clear hb1
          go_wp2_with fail
          refine (str_HasPrefix _ _).mono ?_
          rintro e w' ⟨rfl, rfl⟩
          go_wp2_with fail
          refine (str_IndexByte _ _ _).mono ?_
          rintro e w' ⟨rfl, rfl⟩
          go_wp2_with fail
          refine (parse_day f a1 a2 _ HA1.out HA2.out).mono ?_
          rintro e w2 ⟨rfl, hb2⟩
          have hB2 : Below w.heap.size w w2 := below_chain (hB1) hb2
          have hz2 := hb2.size
          have hl2_0 : w.heap.size < w2.heap.size := by omega
          have hm2_0 : w.heap.size ≤ w2.heap.size := by omega
          obtain ⟨hc2, hf2⟩ := bcell hb2
          clear hb2
          go_wp2_with fail
          have sc := two_cells (w := w2) (B := w.heap.size) (a := .int .i64 0) (b := .int .i64 0) (by go_simp) (by go_simp)
          obtain ⟨sc0, sc1⟩ := sc
          refine bodyPost_ret (v := .tuple #[.agg #[.int .i64 0, .int .i64 0], .int .i64 a2]) (by simp [sc0, sc1, results, Try.results12, go_sem]) rfl ?_
          exact ⟨by rw [← HV.out, ppV, HP.out], by first | exact hB2 | exact hB2.setCell (Nat.le_refl _) _ | exact (hB2.setCell (Nat.le_refl _) _).setCell (Nat.le_refl _) _⟩
        subst g1
        by_cases g2 : b2 = 0
        case neg =>
          have HP := Lib.hid (show pp s = (0, 0, b2) by rw [HY.out, HA.out, HC.out]; unfold ppair; rw [if_neg (by simp), if_pos g2])
          have hB0 : Below w.heap.size w w := Below.refl _ _
          go_enter Try.func12, Try.ntmps12
          go_wp2_with fail
          refine (cutPrefix_yes s u _ h0 hu.out).mono ?_
          rintro e w' ⟨rfl, rfl⟩
          go_wp2_with fail
          refine (cut_yes u f v k _ i1 i2 hzu hf.out hv.out).mono ?_
          rintro e w1 ⟨rfl, hb1⟩
          have hB1 : Below w.heap.size w w1 := below_chain (below_alloc (hB0) _) hb1
          have hz1 := hb1.size
          simp only [World.size_alloc] at hz1
          have hl1_0 : w.heap.size < w1.heap.size := by omega
          have hm1_0 : w.heap.size ≤ w1.heap.size := by omega
          obtain ⟨hc1, hf1⟩ := bcell hb1
          clear hb1
          go_wp2_with fail
          refine (str_HasPrefix _ _).mono ?_
          rintro e w' ⟨rfl, rfl⟩
          go_wp2_with fail
          refine (str_IndexByte _ _ _).mono ?_
          rintro e w' ⟨rfl, rfl⟩
          go_wp2_with fail
          refine (parse_day f a1 0 _ HA1.out HA2.out).mono ?_
          rintro e w2 ⟨rfl, hb2⟩
          have hB2 : Below w.heap.size w w2 := below_chain (hB1) hb2
          have hz2 := hb2.size
          have hl2_0 : w.heap.size < w2.heap.size := by omega
          have hm2_0 : w.heap.size ≤ w2.heap.size := by omega
          obtain ⟨hc2, hf2⟩ := bcell hb2
          clear hb2
          go_wp2_with fail
          refine (parse_day x b1 b2 _ HB1.out HB2.out).mono ?_
          rintro e w3 ⟨rfl, hb3⟩
          have hB3 : Below w.heap.size w w3 := below_chain (hB2) hb3
          have hz3 := hb3.size
          have hl3_0 : w.heap.size < w3.heap.size := by omega
          have hm3_0 : w.heap.size ≤ w3.heap.size := by omega
          obtain ⟨hc3, hf3⟩ := bcell hb3
          clear hb3
          go_wp2_with fail
          have sc := two_cells (w := w3) (B := w.heap.size) (a := .int .i64 0) (b := .int .i64 0) (by go_simp) (by go_simp)
          obtain ⟨sc0, sc1⟩ := sc
          refine bodyPost_ret (v := .tuple #[.agg #[.int .i64 0, .int .i64 0], .int .i64 b2]) (by simp [sc0, sc1, results, Try.results12, go_sem]) rfl ?_
          exact ⟨by rw [← HV.out, ppV, HP.out], by first | exact hB3 | exact hB3.setCell (Nat.le_refl _) _ | exact (hB3.setCell (Nat.le_refl _) _).setCell (Nat.le_refl _) _⟩
        subst g2
        by_cases g3 : b1 ≤ a1
        · have HP := Lib.hid (show pp s = (0, 0, 10) by rw [HY.out, HA.out, HC.out]; unfold ppair; rw [if_neg (by simp), if_neg (by simp), if_pos g3])
          have hB0 : Below w.heap.size w w := Below.refl _ _
          go_enter Try.func12, Try.ntmps12
          go_wp2_with fail
          refine (cutPrefix_yes s u _ h0 hu.out).mono ?_
          rintro e w' ⟨rfl, rfl⟩
          go_wp2_with fail
          refine (cut_yes u f v k _ i1 i2 hzu hf.out hv.out).mono ?_
          rintro e w1 ⟨rfl, hb1⟩
          have hB1 : Below w.heap.size w w1 := below_chain (below_alloc (hB0) _) hb1
          have hz1 := hb1.size
          simp only [World.size_alloc] at hz1
          have hl1_0 : w.heap.size < w1.heap.size := by omega
          have hm1_0 : w.heap.size ≤ w1.heap.size := by omega
          obtain ⟨hc1, hf1⟩ := bcell hb1
          clear hb1
          go_wp2_with fail
          refine (str_HasPrefix _ _).mono ?_
          rintro e w' ⟨rfl, rfl⟩
          go_wp2_with fail
          refine (str_IndexByte _ _ _).mono ?_
          rintro e w' ⟨rfl, rfl⟩
          go_wp2_with fail
          refine (parse_day f a1 0 _ HA1.out HA2.out).mono ?_
          rintro e w2 ⟨rfl, hb2⟩
          have hB2 : Below w.heap.size w w2 := below_chain (hB1) hb2
          have hz2 := hb2.size
          have hl2_0 : w.heap.size < w2.heap.size := by omega
          have hm2_0 : w.heap.size ≤ w2.heap.size := by omega
          obtain ⟨hc2, hf2⟩ := bcell hb2
          clear hb2
          go_wp2_with fail
          refine (parse_day x b1 0 _ HB1.out HB2.out).mono ?_
          rintro e w3 ⟨rfl, hb3⟩
          have hB3 : Below w.heap.size w w3 := below_chain (hB2) hb3
          have hz3 := hb3.size
          have hl3_0 : w.heap.size < w3.heap.size := by omega
          have hm3_0 : w.heap.size ≤ w3.heap.size := by omega
          obtain ⟨hc3, hf3⟩ := bcell hb3
          clear hb3
          go_wp2_with fail
          have sc := two_cells (w := w3) (B := w.heap.size) (a := .int .i64 0) (b := .int .i64 0) (by go_simp) (by go_simp)
          obtain ⟨sc0, sc1⟩ := sc
          refine bodyPost_ret (v := .tuple #[.agg #[.int .i64 0, .int .i64 0], .int .i64 10]) (by simp [sc0, sc1, results, Try.results12, go_sem]) rfl ?_
          exact ⟨by rw [← HV.out, ppV, HP.out], by first | exact hB3 | exact hB3.setCell (Nat.le_refl _) _ | exact (hB3.setCell (Nat.le_refl _) _).setCell (Nat.le_refl _) _⟩
        · have HP := Lib.hid (show pp s = (a1, b1, 0) by rw [HY.out, HA.out, HC.out]; unfold ppair; rw [if_neg (by simp), if_neg (by simp), if_neg g3])
          have hB0 : Below w.heap.size w w := Below.refl _ _
          go_enter Try.func12, Try.ntmps12
          go_wp2_with fail
          refine (cutPrefix_yes s u _ h0 hu.out).mono ?_
          rintro e w' ⟨rfl, rfl⟩
          go_wp2_with fail
          refine (cut_yes u f v k _ i1 i2 hzu hf.out hv.out).mono ?_
          rintro e w1 ⟨rfl, hb1⟩
          have hB1 : Below w.heap.size w w1 := below_chain (below_alloc (hB0) _) hb1
          have hz1 := hb1.size
          simp only [World.size_alloc] at hz1
          have hl1_0 : w.heap.size < w1.heap.size := by omega
          have hm1_0 : w.heap.size ≤ w1.heap.size := by omega
          obtain ⟨hc1, hf1⟩ := bcell hb1
          clear hb1
          go_wp2_with fail
          refine (str_HasPrefix _ _).mono ?_
          rintro e w' ⟨rfl, rfl⟩
          go_wp2_with fail
          refine (str_IndexByte _ _ _).mono ?_
          rintro e w' ⟨rfl, rfl⟩
          go_wp2_with fail
          refine (parse_day f a1 0 _ HA1.out HA2.out).mono ?_
          rintro e w2 ⟨rfl, hb2⟩
          have hB2 : Below w.heap.size w w2 := below_chain (hB1) hb2
          have hz2 := hb2.size
          have hl2_0 : w.heap.size < w2.heap.size := by omega
          have hm2_0 : w.heap.size ≤ w2.heap.size := by omega
          obtain ⟨hc2, hf2⟩ := bcell hb2
          clear hb2
          go_wp2_with fail
          refine (parse_day x b1 0 _ HB1.out HB2.out).mono ?_
          rintro e w3 ⟨rfl, hb3⟩
          have hB3 : Below w.heap.size w w3 := below_chain (hB2) hb3
          have hz3 := hb3.size
          have hl3_0 : w.heap.size < w3.heap.size := by omega
          have hm3_0 : w.heap.size ≤ w3.heap.size := by omega
          obtain ⟨hc3, hf3⟩ := bcell hb3
          clear hb3
          go_wp2_with fail
          have sc := two_cells (w := w3) (B := w.heap.size) (a := .int .i64 0) (b := .int .i64 0) (by go_simp) (by go_simp)
          obtain ⟨sc0, sc1⟩ := sc
          refine bodyPost_ret (v := .tuple #[.agg #[.int .i64 a1, .int .i64 b1], .int .i64 0]) (by simp [sc0, sc1, results, Try.results12, go_sem]) rfl ?_
          exact ⟨by rw [← HV.out, ppV, HP.out], by first | exact hB3 | exact hB3.setCell (Nat.le_refl _) _ | exact (hB3.setCell (Nat.le_refl _) _).setCell (Nat.le_refl _) _⟩

end Go.Proofs.Ytllbfbgkeajkeaa
