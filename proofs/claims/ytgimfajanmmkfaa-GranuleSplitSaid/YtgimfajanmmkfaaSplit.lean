/-
  Split and SplitPeriod: the list of the pieces, and what the two functions return.
-/
import Derived.Test.YtgimfajanmmkfaaGranH
import Derived.Test.YtgimfajanmmkfaaMem
namespace Go.Proofs.Ytgimfajanmmkfaa
open Go.RowKit

theorem own_base {w : World} {base base' : Nat} {e : TypeId} {size : Nat} {v : Value} {n : Nat} {xs : List Value} (h : w.ownsRow base e size v n xs) (hb : base' ≤ base) : w.ownsRow base' e size v n xs := by
  refine ⟨h.1, ?_⟩
  rcases h.2 with h2 | ⟨g, cap, cur, e, hB, rest⟩
  · exact .inl h2
  · exact .inr ⟨g, cap, cur, e, Nat.le_trans hb hB, rest⟩

/-- The pieces of d..t, at most so many. -/
noncomputable def spl (k s t : Int) : Nat → Int → List (Int × Int)
  | 0, _ => []
  | f + 1, d => if d < t then (d, min (nx k s d) t) :: spl k s t f (min (nx k s d) t) else []

theorem nx_bd {k s d : Int} (hv : Gr.vg k s = true) (h0 : 0 ≤ d) (h1 : d < 1000000) : d < nx k s d ∧ nx k s d ≤ 1000000 := by
  unfold nx
  exact ⟨(Gr.fs_day hv h0 h1).2, (Gr.fs_spec k s _).2.1⟩

theorem spl_more {k s t : Int} (hv : Gr.vg k s = true) (ht : t ≤ 1000000) : ∀ (f g : Nat) (d : Int), 0 ≤ d → (t - d).toNat ≤ f → (t - d).toNat ≤ g → spl k s t f d = spl k s t g d := by
  intro f
  induction f with
  | zero =>
    intro g d h0 hf hg
    cases g with
    | zero => rfl
    | succ g => simp only [spl]; rw [if_neg (by omega)]
  | succ f ih =>
    intro g d h0 hf hg
    cases g with
    | zero => simp only [spl]; rw [if_neg (by omega)]
    | succ g =>
      simp only [spl]
      by_cases c : d < t
      · rw [if_pos c, if_pos c]
        have := nx_bd (d := d) hv h0 (by omega)
        rw [ih g (min (nx k s d) t) (by omega) (by omega) (by omega)]
      · rw [if_neg c, if_neg c]

/-- The pieces of a period. -/
noncomputable def pieces (k s a t : Int) : List (Int × Int) := spl k s t (t - a).toNat a

theorem pieces_end {k s a t : Int} (h : ¬ a < t) : pieces k s a t = [] := by
  unfold pieces; rw [show (t - a).toNat = 0 by omega]; rfl

theorem pieces_step {k s a t : Int} (hv : Gr.vg k s = true) (h0 : 0 ≤ a) (ht : t ≤ 1000000) (h : a < t) : pieces k s a t = (a, min (nx k s a) t) :: pieces k s (min (nx k s a) t) t := by
  have hb := nx_bd (d := a) hv h0 (by omega)
  unfold pieces
  obtain ⟨f, hf⟩ : ∃ f, (t - a).toNat = f + 1 := ⟨(t - a).toNat - 1, by omega⟩
  rw [hf]
  simp only [spl]
  rw [if_pos h, spl_more hv ht f (t - min (nx k s a) t).toNat (min (nx k s a) t) (by omega) (by omega) (by omega)]

/-- The cells of a list of pairs of numbers. -/
def flat (l : List (Int × Int)) : List Value := l.flatMap fun p => [.int .i64 p.1, .int .i64 p.2]

theorem flat_length (l : List (Int × Int)) : (flat l).length = l.length * 2 := by
  induction l with
  | nil => rfl
  | cons x l ih => simp [flat] at ih ⊢; omega

theorem flat_append (l r : List (Int × Int)) : flat (l ++ r) = flat l ++ flat r := by simp [flat]

theorem flat_at (l : List (Int × Int)) (j : Nat) (h : j < l.length) : (flat l)[j * 2]? = some (.int .i64 (l[j]).1) ∧ (flat l)[j * 2 + 1]? = some (.int .i64 (l[j]).2) := by
  induction l generalizing j with
  | nil => simp at h
  | cons x l ih =>
    cases j with
    | zero => exact ⟨rfl, rfl⟩
    | succ j =>
      have := ih j (by simpa using h)
      rw [show (j + 1) * 2 = j * 2 + 1 + 1 by omega]
      simpa [flat] using this

theorem period_info : (Try.prog.info? 30).map (fun i => (i.zero, i.size, i.bytes)) = some (some (.agg #[.int .i64 0, .int .i64 0]), 2, 16) := by kernel_rfl

/-- What a split returns: a slice of its own that holds the pieces. -/
def Splits (L : List (Int × Int)) (w : World) (e : Ending) (w' : World) : Prop :=
  ∃ v, e = .returned v ∧ w'.ownsRow w.heap.size 30 2 v L.length (flat L) ∧ Below w.heap.size w w'

/-- A granularity and a period in blocks of the call's own. -/
structure Gp (w w1 : World) (k s a t : Int) : Prop where
  c0 : w1.cell? ⟨w.heap.size, 0, none⟩ = some (.int .i64 k)
  c1 : w1.cell? ⟨w.heap.size, 1, none⟩ = some (.int .i64 s)
  c2 : w1.cell? ⟨w.heap.size + 1, 0, none⟩ = some (.int .i64 a)
  c3 : w1.cell? ⟨w.heap.size + 1, 1, none⟩ = some (.int .i64 t)
  sz : w.heap.size + 2 ≤ w1.heap.size
  bl : Below w.heap.size w w1

theorem Gp.keep {w w3 w4 : World} {k s a t : Int} (h : Gp w w3 k s a t) (hb : Below (w.heap.size + 2) w3 w4) : Gp w w4 k s a t := by
  have hz := h.sz
  have hz' := hb.size
  exact ⟨(hb.cell (p := ⟨w.heap.size, 0, none⟩) (by simp)).trans h.c0, (hb.cell (p := ⟨w.heap.size, 1, none⟩) (by simp)).trans h.c1,
    (hb.cell (p := ⟨w.heap.size + 1, 0, none⟩) (by simp)).trans h.c2, (hb.cell (p := ⟨w.heap.size + 1, 1, none⟩) (by simp)).trans h.c3, by omega, h.bl.trans (hb.mono (by omega))⟩

theorem Gp.keep_ {w w3 w4 : World} {k s a t : Int} (h : Gp w w3 k s a t) (hb : Below w3.heap.size w3 w4) : Gp w w4 k s a t := h.keep (hb.mono h.sz)

theorem gp_at (w : World) (k s a t : Int) (t1 t2 : TypeId) : Gp w ((w.alloc (.cells #[.int .i64 k, .int .i64 s] t1)).alloc (.cells #[.int .i64 a, .int .i64 t] t2)) k s a t := by
  refine ⟨?_, ?_, ?_, ?_, ?_, ?_⟩
  · go_simp
  · go_simp
  · go_simp
  · go_simp
  · simp
  · exact ((Below.refl _ _).alloc (Nat.le_refl _) _).alloc (by simp) _

set_option maxRecDepth 100000 in
set_option maxHeartbeats 1000000 in
theorem gran_Split (k s a t : Int) (w : World) (hv : Gr.vg k s = true) (h0 : 0 ≤ a) (h1 : a < t) (h2 : t ≤ 1000000) :
    Calls Try.prog 22 #[.agg #[.int .i64 k, .int .i64 s], .agg #[.int .i64 a, .int .i64 t]] w (Splits (pieces k s a t) w) := by
  have HV := Lib.hid hv
  obtain ⟨pi, hpi, hpz, hps, hpb⟩ := info_parts period_info
  have HG := Lib.hid (gp_at w k s a t 23 30)
  go_enter Try.func22, Try.ntmps22
  go_wp2_with (go_at_call 14; refine (gran_Valid _ _ _).mono ?_; rintro e w1 ⟨rfl, hb⟩; obtain ⟨c0, c1, c2, c3, sz, bl⟩ := HG.out.keep_ hb)
  clear hv hb HG
  go_loopw [5, 6, 7] (fun v x _ wr => ∃ (d : Int) (done : List (Int × Int)), x = .int .i64 d ∧ a ≤ d ∧ d ≤ t ∧ wr.ownsRow (w.heap.size + 2) 30 2 v done.length (flat done) ∧ Gp w wr k s a t ∧ Hid (done ++ pieces k s d t = pieces k s a t) ∧ (done.length : Int) ≤ d - a) (fun _ x _ _ => (t - intOf x).toNat)
  case atStart => exact ⟨a, [], rfl, by omega, by omega, World.ownsRow_nil _ _ _ _, ⟨c0, c1, c2, c3, sz, bl⟩, Lib.hid (by simp), by simp⟩
  case round =>
    obtain ⟨d, done, rfl, hd1, hd2, hown, hgp, HP, hlen⟩ := hrel
    obtain ⟨d0, d1, d2, d3, sz', bl'⟩ := hgp
    by_cases hlt : d < t
    · have hnb := nx_bd (d := d) HV.out (by omega) (by omega)
      obtain ⟨n0, n1⟩ := hnb
      have HS := Lib.hid (pieces_step (a := d) HV.out (by omega) h2 hlt)
      go_wp2_with fail
      have hi0_0 : wr.cell? ⟨w.heap.size, 0, none⟩ = some (.int .i64 k) := by go_simp
      have hi0_1 : wr.cell? ⟨w.heap.size, 1, none⟩ = some (.int .i64 s) := by go_simp
      have hi0_2 : wr.cell? ⟨w.heap.size + 1, 1, none⟩ = some (.int .i64 t) := by go_simp
      have KEEP0 := Lib.hid (show ∀ W1 W2 : World, (W1.cell? ⟨w.heap.size, 0, none⟩ = some (.int .i64 k) ∧ W1.cell? ⟨w.heap.size, 1, none⟩ = some (.int .i64 s) ∧ W1.cell? ⟨w.heap.size + 1, 1, none⟩ = some (.int .i64 t) ∧ wr.heap.size ≤ W1.heap.size ∧ Below wr.heap.size wr W1) → Below W1.heap.size W1 W2 → (W2.cell? ⟨w.heap.size, 0, none⟩ = some (.int .i64 k) ∧ W2.cell? ⟨w.heap.size, 1, none⟩ = some (.int .i64 s) ∧ W2.cell? ⟨w.heap.size + 1, 1, none⟩ = some (.int .i64 t) ∧ wr.heap.size ≤ W2.heap.size ∧ Below wr.heap.size wr W2) from fun W1 W2 ⟨a0, a1, a2, hs, hB⟩ hb => ⟨(hb.cell (p := ⟨w.heap.size, 0, none⟩) (show w.heap.size < W1.heap.size by omega)).trans a0, (hb.cell (p := ⟨w.heap.size, 1, none⟩) (show w.heap.size < W1.heap.size by omega)).trans a1, (hb.cell (p := ⟨w.heap.size + 1, 1, none⟩) (show w.heap.size + 1 < W1.heap.size by omega)).trans a2, Nat.le_trans hs hb.size, hB.trans (hb.mono hB.size)⟩)
      have INIT0 := Lib.hid (show (wr.drew.cell? ⟨w.heap.size, 0, none⟩ = some (.int .i64 k) ∧ wr.drew.cell? ⟨w.heap.size, 1, none⟩ = some (.int .i64 s) ∧ wr.drew.cell? ⟨w.heap.size + 1, 1, none⟩ = some (.int .i64 t) ∧ wr.heap.size ≤ wr.drew.heap.size ∧ Below wr.heap.size wr wr.drew) from ⟨hi0_0, hi0_1, hi0_2, Nat.le_refl _, (Below.refl _ _).drew⟩)
      go_region_held3 (fun w' => (w'.cell? ⟨w.heap.size, 0, none⟩ = some (.int .i64 k) ∧ w'.cell? ⟨w.heap.size, 1, none⟩ = some (.int .i64 s) ∧ w'.cell? ⟨w.heap.size + 1, 1, none⟩ = some (.int .i64 t) ∧ wr.heap.size ≤ w'.heap.size ∧ Below wr.heap.size wr w')) (first | assumption | exact INIT0.out | exact KEEP0.out _ _ (by assumption) (by assumption))
        (first | (go_at_call 29; refine (gran_next k s d _ HV.out (by omega) (by omega)).mono ?_; rintro e w9 ⟨rfl, hb9⟩))
      obtain ⟨hr0_0, hr0_1, hr0_2, hsz0, hBr0⟩ := ‹_ ∧ _›
      rw [show (if t < nx k s d then t else nx k s d) = min (nx k s d) t by split <;> omega]
      obtain ⟨x, hx⟩ : ∃ x, min (nx k s d) t = x := ⟨_, rfl⟩
      have hxb : d < x ∧ x ≤ t := by omega
      obtain ⟨hx0, hx1⟩ := hxb
      rw [hx]
      have HX := Lib.hid hx
      clear hx n0 n1 hr0_0 hr0_1 hr0_2
      have hgp9 := Lib.hid (Gp.keep_ ⟨d0, d1, d2, d3, sz', bl'⟩ hBr0)
      have hown9 := own_below hown hBr0
      go_wp2_with (at_builtin; refine wpList_append_own _ rfl _ _ 42 rfl (w.heap.size + 2) 30 pi _ 2 16 Try.underlying42 hpi hpz hps hpb rfl (by decide) _ _ _ rfl (hown9.alloc _) ⟨w9.heap.size, 0, none⟩ 1 1 [.int .i64 d, .int .i64 x] rfl rfl ?c1 ?c2 ?c3 ?c4 ?c5 ?_)
      case c1 => exact new_cells w9 [.int .i64 d, .int .i64 x] _
      case c2 => intro u hu; simp at hu; rcases hu with rfl | rfl <;> rfl
      case c3 => unfold maxLen; omega
      case c4 => omega
      case c5 => have := hgp9.out.sz; simp; omega
      intro v' w10 hown10 hgrow _
      have hlt9 := hown9.lt
      have hB10 : Below (w.heap.size + 2) w9 w10 := ((Below.refl _ w9).alloc hgp9.out.sz _).grown hgrow (by have := hgp9.out.sz; simp; omega) (fun g hg => (hlt9 g hg).1)
      have hgp10 := Lib.hid (hgp9.out.keep hB10)
      have hO := Lib.hid hown10
      clear hown10 hgrow hlt9 hB10 hown9 hown
      go_wp2
      go_roundw
      case rel =>
        exact ⟨x, done ++ [(d, x)], rfl, by omega, by omega, by have := hO.out; simpa [flat_append, flat] using this, hgp10.out, Lib.hid (by rw [List.append_assoc, ← HP.out, HS.out, HX.out]; rfl), by simp; omega⟩
      case measure => simp [intOf]; omega
    · have hp := HP.out
      rw [pieces_end (by omega), List.append_nil] at hp
      have HQ := Lib.hid hp
      clear hp
      go_wp2
      go_ret
      exact ⟨u5, rfl, by rw [← HQ.out]; exact own_base hown (by omega), bl'⟩

/-- The pieces that Split returns of whatever arguments. -/
noncomputable def spL (k s a t : Int) : List (Int × Int) := if Gr.vg k s = true ∧ 0 ≤ a ∧ a < t ∧ t ≤ 1000000 then pieces k s a t else []

theorem splits_nil (w w' : World) (hb : Below w.heap.size w w') : Splits [] w (.returned (.slice none 0 0)) w' := ⟨_, rfl, World.ownsRow_nil _ _ _ _, hb⟩

set_option maxRecDepth 100000 in
set_option maxHeartbeats 1000000 in
theorem gran_Split_no (k s a t : Int) (w : World) (h : ¬ (Gr.vg k s = true ∧ 0 ≤ a ∧ a < t ∧ t ≤ 1000000)) :
    Calls Try.prog 22 #[.agg #[.int .i64 k, .int .i64 s], .agg #[.int .i64 a, .int .i64 t]] w (Splits [] w) := by
  have HG := Lib.hid (gp_at w k s a t 23 30)
  cases hv : Gr.vg k s with
  | false =>
    clear h
    go_enter Try.func22, Try.ntmps22
    go_wp2_with (go_at_call 14; refine (gran_Valid _ _ _).mono ?_; rintro e w1 ⟨rfl, hb⟩; obtain ⟨c0, c1, c2, c3, sz, bl⟩ := HG.out.keep_ hb)
    go_ret
    exact splits_nil _ _ bl
  | true =>
    rw [hv] at h
    have hc : a < 0 ∨ (0 ≤ a ∧ t ≤ a) ∨ (0 ≤ a ∧ a < t ∧ 1000000 < t) := by
      by_cases c1 : a < 0
      · exact .inl c1
      · by_cases c2 : t ≤ a
        · exact .inr (.inl ⟨by omega, c2⟩)
        · exact .inr (.inr ⟨by omega, by omega, by rcases Int.lt_or_le 1000000 t with c | c; exact c; exact absurd ⟨rfl, by omega, by omega, c⟩ h⟩)
    clear h
    rcases hc with h1 | ⟨h1, h2⟩ | ⟨h1, h2, h3⟩
    all_goals
      go_enter Try.func22, Try.ntmps22
      go_wp2_with (go_at_call 14; refine (gran_Valid _ _ _).mono ?_; rintro e w1 ⟨rfl, hb⟩; obtain ⟨c0, c1, c2, c3, sz, bl⟩ := HG.out.keep_ hb)
      go_ret
      exact splits_nil _ _ bl

theorem gran_Split_all (k s a t : Int) (w : World) : Calls Try.prog 22 #[.agg #[.int .i64 k, .int .i64 s], .agg #[.int .i64 a, .int .i64 t]] w (Splits (spL k s a t) w) := by
  unfold spL
  by_cases h : Gr.vg k s = true ∧ 0 ≤ a ∧ a < t ∧ t ≤ 1000000
  · rw [if_pos h]; exact gran_Split k s a t w h.1 h.2.1 h.2.2.1 h.2.2.2
  · rw [if_neg h]; exact gran_Split_no k s a t w h

/-- Is this a period of days? -/
def vdB (a t : Int) : Bool := decide (0 ≤ a) && (decide (a < t) && decide (t ≤ 1000000))

theorem vdB_iff (a t : Int) : vdB a t = true ↔ 0 ≤ a ∧ a < t ∧ t ≤ 1000000 := by unfold vdB; simp

set_option maxRecDepth 100000 in
set_option maxHeartbeats 1000000 in
theorem ref_Valid (a t : Int) (w : World) :
    Calls Try.prog 42 #[.agg #[.int .i64 a, .int .i64 t]] w fun e w' => e = .returned (.bool (decide (0 ≤ a) && (decide (a < t) && decide (t ≤ 1099511627776)))) ∧ Below w.heap.size w w' := by
  by_cases h1 : 0 ≤ a
  · by_cases h2 : a < t
    · go_enter Try.func42, Try.ntmps42
      go_wp2
      all_goals
        go_ret
        exact ⟨ret_bool (by simp [*] <;> intros <;> omega), (Below.refl _ _).alloc (Nat.le_refl _) _⟩
    · go_enter Try.func42, Try.ntmps42
      go_wp2
      all_goals
        go_ret
        exact ⟨ret_bool (by simp [*] <;> intros <;> omega), (Below.refl _ _).alloc (Nat.le_refl _) _⟩
  · go_enter Try.func42, Try.ntmps42
    go_wp2
    all_goals
      go_ret
      exact ⟨ret_bool (by simp [*] <;> intros <;> omega), (Below.refl _ _).alloc (Nat.le_refl _) _⟩

set_option maxRecDepth 100000 in
set_option maxHeartbeats 1000000 in
theorem ref_ValidDays (a t : Int) (w : World) : Calls Try.prog 31 #[.agg #[.int .i64 a, .int .i64 t]] w fun e w' => e = .returned (.bool (vdB a t)) ∧ Below w.heap.size w w' := by
  obtain ⟨b, hb⟩ : ∃ b, (decide (0 ≤ a) && (decide (a < t) && decide (t ≤ 1099511627776))) = b := ⟨_, rfl⟩
  have HC := Lib.hid (ref_Valid a t)
  rw [hb] at HC
  have HB := Lib.hid hb
  have hz : ∀ w1 : World, Below (w.alloc (.cells #[.int .i64 a, .int .i64 t] 30)).heap.size (w.alloc (.cells #[.int .i64 a, .int .i64 t] 30)) w1 → w1.cell? ⟨w.heap.size, 1, none⟩ = some (.int .i64 t) ∧ Below w.heap.size w w1 := fun w1 hb1 => by
    refine ⟨(hb1.cell (p := ⟨w.heap.size, 1, none⟩) (by simp)).trans ?_, below_new hb1⟩
    go_simp
  have HZ := Lib.hid hz
  clear hb hz
  cases b
  all_goals
    go_enter Try.func31, Try.ntmps31
    go_wp2_with (go_at_call 42; refine (HC.out _).mono ?_; rintro e w1 ⟨rfl, hb1⟩; obtain ⟨c1, bl⟩ := HZ.out _ hb1)
    all_goals
      go_ret
      exact ⟨ret_bool (by have h := HB.out; rw [Bool.eq_iff_iff, vdB_iff]; simp at h; first | (simp; omega) | omega), bl⟩

set_option maxRecDepth 100000 in
set_option maxHeartbeats 1000000 in
theorem same_periods (L : List (Int × Int)) (v1 v2 : Value) (w : World) (h1 : Sl w 2 v1 L.length (flat L)) (h2 : Sl w 2 v2 L.length (flat L)) (hL : L.length ≤ 1000000) :
    Calls Try.prog 21 #[v1, v2] w fun e w' => e = .returned (.bool true) ∧ Below w.heap.size w w' := by
  obtain ⟨a1, c1, rfl⟩ := h1.len
  obtain ⟨a2, c2, rfl⟩ := h2.len
  have H1 := Lib.hid h1
  have H2 := Lib.hid h2
  clear h1 h2
  go_enter Try.func21, Try.ntmps21
  go_wp2
  go_loopw [5] (fun i wr => ∃ j : Nat, j ≤ L.length ∧ i = .int .i64 j ∧ Below w.heap.size w wr) (fun i _ => (L.length - (intOf i).toNat))
  case atStart => exact ⟨0, by omega, rfl, Below.refl _ _⟩
  case round =>
    obtain ⟨j, hj, rfl, hB⟩ := hrel
    by_cases hlt : j < L.length
    · obtain ⟨b, off, c, e1, k1, k2, k3⟩ := (H1.out.keep hB).some_ (by omega)
      obtain ⟨b', off', c', e1', k1', k2', k3'⟩ := (H2.out.keep hB).some_ (by omega)
      injection e1 with e1 _ e2
      injection e1' with e1' _ e2'
      subst e1 e1' e2 e2'
      obtain ⟨f1, f2⟩ := flat_at L j hlt
      have g1 := k3 _ _ f1
      have g2 := k3 _ _ f2
      rw [← Nat.add_assoc] at g2
      have g3 := k3' _ _ f1
      have g4 := k3' _ _ f2
      rw [← Nat.add_assoc] at g4
      clear k3 k3' f1 f2
      generalize (L[j]).1 = p at *
      generalize (L[j]).2 = q at *
      have hji : (j : Int) < (L.length : Int) := by omega
      have hj0 : (0 : Int) ≤ (j : Int) := by omega
      go_wp2_with fail
      go_quiet (fail)
      go_wp2
      go_roundw
      case rel => exact ⟨j + 1, by omega, by go_num, below_drewN hB _⟩
      case measure => simp [intOf]; omega
    · go_wp2
      go_ret
      exact ⟨rfl, hB⟩

end Go.Proofs.Ytgimfajanmmkfaa
