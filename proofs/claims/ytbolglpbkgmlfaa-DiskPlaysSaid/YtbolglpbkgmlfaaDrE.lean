/-
  The reference's disk: Crash, Restart.
-/
import Derived.Test.YtbolglpbkgmlfaaDrD
import Derived.Deep.RegionHeld3
namespace Go.Proofs.Ytbolglpbkgmlfaa
open Go.RowKit Go.Maps
set_option linter.unusedVariables false

/-- The disk in the midst of a crash. -/
def DK.cmid (d : DK) (keep : List Int) (i : Nat) : DK := { d with st := fall d.st d.buf keep (fun j => decide (j < i)), buf := fun j => if j < i then none else d.buf j, down := true }

theorem cmid_len (d : DK) (keep : List Int) (i : Nat) : (d.cmid keep i).st.length = d.st.length := fall_len _ _ _ _

theorem fall_same {st : List Page} {buf : Nat → Option Page} {keep : List Int} {S S' : Nat → Bool} (h : ∀ i p, buf i = some p → S i = S' i) : fall st buf keep S = fall st buf keep S' := by
  apply List.ext_getElem?
  intro j
  by_cases hj : j < st.length
  · have hq := List.getElem?_eq_getElem hj
    rw [fall_get hq, fall_get hq]
    cases hb : buf j with
    | none => rfl
    | some p => simp [h j p hb]
  · rw [List.getElem?_eq_none (by rw [fall_len]; omega), List.getElem?_eq_none (by rw [fall_len]; omega)]

theorem fall_step {st : List Page} {buf : Nat → Option Page} {keep : List Int} {S : Nat → Bool} {i : Nat} {p q : Page} (hb : buf i = some p) (hq : st[i]? = some q) :
    (fall st buf keep S).set i (torn (keepOf keep (rank buf i)) p q) = fall st buf keep (fun j => S j || decide (j = i)) := by
  have hi := (List.getElem?_eq_some_iff.1 hq).1
  apply List.ext_getElem?
  intro j
  by_cases hj : j < st.length
  · have hqj := List.getElem?_eq_getElem hj
    by_cases e : i = j
    · subst e
      rw [List.getElem?_set_self (by rw [fall_len]; exact hj), fall_get hq, hb]; simp
    · rw [List.getElem?_set_ne e, fall_get hqj, fall_get hqj]
      have : decide (j = i) = false := by simp; omega
      rw [this, Bool.or_false]
  · rw [List.getElem?_eq_none (by rw [List.length_set, fall_len]; omega), List.getElem?_eq_none (by rw [fall_len]; omega)]

theorem cmid_zero (d : DK) (keep : List Int) : d.cmid keep 0 = { d with down := true } := by
  unfold DK.cmid
  have : fall d.st d.buf keep (fun j => decide (j < 0)) = d.st := by
    apply List.ext_getElem?
    intro j
    by_cases hj : j < d.st.length
    · have hq := List.getElem?_eq_getElem hj
      rw [fall_get hq, hq]
      cases d.buf j <;> simp
    · rw [List.getElem?_eq_none (by rw [fall_len]; omega), List.getElem?_eq_none (by omega)]
  rw [this]
  simp

theorem cmid_none {d : DK} {keep : List Int} {i : Nat} (h : d.buf i = none) : d.cmid keep (i + 1) = d.cmid keep i := by
  unfold DK.cmid
  rw [fall_same (S' := fun j => decide (j < i)) (fun j p hp => by
    by_cases e : j = i
    · subst e; rw [h] at hp; cases hp
    · have : j < i + 1 ↔ j < i := by omega
      simp [this])]
  congr 1
  funext j
  by_cases e : j = i
  · subst e; simp [h]
  · have : j < i + 1 ↔ j < i := by omega
    simp [this]

theorem cmid_some {d : DK} {keep : List Int} {i : Nat} {p q : Page} (h : d.buf i = some p) (hq : d.st[i]? = some q) :
    d.cmid keep (i + 1) = { { d.cmid keep i with st := (d.cmid keep i).st.set i (torn (keepOf keep (rank d.buf i)) p q) } with buf := fun j => if j = i then none else (d.cmid keep i).buf j } := by
  unfold DK.cmid
  simp only
  rw [fall_step h hq, fall_same (S := fun j => decide (j < i + 1)) (S' := fun j => decide (j < i) || decide (j = i)) (fun j q _ => by
    have : j < i + 1 ↔ (j < i ∨ j = i) := by omega
    simp [this])]
  congr 1
  funext j
  by_cases e : j = i
  · subst e; simp
  · have : j < i + 1 ↔ j < i := by omega
    simp [this, e]

theorem cmid_all {d : DK} (h : d.Ok) (keep : List Int) : d.cmid keep d.st.length = d.crash keep := by
  unfold DK.cmid DK.crash
  rw [fall_same (S' := fun _ => true) (fun j p hp => by have := (h.inside j p hp).1; simp [this])]
  congr 1
  funext j
  by_cases e : j < d.st.length
  · simp [e]
  · rw [if_neg e]
    cases hb : d.buf j with
    | none => rfl
    | some p => exact absurd (h.inside j p hb).1 e

theorem cmid_at {d : DK} {keep : List Int} {i : Nat} {q : Page} (hq : d.st[i]? = some q) : (d.cmid keep i).st[i]? = some q := by
  unfold DK.cmid
  simp only
  rw [fall_get hq]
  cases d.buf i <;> simp

theorem cmid_buf {d : DK} {keep : List Int} {i : Nat} : (d.cmid keep i).buf i = d.buf i := by simp [DK.cmid]

theorem rank_le (buf : Nat → Option Page) (i : Nat) : rank buf i ≤ i := Nat.le_trans (List.length_filter_le _ _) (by rw [List.length_range]; exact Nat.le_refl _)

/-- s[k:], never nil. -/
theorem cut_behind {z : Int} {g off n c K : Nat} (hz : z = (K : Int)) (hK : K ≤ n) (hn : n ≤ c) : ∃ sv, (∀ W, Sem.run Try.prog (Instr.sliceAt 24 (.slice (some ⟨g, off, none⟩) n c) (some (.int .i64 z)) none none) W = .ok sv W) ∧
    (∀ W, Sem.run Try.prog (Instr.slice 24 (.slice (some ⟨g, off, none⟩) n c) (some (.int .i64 z)) none none) W = .ok sv W) ∧ (∀ m c', sv ≠ .slice none m c') ∧ ∀ w l, l.length = n → Data w (.slice (some ⟨g, off, none⟩) n c) l → Data w sv (l.drop K) := by
  obtain ⟨sv, h1, h2, h3⟩ := cut_from (g := g) (off := off) (c := c) hz hK hn
  refine ⟨sv, h1, h2, ?_, h3⟩
  subst hz
  intro m c' e
  have h := h2 (default : World)
  rw [run_slice_l _ 24 (some ⟨g, off, none⟩) n c under_bytes .i64 (K : Int) (by omega) (by omega), size_byte] at h
  simp only [Result.andThen] at h
  injection h with h _
  rw [← h] at e
  unfold sliced at e
  split at e <;> cases e

theorem own_pay {w : World} {base n : Nat} {e : TypeId} {v : Value} {l : List UInt8} (hn : n = 128) (h : w.ownsRow base e 1 v n (pc l)) : ∃ g cap, v = .slice (some ⟨g, 0, none⟩) 128 cap ∧ base ≤ g ∧ g < w.heap.size ∧ 128 ≤ cap ∧ l.length = 128 ∧ w.rangeAt g 0 (pc l) := by
  subst hn
  have hl := h.1
  rw [pc_len] at hl
  rcases h.2 with ⟨_, h0⟩ | ⟨g, cap, cur, rfl, hB, hg, hc, _⟩
  · cases h0
  · exact ⟨g, cap, rfl, hB, (Array.getElem?_eq_some_iff.1 hg).1, hc, by omega, fun j u hu => by
      have hj : j < 128 := by have := (List.getElem?_eq_some_iff.1 hu).1; rw [pc_len] at this; omega
      rw [Nat.zero_add]
      have hcell : w.cell? ⟨g, j, none⟩ = (pc l)[j]? := h.cellAt j (by omega)
      rw [hcell, hu]⟩

section
variable {w : World} {R : RB} {d : DK} {Bad : Nat → Prop}

set_option maxRecDepth 100000 in
set_option maxHeartbeats 8000000 in
theorem rf_crash (h : IsRef w R d Bad) (hBad : ∀ b, Bad b → b < w.heap.size) (kv : Value) (keep : List Int) (hk : (∀ z ∈ keep, (Lit.int .i64 z).wf = true) ∧ ∃ a c, kv = .slice a keep.length c ∧ ∀ k z, keep[k]? = some z → ∃ b off, a = some ⟨b, off, none⟩ ∧ b < w.heap.size ∧ ¬ R.has d.st.length b ∧ w.cell? ⟨b, off + k, none⟩ = some (.int .i64 z)) :
    Calls Try.prog 29 #[R.ptr, kv] w fun e w' => e = .returned (.tuple #[]) ∧ RTurns R Bad w w' d (d.crash keep) := by
  obtain ⟨hkw, ka, kc, rfl, hkc⟩ := hk
  have c3 := h.hd
  have f3 := h.fr 3
  have hrl := h.rb_lt
  have hfew := h.ok.few
  obtain ⟨i0, hi0, hz0, hz1, hz2⟩ := info_parts byte_info
  have H := Lib.hid h
  have HBAD := Lib.hid hBad
  have HKC := Lib.hid hkc
  have H1 := Lib.hid (h.setDown true)
  clear h hkc hkw hBad
  unfold RB.ptr
  go_enter Try.func29, Try.ntmps29
  go_wp2
  obtain ⟨w1, hw1⟩ : ∃ w1, w1 = w.setCell ⟨R.rb, 3, none⟩ (.bool true) := ⟨_, rfl⟩
  rw [← hw1] at H1 ⊢
  have HC1 := Lib.hid (show Chg (R.has d.st.length) w w1 from by rw [hw1]; exact Chg.setCell _ _ (.inl rfl))
  have hsz1 : w1.heap.size = w.heap.size := by rw [hw1]; simp
  clear hw1 c3 f3
  go_loopg [4, 5] (d.st.length) (fun gk t4 t5 wr => ∃ k : Nat, k ≤ d.st.length ∧ gk + k = d.st.length ∧ t4 = .int .i64 (rank d.buf k : Int) ∧ t5 = .int .i64 (k : Int) ∧ IsRef wr R (d.cmid keep k) Bad ∧ Chg (R.has d.st.length) w1 wr)
  case atStart => exact ⟨0, by omega, by omega, rfl, rfl, by rw [cmid_zero]; exact H1.out, Chg.refl _ _⟩
  case round =>
    obtain ⟨k, hkl, hgk, rfl, rfl, hI, hch⟩ := hrel
    have HGK := Lib.hid hgk
    have HI := Lib.hid hI
    have HCH := Lib.hid hch
    obtain ⟨sa, sc, c0, hsa⟩ := hI.hs
    obtain ⟨ba, bc, c1, hba⟩ := hI.hb
    obtain ⟨wa, wc, c2, hwa⟩ := hI.hw
    rw [cmid_len] at c0 c1 c2 hsa hba hwa
    have hrr := hI.rb_lt
    clear hgk hch
    by_cases hkk : k < d.st.length
    · have hn : 0 < d.st.length := by omega
      have hkm : k < (d.cmid keep k).st.length := by rw [cmid_len]; exact hkk
      have hnm : 0 < (d.cmid keep k).st.length := by rw [cmid_len]; exact hn
      obtain rfl := hsa hn
      obtain rfl := hba hn
      obtain rfl := hwa hn
      have hkd : decide ((k : Int) < (d.st.length : Int)) = true := by simp; omega
      have hk0 : (0 : Int) ≤ (k : Int) := by omega
      have hk1 : (k : Int) < (d.st.length : Int) := by omega
      have hwt := hI.wt k hkm
      rw [cmid_buf] at hwt
      have hsl := (hI.good R.ss (.inr ⟨hnm, .inl rfl⟩)).1
      have hbl := (hI.good R.bs (.inr ⟨hnm, .inr (.inl rfl)⟩)).1
      have hwl := (hI.good R.ws (.inr ⟨hnm, .inr (.inr rfl)⟩)).1
      have hrk := rank_le d.buf k
      cases hbk : d.buf k with
      | none =>
        rw [hbk] at hwt
        simp only [Option.isSome_none] at hwt
        have HM := Lib.hid (cmid_none (d := d) (keep := keep) (i := k) hbk)
        have HRK := Lib.hid (show rank d.buf (k + 1) = rank d.buf k from by rw [rank_eq, nums_succ, hbk]; simp [rank_eq])
        clear hI hbk
        go_wp2
        go_roundg (gk - 1)
        case rel => exact ⟨k + 1, by omega, by have := HGK.out; omega, by rw [HRK.out], rfl, by rw [HM.out]; exact HI.out, HCH.out⟩
        case measure => have := HGK.out; omega
      | some p =>
        obtain ⟨v, hcell, hpay⟩ := hI.bf k hkm
        have hp := hpay p (by rw [cmid_buf]; exact hbk)
        obtain ⟨q, hq⟩ : ∃ q, d.st[k]? = some q := ⟨_, List.getElem?_eq_getElem hkk⟩
        obtain ⟨v0, hcell0, hpq⟩ := hI.st k q (cmid_at hq)
        have f1 := (hI.fs hnm k).1
        have f2 := (hI.fs hnm k).2.2
        obtain ⟨x1, x2, x3, x4, x5, x6⟩ := hI.a1 hnm
        rw [hbk] at hwt
        simp only [Option.isSome_some] at hwt
        have HDP := Lib.hid hp.data
        have HDQ := Lib.hid hpq.data
        obtain ⟨hpl, pb, po, pcp, rfl, hpc, hpb, _⟩ := hp
        obtain ⟨hql, qb, qo, qcp, rfl, hqc, hqb, _⟩ := hpq
        have HPL := Lib.hid hpl
        have HQL := Lib.hid hql
        have HM := Lib.hid (cmid_some (d := d) (keep := keep) (i := k) hbk hq)
        have HRK := Lib.hid (show rank d.buf (k + 1) = rank d.buf k + 1 from by rw [rank_eq, nums_succ, hbk]; simp [rank_eq])
        have HSR := Lib.hid (show w.heap.size ≤ wr.heap.size from by have := HCH.out.size; omega)
        have hgoodR : ∀ b, R.has d.st.length b → b < wr.heap.size := fun b hb => (hI.good b (by rw [cmid_len]; exact hb)).1
        have HGR := Lib.hid hgoodR
        clear hI hbk hpay hq hsa hba hwa hpl hql hgoodR
        generalize rank d.buf k = r at *
        by_cases hkm2 : r < keep.length
        · have hd1 : decide ((r : Int) < (keep.length : Int)) = true := by simp; omega
          obtain ⟨z, hz⟩ : ∃ z, keep[r]? = some z := ⟨_, List.getElem?_eq_getElem hkm2⟩
          obtain ⟨kb, ko, rfl, hkb1, hkb2, hkb3⟩ := HKC.out r z hz
          have hkb : kb < wr.heap.size := Nat.lt_of_lt_of_le hkb1 HSR.out
          have hkb3r : wr.cell? ⟨kb, ko + r, none⟩ = some (.int .i64 z) := by
            refine (HCH.out.cell (a := ⟨kb, ko + r, none⟩) hkb2 (by show kb < _; omega)).trans ?_
            exact (HC1.out.cell (a := ⟨kb, ko + r, none⟩) hkb2 hkb1).trans hkb3
          have hKO : keepOf keep r = (min (max z 0) 128).toNat := by unfold keepOf; rw [hz]
          clear hkb3 hkb1 hz hkb2
          obtain ⟨nn, hnz⟩ : ∃ nn : Nat, min (max z 0) 128 = (nn : Int) := ⟨(min (max z 0) 128).toNat, by omega⟩
          have hn128 : nn ≤ 128 := by omega
          have hn129 : (nn : Int) ≤ 128 := by omega
          have hn127 : (0 : Int) ≤ (nn : Int) := by omega
          have hnp : (nn : Int) ≤ (pcp : Int) := by omega
          have hnn : keepOf keep r = nn := by rw [hKO, hnz]; rfl
          clear hKO
          have HKQ := Lib.hid hnn
          clear hnn
          have HL1 := Lib.hid (show (p.take (nn)).length = nn from by rw [List.length_take, HPL.out]; omega)
          have HL2 := Lib.hid (show (q.drop (nn)).length = 128 - (nn) from by rw [List.length_drop, HQL.out])
          have HSL := Lib.hid (show Sl wr 1 (.slice (some ⟨pb, po, none⟩) (nn) pcp) (nn) (pc (p.take (nn))) from by
            obtain ⟨sv, h1, h2, h3⟩ := cut_to (z := ((nn : Nat) : Int)) (g := pb) (off := po) (n := 128) (c := pcp) (K := nn) rfl (by omega) hpc
            have := h3 wr p HPL.out HDP.out
            have h4 := h2 (default : World)
            rw [run_slice_h _ 24 (some ⟨pb, po, none⟩) 128 pcp under_bytes .i64 ((nn : Nat) : Int) (by omega) (by omega), size_byte] at h4
            simp only [Result.andThen] at h4
            injection h4 with h4 _
            have e : sliced (some ⟨pb, po, none⟩) 0 (((nn : Nat) : Int)).toNat pcp 1 = .slice (some ⟨pb, po, none⟩) (nn) pcp := by unfold sliced; simp [Addr.add]
            rw [e] at h4
            rw [← h4] at this
            unfold Data at this
            rwa [HL1.out] at this)
          obtain ⟨sv, hs1, hs2, hs3, hs4⟩ := cut_behind (z := (nn : Int)) (g := qb) (off := qo) (n := 128) (c := qcp) (K := nn) rfl (by omega) hqc
          have HS3 := Lib.hid hs3
          have HS4 := Lib.hid (hs4 wr q HQL.out HDQ.out)
          clear hs3 hs4
          go_wp2_with (at_builtin; refine wpList_append_sl rfl _ _ 24 rfl wr.heap.size 5 i0 _ 1 1 Try.underlying24 hi0 hz0 hz1 hz2 rfl (by decide) _ _ _ rfl (World.ownsRow_nil _ _ _ _) _ (nn) (pc (p.take (nn))) rfl HSL.out (fun _ _ h => by cases h) (pc_one _) (by unfold maxLen; omega) (by omega) (Nat.le_refl _) ?_)
          intro v1 w2 hown1 _ hb2
          have HO1 := Lib.hid (show w2.ownsRow wr.heap.size 5 1 v1 (nn) (pc (p.take (nn))) from by simpa using hown1)
          have HB2 := Lib.hid hb2
          have hs22 := hb2.size
          have k0 : w2.cell? ⟨R.rb, 0, none⟩ = some (.slice (some ⟨R.ss, 0, none⟩) d.st.length sc) := (hb2.cell (p := ⟨R.rb, 0, none⟩) hrr).trans c0
          have k2 : w2.cell? ⟨R.rb, 2, none⟩ = some (.slice (some ⟨R.ws, 0, none⟩) d.st.length wc) := (hb2.cell (p := ⟨R.rb, 2, none⟩) hrr).trans c2
          have k3 : w2.cell? ⟨R.ss, k, none⟩ = some (.slice (some ⟨qb, qo, none⟩) 128 qcp) := (hb2.cell (p := ⟨R.ss, k, none⟩) hsl).trans hcell0
          have HSQ := Lib.hid (show Sl wr 1 sv (128 - (nn)) (pc (q.drop (nn))) from by have := HS4.out; unfold Data at this; rwa [HL2.out] at this)
          have k5 : w2.cell? ⟨R.ws, k, none⟩ = some (.bool true) := (hb2.cell (p := ⟨R.ws, k, none⟩) hwl).trans hwt
          have f1' : w2.frozen? ⟨R.ss, k, none⟩ = false := (hb2.frozen (p := ⟨R.ss, k, none⟩) hsl).trans f1
          have f2' : w2.frozen? ⟨R.ws, k, none⟩ = false := (hb2.frozen (p := ⟨R.ws, k, none⟩) hwl).trans f2
          have C0 := Lib.hid c0
          have C2 := Lib.hid c2
          have C3 := Lib.hid hcell0
          have C5 := Lib.hid hwt
          have F1 := Lib.hid f1
          have F2 := Lib.hid f2
          clear hown1 hb2 c0 c1 c2 hcell hcell0 hwt f1 f2
          go_wp2_with fail
          have KB := Lib.hid (show Below wr.heap.size wr w2.drew from HB2.out.drew)
          go_region_law (first | (refine step_append_sl (by rfl) (.tmp 55) (.tmp 64) 24 (by rfl) wr.heap.size 5 i0 (.int .u8 0) 1 1 Try.underlying24 hi0 hz0 hz1 hz2 rfl (by decide) v1 (nn) (pc (p.take (nn))) (by simp [Act.eval, Act.put]) HO1.out sv (128 - (nn)) (pc (q.drop (nn))) (by simp [Act.eval, Act.put]) (HSQ.out.keep KB.out) (fun c h => absurd h (HS3.out _ _)) (pc_one _) (by unfold maxLen; omega) (by omega) KB.out.size wr KB.out ?_; intro v2 w3 hown2 hg2 hb3'; rw [← pc_append] at hown2; obtain ⟨g2, cp2, rfl, hp2⟩ := own_pay (by omega) hown2; have j0 : w3.cell? ⟨R.ss, k, none⟩ = some (.slice (some ⟨qb, qo, none⟩) 128 qcp) := (hb3'.cell (p := ⟨R.ss, k, none⟩) hsl).trans C3.out; have j1 : w3.cell? ⟨R.rb, 0, none⟩ = some (.slice (some ⟨R.ss, 0, none⟩) d.st.length sc) := (hb3'.cell (p := ⟨R.rb, 0, none⟩) hrr).trans C0.out; have j2 : w3.frozen? ⟨R.ss, k, none⟩ = false := (hb3'.frozen (p := ⟨R.ss, k, none⟩) hsl).trans F1.out) | fail)
          all_goals
            have HP2 := Lib.hid hp2
            have hsw := hb3'.size
            have k0 : w3.cell? ⟨R.rb, 0, none⟩ = some (.slice (some ⟨R.ss, 0, none⟩) d.st.length sc) := (hb3'.cell (p := ⟨R.rb, 0, none⟩) hrr).trans C0.out
            have k2 : w3.cell? ⟨R.rb, 2, none⟩ = some (.slice (some ⟨R.ws, 0, none⟩) d.st.length wc) := (hb3'.cell (p := ⟨R.rb, 2, none⟩) hrr).trans C2.out
            have k3 : w3.cell? ⟨R.ss, k, none⟩ = some (.slice (some ⟨qb, qo, none⟩) 128 qcp) := (hb3'.cell (p := ⟨R.ss, k, none⟩) hsl).trans C3.out
            have k5 : w3.cell? ⟨R.ws, k, none⟩ = some (.bool true) := (hb3'.cell (p := ⟨R.ws, k, none⟩) hwl).trans C5.out
            have f1' : w3.frozen? ⟨R.ss, k, none⟩ = false := (hb3'.frozen (p := ⟨R.ss, k, none⟩) hsl).trans F1.out
            have f2' : w3.frozen? ⟨R.ws, k, none⟩ = false := (hb3'.frozen (p := ⟨R.ws, k, none⟩) hwl).trans F2.out
            have HI3 := Lib.hid (HI.out.below hb3')
            have hpay3 : Pay w3 R (d.cmid keep k).st.length Bad (.slice (some ⟨g2, 0, none⟩) 128 cp2) (torn (nn) p q) := by
              obtain ⟨hg1, hg2, hc2, hlen, hrng⟩ := HP2.out
              refine ⟨hlen, _, _, _, rfl, hc2, hg2, fun hx => ?_, fun hx => ?_, hrng⟩
              · have := HGR.out _ (by rw [cmid_len] at hx; exact hx); omega
              · have := HBAD.out _ hx; have := HSR.out; omega
            have HFIN := Lib.hid (show IsRef ((w3.setCell ⟨R.ss, k, none⟩ (.slice (some ⟨g2, 0, none⟩) 128 cp2)).setCell ⟨R.ws, k, none⟩ (.bool false)) R (d.cmid keep (k + 1)) Bad from by
              rw [HM.out, HKQ.out]
              exact (HI3.out.setStable hkm hpay3).noBuf (i := k) (by simpa using hkm))
            have HCF := Lib.hid (show Chg (R.has d.st.length) w1 ((w3.setCell ⟨R.ss, k, none⟩ (.slice (some ⟨g2, 0, none⟩) 128 cp2)).setCell ⟨R.ws, k, none⟩ (.bool false)) from
              ((HCH.out.trans (Chg.of_below hb3')).trans (Chg.setCell _ _ (.inr ⟨hn, .inl rfl⟩))).trans (Chg.setCell _ _ (.inr ⟨hn, .inr (.inr rfl)⟩)))
            clear hown2 hb3' hp2 hpay3 j0 j1 j2 hs1 hs2 hg2
            go_wp2
            go_roundg (gk - 1)
            case rel => exact ⟨k + 1, by omega, by have := HGK.out; omega, by rw [HRK.out]; rfl, rfl, HFIN.out, HCF.out⟩
            case measure => have := HGK.out; omega
        · have hd1 : decide ((r : Int) < (keep.length : Int)) = false := by simp; omega
          have hnn : keepOf keep r = 0 := by unfold keepOf; rw [List.getElem?_eq_none (by omega)]
          have HKQ := Lib.hid hnn
          clear hnn
          have HL1 := Lib.hid (show (p.take (0)).length = 0 from by rw [List.length_take, HPL.out]; omega)
          have HL2 := Lib.hid (show (q.drop (0)).length = 128 - (0) from by rw [List.length_drop, HQL.out])
          have HSL := Lib.hid (show Sl wr 1 (.slice (some ⟨pb, po, none⟩) (0) pcp) (0) (pc (p.take (0))) from by
            obtain ⟨sv, h1, h2, h3⟩ := cut_to (z := ((0 : Nat) : Int)) (g := pb) (off := po) (n := 128) (c := pcp) (K := 0) rfl (by omega) hpc
            have := h3 wr p HPL.out HDP.out
            have h4 := h2 (default : World)
            rw [run_slice_h _ 24 (some ⟨pb, po, none⟩) 128 pcp under_bytes .i64 ((0 : Nat) : Int) (by omega) (by omega), size_byte] at h4
            simp only [Result.andThen] at h4
            injection h4 with h4 _
            have e : sliced (some ⟨pb, po, none⟩) 0 (((0 : Nat) : Int)).toNat pcp 1 = .slice (some ⟨pb, po, none⟩) (0) pcp := by unfold sliced; simp [Addr.add]
            rw [e] at h4
            rw [← h4] at this
            unfold Data at this
            rwa [HL1.out] at this)
          obtain ⟨sv, hs1, hs2, hs3, hs4⟩ := cut_behind (z := (0 : Int)) (g := qb) (off := qo) (n := 128) (c := qcp) (K := 0) rfl (by omega) hqc
          have HS3 := Lib.hid hs3
          have HS4 := Lib.hid (hs4 wr q HQL.out HDQ.out)
          clear hs3 hs4
          go_wp2_with (at_builtin; refine wpList_append_sl rfl _ _ 24 rfl wr.heap.size 5 i0 _ 1 1 Try.underlying24 hi0 hz0 hz1 hz2 rfl (by decide) _ _ _ rfl (World.ownsRow_nil _ _ _ _) _ (0) (pc (p.take (0))) rfl HSL.out (fun _ _ h => by cases h) (pc_one _) (by unfold maxLen; omega) (by omega) (Nat.le_refl _) ?_)
          intro v1 w2 hown1 _ hb2
          have HO1 := Lib.hid (show w2.ownsRow wr.heap.size 5 1 v1 (0) (pc (p.take (0))) from by simpa using hown1)
          have HB2 := Lib.hid hb2
          have hs22 := hb2.size
          have k0 : w2.cell? ⟨R.rb, 0, none⟩ = some (.slice (some ⟨R.ss, 0, none⟩) d.st.length sc) := (hb2.cell (p := ⟨R.rb, 0, none⟩) hrr).trans c0
          have k2 : w2.cell? ⟨R.rb, 2, none⟩ = some (.slice (some ⟨R.ws, 0, none⟩) d.st.length wc) := (hb2.cell (p := ⟨R.rb, 2, none⟩) hrr).trans c2
          have k3 : w2.cell? ⟨R.ss, k, none⟩ = some (.slice (some ⟨qb, qo, none⟩) 128 qcp) := (hb2.cell (p := ⟨R.ss, k, none⟩) hsl).trans hcell0
          have HSQ := Lib.hid (show Sl wr 1 sv (128 - (0)) (pc (q.drop (0))) from by have := HS4.out; unfold Data at this; rwa [HL2.out] at this)
          have k5 : w2.cell? ⟨R.ws, k, none⟩ = some (.bool true) := (hb2.cell (p := ⟨R.ws, k, none⟩) hwl).trans hwt
          have f1' : w2.frozen? ⟨R.ss, k, none⟩ = false := (hb2.frozen (p := ⟨R.ss, k, none⟩) hsl).trans f1
          have f2' : w2.frozen? ⟨R.ws, k, none⟩ = false := (hb2.frozen (p := ⟨R.ws, k, none⟩) hwl).trans f2
          have C0 := Lib.hid c0
          have C2 := Lib.hid c2
          have C3 := Lib.hid hcell0
          have C5 := Lib.hid hwt
          have F1 := Lib.hid f1
          have F2 := Lib.hid f2
          clear hown1 hb2 c0 c1 c2 hcell hcell0 hwt f1 f2
          go_wp2_with fail
          have KB := Lib.hid (show Below wr.heap.size wr w2.drew from HB2.out.drew)
          go_region_law (first | (refine step_append_sl (by rfl) (.tmp 55) (.tmp 64) 24 (by rfl) wr.heap.size 5 i0 (.int .u8 0) 1 1 Try.underlying24 hi0 hz0 hz1 hz2 rfl (by decide) v1 (0) (pc (p.take (0))) (by simp [Act.eval, Act.put]) HO1.out sv (128 - (0)) (pc (q.drop (0))) (by simp [Act.eval, Act.put]) (HSQ.out.keep KB.out) (fun c h => absurd h (HS3.out _ _)) (pc_one _) (by unfold maxLen; omega) (by omega) KB.out.size wr KB.out ?_; intro v2 w3 hown2 hg2 hb3'; rw [← pc_append] at hown2; obtain ⟨g2, cp2, rfl, hp2⟩ := own_pay (by omega) hown2; have j0 : w3.cell? ⟨R.ss, k, none⟩ = some (.slice (some ⟨qb, qo, none⟩) 128 qcp) := (hb3'.cell (p := ⟨R.ss, k, none⟩) hsl).trans C3.out; have j1 : w3.cell? ⟨R.rb, 0, none⟩ = some (.slice (some ⟨R.ss, 0, none⟩) d.st.length sc) := (hb3'.cell (p := ⟨R.rb, 0, none⟩) hrr).trans C0.out; have j2 : w3.frozen? ⟨R.ss, k, none⟩ = false := (hb3'.frozen (p := ⟨R.ss, k, none⟩) hsl).trans F1.out) | fail)
          all_goals
            have HP2 := Lib.hid hp2
            have hsw := hb3'.size
            have k0 : w3.cell? ⟨R.rb, 0, none⟩ = some (.slice (some ⟨R.ss, 0, none⟩) d.st.length sc) := (hb3'.cell (p := ⟨R.rb, 0, none⟩) hrr).trans C0.out
            have k2 : w3.cell? ⟨R.rb, 2, none⟩ = some (.slice (some ⟨R.ws, 0, none⟩) d.st.length wc) := (hb3'.cell (p := ⟨R.rb, 2, none⟩) hrr).trans C2.out
            have k3 : w3.cell? ⟨R.ss, k, none⟩ = some (.slice (some ⟨qb, qo, none⟩) 128 qcp) := (hb3'.cell (p := ⟨R.ss, k, none⟩) hsl).trans C3.out
            have k5 : w3.cell? ⟨R.ws, k, none⟩ = some (.bool true) := (hb3'.cell (p := ⟨R.ws, k, none⟩) hwl).trans C5.out
            have f1' : w3.frozen? ⟨R.ss, k, none⟩ = false := (hb3'.frozen (p := ⟨R.ss, k, none⟩) hsl).trans F1.out
            have f2' : w3.frozen? ⟨R.ws, k, none⟩ = false := (hb3'.frozen (p := ⟨R.ws, k, none⟩) hwl).trans F2.out
            have HI3 := Lib.hid (HI.out.below hb3')
            have hpay3 : Pay w3 R (d.cmid keep k).st.length Bad (.slice (some ⟨g2, 0, none⟩) 128 cp2) (torn (0) p q) := by
              obtain ⟨hg1, hg2, hc2, hlen, hrng⟩ := HP2.out
              refine ⟨hlen, _, _, _, rfl, hc2, hg2, fun hx => ?_, fun hx => ?_, hrng⟩
              · have := HGR.out _ (by rw [cmid_len] at hx; exact hx); omega
              · have := HBAD.out _ hx; have := HSR.out; omega
            have HFIN := Lib.hid (show IsRef ((w3.setCell ⟨R.ss, k, none⟩ (.slice (some ⟨g2, 0, none⟩) 128 cp2)).setCell ⟨R.ws, k, none⟩ (.bool false)) R (d.cmid keep (k + 1)) Bad from by
              rw [HM.out, HKQ.out]
              exact (HI3.out.setStable hkm hpay3).noBuf (i := k) (by simpa using hkm))
            have HCF := Lib.hid (show Chg (R.has d.st.length) w1 ((w3.setCell ⟨R.ss, k, none⟩ (.slice (some ⟨g2, 0, none⟩) 128 cp2)).setCell ⟨R.ws, k, none⟩ (.bool false)) from
              ((HCH.out.trans (Chg.of_below hb3')).trans (Chg.setCell _ _ (.inr ⟨hn, .inl rfl⟩))).trans (Chg.setCell _ _ (.inr ⟨hn, .inr (.inr rfl)⟩)))
            clear hown2 hb3' hp2 hpay3 j0 j1 j2 hs1 hs2 hg2
            go_wp2
            go_roundg (gk - 1)
            case rel => exact ⟨k + 1, by omega, by have := HGK.out; omega, by rw [HRK.out]; rfl, rfl, HFIN.out, HCF.out⟩
            case measure => have := HGK.out; omega
    · obtain rfl : k = d.st.length := by omega
      have hkd : decide ((d.st.length : Int) < (d.st.length : Int)) = false := by simp
      have HE := Lib.hid (show RTurns R Bad w wr d (d.crash keep) from by
        have := HI.out
        rw [cmid_all H.out.ok] at this
        exact ⟨this, HC1.out.trans HCH.out, fall_len _ _ _ _⟩)
      clear hI
      go_wp2
      first | go_end0 | refine bodyPost_ret (results_none rfl _ _ _) rfl ?_
      exact ⟨rfl, HE.out⟩
end

end Go.Proofs.Ytbolglpbkgmlfaa
