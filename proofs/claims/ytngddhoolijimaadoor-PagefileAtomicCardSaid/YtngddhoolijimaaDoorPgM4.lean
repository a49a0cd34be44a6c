/-
  Merged: PgJ, PgK, PgL.
-/
import Derived.Test.YtngddhoolijimaaDoorPgM3
namespace Go.Proofs.YtngddhoolijimaaDoor
open Go.RowKit Go.Maps Go.ChangeShapes Go.WideShapes
set_option linter.unusedVariables false
set_option linter.unusedSimpArgs false

theorem opens_array {α : Type} {P : Program} {t e : TypeId} {n : Nat} {R : Rd α} (ht : P.underlying t = some (.array n e)) (hc : P.cellsOf t = n * R.size) (h : Opens P e R) : Opens P t (rArr R n) :=
  ⟨hc, fun {H enc w base spare held fuel cs x} g => by
    obtain ⟨xs, m, rfl, _, hlen, hl, hel⟩ := DataW.trod_array ht g
    have each : ∀ i, i < n → ∃ y, R.rd w (· < w.heap.size) ((cs.drop (i * R.size)).take R.size) y := fun i hi => by
      have h1 := hel i hi
      rw [h.size, List.getElem?_eq_getElem (by omega)] at h1
      exact h.open_ h1
    have key : ∀ k, k ≤ n → ∃ l : List α, l.length = k ∧ ∀ i y, l[i]? = some y → R.rd w (· < w.heap.size) ((cs.drop (i * R.size)).take R.size) y := by
      intro k
      induction k with
      | zero => exact fun _ => ⟨[], rfl, fun i y h => by simp at h⟩
      | succ k ih =>
        intro hk
        obtain ⟨l, l1, l2⟩ := ih (by omega)
        obtain ⟨y, hy⟩ := each k (by omega)
        refine ⟨l ++ [y], by simp [l1], fun i z hz => ?_⟩
        by_cases hi : i < k
        · rw [List.getElem?_append_left (by omega)] at hz; exact l2 i z hz
        · have hil := (List.getElem?_eq_some_iff.1 hz).1
          rw [List.length_append, List.length_singleton] at hil
          obtain rfl : i = k := by omega
          rw [List.getElem?_append_right (by omega), l1, Nat.sub_self] at hz
          obtain rfl : y = z := by simpa using hz
          exact hy
    obtain ⟨l, l1, l2⟩ := key n (Nat.le_refl _)
    exact ⟨l, by rw [hlen, hc], l1, l2⟩⟩

abbrev rU2 : Rd (List Int) := rArr (rInt .u16) 2

theorem opensU2 : Opens Tryd.prog 107 rU2 := opens_array Tryd.underlying107 (by kernel_rfl) (opens_int Tryd.underlying62 (by kernel_rfl))
theorem opensU2s : Opens Tryd.prog 54 (rSlice rU2) := opens_slice Tryd.underlying54 (by kernel_rfl) (by decide) opensU2

theorem wf_u16b {p : Int} (h : (Lit.int .u16 p).wf = true) : 0 ≤ p ∧ p ≤ 65535 := by simpa [Lit.wf, IntKind.min, IntKind.max, IntKind.bits, IntKind.signed] using h

/-- Two numbers among the numbers, in memory. -/
theorem u2_get {w : World} {F : Nat → Prop} {v : Value} {l : List (List Int)} (h : (rSlice rU2).rd w F [v] l) : ∃ a c, v = .slice a l.length c ∧ l.length ≤ c ∧ ∀ k, k < l.length → ∃ g off p q, a = some ⟨g, off, none⟩ ∧ F g ∧ g < w.heap.size ∧ w.cell? ⟨g, off + k * 2, none⟩ = some (.int .u16 p) ∧ w.cell? ⟨g, off + k * 2 + 1, none⟩ = some (.int .u16 q) ∧ (0 ≤ p ∧ p ≤ 65535) ∧ (0 ≤ q ∧ q ≤ 65535) := by
  obtain ⟨a, n, c, e, rfl, hnc, hcm, h4⟩ := h
  obtain rfl : v = .slice a l.length c := by simpa using e
  refine ⟨a, c, rfl, hnc, fun k hk => ?_⟩
  rcases h4 with h4 | ⟨b, off, rfl, hF, hb, h⟩
  · omega
  · obtain ⟨ys, hA, hlen, hl2, hel⟩ := h k _ (List.getElem?_eq_getElem hk)
    obtain ⟨p, hp⟩ : ∃ p, (l[k])[0]? = some p := ⟨(l[k])[0]'(by rw [hl2]; decide), List.getElem?_eq_getElem _⟩
    obtain ⟨q, hq⟩ : ∃ q, (l[k])[1]? = some q := ⟨(l[k])[1]'(by rw [hl2]; decide), List.getElem?_eq_getElem _⟩
    obtain ⟨e1, w1⟩ := hel 0 p hp
    obtain ⟨e2, w2⟩ := hel 1 q hq
    have s1 : (rInt .u16).size = 1 := rfl
    rw [s1] at e1 e2 hlen
    have y0 : ys[0]? = some (.int .u16 p) := by
      have : ((ys.drop (0 * 1)).take 1)[0]? = some (.int .u16 p) := by rw [e1]; rfl
      simpa using this
    have y1 : ys[1]? = some (.int .u16 q) := by
      have : ((ys.drop (1 * 1)).take 1)[0]? = some (.int .u16 q) := by rw [e2]; rfl
      simpa using this
    exact ⟨b, off, p, q, rfl, hF, hb, hA 0 _ y0, hA 1 _ y1, wf_u16b w1, wf_u16b w2⟩
end Go.Proofs.YtngddhoolijimaaDoor
namespace Go.Proofs.YtngddhoolijimaaDoor
open Go.RowKit
set_option linter.unusedVariables false
set_option linter.unusedSimpArgs false

theorem makeM (m : Nat) (hm : m ≤ 1000) (W : World) : Sem.run Tryd.prog (Instr.makeSlice 25 (.int .i64 (m : Int)) (.int .i64 (m : Int))) W = .ok (.slice (some ⟨W.heap.size, 0, none⟩) m m) (W.alloc (.cells (pc (List.replicate m 0)).toArray 5)) := by
  obtain ⟨i0, hi0, hz0, hz1, hz2⟩ := info_parts byte_info2
  have h := run_makeSlice (P := Tryd.prog) W 25 5 i0 (.int .u8 0) Tryd.underlying25 hi0 hz0 .i64 .i64 (m : Int) (m : Int) (by omega) (by omega) (by rw [hz1]; omega) (by rw [hz2]; omega) (by omega)
  rw [h, hz1]
  have : madeCells (Value.int .u8 0).cells ((m : Int).toNat * 1) = (pc (List.replicate m 0)).toArray := by
    apply Array.toList_inj.1
    rw [show (Value.int .u8 0).cells = #[.int .u8 0] from rfl, made_one]
    unfold pc
    rw [List.map_replicate]
    simp
  rw [this]; rfl

section
variable {w wr : World} {k : Nat} {v : Value} {xs : List Value} {l : List (Int × List UInt8)}

theorem Copied.ext (h : Copied w wr k v xs l) (hl : l.length = k) (x : Int × List UInt8) : Copied w wr k v xs (l ++ [x]) :=
  ⟨h.bel, h.own, fun j y hj hy => h.at_ j y hj (by rw [List.getElem?_append_left (by omega)] at hy; exact hy)⟩

/-- A write's data is being laid. -/
structure Fills (w wr : World) (m : Nat) (p : List UInt8) : Prop where
  bel : Below w.heap.size w wr
  len : p.length = m
  own : wr.ownsRow w.heap.size 5 1 (.slice (some ⟨w.heap.size, 0, none⟩) m m) m (pc p)
  lt : w.heap.size < wr.heap.size

theorem Fills.first (w : World) (m : Nat) (hm : m ≤ 1000) : Fills w (w.alloc (.cells (pc (List.replicate m 0)).toArray 5)) m (List.replicate m 0) :=
  ⟨(Below.refl _ _).alloc (Nat.le_refl _) _, by simp, ⟨by rw [pc_len]; simp, .inr ⟨w.heap.size, m, _, rfl, Nat.le_refl _, heap_alloc_new w _, Nat.le_refl _, by unfold maxLen; omega, by simp [pc_len], by
    rw [Nat.mul_one, List.take_of_length_le (by rw [pc_len]; simp)]⟩⟩, by simp⟩

theorem Fills.store {m i : Nat} {p : List UInt8} {y : Int} (h : Fills w wr m p) (hi : i < m) (h0 : 0 ≤ y) (h1 : y < 256) : ∃ p', Fills w (wr.setCell ⟨w.heap.size, i, none⟩ (.int .u8 y)) m p' := by
  have ey : (((UInt8.ofNat y.toNat).toNat : Nat) : Int) = y := by
    rw [UInt8.toNat_ofNat']
    omega
  refine ⟨p.set i (UInt8.ofNat y.toNat), h.bel.setCell (Nat.le_refl _) _, by rw [List.length_set]; exact h.len, ?_, by simpa using h.lt⟩
  have := (h.own.stored i (.int .u8 y)).1
  have e : (pc p).set i (.int .u8 y) = pc (p.set i (UInt8.ofNat y.toNat)) := by
    unfold pc
    rw [List.map_set, ey]
  rw [e] at this
  exact this

/-- What writes gives. -/
def Writ (w : World) (e : Ending) (w' : World) : Prop := ∃ (v : Value) (l : List (Int × List UInt8)), e = .returned v ∧ (rSlice rPWN).rd w' (fun b => w.heap.size ≤ b ∧ b < w'.heap.size) [v] l ∧ l.length ≤ 8 ∧ (∀ x ∈ l, x.2.length ≤ 100) ∧ Below w.heap.size w w'

/-- So many writes are made. -/
structure Writs (w wr : World) (k : Nat) (v : Value) : Prop where
  at_ : ∃ xs l, l.length = k ∧ Copied w wr k v xs l ∧ (∀ x ∈ l, x.2.length ≤ 100) ∧ ∀ x ∈ l, (Lit.int .i64 x.1).wf = true

theorem rd_own_n {F : Nat → Prop} {base : Nat} {u : Value} {p : List UInt8} (h : wr.ownsRow base 5 1 u p.length (pc p)) (hF : ∀ b, base ≤ b → b < wr.heap.size → F b) : (rSliceN rByte).rd wr F [u] p :=
  ⟨rd_bytes_own h hF, fun n c e => by
    rcases h.2 with ⟨rfl, _⟩ | ⟨g, cap, cur, rfl, _⟩
    · cases e; rfl
    · cases e⟩

theorem Copied.rdN (h : Copied w wr l.length v xs l) (hwf : ∀ x ∈ l, (Lit.int .i64 x.1).wf = true) : (rSlice rPWN).rd wr (fun b => w.heap.size ≤ b ∧ b < wr.heap.size) [v] l := by
  refine rd_own (R := rPWN) h.own ⟨h.own.1, rfl, fun i x hx => ?_⟩ (fun b a c => ⟨a, c⟩)
  have e1 : rPWN.size = 2 := rfl
  obtain ⟨u, a, b, c⟩ := h.at_ i x (List.getElem?_eq_some_iff.1 hx).1 hx
  rw [e1, two_at a b]
  exact ⟨[.int .i64 x.1], [u], rfl, ⟨rfl, hwf x (List.mem_of_getElem? hx)⟩, rd_own_n c (fun b a c => ⟨a, c⟩)⟩

theorem Writs.done (h : Writs w wr k v) (hk : k ≤ 8) : Writ w (.returned v) wr := by
  obtain ⟨xs, l, rfl, hc, hd, hw⟩ := h.at_
  exact ⟨v, l, rfl, hc.rdN hw, hk, hd, hc.bel⟩

theorem Writs.step {W2 w1 w2 : World} {v2 : Value} {m pg : Nat} {p : List UInt8} {xs : List Value} {l : List (Int × List UInt8)} (hc : Copied w wr k v xs l) (hl : l.length = k) (hd : ∀ x ∈ l, x.2.length ≤ 100) (hw : ∀ x ∈ l, (Lit.int .i64 x.1).wf = true) (hf : Fills wr w1 m p) (hm : m ≤ 100) (hpg : pg ≤ 65535)
    (hb2 : Below w1.heap.size w1 W2) (hg : W2.grownBy w2 v.ownBlock) (hown : w2.ownsRow w.heap.size 42 2 v2 (k + 1) (xs ++ [.int .i64 (pg : Int), .slice (some ⟨wr.heap.size, 0, none⟩) m m])) (hB : Below w.heap.size w w2) : Writs w w2 (k + 1) v2 := by
  have hx : (l ++ [((pg : Int), p)])[k]? = some ((pg : Int), p) := by rw [List.getElem?_append_right (by omega), hl, Nat.sub_self]; rfl
  have ho := own_low hf.own hc.bel.size
  have hp := hf.len
  refine ⟨_, l ++ [((pg : Int), p)], by simp [hl], (hc.ext hl ((pg : Int), p)).step (v1 := .slice (some ⟨wr.heap.size, 0, none⟩) m m) hx (by rw [hp]; exact ho) hf.bel hb2 hg hown hB, fun x hx => ?_, fun x hx => ?_⟩
  · rcases List.mem_append.1 hx with hx | hx
    · exact hd x hx
    · rw [List.mem_singleton.1 hx]; show p.length ≤ 100; omega
  · rcases List.mem_append.1 hx with hx | hx
    · exact hw x hx
    · rw [List.mem_singleton.1 hx]; show (Lit.int .i64 (pg : Int)).wf = true; exact WalkArith.wf_i64 (by omega)
end

set_option maxRecDepth 100000 in
set_option maxHeartbeats 8000000 in
theorem writes36 {w : World} {F : Nat → Prop} (n : Nat) (hn : 0 < n ∧ n ≤ 4096) (av : Value) (L : List (List Int)) (hL : (rSlice rU2).rd w F [av] L) (hF : ∀ b, F b → b < w.heap.size) :
    Calls Tryd.prog 29 #[av, .int .i64 (n : Int)] w (Writ w) := by
  obtain ⟨q0, hq0, hr0, hr1, hr2⟩ := info_parts pw_info
  obtain ⟨a, c, rfl, hlc, hget⟩ := u2_get hL
  have hlm : L.length ≤ maxLen := by
    obtain ⟨a, n, c, e, h1, h2, h3, _⟩ := hL
    omega
  have HGT := Lib.hid hget
  have hll : 0 ≤ (L.length : Int) := by omega
  have hmax : max (n : Int) 1 = (n : Int) := by omega
  have hnb : 0 < (n : Int) ∧ (n : Int) ≤ 4096 := by omega
  clear hL hget
  go_enter Tryd.func29, Tryd.ntmps29
  go_wp2
  go_loopg [5, 6] 8 (fun gk t5 t6 wr => ∃ k : Nat, k ≤ 8 ∧ gk + k = 8 ∧ k ≤ L.length ∧ t6 = .int .i64 (k : Int) ∧ Writs w wr k t5)
  case atStart => exact ⟨0, by omega, by omega, by omega, rfl, ⟨[], [], rfl, ⟨Below.refl _ _, World.ownsRow_nil _ _ _ _, fun j x hj => by omega⟩, (fun x hx => by cases hx), (fun x hx => by cases hx)⟩⟩
  case round =>
    obtain ⟨k, hk, hgk, hkL, rfl, hS⟩ := hrel
    have HGK := Lib.hid hgk
    have HS := Lib.hid hS
    obtain ⟨xs, l, hl, hc, hd, hw⟩ := hS.at_
    have HC := Lib.hid hc
    have HLD := Lib.hid (And.intro hl (And.intro hd hw))
    obtain ⟨a5, c5, rfl⟩ : ∃ a c, _ = Value.slice a k c := by obtain ⟨a, c, e⟩ := Sl.len (Sl.of_own hc.own); exact ⟨a, c, e⟩
    have hk0 : 0 ≤ (k : Int) ∧ (k : Int) ≤ 8 := by omega
    clear hgk hS hl hc hd hw
    by_cases hin : k < L.length ∧ k < 8
    · have hd1 : decide ((k : Int) < (L.length : Int)) = true := by simp; omega
      have hd2 : decide ((k : Int) < 8) = true := by simp; omega
      have hi1 : (k : Int) < (L.length : Int) := by omega
      have hi2 : (k : Int) < 8 := by omega
      obtain ⟨g, off, p, q, rfl, hFg, hgl, e0, e1, hp, hq⟩ := HGT.out k hin.1
      obtain ⟨pn, rfl⟩ : ∃ pn : Nat, p = (pn : Int) := ⟨p.toNat, by omega⟩
      obtain ⟨qn, rfl⟩ : ∃ qn : Nat, q = (qn : Int) := ⟨q.toNat, by omega⟩
      obtain ⟨m0, hm0⟩ : ∃ m0, m0 = qn % 100 := ⟨_, rfl⟩
      have hmr : Int.tmod (qn : Int) 100 = (m0 : Int) := by subst hm0; rw [Int.tmod_eq_emod_of_nonneg (by omega)]; rfl
      obtain ⟨m, hm⟩ : ∃ m, m = 1 + m0 := ⟨_, rfl⟩
      have hmI : (1 : Int) + (m0 : Int) = (m : Int) := by omega
      have hm100 : m ≤ 100 := by omega
      have hm0b : 0 ≤ (m0 : Int) ∧ (m0 : Int) ≤ 99 := by omega
      have hmb : 0 ≤ (m : Int) ∧ (m : Int) ≤ 100 := by omega
      obtain ⟨pg, hpg⟩ : ∃ pg, pg = pn % n := ⟨_, rfl⟩
      have hpr : Int.tmod (pn : Int) (n : Int) = (pg : Int) := by subst hpg; rw [Int.tmod_eq_emod_of_nonneg (by omega)]; rfl
      have hpgle : pg ≤ pn := by rw [hpg]; exact Nat.mod_le _ _
      have hpgb : 0 ≤ (pg : Int) ∧ (pg : Int) ≤ 65535 := by omega
      have hmk := makeM m (by omega)
      have KEEP := Lib.hid (show ∀ w', Below w.heap.size w w' → w'.cell? ⟨g, off + k * 2, none⟩ = some (.int .u16 (pn : Int)) ∧ w'.cell? ⟨g, off + k * 2 + 1, none⟩ = some (.int .u16 (qn : Int)) from fun w' hb => ⟨(hb.cell (p := ⟨g, off + k * 2, none⟩) hgl).trans e0, (hb.cell (p := ⟨g, off + k * 2 + 1, none⟩) hgl).trans e1⟩)
      have d0 := (KEEP.out _ HC.out.bel).1
      have d1 := (KEEP.out _ HC.out.bel).2
      have HFI := Lib.hid (Fills.first wr m (by omega))
      clear e0 e1 hm hm0 hpg hin
      go_wp2
      generalize hgk1 : gk = gk1 at *
      generalize hwr1 : wr = wr1 at *
      clear hgk1 hwr1
      go_loopg [30] m (fun gk t wr => ∃ (i : Nat) (p : List UInt8), i ≤ m ∧ gk + i = m ∧ t = .int .i64 (i : Int) ∧ Fills wr1 wr m p)
      case atStart => exact ⟨0, _, by omega, by omega, rfl, HFI.out⟩
      case round =>
        obtain ⟨i, p, hi, hgk2, rfl, hF2⟩ := hrel
        have HGK2 := Lib.hid hgk2
        have HF2 := Lib.hid hF2
        have HBW := Lib.hid (HC.out.bel.trans (hF2.bel.mono HC.out.bel.size))
        clear hgk2 hF2 d0 d1
        by_cases him : i < m
        · have hd3 : decide ((i : Int) < (m : Int)) = true := by simp; omega
          have i0 : 0 ≤ (i : Int) ∧ (i : Int) ≤ 100 := by omega
          have i1 : (i : Int) < (m : Int) := by omega
          have d1 := (KEEP.out _ HBW.out).2
          have hq0 : 0 ≤ (qn : Int) ∧ (qn : Int) ≤ 65535 := hq
          obtain ⟨b, hb⟩ : ∃ b, p[i]? = some b := ⟨p[i]'(by rw [HF2.out.len]; exact him), List.getElem?_eq_getElem _⟩
          have dc : wr.cell? ⟨wr1.heap.size, i, none⟩ = some (.int .u8 (b.toNat : Int)) := by
            have e : wr.cell? ⟨wr1.heap.size, i, none⟩ = (pc p)[i]? := HF2.out.own.cellAt i (by omega)
            rw [e]; exact pc_get hb
          have df := HF2.out.own.frozenAt i
          have HST := Lib.hid (show ∀ y : Int, 0 ≤ y → y < 256 → ∃ p', Fills wr1 (wr.setCell ⟨wr1.heap.size, i, none⟩ (.int .u8 y)) m p' from fun y h0 h1 => HF2.out.store him h0 h1)
          clear hb
          go_wp2
          go_roundg (gk - 1)
          case measure => have := HGK2.out; omega
          case rel =>
            obtain ⟨p', hf'⟩ := HST.out (((qn : Int) + 3 * (i : Int)) % 256) (by omega) (by omega)
            exact ⟨i + 1, p', by omega, by have := HGK2.out; omega, by go_num, hf'⟩
        · have hd3 : decide ((i : Int) < (m : Int)) = false := by simp; omega
          have d0 := (KEEP.out _ HBW.out).1
          have hp0 : 0 ≤ (pn : Int) ∧ (pn : Int) ≤ 65535 := hp
          have HZ := Lib.hid (show w.heap.size ≤ wr.heap.size from HBW.out.size)
          go_wp2_with (at_builtin; refine wpList_append_sl rfl _ _ 43 rfl w.heap.size 42 q0 _ 2 32 Tryd.underlying43 hq0 hr0 hr1 hr2 rfl (by decide) _ k xs rfl ((own_at' HC.out.own HF2.out.bel).alloc _) _ 1 [.int .i64 (pg : Int), .slice (some ⟨wr1.heap.size, 0, none⟩) m m] rfl (sl_at2 rfl) (fun _ _ h => by cases h) (one_two _ _ rfl rfl) (by unfold maxLen; omega) (by omega) (by have := HZ.out; simp; omega) ?_)
          intro v3 w3 hown3 hg3 hb3
          have HW3 := Lib.hid (show Writs w w3 (k + 1) v3 from Writs.step HC.out HLD.out.1 HLD.out.2.1 HLD.out.2.2 HF2.out hm100 (by omega) ((Below.refl _ _).alloc (Nat.le_refl _) _) hg3 hown3 ((HBW.out.alloc HZ.out _).trans hb3))
          clear hown3 hg3 hb3
          go_wp2
          go_roundg (gk1 - 1)
          case measure => have := HGK.out; omega
          case rel => exact ⟨k + 1, by omega, by have := HGK.out; omega, by omega, by go_num, HW3.out⟩
    · have HFIN := Lib.hid (HS.out.done (by omega))
      by_cases hil : k = L.length
      · subst hil
        have hd1 : decide ((L.length : Int) < (L.length : Int)) = false := by simp
        clear hin
        go_wp2
        go_ret
        exact HFIN.out
      · obtain rfl : k = 8 := by omega
        have hi1 : (8 : Int) < (L.length : Int) := by omega
        have hd1 : decide ((8 : Int) < (L.length : Int)) = true := decide_eq_true hi1
        clear hin
        go_wp2
        go_ret
        exact HFIN.out
end Go.Proofs.YtngddhoolijimaaDoor
namespace Go.Proofs.YtngddhoolijimaaDoor
open Go.RowKit
set_option linter.unusedVariables false
set_option linter.unusedSimpArgs false

theorem LM.rows {W w : World} {E : Nat → Prop} {wb fb pb n N : Nat} {B : DB} {f : PF} {d : DK} {P : List (List UInt8)} {mt : Option (Nat × List (List UInt8))} {down : Bool} (h : LM W w E wb B fb pb n N f d P mt down) : ∃ sa sc, w.cell? ⟨pb, 0, none⟩ = some (.slice sa n sc) := by
  obtain ⟨sv, c, hs⟩ := h.pg.at_
  obtain ⟨sa, sc, rfl, _⟩ := bs_get hs
  rw [h.pays.len] at c
  exact ⟨sa, sc, c⟩

theorem LW.n0 {W w : World} {E : Nat → Prop} {wb fb pb n N : Nat} {B : DB} {f : PF} {d : DK} {P : List (List UInt8)} {mt : Option (Nat × List (List UInt8))} {down : Bool} (h : LM W w E wb B fb pb n N f d P mt down) : 0 < n ∧ n ≤ 4096 := by
  have := capN_room h.big
  rw [h.cap] at this
  exact ⟨this.1, this.2.2⟩

set_option maxRecDepth 100000 in
set_option maxHeartbeats 8000000 in
theorem atomic36_walk (p0 : Int) (v1 v2 v4 : Value) (L1 L2 : List (List Int)) (a3 : Int) (keep : List Int) (a5 : Int) (h0 : (Lit.int .u8 p0).wf = true) (h3 : (Lit.int .u8 a3).wf = true) (h5 : (Lit.int .u8 a5).wf = true) (W : World)
    (o1 : (rSlice rU2).rd W (· < W.heap.size) [v1] L1) (o2 : (rSlice rU2).rd W (· < W.heap.size) [v2] L2) (o4 : (rSlice (rInt .i64)).rd W (· < W.heap.size) [v4] keep) :
    Calls Tryd.prog 6 #[.int .u8 p0, v1, v2, .int .u8 a3, v4, .int .u8 a5] W (Holds W) := by
  obtain ⟨pn, hp, rfl⟩ := wf_u8n h0
  obtain ⟨an, ha, rfl⟩ := wf_u8n h3
  obtain ⟨rn, hr, rfl⟩ := wf_u8n h5
  obtain ⟨ka, kl, kc, e, rfl, _, hkm, _⟩ := id o4
  obtain rfl : v4 = .slice ka keep.length kc := by simpa using e
  have HO1 := Lib.hid o1
  have HO2 := Lib.hid o2
  have HO4 := Lib.hid o4
  have hk0 : 0 ≤ (keep.length : Int) := by omega
  clear o1 o2 o4 e h0 h3 h5
  by_cases hk : 100 < keep.length
  · have g1 : decide ((100 : Int) < (keep.length : Int)) = true := by simp; omega
    have g1' : (100 : Int) < (keep.length : Int) := by omega
    go_enter Tryd.func6, Tryd.ntmps6
    go_wp2_with fail
    refine (awake36_any _).mono ?_
    rintro e w1 ⟨rfl, hb⟩
    have HB := Lib.hid hb
    clear hb
    go_wp2
    go_ret
    exact ⟨rfl, HB.out⟩
  · have g1 : decide ((100 : Int) < (keep.length : Int)) = false := by simp; omega
    have g1' : ¬ (100 : Int) < (keep.length : Int) := by omega
    have HK := Lib.hid (show keep.length ≤ 1000000 by omega)
    obtain ⟨m, hm⟩ : ∃ m, m = 1 + an % 40 := ⟨_, rfl⟩
    obtain ⟨m0, hm0⟩ : ∃ m0, m0 = an % 40 := ⟨_, rfl⟩
    have hmr : Int.tmod (an : Int) 40 = (m0 : Int) := by subst hm0; rw [Int.tmod_eq_emod_of_nonneg (by omega)]; rfl
    have hmI : (1 : Int) + (m0 : Int) = (m : Int) := by omega
    have hmb : 0 ≤ (m0 : Int) ∧ (m0 : Int) ≤ 39 := by omega
    have hmb2 : 0 ≤ (m : Int) ∧ (m : Int) ≤ 40 := by omega
    obtain ⟨r0, hr0⟩ : ∃ r0, r0 = rn % 30 := ⟨_, rfl⟩
    have hrr : Int.tmod (rn : Int) 30 = (r0 : Int) := by subst hr0; rw [Int.tmod_eq_emod_of_nonneg (by omega)]; rfl
    have hrb : 0 ≤ (r0 : Int) ∧ (r0 : Int) ≤ 29 := by omega
    have hwm : (Lit.int .i64 (m : Int)).wf = true := WalkArith.wf_i64 (by omega)
    have hwr : (Lit.int .i64 (r0 : Int)).wf = true := WalkArith.wf_i64 (by omega)
    have HWM := Lib.hid (And.intro hwm hwr)
    clear hm hm0 hr0 hk hwm hwr
    go_enter Tryd.func6, Tryd.ntmps6
    go_wp2_with fail
    refine (begin36 pn hp _ _ (fun _ => False) (fun _ h => h.elim) (Below.refl _ _)).mono ?_
    rintro e w1 ⟨wb, B, fb, pb, d, rfl, hL, -, -, -⟩
    obtain ⟨n, hn⟩ : ∃ n, n = capN (7 + pn % 25) := ⟨_, rfl⟩
    obtain ⟨N, hN⟩ : ∃ N, N = 7 + pn % 25 := ⟨_, rfl⟩
    rw [← hn, ← hN] at hL
    obtain ⟨Z, hZ⟩ : ∃ Z, Z = zeroP n := ⟨_, rfl⟩
    rw [← hZ] at hL
    have HL1 := Lib.hid hL
    have HN0 := Lib.hid (LW.n0 hL.lm)
    have hnb : 0 ≤ (n : Int) ∧ (n : Int) ≤ 4096 := by have := HN0.out; omega
    have c2 := hL.lm.c2
    obtain ⟨sa, sc, cp⟩ := hL.lm.rows
    clear hn hN hZ hL hp ha hr
    go_wp2_with fail
    refine (writes36 n HN0.out v1 L1 ((rSlice rU2).keep (fun b hb hl => HL1.out.lm.bel.block b hb) HL1.out.lm.bel.size HO1.out) (fun b hb => Nat.lt_of_lt_of_le hb HL1.out.lm.bel.size)).mono ?_
    rintro e w2 ⟨xv, X, rfl, hX, hX8, hXd, hb⟩
    have HL2 := Lib.hid (HL1.out.below hb)
    have HX := Lib.hid (And.intro hX (And.intro hX8 hXd))
    have HXO := Lib.hid (show ∀ b, (w1.heap.size ≤ b ∧ b < w2.heap.size) → b < w2.heap.size ∧ ¬ LB B fb wb b from fun b hb => ⟨hb.2, fun e => by have := HL1.out.lm.bl b e; omega⟩)
    clear hX hX8 hXd hb c2 cp
    go_wp2_with fail
    refine (write36 HL2.out (fun _ h => h.elim) xv X HX.out.1 HXO.out (by have := HX.out.2.1; omega) (fun x hx => by have := HX.out.2.2 x hx; omega)).mono ?_
    rintro e w3 ⟨rfl, pb3, f3, d3, P3, mt3, down3, hL, -, -⟩
    have HL3 := Lib.hid hL
    have c0 := hL.lm.c0
    clear hL
    go_wp2_with fail
    refine (dk_failAfter HL3.out.lm.disk (m : Int) HWM.out.1).mono ?_
    rintro e w4 ⟨rfl, hT⟩
    have HL4 := Lib.hid (HL3.out.arm (m : Int) hT)
    have c2 := HL4.out.lm.c2
    obtain ⟨sa4, sc4, cp4⟩ := HL4.out.lm.rows
    clear hT c0
    go_wp2_with fail
    refine (writes36 n HN0.out v2 L2 ((rSlice rU2).keep (fun b hb hl => HL4.out.lm.bel.block b hb) HL4.out.lm.bel.size HO2.out) (fun b hb => Nat.lt_of_lt_of_le hb HL4.out.lm.bel.size)).mono ?_
    rintro e w5 ⟨yv, Y, rfl, hY, hY8, hYd, hb⟩
    have HL5 := Lib.hid (HL4.out.below hb)
    have HY := Lib.hid (And.intro hY (And.intro hY8 hYd))
    have HYO := Lib.hid (show ∀ b, (w4.heap.size ≤ b ∧ b < w5.heap.size) → b < w5.heap.size ∧ ¬ LB B fb wb b from fun b hb => ⟨hb.2, fun e => by have := HL4.out.lm.bl b e; omega⟩)
    clear hY hY8 hYd hb c2 cp4
    go_wp2_with fail
    refine (write36 HL5.out (fun _ h => h.elim) yv Y HY.out.1 HYO.out (by have := HY.out.2.1; omega) (fun x hx => by have := HY.out.2.2 x hx; omega)).mono ?_
    rintro e w6 ⟨rfl, pb6, f6, d6, P6, mt6, down6, hL, -, -⟩
    have HL6 := Lib.hid hL
    have c0 := hL.lm.c0
    clear hL
    go_wp2_with fail
    refine (dk_crash HL6.out.lm.disk (.slice ka keep.length kc) keep (keep_of HO4.out (fun b hb => ⟨hb, fun e => by have := HL6.out.lm.bge b (.inr (.inl e)); omega⟩) HL6.out.lm.bel) HK.out).mono ?_
    rintro e w7 ⟨rfl, hT⟩
    have HL7 := Lib.hid (HL6.out.lm.turns' hT)
    have HR7 := Lib.hid (HL6.out.ready.crash keep)
    clear hT c0
    go_wp2_with fail
    refine (awake36_any _).mono ?_
    rintro e w8 ⟨rfl, hb⟩
    have HL8 := Lib.hid (HL7.out.below hb)
    clear hb
    go_wp2_with fail
    refine (open36 HL8.out HR7.out (fun _ h => h.elim) (r0 : Int) HWM.out.2 (.slice ka keep.length kc) keep HO4.out HK.out).mono ?_
    rintro e w9 ⟨rfl, fb9, pb9, d9, P9, hL, -, -, -, -⟩
    have HL9 := Lib.hid hL
    clear hL
    go_wp2_with fail
    refine (open36 HL9.out.lm HL9.out.ready (fun _ h => h.elim) 0 (by rfl) (.slice none 0 0) [] ⟨none, 0, 0, rfl, rfl, Nat.le_refl _, Nat.zero_le _, .inl rfl⟩ (by simp)).mono ?_
    rintro e w10 ⟨rfl, fbA, pbA, dA, PA, hL, -, -, -, -⟩
    have HFIN := Lib.hid hL.lm.bel
    clear hL
    go_wp2
    go_ret
    exact ⟨rfl, HFIN.out⟩
end Go.Proofs.YtngddhoolijimaaDoor
