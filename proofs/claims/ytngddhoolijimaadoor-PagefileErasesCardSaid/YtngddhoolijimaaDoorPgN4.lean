/-
  Merged: PgJ, PgK, PgL, PgN, PgO, PgP, PgQ, PgR.
-/
import Derived.Test.YtngddhoolijimaaDoorPgM3
import Derived.Test.YtngddhoolijimaaDoorArg
import Derived.Test.YtngddhoolijimaaDoorStm
namespace Go.Proofs.YtngddhoolijimaaDoor
open Go.RowKit Go.Maps Go.ChangeShapes Go.WideShapes
set_option linter.unusedVariables false
set_option linter.unusedSimpArgs false

theorem opens_array {α : Type} {P : Program} {t e : TypeId} {n : Nat} {R : Rd α} (ht : P.underlying t = some (.array n e)) (hc : P.cellsOf t = n * R.size) (h : Opens P e R) : Opens P t (rArr R n) :=
  ⟨hc, fun {H enc w base spare held fuel cs x} g => by
    obtain ⟨xs, m, rfl, _, hlen, hl, hel⟩ := DataW.trod_array ht g
    have each : ∀ i, i < n → ∃ y, R.rd w (· < w.heap.size) ((cs.drop (i * R.size)).take R.size) y := fun i hi => by
      have h1 := hel i hi
      rw [h.size, List.getElem?_eq_getElem (by omega)] at h1
      exact h.open_ h1
    have key : ∀ k, k ≤ n → ∃ l : List α, l.length = k ∧ ∀ i y, l[i]? = some y → R.rd w (· < w.heap.size) ((cs.drop (i * R.size)).take R.size) y := by
      intro k
      induction k with
      | zero => exact fun _ => ⟨[], rfl, fun i y h => by simp at h⟩
      | succ k ih =>
        intro hk
        obtain ⟨l, l1, l2⟩ := ih (by omega)
        obtain ⟨y, hy⟩ := each k (by omega)
        refine ⟨l ++ [y], by simp [l1], fun i z hz => ?_⟩
        by_cases hi : i < k
        · rw [List.getElem?_append_left (by omega)] at hz; exact l2 i z hz
        · have hil := (List.getElem?_eq_some_iff.1 hz).1
          rw [List.length_append, List.length_singleton] at hil
          obtain rfl : i = k := by omega
          rw [List.getElem?_append_right (by omega), l1, Nat.sub_self] at hz
          obtain rfl : y = z := by simpa using hz
          exact hy
    obtain ⟨l, l1, l2⟩ := key n (Nat.le_refl _)
    exact ⟨l, by rw [hlen, hc], l1, l2⟩⟩

abbrev rU2 : Rd (List Int) := rArr (rInt .u16) 2

theorem opensU2 : Opens Tryd.prog 107 rU2 := opens_array Tryd.underlying107 (by kernel_rfl) (opens_int Tryd.underlying62 (by kernel_rfl))
theorem opensU2s : Opens Tryd.prog 54 (rSlice rU2) := opens_slice Tryd.underlying54 (by kernel_rfl) (by decide) opensU2

theorem wf_u16b {p : Int} (h : (Lit.int .u16 p).wf = true) : 0 ≤ p ∧ p ≤ 65535 := by simpa [Lit.wf, IntKind.min, IntKind.max, IntKind.bits, IntKind.signed] using h

/-- Two numbers among the numbers, in memory. -/
theorem u2_get {w : World} {F : Nat → Prop} {v : Value} {l : List (List Int)} (h : (rSlice rU2).rd w F [v] l) : ∃ a c, v = .slice a l.length c ∧ l.length ≤ c ∧ ∀ k, k < l.length → ∃ g off p q, a = some ⟨g, off, none⟩ ∧ F g ∧ g < w.heap.size ∧ w.cell? ⟨g, off + k * 2, none⟩ = some (.int .u16 p) ∧ w.cell? ⟨g, off + k * 2 + 1, none⟩ = some (.int .u16 q) ∧ (0 ≤ p ∧ p ≤ 65535) ∧ (0 ≤ q ∧ q ≤ 65535) := by
  obtain ⟨a, n, c, e, rfl, hnc, hcm, h4⟩ := h
  obtain rfl : v = .slice a l.length c := by simpa using e
  refine ⟨a, c, rfl, hnc, fun k hk => ?_⟩
  rcases h4 with h4 | ⟨b, off, rfl, hF, hb, h⟩
  · omega
  · obtain ⟨ys, hA, hlen, hl2, hel⟩ := h k _ (List.getElem?_eq_getElem hk)
    obtain ⟨p, hp⟩ : ∃ p, (l[k])[0]? = some p := ⟨(l[k])[0]'(by rw [hl2]; decide), List.getElem?_eq_getElem _⟩
    obtain ⟨q, hq⟩ : ∃ q, (l[k])[1]? = some q := ⟨(l[k])[1]'(by rw [hl2]; decide), List.getElem?_eq_getElem _⟩
    obtain ⟨e1, w1⟩ := hel 0 p hp
    obtain ⟨e2, w2⟩ := hel 1 q hq
    have s1 : (rInt .u16).size = 1 := rfl
    rw [s1] at e1 e2 hlen
    have y0 : ys[0]? = some (.int .u16 p) := by
      have : ((ys.drop (0 * 1)).take 1)[0]? = some (.int .u16 p) := by rw [e1]; rfl
      simpa using this
    have y1 : ys[1]? = some (.int .u16 q) := by
      have : ((ys.drop (1 * 1)).take 1)[0]? = some (.int .u16 q) := by rw [e2]; rfl
      simpa using this
    exact ⟨b, off, p, q, rfl, hF, hb, hA 0 _ y0, hA 1 _ y1, wf_u16b w1, wf_u16b w2⟩
end Go.Proofs.YtngddhoolijimaaDoor
namespace Go.Proofs.YtngddhoolijimaaDoor
open Go.RowKit
set_option linter.unusedVariables false
set_option linter.unusedSimpArgs false

theorem makeM (m : Nat) (hm : m ≤ 1000) (W : World) : Sem.run Tryd.prog (Instr.makeSlice 25 (.int .i64 (m : Int)) (.int .i64 (m : Int))) W = .ok (.slice (some ⟨W.heap.size, 0, none⟩) m m) (W.alloc (.cells (pc (List.replicate m 0)).toArray 5)) := by
  obtain ⟨i0, hi0, hz0, hz1, hz2⟩ := info_parts byte_info2
  have h := run_makeSlice (P := Tryd.prog) W 25 5 i0 (.int .u8 0) Tryd.underlying25 hi0 hz0 .i64 .i64 (m : Int) (m : Int) (by omega) (by omega) (by rw [hz1]; omega) (by rw [hz2]; omega) (by omega)
  rw [h, hz1]
  have : madeCells (Value.int .u8 0).cells ((m : Int).toNat * 1) = (pc (List.replicate m 0)).toArray := by
    apply Array.toList_inj.1
    rw [show (Value.int .u8 0).cells = #[.int .u8 0] from rfl, made_one]
    unfold pc
    rw [List.map_replicate]
    simp
  rw [this]; rfl

section
variable {w wr : World} {k : Nat} {v : Value} {xs : List Value} {l : List (Int × List UInt8)}

theorem Copied.ext (h : Copied w wr k v xs l) (hl : l.length = k) (x : Int × List UInt8) : Copied w wr k v xs (l ++ [x]) :=
  ⟨h.bel, h.own, fun j y hj hy => h.at_ j y hj (by rw [List.getElem?_append_left (by omega)] at hy; exact hy)⟩

/-- A write's data is being laid. -/
structure Fills (w wr : World) (m : Nat) (p : List UInt8) : Prop where
  bel : Below w.heap.size w wr
  len : p.length = m
  own : wr.ownsRow w.heap.size 5 1 (.slice (some ⟨w.heap.size, 0, none⟩) m m) m (pc p)
  lt : w.heap.size < wr.heap.size

theorem Fills.first (w : World) (m : Nat) (hm : m ≤ 1000) : Fills w (w.alloc (.cells (pc (List.replicate m 0)).toArray 5)) m (List.replicate m 0) :=
  ⟨(Below.refl _ _).alloc (Nat.le_refl _) _, by simp, ⟨by rw [pc_len]; simp, .inr ⟨w.heap.size, m, _, rfl, Nat.le_refl _, heap_alloc_new w _, Nat.le_refl _, by unfold maxLen; omega, by simp [pc_len], by
    rw [Nat.mul_one, List.take_of_length_le (by rw [pc_len]; simp)]⟩⟩, by simp⟩

theorem Fills.store {m i : Nat} {p : List UInt8} {y : Int} (h : Fills w wr m p) (hi : i < m) (h0 : 0 ≤ y) (h1 : y < 256) : ∃ p', Fills w (wr.setCell ⟨w.heap.size, i, none⟩ (.int .u8 y)) m p' := by
  have ey : (((UInt8.ofNat y.toNat).toNat : Nat) : Int) = y := by
    rw [UInt8.toNat_ofNat']
    omega
  refine ⟨p.set i (UInt8.ofNat y.toNat), h.bel.setCell (Nat.le_refl _) _, by rw [List.length_set]; exact h.len, ?_, by simpa using h.lt⟩
  have := (h.own.stored i (.int .u8 y)).1
  have e : (pc p).set i (.int .u8 y) = pc (p.set i (UInt8.ofNat y.toNat)) := by
    unfold pc
    rw [List.map_set, ey]
  rw [e] at this
  exact this

/-- What writes gives. -/
def Writ (w : World) (e : Ending) (w' : World) : Prop := ∃ (v : Value) (l : List (Int × List UInt8)), e = .returned v ∧ (rSlice rPWN).rd w' (fun b => w.heap.size ≤ b ∧ b < w'.heap.size) [v] l ∧ l.length ≤ 8 ∧ (∀ x ∈ l, x.2.length ≤ 100) ∧ Below w.heap.size w w' ∧ ∀ n c, v = .slice none n c → c = 0

/-- So many writes are made. -/
structure Writs (w wr : World) (k : Nat) (v : Value) : Prop where
  at_ : ∃ xs l, l.length = k ∧ Copied w wr k v xs l ∧ (∀ x ∈ l, x.2.length ≤ 100) ∧ ∀ x ∈ l, (Lit.int .i64 x.1).wf = true

theorem rd_own_n {F : Nat → Prop} {base : Nat} {u : Value} {p : List UInt8} (h : wr.ownsRow base 5 1 u p.length (pc p)) (hF : ∀ b, base ≤ b → b < wr.heap.size → F b) : (rSliceN rByte).rd wr F [u] p :=
  ⟨rd_bytes_own h hF, fun n c e => by
    rcases h.2 with ⟨rfl, _⟩ | ⟨g, cap, cur, rfl, _⟩
    · cases e; rfl
    · cases e⟩

theorem Copied.rdN (h : Copied w wr l.length v xs l) (hwf : ∀ x ∈ l, (Lit.int .i64 x.1).wf = true) : (rSlice rPWN).rd wr (fun b => w.heap.size ≤ b ∧ b < wr.heap.size) [v] l := by
  refine rd_own (R := rPWN) h.own ⟨h.own.1, rfl, fun i x hx => ?_⟩ (fun b a c => ⟨a, c⟩)
  have e1 : rPWN.size = 2 := rfl
  obtain ⟨u, a, b, c⟩ := h.at_ i x (List.getElem?_eq_some_iff.1 hx).1 hx
  rw [e1, two_at a b]
  exact ⟨[.int .i64 x.1], [u], rfl, ⟨rfl, hwf x (List.mem_of_getElem? hx)⟩, rd_own_n c (fun b a c => ⟨a, c⟩)⟩

theorem Writs.done (h : Writs w wr k v) (hk : k ≤ 8) : Writ w (.returned v) wr := by
  obtain ⟨xs, l, rfl, hc, hd, hw⟩ := h.at_
  exact ⟨v, l, rfl, hc.rdN hw, hk, hd, hc.bel, fun n c e => by
    rcases hc.own.2 with ⟨rfl, _⟩ | ⟨g, cap, cur, rfl, _⟩
    · cases e; rfl
    · cases e⟩

theorem Writs.step {W2 w1 w2 : World} {v2 : Value} {m pg : Nat} {p : List UInt8} {xs : List Value} {l : List (Int × List UInt8)} (hc : Copied w wr k v xs l) (hl : l.length = k) (hd : ∀ x ∈ l, x.2.length ≤ 100) (hw : ∀ x ∈ l, (Lit.int .i64 x.1).wf = true) (hf : Fills wr w1 m p) (hm : m ≤ 100) (hpg : pg ≤ 65535)
    (hb2 : Below w1.heap.size w1 W2) (hg : W2.grownBy w2 v.ownBlock) (hown : w2.ownsRow w.heap.size 42 2 v2 (k + 1) (xs ++ [.int .i64 (pg : Int), .slice (some ⟨wr.heap.size, 0, none⟩) m m])) (hB : Below w.heap.size w w2) : Writs w w2 (k + 1) v2 := by
  have hx : (l ++ [((pg : Int), p)])[k]? = some ((pg : Int), p) := by rw [List.getElem?_append_right (by omega), hl, Nat.sub_self]; rfl
  have ho := own_low hf.own hc.bel.size
  have hp := hf.len
  refine ⟨_, l ++ [((pg : Int), p)], by simp [hl], (hc.ext hl ((pg : Int), p)).step (v1 := .slice (some ⟨wr.heap.size, 0, none⟩) m m) hx (by rw [hp]; exact ho) hf.bel hb2 hg hown hB, fun x hx => ?_, fun x hx => ?_⟩
  · rcases List.mem_append.1 hx with hx | hx
    · exact hd x hx
    · rw [List.mem_singleton.1 hx]; show p.length ≤ 100; omega
  · rcases List.mem_append.1 hx with hx | hx
    · exact hw x hx
    · rw [List.mem_singleton.1 hx]; show (Lit.int .i64 (pg : Int)).wf = true; exact WalkArith.wf_i64 (by omega)
end

set_option maxRecDepth 100000 in
set_option maxHeartbeats 8000000 in
theorem writes36 {w : World} {F : Nat → Prop} (n : Nat) (hn : 0 < n ∧ n ≤ 4096) (av : Value) (L : List (List Int)) (hL : (rSlice rU2).rd w F [av] L) (hF : ∀ b, F b → b < w.heap.size) :
    Calls Tryd.prog 29 #[av, .int .i64 (n : Int)] w (Writ w) := by
  obtain ⟨q0, hq0, hr0, hr1, hr2⟩ := info_parts pw_info
  obtain ⟨a, c, rfl, hlc, hget⟩ := u2_get hL
  have hlm : L.length ≤ maxLen := by
    obtain ⟨a, n, c, e, h1, h2, h3, _⟩ := hL
    omega
  have HGT := Lib.hid hget
  have hll : 0 ≤ (L.length : Int) := by omega
  have hmax : max (n : Int) 1 = (n : Int) := by omega
  have hnb : 0 < (n : Int) ∧ (n : Int) ≤ 4096 := by omega
  clear hL hget
  go_enter Tryd.func29, Tryd.ntmps29
  go_wp2
  go_loopg [5, 6] 8 (fun gk t5 t6 wr => ∃ k : Nat, k ≤ 8 ∧ gk + k = 8 ∧ k ≤ L.length ∧ t6 = .int .i64 (k : Int) ∧ Writs w wr k t5)
  case atStart => exact ⟨0, by omega, by omega, by omega, rfl, ⟨[], [], rfl, ⟨Below.refl _ _, World.ownsRow_nil _ _ _ _, fun j x hj => by omega⟩, (fun x hx => by cases hx), (fun x hx => by cases hx)⟩⟩
  case round =>
    obtain ⟨k, hk, hgk, hkL, rfl, hS⟩ := hrel
    have HGK := Lib.hid hgk
    have HS := Lib.hid hS
    obtain ⟨xs, l, hl, hc, hd, hw⟩ := hS.at_
    have HC := Lib.hid hc
    have HLD := Lib.hid (And.intro hl (And.intro hd hw))
    obtain ⟨a5, c5, rfl⟩ : ∃ a c, _ = Value.slice a k c := by obtain ⟨a, c, e⟩ := Sl.len (Sl.of_own hc.own); exact ⟨a, c, e⟩
    have hk0 : 0 ≤ (k : Int) ∧ (k : Int) ≤ 8 := by omega
    clear hgk hS hl hc hd hw
    by_cases hin : k < L.length ∧ k < 8
    · have hd1 : decide ((k : Int) < (L.length : Int)) = true := by simp; omega
      have hd2 : decide ((k : Int) < 8) = true := by simp; omega
      have hi1 : (k : Int) < (L.length : Int) := by omega
      have hi2 : (k : Int) < 8 := by omega
      obtain ⟨g, off, p, q, rfl, hFg, hgl, e0, e1, hp, hq⟩ := HGT.out k hin.1
      obtain ⟨pn, rfl⟩ : ∃ pn : Nat, p = (pn : Int) := ⟨p.toNat, by omega⟩
      obtain ⟨qn, rfl⟩ : ∃ qn : Nat, q = (qn : Int) := ⟨q.toNat, by omega⟩
      obtain ⟨m0, hm0⟩ : ∃ m0, m0 = qn % 100 := ⟨_, rfl⟩
      have hmr : Int.tmod (qn : Int) 100 = (m0 : Int) := by subst hm0; rw [Int.tmod_eq_emod_of_nonneg (by omega)]; rfl
      obtain ⟨m, hm⟩ : ∃ m, m = 1 + m0 := ⟨_, rfl⟩
      have hmI : (1 : Int) + (m0 : Int) = (m : Int) := by omega
      have hm100 : m ≤ 100 := by omega
      have hm0b : 0 ≤ (m0 : Int) ∧ (m0 : Int) ≤ 99 := by omega
      have hmb : 0 ≤ (m : Int) ∧ (m : Int) ≤ 100 := by omega
      obtain ⟨pg, hpg⟩ : ∃ pg, pg = pn % n := ⟨_, rfl⟩
      have hpr : Int.tmod (pn : Int) (n : Int) = (pg : Int) := by subst hpg; rw [Int.tmod_eq_emod_of_nonneg (by omega)]; rfl
      have hpgle : pg ≤ pn := by rw [hpg]; exact Nat.mod_le _ _
      have hpgb : 0 ≤ (pg : Int) ∧ (pg : Int) ≤ 65535 := by omega
      have hmk := makeM m (by omega)
      have KEEP := Lib.hid (show ∀ w', Below w.heap.size w w' → w'.cell? ⟨g, off + k * 2, none⟩ = some (.int .u16 (pn : Int)) ∧ w'.cell? ⟨g, off + k * 2 + 1, none⟩ = some (.int .u16 (qn : Int)) from fun w' hb => ⟨(hb.cell (p := ⟨g, off + k * 2, none⟩) hgl).trans e0, (hb.cell (p := ⟨g, off + k * 2 + 1, none⟩) hgl).trans e1⟩)
      have d0 := (KEEP.out _ HC.out.bel).1
      have d1 := (KEEP.out _ HC.out.bel).2
      have HFI := Lib.hid (Fills.first wr m (by omega))
      clear e0 e1 hm hm0 hpg hin
      go_wp2
      generalize hgk1 : gk = gk1 at *
      generalize hwr1 : wr = wr1 at *
      clear hgk1 hwr1
      go_loopg [30] m (fun gk t wr => ∃ (i : Nat) (p : List UInt8), i ≤ m ∧ gk + i = m ∧ t = .int .i64 (i : Int) ∧ Fills wr1 wr m p)
      case atStart => exact ⟨0, _, by omega, by omega, rfl, HFI.out⟩
      case round =>
        obtain ⟨i, p, hi, hgk2, rfl, hF2⟩ := hrel
        have HGK2 := Lib.hid hgk2
        have HF2 := Lib.hid hF2
        have HBW := Lib.hid (HC.out.bel.trans (hF2.bel.mono HC.out.bel.size))
        clear hgk2 hF2 d0 d1
        by_cases him : i < m
        · have hd3 : decide ((i : Int) < (m : Int)) = true := by simp; omega
          have i0 : 0 ≤ (i : Int) ∧ (i : Int) ≤ 100 := by omega
          have i1 : (i : Int) < (m : Int) := by omega
          have d1 := (KEEP.out _ HBW.out).2
          have hq0 : 0 ≤ (qn : Int) ∧ (qn : Int) ≤ 65535 := hq
          obtain ⟨b, hb⟩ : ∃ b, p[i]? = some b := ⟨p[i]'(by rw [HF2.out.len]; exact him), List.getElem?_eq_getElem _⟩
          have dc : wr.cell? ⟨wr1.heap.size, i, none⟩ = some (.int .u8 (b.toNat : Int)) := by
            have e : wr.cell? ⟨wr1.heap.size, i, none⟩ = (pc p)[i]? := HF2.out.own.cellAt i (by omega)
            rw [e]; exact pc_get hb
          have df := HF2.out.own.frozenAt i
          have HST := Lib.hid (show ∀ y : Int, 0 ≤ y → y < 256 → ∃ p', Fills wr1 (wr.setCell ⟨wr1.heap.size, i, none⟩ (.int .u8 y)) m p' from fun y h0 h1 => HF2.out.store him h0 h1)
          clear hb
          go_wp2
          go_roundg (gk - 1)
          case measure => have := HGK2.out; omega
          case rel =>
            obtain ⟨p', hf'⟩ := HST.out (((qn : Int) + 3 * (i : Int)) % 256) (by omega) (by omega)
            exact ⟨i + 1, p', by omega, by have := HGK2.out; omega, by go_num, hf'⟩
        · have hd3 : decide ((i : Int) < (m : Int)) = false := by simp; omega
          have d0 := (KEEP.out _ HBW.out).1
          have hp0 : 0 ≤ (pn : Int) ∧ (pn : Int) ≤ 65535 := hp
          have HZ := Lib.hid (show w.heap.size ≤ wr.heap.size from HBW.out.size)
          go_wp2_with (at_builtin; refine wpList_append_sl rfl _ _ 43 rfl w.heap.size 42 q0 _ 2 32 Tryd.underlying43 hq0 hr0 hr1 hr2 rfl (by decide) _ k xs rfl ((own_at' HC.out.own HF2.out.bel).alloc _) _ 1 [.int .i64 (pg : Int), .slice (some ⟨wr1.heap.size, 0, none⟩) m m] rfl (sl_at2 rfl) (fun _ _ h => by cases h) (one_two _ _ rfl rfl) (by unfold maxLen; omega) (by omega) (by have := HZ.out; simp; omega) ?_)
          intro v3 w3 hown3 hg3 hb3
          have HW3 := Lib.hid (show Writs w w3 (k + 1) v3 from Writs.step HC.out HLD.out.1 HLD.out.2.1 HLD.out.2.2 HF2.out hm100 (by omega) ((Below.refl _ _).alloc (Nat.le_refl _) _) hg3 hown3 ((HBW.out.alloc HZ.out _).trans hb3))
          clear hown3 hg3 hb3
          go_wp2
          go_roundg (gk1 - 1)
          case measure => have := HGK.out; omega
          case rel => exact ⟨k + 1, by omega, by have := HGK.out; omega, by omega, by go_num, HW3.out⟩
    · have HFIN := Lib.hid (HS.out.done (by omega))
      by_cases hil : k = L.length
      · subst hil
        have hd1 : decide ((L.length : Int) < (L.length : Int)) = false := by simp
        clear hin
        go_wp2
        go_ret
        exact HFIN.out
      · obtain rfl : k = 8 := by omega
        have hi1 : (8 : Int) < (L.length : Int) := by omega
        have hd1 : decide ((8 : Int) < (L.length : Int)) = true := decide_eq_true hi1
        clear hin
        go_wp2
        go_ret
        exact HFIN.out
end Go.Proofs.YtngddhoolijimaaDoor
namespace Go.Proofs.YtngddhoolijimaaDoor
open Go.RowKit
set_option linter.unusedVariables false
set_option linter.unusedSimpArgs false

theorem LM.rows {W w : World} {E : Nat → Prop} {wb fb pb n N : Nat} {B : DB} {f : PF} {d : DK} {P : List (List UInt8)} {mt : Option (Nat × List (List UInt8))} {down : Bool} (h : LM W w E wb B fb pb n N f d P mt down) : ∃ sa sc, w.cell? ⟨pb, 0, none⟩ = some (.slice sa n sc) := by
  obtain ⟨sv, c, hs⟩ := h.pg.at_
  obtain ⟨sa, sc, rfl, _⟩ := bs_get hs
  rw [h.pays.len] at c
  exact ⟨sa, sc, c⟩

theorem LW.n0 {W w : World} {E : Nat → Prop} {wb fb pb n N : Nat} {B : DB} {f : PF} {d : DK} {P : List (List UInt8)} {mt : Option (Nat × List (List UInt8))} {down : Bool} (h : LM W w E wb B fb pb n N f d P mt down) : 0 < n ∧ n ≤ 4096 := by
  have := capN_room h.big
  rw [h.cap] at this
  exact ⟨this.1, this.2.2⟩

set_option maxRecDepth 100000 in
set_option maxHeartbeats 8000000 in
theorem atomic36_walk (p0 : Int) (v1 v2 v4 : Value) (L1 L2 : List (List Int)) (a3 : Int) (keep : List Int) (a5 : Int) (h0 : (Lit.int .u8 p0).wf = true) (h3 : (Lit.int .u8 a3).wf = true) (h5 : (Lit.int .u8 a5).wf = true) (W : World)
    (o1 : (rSlice rU2).rd W (· < W.heap.size) [v1] L1) (o2 : (rSlice rU2).rd W (· < W.heap.size) [v2] L2) (o4 : (rSlice (rInt .i64)).rd W (· < W.heap.size) [v4] keep) :
    Calls Tryd.prog 6 #[.int .u8 p0, v1, v2, .int .u8 a3, v4, .int .u8 a5] W (Holds W) := by
  obtain ⟨pn, hp, rfl⟩ := wf_u8n h0
  obtain ⟨an, ha, rfl⟩ := wf_u8n h3
  obtain ⟨rn, hr, rfl⟩ := wf_u8n h5
  obtain ⟨ka, kl, kc, e, rfl, _, hkm, _⟩ := id o4
  obtain rfl : v4 = .slice ka keep.length kc := by simpa using e
  have HO1 := Lib.hid o1
  have HO2 := Lib.hid o2
  have HO4 := Lib.hid o4
  have hk0 : 0 ≤ (keep.length : Int) := by omega
  clear o1 o2 o4 e h0 h3 h5
  by_cases hk : 100 < keep.length
  · have g1 : decide ((100 : Int) < (keep.length : Int)) = true := by simp; omega
    have g1' : (100 : Int) < (keep.length : Int) := by omega
    go_enter Tryd.func6, Tryd.ntmps6
    go_wp2_with fail
    refine (awake36_any _).mono ?_
    rintro e w1 ⟨rfl, hb⟩
    have HB := Lib.hid hb
    clear hb
    go_wp2
    go_ret
    exact ⟨rfl, HB.out⟩
  · have g1 : decide ((100 : Int) < (keep.length : Int)) = false := by simp; omega
    have g1' : ¬ (100 : Int) < (keep.length : Int) := by omega
    have HK := Lib.hid (show keep.length ≤ 1000000 by omega)
    obtain ⟨m, hm⟩ : ∃ m, m = 1 + an % 40 := ⟨_, rfl⟩
    obtain ⟨m0, hm0⟩ : ∃ m0, m0 = an % 40 := ⟨_, rfl⟩
    have hmr : Int.tmod (an : Int) 40 = (m0 : Int) := by subst hm0; rw [Int.tmod_eq_emod_of_nonneg (by omega)]; rfl
    have hmI : (1 : Int) + (m0 : Int) = (m : Int) := by omega
    have hmb : 0 ≤ (m0 : Int) ∧ (m0 : Int) ≤ 39 := by omega
    have hmb2 : 0 ≤ (m : Int) ∧ (m : Int) ≤ 40 := by omega
    obtain ⟨r0, hr0⟩ : ∃ r0, r0 = rn % 30 := ⟨_, rfl⟩
    have hrr : Int.tmod (rn : Int) 30 = (r0 : Int) := by subst hr0; rw [Int.tmod_eq_emod_of_nonneg (by omega)]; rfl
    have hrb : 0 ≤ (r0 : Int) ∧ (r0 : Int) ≤ 29 := by omega
    have hwm : (Lit.int .i64 (m : Int)).wf = true := WalkArith.wf_i64 (by omega)
    have hwr : (Lit.int .i64 (r0 : Int)).wf = true := WalkArith.wf_i64 (by omega)
    have HWM := Lib.hid (And.intro hwm hwr)
    clear hm hm0 hr0 hk hwm hwr
    go_enter Tryd.func6, Tryd.ntmps6
    go_wp2_with fail
    refine (begin36 pn hp _ _ (fun _ => False) (fun _ h => h.elim) (Below.refl _ _)).mono ?_
    rintro e w1 ⟨wb, B, fb, pb, d, rfl, hL, -, -, -⟩
    obtain ⟨n, hn⟩ : ∃ n, n = capN (7 + pn % 25) := ⟨_, rfl⟩
    obtain ⟨N, hN⟩ : ∃ N, N = 7 + pn % 25 := ⟨_, rfl⟩
    rw [← hn, ← hN] at hL
    obtain ⟨Z, hZ⟩ : ∃ Z, Z = zeroP n := ⟨_, rfl⟩
    rw [← hZ] at hL
    have HL1 := Lib.hid hL
    have HN0 := Lib.hid (LW.n0 hL.lm)
    have hnb : 0 ≤ (n : Int) ∧ (n : Int) ≤ 4096 := by have := HN0.out; omega
    have c2 := hL.lm.c2
    obtain ⟨sa, sc, cp⟩ := hL.lm.rows
    clear hn hN hZ hL hp ha hr
    go_wp2_with fail
    refine (writes36 n HN0.out v1 L1 ((rSlice rU2).keep (fun b hb hl => HL1.out.lm.bel.block b hb) HL1.out.lm.bel.size HO1.out) (fun b hb => Nat.lt_of_lt_of_le hb HL1.out.lm.bel.size)).mono ?_
    rintro e w2 ⟨xv, X, rfl, hX, hX8, hXd, hb, -⟩
    have HL2 := Lib.hid (HL1.out.below hb)
    have HX := Lib.hid (And.intro hX (And.intro hX8 hXd))
    have HXO := Lib.hid (show ∀ b, (w1.heap.size ≤ b ∧ b < w2.heap.size) → b < w2.heap.size ∧ ¬ LB B fb wb b from fun b hb => ⟨hb.2, fun e => by have := HL1.out.lm.bl b e; omega⟩)
    clear hX hX8 hXd hb c2 cp
    go_wp2_with fail
    refine (write36 HL2.out (fun _ h => h.elim) xv X HX.out.1 HXO.out (by have := HX.out.2.1; omega) (fun x hx => by have := HX.out.2.2 x hx; omega)).mono ?_
    rintro e w3 ⟨rfl, pb3, f3, d3, P3, mt3, down3, hL, -, -⟩
    have HL3 := Lib.hid hL
    have c0 := hL.lm.c0
    clear hL
    go_wp2_with fail
    refine (dk_failAfter HL3.out.lm.disk (m : Int) HWM.out.1).mono ?_
    rintro e w4 ⟨rfl, hT⟩
    have HL4 := Lib.hid (HL3.out.arm (m : Int) hT)
    have c2 := HL4.out.lm.c2
    obtain ⟨sa4, sc4, cp4⟩ := HL4.out.lm.rows
    clear hT c0
    go_wp2_with fail
    refine (writes36 n HN0.out v2 L2 ((rSlice rU2).keep (fun b hb hl => HL4.out.lm.bel.block b hb) HL4.out.lm.bel.size HO2.out) (fun b hb => Nat.lt_of_lt_of_le hb HL4.out.lm.bel.size)).mono ?_
    rintro e w5 ⟨yv, Y, rfl, hY, hY8, hYd, hb, -⟩
    have HL5 := Lib.hid (HL4.out.below hb)
    have HY := Lib.hid (And.intro hY (And.intro hY8 hYd))
    have HYO := Lib.hid (show ∀ b, (w4.heap.size ≤ b ∧ b < w5.heap.size) → b < w5.heap.size ∧ ¬ LB B fb wb b from fun b hb => ⟨hb.2, fun e => by have := HL4.out.lm.bl b e; omega⟩)
    clear hY hY8 hYd hb c2 cp4
    go_wp2_with fail
    refine (write36 HL5.out (fun _ h => h.elim) yv Y HY.out.1 HYO.out (by have := HY.out.2.1; omega) (fun x hx => by have := HY.out.2.2 x hx; omega)).mono ?_
    rintro e w6 ⟨rfl, pb6, f6, d6, P6, mt6, down6, hL, -, -⟩
    have HL6 := Lib.hid hL
    have c0 := hL.lm.c0
    clear hL
    go_wp2_with fail
    refine (dk_crash HL6.out.lm.disk (.slice ka keep.length kc) keep (keep_of HO4.out (fun b hb => ⟨hb, fun e => by have := HL6.out.lm.bge b (.inr (.inl e)); omega⟩) HL6.out.lm.bel) HK.out).mono ?_
    rintro e w7 ⟨rfl, hT⟩
    have HL7 := Lib.hid (HL6.out.lm.turns' hT)
    have HR7 := Lib.hid (HL6.out.ready.crash keep)
    clear hT c0
    go_wp2_with fail
    refine (awake36_any _).mono ?_
    rintro e w8 ⟨rfl, hb⟩
    have HL8 := Lib.hid (HL7.out.below hb)
    clear hb
    go_wp2_with fail
    refine (open36 HL8.out HR7.out (fun _ h => h.elim) (r0 : Int) HWM.out.2 (.slice ka keep.length kc) keep HO4.out HK.out).mono ?_
    rintro e w9 ⟨rfl, fb9, pb9, d9, P9, hL, -, -, -, -⟩
    have HL9 := Lib.hid hL
    clear hL
    go_wp2_with fail
    refine (open36 HL9.out.lm HL9.out.ready (fun _ h => h.elim) 0 (by rfl) (.slice none 0 0) [] ⟨none, 0, 0, rfl, rfl, Nat.le_refl _, Nat.zero_le _, .inl rfl⟩ (by simp)).mono ?_
    rintro e w10 ⟨rfl, fbA, pbA, dA, PA, hL, -, -, -, -⟩
    have HFIN := Lib.hid hL.lm.bel
    clear hL
    go_wp2
    go_ret
    exact ⟨rfl, HFIN.out⟩
end Go.Proofs.YtngddhoolijimaaDoor
namespace Go.Proofs.YtngddhoolijimaaDoor
open Go.RowKit
set_option linter.unusedVariables false
set_option linter.unusedSimpArgs false

theorem pws_open {w : World} {F : Nat → Prop} {v : Value} {l : List (Int × List UInt8)} (h : (rSlice rPWN).rd w F [v] l) : ∃ xs : List Value, Sl w 2 v l.length xs ∧ ∀ (j : Nat) (x : Int × List UInt8), l[j]? = some x → ∃ u, xs[j * 2]? = some (.int .i64 x.1) ∧ xs[j * 2 + 1]? = some u ∧ (rSliceN rByte).rd w F [u] x.2 ∧ (Lit.int .i64 x.1).wf = true ∧ u.oneCell' = true := by
  obtain ⟨a, n, c, e, rfl, hnc, hcm, h4⟩ := h
  obtain rfl : v = .slice a l.length c := by simpa using e
  have each : ∀ (k : Nat) (x : Int × List UInt8), l[k]? = some x → ∃ g off u, a = some ⟨g, off, none⟩ ∧ g < w.heap.size ∧ w.cell? ⟨g, off + k * 2, none⟩ = some (.int .i64 x.1) ∧ w.cell? ⟨g, off + k * 2 + 1, none⟩ = some u ∧ (rSliceN rByte).rd w F [u] x.2 ∧ (Lit.int .i64 x.1).wf = true ∧ u.oneCell' = true := fun k x hx => by
    rcases h4 with h4 | ⟨b, off, rfl, hF, hb, h⟩
    · have := (List.getElem?_eq_some_iff.1 hx).1; omega
    · obtain ⟨ys, hA, u1, v1, rfl, ⟨rfl, hw⟩, hd⟩ := h k x hx
      obtain ⟨da, dn, dc, e1, _⟩ := id hd.1
      subst e1
      exact ⟨b, off, _, rfl, hb, hA 0 _ rfl, hA 1 _ rfl, hd, hw, rfl⟩
  have key : ∀ (m : Nat), m ≤ l.length → ∃ xs : List Value, xs.length = m * 2 ∧ (∀ (j : Nat) (u : Value), xs[j]? = some u → ∃ g off, a = some ⟨g, off, none⟩ ∧ g < w.heap.size ∧ w.cell? ⟨g, off + j, none⟩ = some u) ∧ ∀ (j : Nat) (x : Int × List UInt8), j < m → l[j]? = some x → ∃ u, xs[j * 2]? = some (.int .i64 x.1) ∧ xs[j * 2 + 1]? = some u ∧ (rSliceN rByte).rd w F [u] x.2 ∧ (Lit.int .i64 x.1).wf = true ∧ u.oneCell' = true := by
    intro m
    induction m with
    | zero => exact fun _ => ⟨[], rfl, fun j u h => by simp at h, fun j x h => by omega⟩
    | succ m ih =>
      intro hm
      obtain ⟨xs, h1, h2, h3⟩ := ih (by omega)
      obtain ⟨x, hx⟩ : ∃ x, l[m]? = some x := ⟨_, List.getElem?_eq_getElem (by omega)⟩
      obtain ⟨g, off, u, ea, hgl, hc0, hc1, hu, hw, ho⟩ := each m x hx
      refine ⟨xs ++ [.int .i64 x.1, u], by simp [h1]; omega, fun j v hv => ?_, fun j y hj hy => ?_⟩
      · by_cases hj : j < m * 2
        · rw [List.getElem?_append_left (by omega)] at hv
          exact h2 j v hv
        · have hjl := (List.getElem?_eq_some_iff.1 hv).1
          rw [List.length_append, h1] at hjl
          rw [List.getElem?_append_right (by omega), h1] at hv
          have hjl2 : j < m * 2 + 2 := by simpa using hjl
          rcases (show j = m * 2 ∨ j = m * 2 + 1 by omega) with rfl | rfl
          · rw [Nat.sub_self] at hv
            obtain rfl : Value.int .i64 x.1 = v := by simpa using hv
            exact ⟨g, off, ea, hgl, hc0⟩
          · rw [show m * 2 + 1 - m * 2 = 1 by omega] at hv
            obtain rfl : u = v := by simpa using hv
            exact ⟨g, off, ea, hgl, by rw [← Nat.add_assoc]; exact hc1⟩
      · by_cases hjm : j < m
        · obtain ⟨u', e1, e2, e3⟩ := h3 j y hjm hy
          exact ⟨u', by rw [List.getElem?_append_left (by omega)]; exact e1, by rw [List.getElem?_append_left (by omega)]; exact e2, e3⟩
        · obtain rfl : j = m := by omega
          rw [hx] at hy; cases hy
          exact ⟨u, by rw [List.getElem?_append_right (by omega), h1, Nat.sub_self]; rfl, by rw [List.getElem?_append_right (by omega), h1, show j * 2 + 1 - j * 2 = 1 by omega]; rfl, hu, hw, ho⟩
  obtain ⟨xs, h1, h2, h3⟩ := key l.length (Nat.le_refl _)
  refine ⟨xs, ⟨h1, ?_⟩, fun j x hx => h3 j x (List.getElem?_eq_some_iff.1 hx).1 hx⟩
  by_cases h0 : l.length = 0
  · exact .inl ⟨h0, a, c, by rw [h0]⟩
  · obtain ⟨u, hu⟩ : ∃ u, xs[0]? = some u := ⟨xs[0]'(by omega), List.getElem?_eq_getElem _⟩
    obtain ⟨g, off, ea, hgl, _⟩ := h2 0 u hu
    refine .inr ⟨g, off, c, by rw [ea], hnc, hgl, fun j u hu => ?_⟩
    obtain ⟨g', off', ea', _, hc⟩ := h2 j u hu
    rw [ea] at ea'
    cases ea'
    exact hc
end Go.Proofs.YtngddhoolijimaaDoor
namespace Go.Proofs.YtngddhoolijimaaDoor
open Go.RowKit
set_option linter.unusedVariables false
set_option linter.unusedSimpArgs false

theorem rd_oneN {w : World} {F : Nat → Prop} {t : TypeId} {p : Int} {v : Value} {l : List UInt8} (hp : (Lit.int .i64 p).wf = true) (h : (rSliceN rByte).rd w F [v] l) (hF : F w.heap.size) :
    (rSlice rPWN).rd (w.alloc (.cells #[.int .i64 p, v] t)) F [.slice (some ⟨w.heap.size, 0, none⟩) 1 1] [(p, l)] := by
  have hb : Below w.heap.size w (w.alloc (.cells #[.int .i64 p, v] t)) := (Below.refl _ _).alloc (Nat.le_refl _) _
  refine ⟨_, 1, 1, rfl, rfl, Nat.le_refl _, by unfold maxLen; omega, .inr ⟨w.heap.size, 0, rfl, hF, by simp, fun i x hx => ?_⟩⟩
  match i, hx with
  | 0, hx =>
    obtain rfl : (p, l) = x := by simpa using hx
    refine ⟨[.int .i64 p, v], fun j u hu => ?_, [.int .i64 p], [v], rfl, ⟨rfl, hp⟩, (rSliceN rByte).keep (fun b _ hl => hb.block b hl) hb.size h⟩
    have := new_cells w [.int .i64 p, v] t j u hu
    rw [Addr.add_mid] at this
    simpa using this

theorem rd_more {w' : World} {G : Nat → Prop} {base : Nat} {v2 : Value} {xs : List Value} {X : List (Int × List UInt8)} {page : Int} (hown : w'.ownsRow base 42 2 v2 (X.length + 1) (xs ++ [.int .i64 page, .slice none 0 0])) (hl : xs.length = X.length * 2) (hp : (Lit.int .i64 page).wf = true)
    (hx : ∀ (j : Nat) (x : Int × List UInt8), X[j]? = some x → ∃ u, xs[j * 2]? = some (.int .i64 x.1) ∧ xs[j * 2 + 1]? = some u ∧ (rSliceN rByte).rd w' G [u] x.2 ∧ (Lit.int .i64 x.1).wf = true) (hF : ∀ b, base ≤ b → b < w'.heap.size → G b) : (rSlice rPWN).rd w' G [v2] (X ++ [(page, [])]) := by
  have hlen : (X ++ [(page, ([] : List UInt8))]).length = X.length + 1 := by simp
  refine rd_own (R := rPWN) hown ⟨hown.1, hlen, fun i x hi => ?_⟩ hF
  have e1 : rPWN.size = 2 := rfl
  rw [e1]
  by_cases h : i < X.length
  · rw [List.getElem?_append_left h] at hi
    obtain ⟨u, a, b, c, d⟩ := hx i x hi
    rw [two_at (a := .int .i64 x.1) (b := u) (by rw [List.getElem?_append_left (by omega)]; exact a) (by rw [List.getElem?_append_left (by omega)]; exact b)]
    exact ⟨[.int .i64 x.1], [u], rfl, ⟨rfl, d⟩, c⟩
  · have hil := (List.getElem?_eq_some_iff.1 hi).1
    rw [hlen] at hil
    obtain rfl : i = X.length := by omega
    rw [List.getElem?_append_right (by omega), Nat.sub_self] at hi
    obtain rfl : (page, ([] : List UInt8)) = x := by simpa using hi
    rw [two_at (a := .int .i64 page) (b := .slice none 0 0) (by rw [List.getElem?_append_right (by omega), hl, Nat.sub_self]; rfl) (by rw [List.getElem?_append_right (by omega), hl, show X.length * 2 + 1 - X.length * 2 = 1 by omega]; rfl)]
    exact ⟨[.int .i64 page], [.slice none 0 0], rfl, ⟨rfl, hp⟩, rd_nil _ _, fun n c e => by cases e; rfl⟩

/-- What erase leaves. -/
def Erased (W w : World) (E : Nat → Prop) (wb : Nat) (B : DB) (fb n N : Nat) (e : Ending) (w' : World) : Prop :=
  ∃ fell fb' pb' d' P', e = .returned (.tuple #[.bool true, .bool fell]) ∧ LW W w' E wb B fb' pb' n N ⟨n, false⟩ d' P' none false ∧ (fb' = fb ∨ w.heap.size ≤ fb') ∧ Chg (LB B fb wb) w w'

set_option maxRecDepth 100000 in
set_option maxHeartbeats 8000000 in
theorem erase36 {W w : World} {E G : Nat → Prop} {wb fb pb n N : Nat} {B : DB} {f : PF} {d : DK} {P : List (List UInt8)} {mt : Option (Nat × List (List UInt8))} {down : Bool} (h : LW W w E wb B fb pb n N f d P mt down) (hE : ∀ b, E b → b < w.heap.size) (page : Int) (hp : (Lit.int .i64 page).wf = true)
    (dv lv kv : Value) (data : List UInt8) (X : List (Int × List UInt8)) (keep : List Int) (hd : (rSliceN rByte).rd w G [dv] data) (hdl : data.length ≤ 1000) (hX : (rSlice rPWN).rd w G [lv] X) (hno : ∀ n c, lv = .slice none n c → c = 0) (hXl : X.length ≤ 8) (hXd : ∀ x ∈ X, x.2.length ≤ 100)
    (hG : ∀ b, G b → b < w.heap.size ∧ ¬ LB B fb wb b) (arm : Int) (harm : (Lit.int .i64 arm).wf = true) (hk : (rSlice (rInt .i64)).rd W (· < W.heap.size) [kv] keep) (hkm : keep.length ≤ 1000000) :
    Calls Tryd.prog 31 #[.pointer (some ⟨wb, 0, none⟩), .int .i64 page, dv, lv, .int .i64 arm, kv] w (Erased W w E wb B fb n N) := by
  obtain ⟨q0, hq0, hr0, hr1, hr2⟩ := info_parts pw_info
  obtain ⟨da, dn, dc, e, rfl, _, _, _⟩ := id hd.1
  obtain rfl : dv = .slice da data.length dc := by simpa using e
  have HL := Lib.hid h
  have HE := Lib.hid hE
  have HD := Lib.hid (And.intro hd hdl)
  have HX := Lib.hid (And.intro hX (And.intro hno (And.intro hXl hXd)))
  have HG := Lib.hid hG
  have HK := Lib.hid (And.intro hk hkm)
  have HP := Lib.hid (And.intro hp harm)
  clear h hE hd hdl hX hno hXl hXd hG hk hkm e hp harm
  go_enter Tryd.func31, Tryd.ntmps31
  go_wp2_with fail
  obtain ⟨W1, hW1⟩ : ∃ W1, W1 = w.alloc (.cells #[.int .i64 page, .slice da data.length dc] 42) := ⟨_, rfl⟩
  have HB1 := Lib.hid (show Below w.heap.size w W1 from by rw [hW1]; exact (Below.refl _ _).alloc (Nat.le_refl _) _)
  have HR1 := Lib.hid (show (rSlice rPWN).rd W1 (fun b => G b ∨ b = w.heap.size) [.slice (some ⟨w.heap.size, 0, none⟩) 1 1] [(page, data)] from by
    rw [hW1]; exact rd_oneN HP.out.1 ((rSliceN rByte).more (fun b hb => .inl hb) HD.out.1) (.inr rfl))
  have HZ1 := Lib.hid (show W1.heap.size = w.heap.size + 1 by rw [hW1]; simp)
  rw [← hW1]
  clear hW1
  have HL1 := Lib.hid (HL.out.below HB1.out)
  refine (write36 HL1.out (fun b hb => Nat.lt_of_lt_of_le (HE.out b hb) HB1.out.size) (.slice (some ⟨w.heap.size, 0, none⟩) 1 1) [(page, data)] HR1.out (fun b hb => by
    rcases hb with hb | rfl
    · exact ⟨Nat.lt_of_lt_of_le (HG.out b hb).1 HB1.out.size, (HG.out b hb).2⟩
    · exact ⟨by have := HZ1.out; omega, fun e => by have := HL.out.lm.bl _ e; omega⟩) (by simp) (fun x hx => by rw [List.mem_singleton.1 hx]; exact HD.out.2)).mono ?_
  rintro e w2 ⟨rfl, pb2, f2, d2, P2, mt2, down2, hL, -, hC⟩
  have HL2 := Lib.hid hL
  have HC2 := Lib.hid (show Chg (LB B fb wb) w w2 from chg_then (Chg.of_below HB1.out) hC (fun b _ h => h))
  have c0 := hL.lm.c0
  clear hL hC
  go_wp2_with fail
  refine (dk_failAfter HL2.out.lm.disk arm HP.out.2).mono ?_
  rintro e w3 ⟨rfl, hT⟩
  have HL3 := Lib.hid (HL2.out.arm arm hT)
  have HC3 := Lib.hid (show Chg (LB B fb wb) w w3 from chg_then HC2.out hT.2 (fun b _ h => .inl h))
  have HX3 := Lib.hid (show (rSlice rPWN).rd w3 G [lv] X from (rSlice rPWN).keep (fun b hb hl => HC3.out.block b hl (HG.out b hb).2) HC3.out.size HX.out.1)
  obtain ⟨xs, hsl, hel⟩ := pws_open HX3.out
  have HSL := Lib.hid hsl
  have HEL := Lib.hid hel
  clear hT c0 hsl hel
  have hone : ∀ u ∈ xs, u.oneCell' = true := fun u hu => by
    obtain ⟨j, hj, e⟩ := List.getElem_of_mem hu
    have hjl : j < X.length * 2 := by have := HSL.out.1; omega
    obtain ⟨x, hx⟩ : ∃ x, X[j / 2]? = some x := ⟨_, List.getElem?_eq_getElem (by omega)⟩
    obtain ⟨u', e1, e2, _, _, ho⟩ := HEL.out _ x hx
    have hju : xs[j]? = some u := by rw [List.getElem?_eq_getElem hj, e]
    rcases Nat.mod_two_eq_zero_or_one j with hj2 | hj2
    · rw [show j / 2 * 2 = j by omega, hju] at e1; cases e1; rfl
    · rw [show j / 2 * 2 + 1 = j by omega, hju] at e2; cases e2; exact ho
  have HONE := Lib.hid hone
  clear hone
  go_wp2_with (at_builtin; refine wpList_append_sl rfl _ _ 43 rfl w3.heap.size 42 q0 _ 2 32 Tryd.underlying43 hq0 hr0 hr1 hr2 rfl (by decide) _ 0 [] rfl (World.ownsRow_nil _ _ _ _) _ X.length xs rfl HSL.out HX.out.2.1 HONE.out (by unfold maxLen; have := HX.out.2.2.1; omega) (by have := HX.out.2.2.1; omega) (Nat.le_refl _) ?_)
  intro v4 w4 hown4 hg4 hb4
  have HO4 := Lib.hid hown4
  have HB4 := Lib.hid (show Below w3.heap.size w3 w4 from hb4)
  have HXL := Lib.hid HX.out.2.2.1
  clear hown4 hg4 hb4
  go_wp2_with (at_builtin; refine wpList_append_sl rfl _ _ 43 rfl w3.heap.size 42 q0 _ 2 32 Tryd.underlying43 hq0 hr0 hr1 hr2 rfl (by decide) _ X.length xs rfl (HO4.out.alloc _) _ 1 [.int .i64 page, .slice none 0 0] rfl (sl_at2 rfl) (fun _ _ h => by cases h) (one_two _ _ rfl rfl) (by unfold maxLen; have := HXL.out; omega) (by have := HXL.out; omega) (by have := HB4.out.size; simp; omega) ?_)
  intro v5 w5 hown5 hg5 hb5
  have HB5 := Lib.hid (show Below w3.heap.size w3 w5 from (HB4.out.alloc HB4.out.size _).trans hb5)
  have HR5 := Lib.hid (show (rSlice rPWN).rd w5 (fun b => G b ∨ (w3.heap.size ≤ b ∧ b < w5.heap.size)) [v5] (X ++ [(page, [])]) from rd_more hown5 HSL.out.1 HP.out.1 (fun j x hx => by
    obtain ⟨u, a1, a2, a3, a4, _⟩ := HEL.out j x hx
    exact ⟨u, a1, a2, (rSliceN rByte).more (fun b hb => .inl hb) ((rSliceN rByte).keep (fun b _ hl => HB5.out.block b hl) HB5.out.size a3), a4⟩) (fun b hb hb2 => .inr ⟨hb, hb2⟩))
  have HL5 := Lib.hid (HL3.out.below HB5.out)
  have HC5 := Lib.hid (show Chg (LB B fb wb) w w5 from chg_then HC3.out (Chg.of_below (F := fun _ => False) HB5.out) (fun _ _ h => h.elim))
  clear hown5 hg5 hb5
  go_wp2_with fail
  refine (write36 HL5.out (fun b hb => Nat.lt_of_lt_of_le (HE.out b hb) HC5.out.size) v5 (X ++ [(page, [])]) HR5.out (fun b hb => by
    rcases hb with hb | hb
    · exact ⟨Nat.lt_of_lt_of_le (HG.out b hb).1 HC5.out.size, (HG.out b hb).2⟩
    · exact ⟨hb.2, fun e => by have := HL3.out.lm.bl _ e; omega⟩) (by have := HX.out.2.2.1; simp; omega) (fun x hx => by
    rcases List.mem_append.1 hx with hx | hx
    · have := HX.out.2.2.2 x hx; omega
    · rw [List.mem_singleton.1 hx]; simp)).mono ?_
  rintro e w6 ⟨rfl, pb6, f6, d6, P6, mt6, down6, hL, -, hC⟩
  have HL6 := Lib.hid hL
  have HC6 := Lib.hid (show Chg (LB B fb wb) w w6 from chg_then HC5.out hC (fun b _ h => h))
  have c4 := hL.lm.c4
  have c0 := hL.lm.c0
  clear hL hC
  cases down6 with
  | false =>
    obtain ⟨hf, hm, hc⟩ := HL6.out.up rfl
    have hfe : f6 = ⟨n, false⟩ := by
      have := HL6.out.lm.fn
      cases f6; simp_all
    subst hfe
    subst hm
    have HFIN := Lib.hid (show Erased W w E wb B fb n N (.returned (.tuple #[.bool true, .bool false])) w6 from ⟨false, fb, pb6, d6, P6, rfl, HL6.out, .inl rfl, HC6.out⟩)
    clear hf hc
    go_wp2
    go_ret2
    exact HFIN.out
  | true =>
    go_wp2_with fail
    refine (dk_crash HL6.out.lm.disk kv keep (keep_of HK.out.1 (fun b hb => ⟨hb, fun e => by have := HL6.out.lm.bge b (.inr (.inl e)); omega⟩) HL6.out.lm.bel) HK.out.2).mono ?_
    rintro e w7 ⟨rfl, hT⟩
    have HL7 := Lib.hid (HL6.out.lm.turns' hT)
    have HR7 := Lib.hid (HL6.out.ready.crash keep)
    have HC7 := Lib.hid (show Chg (LB B fb wb) w w7 from chg_then HC6.out hT.2 (fun b _ h => .inl h))
    clear hT c0 c4
    go_wp2_with fail
    refine (open36 HL7.out HR7.out (fun b hb => Nat.lt_of_lt_of_le (HE.out b hb) HC7.out.size) 0 (by rfl) (.slice none 0 0) [] ⟨none, 0, 0, rfl, rfl, Nat.le_refl _, Nat.zero_le _, .inl rfl⟩ (by simp)).mono ?_
    rintro e w8 ⟨rfl, fb8, pb8, d8, P8, hL, -, -, hfb8, hC⟩
    have HFIN := Lib.hid (show Erased W w E wb B fb n N (.returned (.tuple #[.bool true, .bool true])) w8 from ⟨true, fb8, pb8, d8, P8, rfl, hL, .inr (Nat.le_trans HC7.out.size hfb8), chg_then HC7.out hC (fun b _ h => h)⟩)
    clear hL hC hfb8
    go_wp2
    go_ret2
    exact HFIN.out
end Go.Proofs.YtngddhoolijimaaDoor
namespace Go.Proofs.YtngddhoolijimaaDoor
open Go.RowKit
set_option linter.unusedVariables false
set_option linter.unusedSimpArgs false

set_option maxRecDepth 100000 in
set_option maxHeartbeats 4000000 in
theorem sameDisk36 {w : World} {Ba Bb : DB} {da db : DK} {n N : Nat} {P : List (List UInt8)} (ha : IsDisk w Ba da) (hb : IsDisk w Bb db) (ca : Clean n N P da) (cb : Clean n N P db) (hN : N ≤ 4096) :
    Calls Tryd.prog 32 #[.pointer (some ⟨Ba.db, 0, none⟩), .pointer (some ⟨Bb.db, 0, none⟩)] w fun e w' => e = .returned (.bool true) ∧ Below w.heap.size w w' := by
  have hread : ∀ i : Nat, i < N → da.chk (i : Int) = 0 ∧ db.chk (i : Int) = 0 ∧ da.read (i : Int) = db.read (i : Int) := fun i hi => by
    have k1 : da.chk (i : Int) = 0 := by unfold DK.chk; rw [ca.up, ca.len]; simp; omega
    have k2 : db.chk (i : Int) = 0 := by unfold DK.chk; rw [cb.up, cb.len]; simp; omega
    refine ⟨k1, k2, ?_⟩
    unfold DK.read
    rw [if_pos k1, if_pos k2]
    unfold DK.get
    rw [ca.buf, cb.buf, ca.st, cb.st]
  have HR := Lib.hid hread
  have HA := Lib.hid ha
  have HB := Lib.hid hb
  have HLA := Lib.hid ca.len
  have HLB := Lib.hid cb.len
  have hnb : 0 ≤ (N : Int) ∧ (N : Int) ≤ 4096 := by omega
  clear hread ha hb ca cb
  go_enter Tryd.func32, Tryd.ntmps32
  go_wp2
  go_loopg [5] N (fun gk t5 wr => ∃ i : Nat, i ≤ N ∧ gk + i = N ∧ t5 = .int .i64 (i : Int) ∧ Below w.heap.size w wr)
  case atStart => exact ⟨0, by omega, by omega, rfl, Below.refl _ _⟩
  case round =>
    obtain ⟨i, hi, hgk, rfl, hW⟩ := hrel
    have HGK := Lib.hid hgk
    have HW := Lib.hid hW
    clear hgk hW
    have hi0 : 0 ≤ (i : Int) ∧ (i : Int) ≤ 4096 := by omega
    have hpa := dk_pages (HA.out.below HW.out)
    rw [HLA.out] at hpa
    unfold DB.ptr at hpa
    have HPA := Lib.hid hpa
    clear hpa
    go_wp2_with fail
    refine HPA.out.mono ?_
    rintro e w1 ⟨rfl, rfl⟩
    by_cases hin : i < N
    · have hd1 : decide ((i : Int) < (N : Int)) = true := by simp; omega
      have hi1 : (i : Int) < (N : Int) := by omega
      obtain ⟨k1, k2, k3⟩ := HR.out i hin
      have hra := dk_read (HA.out.below HW.out) (i : Int) (WalkArith.wf_i64 (by omega))
      rw [k1] at hra
      unfold DB.ptr at hra
      have HRA := Lib.hid hra
      have HKK := Lib.hid (And.intro k1 (And.intro k2 k3))
      clear hra k1 k2 k3
      go_wp2_with fail
      refine HRA.out.mono ?_
      rintro e w2 ⟨va, rfl, hoa⟩
      have HOA := Lib.hid hoa
      have HW2 := Lib.hid (HW.out.trans (hoa.2.mono HW.out.size))
      have hrb := dk_read (HB.out.below HW2.out) (i : Int) (WalkArith.wf_i64 (by omega))
      rw [HKK.out.2.1] at hrb
      unfold DB.ptr at hrb
      have HRB := Lib.hid hrb
      clear hoa hrb
      go_wp2_with fail
      refine HRB.out.mono ?_
      rintro e w3 ⟨vb, rfl, hob⟩
      have hob1 := hob.1
      rw [← HKK.out.2.2] at hob1
      have cA := convert_data (show Data w3 va (da.read (i : Int)) from Sl.of_own (own_at' HOA.out.1 hob.2))
      have cB := convert_data (show Data w3 vb (da.read (i : Int)) from Sl.of_own hob1)
      have HTX := Lib.hid (txt_eq (da.read (i : Int)) (da.read (i : Int)))
      have HW3 := Lib.hid (HW2.out.trans (hob.2.mono HW2.out.size))
      clear hob hob1
      unfold txt at cA cB
      obtain ⟨q, hq⟩ : ∃ q, q = da.read (i : Int) := ⟨_, rfl⟩
      rw [← hq] at cA cB HTX
      clear hq
      generalize (⟨q.toArray⟩ : ByteArray) = s1 at *
      have hx : (s1.toList == s1.toList) = true := by rw [HTX.out]; exact decide_eq_true rfl
      go_wp2
      go_roundg (gk - 1)
      case rel => exact ⟨i + 1, by omega, by have := HGK.out; omega, by go_num, HW3.out⟩
      case measure => have := HGK.out; omega
    · obtain rfl : i = N := by omega
      have hd1 : decide ((i : Int) < (i : Int)) = false := by simp
      go_wp2_with fail
      refine HPA.out.mono ?_
      rintro e w2 ⟨rfl, rfl⟩
      have hpb := dk_pages (HB.out.below HW.out)
      rw [HLB.out] at hpb
      unfold DB.ptr at hpb
      go_wp2_with fail
      refine hpb.mono ?_
      rintro e w3 ⟨rfl, rfl⟩
      go_wp2
      go_ret
      exact ⟨rfl, HW.out⟩
end Go.Proofs.YtngddhoolijimaaDoor
namespace Go.Proofs.YtngddhoolijimaaDoor
open Go.RowKit Go.Maps Go.ChangeShapes Go.WideShapes
set_option linter.unusedVariables false

theorem open_arrv {α : Type} {P : Program} {H : Type} {enc : TypeId × Value → H} {w : World} {base b0 n : Nat} {r : Reach} {spare : Nat → Bool} {held : Bool} {t e : TypeId} {v : Value} {d : DataW H} {ps : List MemPlace} {R : Rd α}
    (ht : P.underlying t = some (.array n e)) (hval : Value.okWide P w r b0 t v) (hd : DataW.Trod enc P w base spare held t v d ps) (ho : Opens P t (rArr R n)) : ∃ cs l, v = .agg cs ∧ (rArr R n).rd w (· < w.heap.size) cs.toList l := by
  unfold Value.okWide at hval
  rw [ht] at hval
  obtain ⟨cs, rfl, _⟩ := hval
  obtain ⟨fuel, hf⟩ := hd
  obtain ⟨l, hl⟩ := ho.open_ hf
  exact ⟨cs, l, rfl, hl⟩

theorem opensB20 : Opens Tryd.prog 63 (rArr rByte 20) := opens_array Tryd.underlying63 (by kernel_rfl) (opens_byte Tryd.underlying5 (by kernel_rfl))

/-- Bytes in a row, as values. -/
theorem arr_bytes {w : World} {F : Nat → Prop} {n : Nat} {cs : List Value} {l : List UInt8} (h : (rArr rByte n).rd w F cs l) : l.length = n ∧ cs = pc l := by
  obtain ⟨h1, h2, h3⟩ := h
  have s1 : rByte.size = 1 := rfl
  rw [s1, Nat.mul_one] at h1
  refine ⟨h2, List.ext_getElem? fun i => ?_⟩
  by_cases hi : i < n
  · have h4 : ((cs.drop (i * rByte.size)).take rByte.size) = [.int .u8 ((l[i]'(by omega)).toNat : Int)] := h3 i _ (List.getElem?_eq_getElem (by omega))
    rw [s1, Nat.mul_one, List.drop_eq_getElem_cons (by omega), List.take_succ_cons, List.take_zero] at h4
    rw [List.getElem?_eq_getElem (by omega), pc_get (List.getElem?_eq_getElem (by omega))]
    exact congrArg some (List.cons.inj h4).1
  · rw [List.getElem?_eq_none (by omega), List.getElem?_eq_none (by rw [pc_len]; omega)]
end Go.Proofs.YtngddhoolijimaaDoor
namespace Go.Proofs.YtngddhoolijimaaDoor
open Go.RowKit
set_option linter.unusedVariables false
set_option linter.unusedSimpArgs false

theorem LW.more {W w : World} {E E' : Nat → Prop} {wb fb pb n N : Nat} {B : DB} {f : PF} {d : DK} {P : List (List UInt8)} {mt : Option (Nat × List (List UInt8))} {down : Bool} (h : LW W w E wb B fb pb n N f d P mt down) (hE : ∀ b, b < w.heap.size → E' b → E b) : LW W w E' wb B fb pb n N f d P mt down := ⟨h.lm.more hE, h.up, h.dn⟩

theorem LM.low {W w : World} {E : Nat → Prop} {wb fb pb n N : Nat} {B : DB} {f : PF} {d : DK} {P : List (List UInt8)} {mt : Option (Nat × List (List UInt8))} {down : Bool} (h : LM W w E wb B fb pb n N f d P mt down) : ∀ b, LB B fb wb b → W.heap.size ≤ b := fun b hb => by
  rcases hb with e | e | e
  · exact h.bge b e
  · rw [e]; exact h.fge
  · rw [e]; exact h.wge

/-- The other world has turned. -/
theorem LW.beside {W w w' : World} {wb fb pb n N : Nat} {B Ba : DB} {fa fa' wa : Nat} {f : PF} {d : DK} {P : List (List UInt8)} {mt : Option (Nat × List (List UInt8))} {down : Bool} (h : LW W w (LB Ba fa wa) wb B fb pb n N f d P mt down) (hc : Chg (LB Ba fa wa) w w') (hf : fa' = fa ∨ w.heap.size ≤ fa') (hW : ∀ b, LB Ba fa wa b → W.heap.size ≤ b) : LW W w' (LB Ba fa' wa) wb B fb pb n N f d P mt down := by
  have h1 : LM W w (fun b => LB Ba fa wa b ∨ LB Ba fa' wa b) wb B fb pb n N f d P mt down := h.lm.more (fun b hl e => e.elim id (fun e => by
    rcases e with e | e | e
    · exact .inl e
    · rcases hf with hf | hf
      · exact .inr (.inl (e.trans hf))
      · omega
    · exact .inr (.inr e)))
  have h2 := h1.aside hc (fun b _ e => .inl e) hW
  exact ⟨h2.more (fun b _ e => .inr e), h.up, h.dn⟩

theorem box_rd {w : World} {F : Nat → Prop} {g : Nat} {A : Array Value} {t : TypeId} {q : List UInt8} (h : w.heap[g]? = some (.cells A t (0, 0))) (hA : A.toList = pc q) (hq : q.length = 20) (hF : F g) : (rSliceN rByte).rd w F [.slice (some ⟨g, 0, none⟩) 20 20] q := by
  refine ⟨⟨_, 20, 20, rfl, hq.symm, Nat.le_refl _, by unfold maxLen; omega, .inr ⟨g, 0, rfl, hF, (Array.getElem?_eq_some_iff.1 h).1, fun i x hx => ⟨[.int .u8 (x.toNat : Int)], fun j u hu => ?_, rfl⟩⟩⟩, fun n c e => by cases e⟩
  match j, hu with
  | 0, hu =>
    obtain rfl : Value.int .u8 (x.toNat : Int) = u := by simpa using hu
    have e : w.cell? ⟨g, 0 + i * rByte.size + 0, none⟩ = A[0 + i * rByte.size + 0]? := cell_of_row w g _ A t (0, 0) h
    rw [e, show 0 + i * rByte.size + 0 = i from by show 0 + i * 1 + 0 = i; omega, ← Array.getElem?_toList, hA]
    exact pc_get hx

set_option maxRecDepth 100000 in
set_option maxHeartbeats 8000000 in
theorem erases36_walk (p0 pgv : Int) (A1 A2 : Array Value) (q1 q2 : List UInt8) (v4 v6 : Value) (L : List (List Int)) (n5 : Int) (keep : List Int) (h0 : (Lit.int .u8 p0).wf = true) (h1 : (Lit.int .u16 pgv).wf = true) (h5 : (Lit.int .u8 n5).wf = true) (W : World)
    (o2 : (rArr rByte 20).rd W (· < W.heap.size) A1.toList q1) (o3 : (rArr rByte 20).rd W (· < W.heap.size) A2.toList q2) (o4 : (rSlice rU2).rd W (· < W.heap.size) [v4] L) (o6 : (rSlice (rInt .i64)).rd W (· < W.heap.size) [v6] keep) :
    Calls Tryd.prog 7 #[.int .u8 p0, .int .u16 pgv, .agg A1, .agg A2, v4, .int .u8 n5, v6] W (Holds W) := by
  obtain ⟨pn, hp, rfl⟩ := wf_u8n h0
  obtain ⟨nn, hn5, rfl⟩ := wf_u8n h5
  obtain ⟨gn, hgn, rfl⟩ : ∃ gn : Nat, gn < 65536 ∧ pgv = (gn : Int) := by
    have := wf_u16b h1
    exact ⟨pgv.toNat, by omega, by omega⟩
  obtain ⟨e1, e2⟩ := arr_bytes o2
  obtain ⟨e3, e4⟩ := arr_bytes o3
  obtain ⟨ka, kl, kc, e, rfl, _, hkm, _⟩ := id o6
  obtain rfl : v6 = .slice ka keep.length kc := by simpa using e
  have HO4 := Lib.hid o4
  have HO6 := Lib.hid o6
  have HA1 := Lib.hid (And.intro e1 e2)
  have HA2 := Lib.hid (And.intro e3 e4)
  have hk0 : 0 ≤ (keep.length : Int) := by omega
  clear o2 o3 o4 o6 e e1 e2 e3 e4 h0 h1 h5
  go_enter Tryd.func7, Tryd.ntmps7
  go_wp2_with fail
  refine (begin36 pn hp W _ (fun _ => False) (fun _ h => h.elim) (((Below.refl _ _).alloc (Nat.le_refl _) _).alloc (by simp) _)).mono ?_
  rintro e w1 ⟨wa, Ba, fa, pa, da, rfl, hL, hfa, hb, hge⟩
  go_wp2_with fail
  refine (begin36 pn hp W _ (LB Ba fa wa) hL.lm.bl hL.lm.bel).mono ?_
  rintro e w2 ⟨wb, Bb, fb, pb, db, rfl, hM, hfb, hb2, hge2⟩
  obtain ⟨n, hn⟩ : ∃ n, n = capN (7 + pn % 25) := ⟨_, rfl⟩
  obtain ⟨N, hN⟩ : ∃ N, N = 7 + pn % 25 := ⟨_, rfl⟩
  obtain ⟨Z, hZ⟩ : ∃ Z, Z = zeroP (capN (7 + pn % 25)) := ⟨_, rfl⟩
  rw [← hZ, ← hn, ← hN] at hL hM
  obtain ⟨W1, hW1⟩ : ∃ W1, W1 = (W.alloc (.cells A1 63)).alloc (.cells A2 63) := ⟨_, rfl⟩
  have HBB := Lib.hid (show Below W.heap.size W w2 from hM.lm.bel)
  have hW1s : W1.heap.size = W.heap.size + 2 := by rw [hW1]; simp
  have HGA := Lib.hid (show ∀ b, LB Ba fa wa b → W.heap.size + 2 ≤ b from fun b h => by
    have := hge b h
    simp at this; omega)
  have HMB := Lib.hid hM
  have HLA := Lib.hid (show LW W w2 (LB Bb fb wb) wa Ba fa pa n N ⟨n, false⟩ da Z none false from (hL.more (E' := LB Bb fb wb) (fun b hl e => absurd (hge2 b e) (by omega))).below hb2)
  have HGB := Lib.hid (show ∀ b, LB Bb fb wb b → W.heap.size + 2 ≤ b from fun b h => by
    have h1 := hge2 b h
    have h2 := hb.size
    simp at h2; omega)
  have HBX := Lib.hid (show w2.heap[W.heap.size]? = some (.cells A1 63 (0, 0)) ∧ w2.heap[W.heap.size + 1]? = some (.cells A2 63 (0, 0)) from by
    have z := hb.size
    simp at z
    have b0 := hb.block W.heap.size (by simp; omega)
    have b1 := hb.block (W.heap.size + 1) (by simp)
    rw [hb2.block _ (by omega), hb2.block _ (by omega), b0, b1]
    constructor
    · rw [heap_alloc_old _ _ (by simp)]; exact heap_alloc_new W _
    · have := heap_alloc_new (W.alloc (.cells A1 63)) (.cells A2 63)
      rw [show (W.alloc (.cells A1 63)).heap.size = W.heap.size + 1 from by simp] at this
      exact this)
  have HN0 := Lib.hid (LW.n0 hL.lm)
  have hnb : 0 < (n : Int) ∧ (n : Int) ≤ 4096 := by have := HN0.out; omega
  have c2 := HLA.out.lm.c2
  obtain ⟨sa, sc, cp⟩ := HLA.out.lm.rows
  clear hL hM hfa hfb hge hge2 hn hN hZ hW1 hW1s hb hb2 hp
  by_cases hk : 100 < keep.length
  · have g1 : decide ((100 : Int) < (keep.length : Int)) = true := by simp; omega
    have g1' : (100 : Int) < (keep.length : Int) := by omega
    go_wp2
    go_ret
    exact ⟨rfl, HBB.out⟩
  · have g1 : decide ((100 : Int) < (keep.length : Int)) = false := by simp; omega
    have g1' : ¬ (100 : Int) < (keep.length : Int) := by omega
    have HK := Lib.hid (show keep.length ≤ 1000000 by omega)
    have hmax : max (n : Int) 1 = (n : Int) := by omega
    obtain ⟨pg, hpg⟩ : ∃ pg, pg = gn % n := ⟨_, rfl⟩
    have hpr : Int.tmod (gn : Int) (n : Int) = (pg : Int) := by subst hpg; rw [Int.tmod_eq_emod_of_nonneg (by omega)]; rfl
    have hpgle : pg ≤ gn := by rw [hpg]; exact Nat.mod_le _ _
    have hpgb : 0 ≤ (pg : Int) ∧ (pg : Int) ≤ 65535 := by omega
    have hgb : 0 ≤ (gn : Int) ∧ (gn : Int) ≤ 65535 := by omega
    have hnb5 : 0 ≤ (nn : Int) ∧ (nn : Int) ≤ 255 := by omega
    clear hpg hk
    obtain ⟨m, hm⟩ : ∃ m, m = nn / 2 := ⟨_, rfl⟩
    have hmr : Int.tdiv (nn : Int) 2 = (m : Int) := by subst hm; rw [Int.tdiv_eq_ediv_of_nonneg (by omega)]; rfl
    obtain ⟨m1, hm1⟩ : ∃ m1, m1 = 1 + m := ⟨_, rfl⟩
    have hmI : (1 : Int) + (m : Int) = (m1 : Int) := by omega
    have hmb : 0 ≤ (m : Int) ∧ (m : Int) ≤ 127 := by omega
    have hmb1 : 0 ≤ (m1 : Int) ∧ (m1 : Int) ≤ 128 := by omega
    have HWF := Lib.hid (show (Lit.int .i64 (m1 : Int)).wf = true ∧ (Lit.int .i64 (0 : Int)).wf = true ∧ (Lit.int .i64 (pg : Int)).wf = true from ⟨WalkArith.wf_i64 (by omega), by rfl, WalkArith.wf_i64 (by omega)⟩)
    have hodd : Int.tmod (nn : Int) 2 = 1 ∨ Int.tmod (nn : Int) 2 = 0 := by rw [Int.tmod_eq_emod_of_nonneg (by omega)]; omega
    clear hm hm1
    rcases hodd with hodd | hodd
    all_goals
      go_wp2_with fail
      refine (writes36 n HN0.out v4 L ((rSlice rU2).keep (fun b hb hl => HBB.out.block b hb) HBB.out.size HO4.out) (fun b hb => Nat.lt_of_lt_of_le hb HBB.out.size)).mono ?_
      rintro e w3 ⟨xv, X, rfl, hX, hX8, hXd, hb, hno⟩
      have HX := Lib.hid (And.intro hX (And.intro hX8 (And.intro hXd hno)))
      have HB3 := Lib.hid hb
      have HLA3 := Lib.hid (HLA.out.below hb)
      have HMB3 := Lib.hid (HMB.out.below hb)
      have HXO := Lib.hid (show ∀ b, w2.heap.size ≤ b → ¬ LB Ba fa wa b ∧ ¬ LB Bb fb wb b from fun b hb => ⟨fun e => by have := HLA.out.lm.bl b e; omega, fun e => by have := HMB.out.lm.bl b e; omega⟩)
      clear hX hX8 hXd hno hb c2 cp
      go_wp2_with fail
      have HGN := Lib.hid (show ∀ b, (b < w3.heap.size ∧ ¬ LB Ba fa wa b ∧ ¬ LB Bb fb wb b) → b < w3.heap.size ∧ ¬ LB Ba fa wa b from fun b h => ⟨h.1, h.2.1⟩)
      have HS3 := Lib.hid (show W.heap.size + 2 ≤ w3.heap.size from by
        have h1 := (Array.getElem?_eq_some_iff.1 HBX.out.2).1
        have h2 := HB3.out.size
        omega)
      have HG0 := Lib.hid (show ∀ b, b < W.heap.size + 2 → b < w3.heap.size ∧ ¬ LB Ba fa wa b ∧ ¬ LB Bb fb wb b from fun b hb => ⟨by have := HS3.out; omega, fun e => by have := HGA.out b e; omega, fun e => by have := HGB.out b e; omega⟩)
      have HD1 := Lib.hid (show (rSliceN rByte).rd w3 (fun b => b < w3.heap.size ∧ ¬ LB Ba fa wa b ∧ ¬ LB Bb fb wb b) [.slice (some ⟨W.heap.size, 0, none⟩) 20 20] q1 from box_rd ((HB3.out.block _ (Array.getElem?_eq_some_iff.1 HBX.out.1).1).trans HBX.out.1) HA1.out.2 HA1.out.1 (HG0.out _ (by omega)))
      have HX3 := Lib.hid (show (rSlice rPWN).rd w3 (fun b => b < w3.heap.size ∧ ¬ LB Ba fa wa b ∧ ¬ LB Bb fb wb b) [xv] X from (rSlice rPWN).more (fun b hb => ⟨hb.2, HXO.out b hb.1⟩) HX.out.1)
      refine (erase36 HLA3.out HMB3.out.lm.bl (pg : Int) HWF.out.2.2 _ xv _ q1 X keep HD1.out (by have := HA1.out.1; omega) HX3.out HX.out.2.2.2 HX.out.2.1 HX.out.2.2.1 HGN.out _ (by first | exact HWF.out.1 | exact HWF.out.2.1) HO6.out HK.out).mono ?_
      rintro e w4 ⟨fell, fa4, pa4, da4, Pa, rfl, hL, hfa4, hC⟩
      have HA4 := Lib.hid hL
      have HMB4 := Lib.hid (HMB3.out.beside hC hfa4 (fun b e => by have := HGA.out b e; omega))
      have HD2 := Lib.hid (show (rSliceN rByte).rd w4 (fun b => b < w3.heap.size ∧ ¬ LB Ba fa wa b ∧ ¬ LB Bb fb wb b) [.slice (some ⟨W.heap.size + 1, 0, none⟩) 20 20] q2 from (rSliceN rByte).keep (fun b hb hl => hC.block b hl hb.2.1) hC.size (box_rd ((HB3.out.block _ (Array.getElem?_eq_some_iff.1 HBX.out.2).1).trans HBX.out.2) HA2.out.2 HA2.out.1 (HG0.out _ (by omega))))
      have HX4 := Lib.hid ((rSlice rPWN).keep (fun b hb hl => hC.block b hl hb.2.1) hC.size HX3.out)
      have HGN2 := Lib.hid (show ∀ b, (b < w3.heap.size ∧ ¬ LB Ba fa wa b ∧ ¬ LB Bb fb wb b) → b < w4.heap.size ∧ ¬ LB Bb fb wb b from fun b h => ⟨Nat.lt_of_lt_of_le h.1 hC.size, h.2.2⟩)
      clear hL hC hfa4
      go_wp2_with fail
      refine (erase36 HMB4.out HA4.out.lm.bl (pg : Int) HWF.out.2.2 _ xv _ q2 X keep HD2.out (by have := HA2.out.1; omega) HX4.out HX.out.2.2.2 HX.out.2.1 HX.out.2.2.1 HGN2.out _ (by first | exact HWF.out.1 | exact HWF.out.2.1) HO6.out HK.out).mono ?_
      rintro e w5 ⟨fell2, fb5, pb5, db5, Pb, rfl, hL, hfb5, hC⟩
      have HB5 := Lib.hid hL
      have HA5 := Lib.hid (HA4.out.beside hC hfb5 (fun b e => by have := HGB.out b e; omega))
      clear hL hC hfb5
      by_cases hff : fell = fell2
      · subst hff
        have HPP := Lib.hid (HA5.out.up rfl).2.2
        have HPB := Lib.hid (HB5.out.up rfl).2.2
        by_cases hpq : Pa = Pb
        · subst hpq
          have c1 := HA5.out.lm.c1
          have c0 := HA5.out.lm.c0
          have d2 := HB5.out.lm.c2
          have d0 := HB5.out.lm.c0
          cases fell
          all_goals
            go_wp2_with fail
            go_region_held3 (fun W' => W'.cell? ⟨wa, 1, none⟩ = some (.pointer (some ⟨fa4, 0, none⟩)) ∧ W'.cell? ⟨wb, 2, none⟩ = some (.pointer (some ⟨pb5, 0, none⟩)) ∧ W'.cell? ⟨wa, 0, none⟩ = some (.pointer (some ⟨Ba.db, 0, none⟩)) ∧ W'.cell? ⟨wb, 0, none⟩ = some (.pointer (some ⟨Bb.db, 0, none⟩)))
              (first | assumption | exact ⟨c1, d2, c0, d0⟩ | exact ⟨HXA.out.lm.c1, HXB.out.lm.c2, HXA.out.lm.c0, HXB.out.lm.c0⟩ | exact ⟨HYA.out.lm.c1, HYB.out.lm.c2, HYA.out.lm.c0, HYB.out.lm.c0⟩ | exact ⟨HZA.out.lm.c1, HZB.out.lm.c2, HZA.out.lm.c0, HZB.out.lm.c0⟩)
              (first | (go_at_call 14; refine (awake36_any _).mono ?_; rintro e wX ⟨rfl, hbX⟩; have HXA := Lib.hid ((HA5.out.below (Below.refl _ _).drew).below hbX); have HXB := Lib.hid ((HB5.out.below (Below.refl _ _).drew).below hbX)) | (go_at_call 24; have hrs := reads36 HXA.out.lm.file HXA.out.lm.disk HPP.out HXB.out.lm.pg HXB.out.lm.pays (fun b hb e => hb.2.2.2 (e.elim .inl (fun e => .inr (.inl e)))); rw [decide_eq_true rfl] at hrs; unfold pfPtr at hrs; refine hrs.mono ?_; rintro e wY ⟨rfl, hY⟩; clear hrs; have HYA := Lib.hid (show LW W wY (LB Bb fb5 wb) wa Ba fa4 pa4 n N ⟨n, false⟩ da4 _ none false from ⟨HXA.out.lm.turns hY rfl, HXA.out.up, HXA.out.dn⟩); have HYB := Lib.hid (HXB.out.beside (hY.2.2.more (fun b _ e => e.elim .inl (fun e => .inr (.inl e)))) (.inl rfl) HXA.out.lm.low)) | (go_at_call 32; refine (sameDisk36 HYA.out.lm.disk HYB.out.lm.disk HPP.out HPB.out HYA.out.lm.few).mono ?_; rintro e wZ ⟨rfl, hbZ⟩; have HZA := Lib.hid (HYA.out.below hbZ); have HZB := Lib.hid (HYB.out.below hbZ)) | fail)
            all_goals
              have HFIN := Lib.hid HZA.out.lm.bel
              go_wp2
              go_ret
              exact ⟨rfl, HFIN.out⟩
        · cases fell
          all_goals
            go_wp2_with fail
            refine region_call_still_call 14 _ (by kernel_rfl) (by kernel_rfl) rfl (by kernel_rfl) ?_
            intro wD hWD
            have HA6 := Lib.hid (show LW W wD (LB Bb fb5 wb) wa Ba fa4 pa4 n N ⟨n, false⟩ da4 Pa none false from by rw [hWD]; exact HA5.out.below (Below.refl _ _).drew)
            have HB6 := Lib.hid (show LW W wD (LB Ba fa4 wa) wb Bb fb5 pb5 n N ⟨n, false⟩ db5 Pb none false from by rw [hWD]; exact HB5.out.below (Below.refl _ _).drew)
            clear hWD
            go_wp2_with fail
            refine (awake36_any _).mono ?_
            rintro e wX ⟨rfl, hbX⟩
            have HXA := Lib.hid (HA6.out.below hbX)
            have HXB := Lib.hid (HB6.out.below hbX)
            have x1 := HXA.out.lm.c1
            have x2 := HXB.out.lm.c2
            have hrs := reads36 HXA.out.lm.file HXA.out.lm.disk HPP.out HXB.out.lm.pg HXB.out.lm.pays (fun b hb e => hb.2.2.2 (e.elim .inl (fun e => .inr (.inl e))))
            rw [decide_eq_false hpq] at hrs
            unfold pfPtr at hrs
            have HRS := Lib.hid hrs
            clear hbX hrs
            dsimp only
            iterate 13 (refine stillH_want (by kernel_rfl) (fun K hK => ?_); go_simp; refine hK _ ?_; clear hK K)
            refine stillH_nil ?_
            refine ⟨by kernel_rfl, ?_⟩
            go_wp2_with fail
            refine HRS.out.mono ?_
            rintro e wY ⟨rfl, hY⟩
            have HFIN := Lib.hid (HXA.out.lm.turns hY rfl).bel
            clear hY
            dsimp only
            iterate 3 (refine stillH_want (by kernel_rfl) (fun K hK => ?_); go_simp; refine hK _ ?_; clear hK K)
            iterate 9 (refine stillH_skip (by kernel_rfl) (fun K hK => ?_); refine hK _ ?_; clear hK K)
            iterate 3 (refine stillH_want (by kernel_rfl) (fun K hK => ?_); go_simp; refine hK _ ?_; clear hK K)
            refine stillH_nil ?_
            go_wp2
            go_ret
            exact ⟨rfl, HFIN.out⟩
      · cases fell <;> cases fell2
        all_goals try exact absurd rfl hff
        all_goals
          go_wp2_with fail
          refine region_call_still (by kernel_rfl) (by kernel_rfl) (by kernel_rfl) ?_
          intro wD hWD
          have HA6 := Lib.hid (show LW W wD (LB Bb fb5 wb) wa Ba fa4 pa4 n N ⟨n, false⟩ da4 Pa none false from by rw [hWD]; exact HA5.out.below (Below.refl _ _).drew)
          clear hWD
          go_wp2_with fail
          refine (awake36_any _).mono ?_
          rintro e w6 ⟨rfl, hb⟩
          have HFIN := Lib.hid (HA6.out.below hb).lm.bel
          clear hb
          dsimp only
          iterate 5 (refine stillH_want (by kernel_rfl) (fun K hK => ?_); go_simp; refine hK _ ?_; clear hK K)
          iterate 10 (refine stillH_skip (by kernel_rfl) (fun K hK => ?_); refine hK _ ?_; clear hK K)
          iterate 2 (refine stillH_want (by kernel_rfl) (fun K hK => ?_); go_simp; refine hK _ ?_; clear hK K)
          iterate 9 (refine stillH_skip (by kernel_rfl) (fun K hK => ?_); refine hK _ ?_; clear hK K)
          iterate 3 (refine stillH_want (by kernel_rfl) (fun K hK => ?_); go_simp; refine hK _ ?_; clear hK K)
          refine stillH_nil ?_
          go_wp2
          go_ret
          exact ⟨rfl, HFIN.out⟩
end Go.Proofs.YtngddhoolijimaaDoor
