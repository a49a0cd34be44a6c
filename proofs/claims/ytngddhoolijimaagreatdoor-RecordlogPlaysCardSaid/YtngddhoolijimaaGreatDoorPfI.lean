/-
  effective.
-/
import Derived.Test.YtngddhoolijimaaGreatDoorMap
import Derived.Laws.CopyOwn
namespace Go.Proofs.YtngddhoolijimaaGreatDoor
open Go.RowKit Go.Maps Go.Shelf Go.Sort
set_option linter.unusedVariables false

theorem byte_size1 : (Tryz.prog.info? 5).map (·.size) = some 1 := by kernel_rfl

theorem own_full {w : World} {base g n : Nat} {e : TypeId} {xs : List Value} (h : w.ownsRow base e 1 (.slice (some ⟨g, 0, none⟩) n n) n xs) : w.heap[g]? = some (.cells xs.toArray e (0, 0)) := by
  rcases h.2 with ⟨e1, _⟩ | ⟨g', cap, cur, e1, _, hc, _, _, hs, hx⟩
  · cases e1
  · simp only [Value.slice.injEq, Option.some.injEq, Addr.mk.injEq, and_true] at e1
    obtain ⟨rfl, _, rfl⟩ := e1
    rw [hc, ← hx, List.take_of_length_le (by rw [Array.length_toList, hs]; omega)]

theorem grown_of_below {w w' : World} (h : Below w.heap.size w w') : w.grownBy w' none := ⟨h.os, h.tape, h.output, h.size, fun b hb _ => h.block b hb⟩

def zero100 : List Value := List.replicate 100 (.int .u8 0)
theorem zero100_len : zero100.length = 100 := by simp [zero100]

theorem splice_fill {d : List UInt8} (h : d.length ≤ 100) : splice zero100 0 (pc d) = pc (fill d) := by
  unfold splice fill zero100
  rw [List.take_zero, List.nil_append, Nat.zero_add, pc_len, pc_append, List.drop_replicate]
  congr 1
  simp [pc]

theorem lastOf_snoc (l : List (Int × List UInt8)) (x : Int × List UInt8) (j : Nat) : lastOf (l ++ [x]) j = if x.1 = (j : Int) then some (fill x.2) else lastOf l j := by
  rw [lastOf_eq, List.foldl_append]; rfl

/-- The map, the numbers and the payloads after k writes. -/
structure Lst (w wr : World) (ws : List (Int × List UInt8)) (k : Nat) (m : Nat → Option Nat) (ns : List Int) : Prop where
  bel : Below w.heap.size w wr
  pos : w.heap.size < wr.heap.size
  pay : ∀ i g, m i = some g → w.heap.size < g ∧ ∃ p, lastOf (ws.take k) i = some p ∧ p.length = 100 ∧ wr.heap[g]? = some (.cells (pc p).toArray 5 (0, 0))
  non : ∀ i, m i = none → lastOf (ws.take k) i = none
  dup : ns.Nodup
  mem : ∀ x, x ∈ ns ↔ ∃ i : Nat, x = (i : Int) ∧ (m i).isSome = true
  few : ns.length ≤ k

theorem Lst.first {w : World} {ws : List (Int × List UInt8)} (o : Obj) : Lst w (w.alloc o) ws 0 (fun _ => none) [] :=
  ⟨(Below.refl _ _).alloc (Nat.le_refl _) _, by simp, fun _ _ h => (by cases h), fun _ _ => rfl, List.nodup_nil, fun x => by simp, Nat.le_refl _⟩

/-- One write more. W1: behind the numbers; w3: behind the payload; w4: behind the map. -/
theorem Lst_step {w wr W1 w3 w4 : World} {ws : List (Int × List UInt8)} {k i : Nat} {m : Nat → Option Nat} {ns ns' : List Int} {x : Int × List UInt8} (hx : ws[k]? = some x) (hi : x.1 = (i : Int)) (hr : x.2.length ≤ 100)
    (h : Lst w wr ws k m ns) (hn : ns'.Nodup ∧ ns'.length ≤ k + 1 ∧ ∀ y, y ∈ ns' ↔ y ∈ ns ∨ y = (i : Int))
    (hW : Below w.heap.size w W1 ∧ ∀ i g, m i = some g → W1.heap[g]? = wr.heap[g]?) (h3 : Below W1.heap.size W1 w3) (h4 : w3.grownBy w4 (some w.heap.size)) {G : Nat} (hp : w3.heap[G]? = some (.cells (pc (fill x.2)).toArray 5 (0, 0)))
    (hmb : w.heap.size < W1.heap.size) (hsz : wr.heap.size ≤ W1.heap.size) (hG : G = W1.heap.size) : Lst w w4 ws (k + 1) (fun j => if j = i then some G else m j) ns' := by
  subst hG
  have hB3 : Below w.heap.size w w3 := hW.1.trans (h3.mono hW.1.size)
  have h3l : W1.heap.size < w3.heap.size := (Array.getElem?_eq_some_iff.1 hp).1
  refine ⟨hB3.grown h4 hB3.size (fun b hb => by simp only [Option.some.injEq] at hb; omega), by have := h4.size; omega, fun j g hj => ?_, fun j hj => ?_, hn.1, fun y => ?_, hn.2.1⟩
  · by_cases e : j = i
    · rw [if_pos e] at hj
      cases hj
      exact ⟨hmb, fill x.2, by rw [take_snoc hx, lastOf_snoc, if_pos (by rw [hi, e])], fill_len hr, by rw [h4.block _ h3l (by simp; omega)]; exact hp⟩
    · rw [if_neg e] at hj
      obtain ⟨h1, p, h2, h3', h4'⟩ := h.pay j g hj
      have hgl : g < W1.heap.size := Nat.lt_of_lt_of_le (Array.getElem?_eq_some_iff.1 h4').1 hsz
      refine ⟨h1, p, by rw [take_snoc hx, lastOf_snoc, if_neg (by rw [hi]; omega)]; exact h2, h3', ?_⟩
      rw [h4.block _ (Nat.lt_of_lt_of_le hgl h3.size) (by simp; omega), h3.block _ hgl, hW.2 j g hj]
      exact h4'
  · by_cases e : j = i
    · rw [if_pos e] at hj; cases hj
    · rw [if_neg e] at hj
      rw [take_snoc hx, lastOf_snoc, if_neg (by rw [hi]; omega)]
      exact h.non j hj
  · rw [hn.2.2, h.mem]
    constructor
    · rintro (⟨j, rfl, hj⟩ | rfl)
      · exact ⟨j, rfl, by split <;> first | rfl | exact hj⟩
      · exact ⟨i, rfl, by simp⟩
    · rintro ⟨j, rfl, hj⟩
      by_cases e : j = i
      · exact .inr (by rw [e])
      · rw [if_neg e] at hj
        exact .inl ⟨j, rfl, hj⟩

theorem sl_at2 {w : World} {x y : Value} {t : TypeId} {g : Nat} (hg : g = w.heap.size) : Sl (w.alloc (.cells #[x, y] t)) 2 (.slice (some ⟨g, 0, none⟩) 1 1) 1 [x, y] := by
  subst hg
  refine ⟨rfl, .inr ⟨_, 0, 1, rfl, Nat.le_refl _, by simp, fun j u hu => ?_⟩⟩
  have := new_cells w [x, y] t j u hu
  have e : (⟨w.heap.size, 0, none⟩ : Addr).add j = ⟨w.heap.size, j, none⟩ := by unfold Addr.add; split <;> simp_all
  rw [e] at this
  rw [Nat.zero_add]; exact this

theorem one_two (a b : Value) (h : a.oneCell' = true) (k : b.oneCell' = true) : ∀ u ∈ [a, b], u.oneCell' = true := fun u hu => by
  simp only [List.mem_cons, List.mem_nil_iff, or_false] at hu
  rcases hu with rfl | rfl
  · exact h
  · exact k

theorem pw_info : (Tryz.prog.info? 82).map (fun i => (i.zero, i.size, i.bytes)) = some (some (.agg #[.int .i64 0, .slice none 0 0]), 2, 32) := by kernel_rfl

theorem chg_grown {w w' : World} {v : Value} (h : Chg (fun b => v.ownBlock = some b) w w') : w.grownBy w' v.ownBlock := ⟨h.os, h.tape, h.output, h.size, fun b hb hne => h.block b hb (fun e => hne e.symm)⟩

/-- A payload's block, read as a slice. -/
theorem rd_pay {w : World} {F : Nat → Prop} {g : Nat} {p : List UInt8} (hp : p.length = 100) (h : w.heap[g]? = some (.cells (pc p).toArray 5 (0, 0))) (hF : F g) : (rSlice rByte).rd w F [plv g] p := by
  refine ⟨_, 100, 100, rfl, hp.symm, Nat.le_refl _, by unfold maxLen; omega, .inr ⟨g, 0, rfl, hF, (Array.getElem?_eq_some_iff.1 h).1, fun i x hx => ⟨[.int .u8 (x.toNat : Int)], fun j u hu => ?_, rfl⟩⟩⟩
  match j, hu with
  | 0, hu =>
    obtain rfl : Value.int .u8 (x.toNat : Int) = u := by simpa using hu
    have e : rByte.size = 1 := rfl
    have hi := pc_get hx
    unfold World.cell?
    rw [e, Nat.mul_one, Nat.zero_add, Nat.add_zero]
    simp only
    rw [h]
    simpa using hi

theorem lastOf_mem {l : List (Int × List UInt8)} {i : Nat} {p : List UInt8} (h : lastOf l i = some p) : ∃ x ∈ l, x.1 = (i : Int) := by
  refine Decidable.byContradiction fun hn => ?_
  have := lastOf_none (l := l) (i := i) none (fun x hx e => hn ⟨x, hx, e⟩)
  rw [← lastOf_eq] at this
  rw [this] at h; cases h

theorem fst_filter (l : List (Int × List UInt8)) (L : List Nat) : (L.filterMap fun i => (lastOf l i).map fun p => ((i : Int), p)).map (·.1) = (L.filter fun i => (lastOf l i).isSome).map fun i : Nat => (i : Int) := by
  induction L with
  | nil => rfl
  | cons a L ih =>
    cases h : lastOf l a with
    | none => rw [List.filterMap_cons_none (by rw [h]; rfl), List.filter_cons_of_neg (by rw [h]; simp), ih]
    | some p => rw [List.filterMap_cons_some (by rw [h]; rfl), List.filter_cons_of_pos (by rw [h]; rfl), List.map_cons, List.map_cons, ih]

theorem effect_fst (n : Nat) (l : List (Int × List UInt8)) : (effect n l).map (·.1) = ((List.range n).filter fun i => (lastOf l i).isSome).map fun i : Nat => (i : Int) := fst_filter l _

/-- The numbers, sorted, are those of the effect. -/
theorem Lst.sorted {w wr : World} {ws : List (Int × List UInt8)} {n : Nat} {m : Nat → Option Nat} {ns : List Int} (h : Lst w wr ws ws.length m ns) (hr : Right n ws) : srt ns = (effect n ws).map (·.1) := by
  rw [effect_fst]
  have hnd : (((List.range n).filter fun i => (lastOf ws i).isSome).map fun i : Nat => (i : Int)).Nodup := by
    refine List.pairwise_map.2 ((List.nodup_range.filter _).imp (fun hne e => hne (by omega)))
  have hp : ns.Perm (((List.range n).filter fun i => (lastOf ws i).isSome).map fun i : Nat => (i : Int)) := by
    refine (List.perm_ext_iff_of_nodup h.dup hnd).2 fun x => ?_
    rw [h.mem]
    constructor
    · rintro ⟨i, rfl, hi⟩
      cases hm : m i with
      | none => rw [hm] at hi; cases hi
      | some g =>
        obtain ⟨_, p, hl, _⟩ := h.pay i g hm
        rw [List.take_length] at hl
        obtain ⟨y, hy, e⟩ := lastOf_mem hl
        have := hr y hy
        exact List.mem_map.2 ⟨i, List.mem_filter.2 ⟨List.mem_range.2 (by omega), by rw [hl]; rfl⟩, rfl⟩
    · intro hx
      obtain ⟨i, hi, rfl⟩ := List.mem_map.1 hx
      have hi2 := (List.mem_filter.1 hi).2
      refine ⟨i, rfl, ?_⟩
      cases hm : m i with
      | some g => rfl
      | none =>
        have := h.non i hm
        rw [List.take_length] at this
        rw [this] at hi2; cases hi2
  refine (mergeSort_of_perm_i hp).trans (List.mergeSort_of_pairwise ?_)
  refine List.pairwise_map.2 (List.Pairwise.imp (R := (· < ·)) (fun {a b} hab => by simp only [decide_eq_true_eq]; omega) ?_)
  exact List.Pairwise.filter _ List.pairwise_lt_range

theorem Lst.at_ {w wr : World} {ws : List (Int × List UInt8)} {n : Nat} {m : Nat → Option Nat} {ns : List Int} (h : Lst w wr ws ws.length m ns) {y : Int × List UInt8} (hy : y ∈ effect n ws) : ∃ i g, y.1 = ((i : Nat) : Int) ∧ i < n ∧ m i = some g ∧ w.heap.size < g ∧ y.2.length = 100 ∧ wr.heap[g]? = some (.cells (pc y.2).toArray 5 (0, 0)) := by
  obtain ⟨i, p, hi, hl, rfl⟩ := effect_mem.1 hy
  cases hm : m i with
  | none =>
    have := h.non i hm
    rw [List.take_length] at this
    rw [this] at hl; cases hl
  | some g =>
    obtain ⟨h1, q, h2, h3, h4⟩ := h.pay i g hm
    rw [List.take_length, hl] at h2
    cases h2
    exact ⟨i, g, rfl, hi, hm, h1, h3, h4⟩

section
variable {w : World}

set_option maxRecDepth 100000 in
set_option maxHeartbeats 2000000 in
theorem pf_effective (F : Nat → Prop) (wv : Value) (n : Nat) (ws : List (Int × List UInt8)) (hw : (rSlice rPW).rd w F [wv] ws) (hF : ∀ b, F b → b < w.heap.size) (hlm : ws.length ≤ 100000) (hn : n ≤ 4096) (hr : Right n ws) :
    Calls Tryz.prog 75 #[wv] w fun e w' => ∃ v, e = .returned v ∧ (rSlice rPW).rd w' (fun b => w.heap.size ≤ b ∧ b < w'.heap.size) [v] (effect n ws) ∧ Below w.heap.size w w' := by
  obtain ⟨wa, wc, rfl, _⟩ := pw_get hw
  have HW := Lib.hid hw
  have HF := Lib.hid hF
  have HL := Lib.hid (And.intro hlm (And.intro hn hr))
  clear hw hF hlm hn hr
  have hzr : ∀ W, (zeroValue 51).run Tryz.prog W = .ok (.slice none 0 0) W := Tryz.zeroValue51
  have HZR := Lib.hid hzr
  clear hzr
  go_enter Tryz.func75, Tryz.ntmps75
  have hmm := @run_makeMap Tryz.prog
  go_wp2
  clear hmm
  go_loopg [4, 16] (ws.length) (fun gk t4 t16 wr => ∃ (k : Nat) (m : Nat → Option Nat) (ns : List Int) (D : DataW Unit), k ≤ ws.length ∧ gk + k = ws.length ∧ t16 = .int .i64 (k : Int) ∧
      wr.ownsMap Tryz.prog 3 plR w.heap.size k D ∧ MapPl D m ∧ wr.ownsRow (w.heap.size + 1) 3 1 t4 ns.length (ns.map (Value.int .i64)) ∧ Lst w wr ws k m ns)
  case atStart => exact ⟨0, _, [], _, by omega, by omega, rfl, World.ownsMap_made _ _ _ _, mapPl_empty, World.ownsRow_nil _ _ _ _, Lst.first _⟩
  case round =>
    obtain ⟨k, m, ns, D, hk, hgk, rfl, hM, hof, hN, hls⟩ := hrel
    have HGK := Lib.hid hgk
    have HM := Lib.hid hM
    have HOF := Lib.hid hof
    have HN := Lib.hid hN
    have HLS := Lib.hid hls
    clear hgk hM hof hN hls
    obtain ⟨a4, c4, rfl⟩ := own_nil HN.out
    by_cases hin : k < ws.length
    · have hd1 : decide ((k : Int) < (ws.length : Int)) = true := by simp; omega
      have i0 : (0 : Int) ≤ (k : Int) := by omega
      have i1 : (k : Int) < (ws.length : Int) := by omega
      have i2 : (k : Int) ≤ 100000 := by have := HL.out.1; omega
      have HK := Lib.hid (show k ≤ 100000 by have := HL.out.1; omega)
      obtain ⟨x, hx⟩ : ∃ x, ws[k]? = some x := ⟨_, List.getElem?_eq_getElem hin⟩
      have hrx := HL.out.2.2 x (List.mem_of_getElem? hx)
      obtain ⟨_, _, e1, hg1⟩ := pw_get (HW.out)
      obtain ⟨g, off, u, rfl, hgF, hgl, c0, c1, hxw, hu⟩ := hg1 k x hx
      cases e1
      obtain ⟨ua, uc, rfl⟩ := Sl.len (data_of hu)
      obtain ⟨i, hi⟩ : ∃ i : Nat, x.1 = (i : Int) := ⟨x.1.toNat, by have := hrx.1; omega⟩
      rw [hi] at c0 hxw
      have hb1 : wr.cell? ⟨g, off + k * 2, none⟩ = some (.int .i64 (i : Int)) := (HLS.out.bel.cell (p := ⟨g, off + k * 2, none⟩) hgl).trans c0
      have hb2 : wr.cell? ⟨g, off + k * 2 + 1, none⟩ = some (.slice ua x.2.length uc) := (HLS.out.bel.cell (p := ⟨g, off + k * 2 + 1, none⟩) hgl).trans c1
      have hxl : x.2.length ≤ 100 := hrx.2.2
      have HRT := Lib.hid hxl
      have HI := Lib.hid hi
      have HX2 := Lib.hid hx
      have HPOS := Lib.hid (show ∀ W : World, Below w.heap.size w W → 0 < (pc x.2).length → ∃ ad, ua = some ad ∧ ∀ j v, (pc x.2)[j]? = some v → W.cell? (ad.add j) = some v from fun W hB hp => by
        have hd := (data_of hu).keep hB
        rcases hd.2 with ⟨h0, _⟩ | ⟨b, o, c, e, _, _, hc⟩
        · rw [pc_len] at hp; omega
        · simp only [Value.slice.injEq] at e
          exact ⟨_, e.1, fun j v hv => by rw [Addr.add_mid]; exact hc j v hv⟩)
      obtain ⟨W0, hW0⟩ : ∃ W0, W0 = wr.alloc (.cells #[.int .i64 (i : Int), .slice ua x.2.length uc] 82) := ⟨_, rfl⟩
      have hB0 : Below wr.heap.size wr W0 := by rw [hW0]; exact (Below.refl _ _).alloc (Nat.le_refl _) _
      have hl0 : W0.cell? ⟨wr.heap.size, 0, none⟩ = some (.int .i64 (i : Int)) := by rw [hW0]; go_simp
      have hl1 : W0.cell? ⟨wr.heap.size, 1, none⟩ = some (.slice ua x.2.length uc) := by rw [hW0]; go_simp
      have hz0 : W0.heap.size = wr.heap.size + 1 := by rw [hW0]; simp
      have hM0 : W0.ownsMap Tryz.prog 3 plR w.heap.size k D := HM.out.kept (grown_of_below hB0) (by simp)
      have hN0 : W0.ownsRow (w.heap.size + 1) 3 1 (.slice a4 ns.length c4) ns.length (ns.map (Value.int .i64)) := own_at HN.out hB0
      have hBW : Below w.heap.size w W0 := HLS.out.bel.trans (hB0.mono HLS.out.bel.size)
      have hP0 : ∀ i g, m i = some g → W0.heap[g]? = wr.heap[g]? := fun i g hig => by
        obtain ⟨_, p, _, _, hp⟩ := HLS.out.pay i g hig
        exact hB0.block g (Array.getElem?_eq_some_iff.1 hp).1
      have hlook := (look_pl (t := 127) Tryz.underlying3 Tryz.underlying127 (HZR.out W0) hM0 HOF.out hxw).1
      have hzz : wr.heap.size ≤ W0.heap.size := hB0.size
      have hps := HLS.out.pos
      obtain ⟨b0, hb0, hx0, hx1, hx2⟩ := info_parts byte_info2
      obtain ⟨j0, hj0, hy0, hy1, hy2⟩ := info_parts int_info
      clear hg1 c0 c1 hu hx hi hrx
      cases hmi : m i with
      | some g0 =>
        rw [hmi] at hlook
        simp only [Option.isSome_some] at hlook
        rw [hW0] at hlook
        have HGE := Lib.hid (show wr.heap.size + 1 = W0.heap.size by omega)
        have HM1 := Lib.hid hM0
        have HN1 := Lib.hid hN0
        have HB1 := Lib.hid hBW
        have HZ1 := Lib.hid (show w.heap.size ≤ W0.heap.size by omega)
        have HL1 := Lib.hid (show wr.heap.size < W0.heap.size by omega)
        have HW1 := Lib.hid (And.intro hBW hP0)
        have HMBL := Lib.hid (show w.heap.size < W0.heap.size by omega)
        have HSZ := Lib.hid hzz
        have HMB := Lib.hid (own_base hN0)
        have HNS := Lib.hid (show ns.Nodup ∧ ns.length ≤ k + 1 ∧ ∀ y, y ∈ ns ↔ y ∈ ns ∨ y = (i : Int) from ⟨HLS.out.dup, by have := HLS.out.few; omega, fun y => ⟨.inl, fun h => h.elim id fun e => by rw [e]; exact (HLS.out.mem _).2 ⟨i, rfl, by rw [hmi]; rfl⟩⟩⟩)
        clear hM0 hN0 hBW hP0 hzz hps hB0
        go_wp2_with (rw [← hW0]; refine wpList_make_full _ rfl _ _ 51 rfl W0.heap.size 5 b0 _ 1 Tryz.underlying51 hb0 hx0 hx1 _ _ _ _ 100 rfl rfl (by rfl) (by rfl) (by rw [hx2]; decide) (by unfold maxLen; omega) (by omega) ?_)
        intro w2 hown2 hg2
        rw [← hW0] at hg2
        have hb2 := below_grown hg2
        have hrow : w2.heap[(wr.heap.size + 1)]? = some (.cells zero100.toArray 5 (0, 0)) := by have := own_full hown2; rw [made_one] at this; exact this
        have hcl : w2.cell? ⟨wr.heap.size, 1, none⟩ = some (.slice ua x.2.length uc) := (hb2.cell (p := ⟨wr.heap.size, 1, none⟩) HL1.out).trans hl1
        have hci : w2.cell? ⟨wr.heap.size, 0, none⟩ = some (.int .i64 (i : Int)) := (hb2.cell (p := ⟨wr.heap.size, 0, none⟩) HL1.out).trans hl0
        have HBB := Lib.hid hb2
        have HRW := Lib.hid hrow
        clear hown2 hg2 hrow
        go_wp2_with (refine wpList_copy_splice (by rfl) (.tmp 35) (.tmp 37) 51 51 (by rfl) 5 Tryz.underlying51 byte_size1 (some ⟨(wr.heap.size + 1), 0, none⟩) ua 100 100 x.2.length uc (by rfl) (by rfl) (wr.heap.size + 1) 0 zero100 5 HRW.out (pc x.2) (by rw [pc_len]; show _ = min _ _; omega) (fun hp => ⟨rfl, HPOS.out w2 (HB1.out.trans (hb2.mono HZ1.out)) hp⟩) (by rw [pc_len, zero100_len]; omega) (pc_one _) W0.heap.size W0 hb2 (by first | exact Nat.le_refl _ | (have := HGE.out; omega)) ?_)
        intro w3 hrow3 hb3
        have hb3 : Below W0.heap.size W0 w3 := by rw [← HGE.out, hW0]; exact hb3
        have hci3 : w3.cell? ⟨wr.heap.size, 0, none⟩ = some (.int .i64 (i : Int)) := (hb3.cell (p := ⟨wr.heap.size, 0, none⟩) HL1.out).trans hl0
        have HRW3 := Lib.hid (show w3.heap[(wr.heap.size + 1)]? = some (.cells (pc (fill x.2)).toArray 5 (0, 0)) from by
          have := hrow3.out
          rwa [splice_fill hxl] at this)
        have HB3 := Lib.hid hb3
        obtain ⟨w4, hrun, ⟨D4, hown4, hof4⟩, hg4⟩ := update_pl (t := 127) Tryz.underlying3 Tryz.underlying127 (HM1.out.kept (grown_of_below hb3) (by simp)) HOF.out (by unfold maxLen; have := HK.out; omega) hxw (wr.heap.size + 1)
        have HG4 := Lib.hid hg4
        have HM4 := Lib.hid (And.intro hown4 hof4)
        have HRUN := Lib.hid hrun
        clear hb2 hb3 hown4 hof4 hg4 hcl hci hrow3 hrun HBB HRW
        go_wp2_with (refine wpList_upd rfl _ _ _ 127 rfl HRUN.out ?_)
        go_wp2
        go_roundg (gk - 1)
        case rel =>
          refine ⟨k + 1, _, ns, D4, by omega, by have := HGK.out; omega, by go_num, HM4.out.1, HM4.out.2, ?_, ?_⟩
          · exact own_keep (own_at HN1.out HB3.out) HG4.out (fun b hb e => by have h1 := HMB.out b hb; have h2 := Option.some.inj e; omega)
          · exact Lst_step HX2.out HI.out HRT.out HLS.out HNS.out HW1.out HB3.out HG4.out HRW3.out HMBL.out HSZ.out HGE.out
        case measure => have := HGK.out; omega
      | none =>
        rw [hmi] at hlook
        simp only [Option.isSome_none] at hlook
        rw [hW0] at hlook
        have hap := own_block_lt HN.out
        have HAPP := Lib.hid (show ∀ j g, m j = some g → some g ≠ (Value.slice a4 ns.length c4).ownBlock from fun j g hj => by
          obtain ⟨_, p, _, _, hp⟩ := HLS.out.pay j g hj
          exact row_block HN.out (by decide) hp)
        have HNL := Lib.hid (show ns.length ≤ 100000 by have := HLS.out.few; have := HK.out; omega)
        have HSZ0 := Lib.hid hz0
        clear hz0
        go_wp2_with (at_builtin; rw [← hW0]; refine wpList_append_sl rfl _ _ 33 rfl (w.heap.size + 1) 3 j0 _ 1 8 Tryz.underlying33 hj0 hy0 hy1 hy2 rfl (by decide) _ ns.length (ns.map (Value.int .i64)) rfl (hN0.alloc _) _ 1 [.int .i64 (i : Int)] rfl (sl_at (by have := HSZ0.out; omega)) (fun _ _ h => by cases h) (one_val _ rfl) (by unfold maxLen; have := HNL.out; omega) (by have := HNL.out; omega) (by have := HSZ0.out; simp; omega) ?_)
        intro v1 w1 hown1 hg1 hbl1
        rw [← hW0] at hg1
        obtain ⟨G1, hG1⟩ : ∃ G1, G1 = w1.heap.size := ⟨_, rfl⟩
        have HGE := Lib.hid hG1
        obtain ⟨a5, c5, rfl⟩ := own_nil hown1
        have hz0 := HSZ0.out
        have hgs := hg1.size
        simp only [World.size_alloc] at hgs
        have hbase := own_base hN0
        have hAB : Below w.heap.size w w1 := (hBW.alloc hBW.size _).grown hg1 (by simp; omega) (fun b hb => by have := hbase b hb; omega)
        have HM1 := Lib.hid ((hM0.alloc _).kept hg1 (fun e => by have := hbase _ e.symm; omega))
        have HN1 := Lib.hid (show w1.ownsRow (w.heap.size + 1) 3 1 (.slice a5 (ns.length + 1) c5) (ns ++ [(i : Int)]).length ((ns ++ [(i : Int)]).map (Value.int .i64)) from by rw [List.length_append, List.map_append]; exact hown1)
        have HB1 := Lib.hid hAB
        have HZ1 := Lib.hid (show w.heap.size ≤ w1.heap.size by omega)
        have HL1 := Lib.hid (show wr.heap.size < w1.heap.size by omega)
        have hHb : some wr.heap.size ≠ (Value.slice a4 ns.length c4).ownBlock := hap wr.heap.size (by omega)
        have hl0 : w1.cell? ⟨wr.heap.size, 0, none⟩ = some (.int .i64 (i : Int)) := (World.cell?_of_block (a := ⟨wr.heap.size, 0, none⟩) (hg1.block wr.heap.size (by simp; omega) hHb)).trans ((World.cell?_of_block (a := ⟨wr.heap.size, 0, none⟩) (heap_alloc_old W0 _ (by show wr.heap.size < W0.heap.size; omega))).trans hl0)
        have hl1 : w1.cell? ⟨wr.heap.size, 1, none⟩ = some (.slice ua x.2.length uc) := (World.cell?_of_block (a := ⟨wr.heap.size, 1, none⟩) (hg1.block wr.heap.size (by simp; omega) hHb)).trans ((World.cell?_of_block (a := ⟨wr.heap.size, 1, none⟩) (heap_alloc_old W0 _ (by show wr.heap.size < W0.heap.size; omega))).trans hl1)
        have HW1 := Lib.hid (show Below w.heap.size w w1 ∧ ∀ i g, m i = some g → w1.heap[g]? = wr.heap[g]? from ⟨hAB, fun j g hj => by
          have hgl : g < W0.heap.size := by
            obtain ⟨_, p, _, _, hp⟩ := HLS.out.pay j g hj
            exact Nat.lt_of_lt_of_le (Array.getElem?_eq_some_iff.1 hp).1 hzz
          rw [hg1.block g (by simp; omega) (HAPP.out j g hj), heap_alloc_old W0 _ hgl]
          exact hP0 j g hj⟩)
        have HMBL := Lib.hid (show w.heap.size < w1.heap.size by omega)
        have HSZ := Lib.hid (show wr.heap.size ≤ w1.heap.size by omega)
        have HMB := Lib.hid (own_base HN1.out)
        have HNS := Lib.hid (show (ns ++ [(i : Int)]).Nodup ∧ (ns ++ [(i : Int)]).length ≤ k + 1 ∧ ∀ y, y ∈ ns ++ [(i : Int)] ↔ y ∈ ns ∨ y = (i : Int) from ⟨(by
            rw [List.nodup_append]
            refine ⟨HLS.out.dup, by simp, fun a ha b hb e => ?_⟩
            rw [List.mem_singleton.1 hb] at e
            subst e
            obtain ⟨j, e, hj⟩ := (HLS.out.mem _).1 ha
            have : j = i := by omega
            rw [this, hmi] at hj
            cases hj), by have := HLS.out.few; rw [List.length_append]; simp; omega, fun y => by simp⟩)
        clear hM0 hN0 hBW hP0 hzz hps hB0 hown1 hg1 hbl1 hgs hbase hAB hHb hap hz0
        go_wp2_with (refine wpList_make_full _ rfl _ _ 51 rfl w1.heap.size 5 b0 _ 1 Tryz.underlying51 hb0 hx0 hx1 _ _ _ _ 100 rfl rfl (by rfl) (by rfl) (by rw [hx2]; decide) (by unfold maxLen; omega) (by omega) ?_)
        intro w2 hown2 hg2
        have hb2 := below_grown hg2
        have hrow : w2.heap[w1.heap.size]? = some (.cells zero100.toArray 5 (0, 0)) := by have := own_full hown2; rw [made_one] at this; exact this
        have hcl : w2.cell? ⟨wr.heap.size, 1, none⟩ = some (.slice ua x.2.length uc) := (hb2.cell (p := ⟨wr.heap.size, 1, none⟩) HL1.out).trans hl1
        have hci : w2.cell? ⟨wr.heap.size, 0, none⟩ = some (.int .i64 (i : Int)) := (hb2.cell (p := ⟨wr.heap.size, 0, none⟩) HL1.out).trans hl0
        have HBB := Lib.hid hb2
        have HRW := Lib.hid hrow
        clear hown2 hg2 hrow
        go_wp2_with (refine wpList_copy_splice (by rfl) (.tmp 35) (.tmp 37) 51 51 (by rfl) 5 Tryz.underlying51 byte_size1 (some ⟨w1.heap.size, 0, none⟩) ua 100 100 x.2.length uc (by rfl) (by rfl) w1.heap.size 0 zero100 5 HRW.out (pc x.2) (by rw [pc_len]; show _ = min _ _; omega) (fun hp => ⟨rfl, HPOS.out w2 (HB1.out.trans (hb2.mono HZ1.out)) hp⟩) (by rw [pc_len, zero100_len]; omega) (pc_one _) w1.heap.size w1 hb2 (by first | exact Nat.le_refl _ | (have := HGE.out; omega)) ?_)
        intro w3 hrow3 hb3
        have hci3 : w3.cell? ⟨wr.heap.size, 0, none⟩ = some (.int .i64 (i : Int)) := (hb3.cell (p := ⟨wr.heap.size, 0, none⟩) HL1.out).trans hl0
        have HRW3 := Lib.hid (show w3.heap[w1.heap.size]? = some (.cells (pc (fill x.2)).toArray 5 (0, 0)) from by
          have := hrow3.out
          rwa [splice_fill hxl] at this)
        have HB3 := Lib.hid hb3
        obtain ⟨w4, hrun, ⟨D4, hown4, hof4⟩, hg4⟩ := update_pl (t := 127) Tryz.underlying3 Tryz.underlying127 (HM1.out.kept (grown_of_below hb3) (by simp)) HOF.out (by unfold maxLen; have := HK.out; omega) hxw w1.heap.size
        have HG4 := Lib.hid hg4
        have HM4 := Lib.hid (And.intro hown4 hof4)
        have HRUN := Lib.hid hrun
        clear hb2 hb3 hown4 hof4 hg4 hcl hci hrow3 hrun HBB HRW
        go_wp2_with (refine wpList_upd rfl _ _ _ 127 rfl HRUN.out ?_)
        go_wp2
        go_roundg (gk - 1)
        case rel =>
          refine ⟨k + 1, _, ns ++ [(i : Int)], D4, by omega, by have := HGK.out; omega, by go_num, HM4.out.1, HM4.out.2, ?_, ?_⟩
          · exact own_keep (own_at HN1.out HB3.out) HG4.out (fun b hb e => by have h1 := HMB.out b hb; have h2 := Option.some.inj e; omega)
          · exact Lst_step HX2.out HI.out HRT.out HLS.out HNS.out HW1.out HB3.out HG4.out HRW3.out HMBL.out HSZ.out rfl
        case measure => have := HGK.out; omega
    · have hd1 : decide ((k : Int) < (ws.length : Int)) = false := by simp; omega
      obtain rfl : k = ws.length := by omega
      have hnl : ns.length ≤ 100000 := by have := HLS.out.few; have := HL.out.1; omega
      have hsorted := HLS.out.sorted HL.out.2.2
      have HSRT := Lib.hid hsorted
      have HNL := Lib.hid hnl
      clear hsorted hnl
      go_wp2_with fail
      refine (sort_own (w.heap.size + 1) _ ns wr HN.out (by have := HLS.out.pos; omega) (by have := HNL.out; omega)).mono ?_
      rintro e w2 ⟨rfl, hch, ⟨_, _, e1, hat⟩, hty⟩
      have hg2 := chg_grown hch
      have hbase := own_base HN.out
      have HM2 := Lib.hid (HM.out.kept hg2 (fun e => by have := hbase _ e.symm; omega))
      have HB2 := Lib.hid (show Below w.heap.size w w2 from HLS.out.bel.grown hg2 HLS.out.bel.size (fun b hb => by have := hbase b hb; omega))
      have HP2 := Lib.hid (show ∀ y ∈ effect n ws, ∃ i g, y.1 = ((i : Nat) : Int) ∧ i < n ∧ m i = some g ∧ w.heap.size < g ∧ y.2.length = 100 ∧ w2.heap[g]? = some (.cells (pc y.2).toArray 5 (0, 0)) from fun y hy => by
        obtain ⟨i, g, h1, h2, h3, h4, h5, h6⟩ := HLS.out.at_ (n := n) hy
        refine ⟨i, g, h1, h2, h3, h4, h5, ?_⟩
        rw [hch.block g (Array.getElem?_eq_some_iff.1 h6).1 (fun e => row_block HN.out (by decide) h6 e.symm)]
        exact h6)
      have hlen : ns.length = (effect n ws).length := by
        have := congrArg List.length HSRT.out
        rwa [srt_len, List.length_map] at this
      have HZ2 := Lib.hid (show w.heap.size < w2.heap.size by have := hch.size; have := HLS.out.pos; omega)
      rw [HSRT.out, List.length_map, ← hlen] at e1
      cases e1
      rw [HSRT.out] at hat
      have HAT := Lib.hid hat
      have HLEN := Lib.hid hlen
      clear hch hg2 hbase hat hty hlen
      obtain ⟨q0, hq0, hr0, hr1, hr2⟩ := info_parts pw_info
      go_wp2
      generalize hgk0 : gk = gk0 at *
      generalize hwr0 : wr = wr0 at *
      clear hgk0 hwr0
      go_loopg [10, 48] (ns.length) (fun gk t10 t48 wr => ∃ (j : Nat) (xs : List Value), j ≤ ns.length ∧ gk + j = ns.length ∧ t48 = .int .i64 (j : Int) ∧ wr.ownsRow w2.heap.size 82 2 t10 j xs ∧ (rArr rPW j).rd wr (fun b => w.heap.size ≤ b ∧ b < w2.heap.size) xs ((effect n ws).take j) ∧ Below w2.heap.size w2 wr)
      case atStart => exact ⟨0, [], by omega, by omega, rfl, World.ownsRow_nil _ _ _ _, rarr_nil _ _ _, Below.refl _ _⟩
      case round =>
        obtain ⟨j, xs, hj, hgk, rfl, hO, hX, hB⟩ := hrel
        have HGK2 := Lib.hid hgk
        have HO := Lib.hid hO
        have HX := Lib.hid hX
        have HB := Lib.hid hB
        clear hgk hO hX hB
        obtain ⟨a10, c10, rfl⟩ : ∃ a c, _ = Value.slice a j c := by obtain ⟨a, c, e⟩ := Sl.len (Sl.of_own HO.out); exact ⟨a, c, e⟩
        by_cases hjn : j < ns.length
        · have hd2 : decide ((j : Int) < (ns.length : Int)) = true := by simp; omega
          have i0 : (0 : Int) ≤ (j : Int) := by omega
          have i1 : (j : Int) < (ns.length : Int) := by omega
          have i2 : (j : Int) ≤ 100000 := by have := HNL.out; omega
          obtain ⟨y, hy⟩ : ∃ y, (effect n ws)[j]? = some y := ⟨_, List.getElem?_eq_getElem (by have := HLEN.out; omega)⟩
          obtain ⟨i, g, hi, hin, hm, hgw, hpl, hblk⟩ := HP2.out y (List.mem_of_getElem? hy)
          obtain ⟨ng, rfl, hngl, hcell⟩ := HAT.out j (i : Int) (by rw [List.getElem?_map, hy]; exact congrArg some hi)
          have hc := (HB.out.cell (p := ⟨ng, j, none⟩) hngl).trans hcell
          have hwf : (Lit.int .i64 (i : Int)).wf = true := wf_small (by have := HL.out.2.1; omega)
          have hlook := (look_pl (t := 127) Tryz.underlying3 Tryz.underlying127 (HZR.out wr) (HM2.out.kept (grown_of_below HB.out) (by simp)) HOF.out hwf).2
          rw [hm] at hlook
          have hpv : plOr (some g) = .slice (some ⟨g, 0, none⟩) 100 100 := rfl
          rw [hpv] at hlook
          have HBK := Lib.hid (And.intro hpl hblk)
          have HY := Lib.hid hy
          have HIY := Lib.hid hi
          have HGW := Lib.hid hgw
          have HSZ := Lib.hid (show w2.heap.size ≤ wr.heap.size from HB.out.size)
          clear hcell hpl hblk hy hi hpv hm hgw
          go_wp2_with (at_builtin; refine wpList_append_sl rfl _ _ 80 rfl w2.heap.size 82 q0 _ 2 32 Tryz.underlying80 hq0 hr0 hr1 hr2 rfl (by decide) _ j xs rfl (HO.out.alloc _) _ 1 [.int .i64 (i : Int), .slice (some ⟨g, 0, none⟩) 100 100] rfl (sl_at2 rfl) (fun _ _ h => by cases h) (one_two _ _ rfl rfl) (by unfold maxLen; omega) (by omega) (by have := HSZ.out; simp; omega) ?_)
          intro v3 w3 hown3 hg3 hb3
          have HO3 := Lib.hid hown3
          have HB3 := Lib.hid ((HB.out.alloc HSZ.out _).trans hb3)
          have HZ3 := Lib.hid (show wr.heap.size ≤ w3.heap.size by have := hb3.size; simp at this; omega)
          clear hown3 hg3 hb3
          go_wp2
          go_roundg (gk - 1)
          case rel =>
            refine ⟨j + 1, _, by omega, by have := HGK2.out; omega, by go_num, HO3.out, ?_, HB3.out⟩
            rw [take_snoc HY.out]
            have hF : ∀ b, (w.heap.size ≤ b ∧ b < w2.heap.size) → w3.heap[b]? = wr.heap[b]? := fun b hb => (HB3.out.block b hb.2).trans (HB.out.block b hb.2).symm
            refine rarr_snoc ((rArr rPW j).keep (fun b hb _ => hF b hb) HZ3.out HX.out) ⟨[.int .i64 (i : Int)], [plv g], rfl, ⟨by rw [HIY.out], by rw [HIY.out]; exact hwf⟩, ?_⟩
            have hgl : g < w2.heap.size := (Array.getElem?_eq_some_iff.1 HBK.out.2).1
            refine rd_pay HBK.out.1 ?_ ⟨by have := HGW.out; omega, hgl⟩
            rw [HB3.out.block g hgl]; exact HBK.out.2
          case measure => have := HGK2.out; omega
        · have hd2 : decide ((j : Int) < (ns.length : Int)) = false := by simp; omega
          obtain rfl : j = ns.length := by omega
          go_wp2
          go_ret
          refine ⟨_, rfl, ?_, HB2.out.trans (HB.out.mono (by have := HZ2.out; omega))⟩
          have h := HX.out
          rw [HLEN.out, List.take_length] at h
          have ho := HO.out
          rw [HLEN.out] at ho
          have hs := HB.out.size
          rw [HLEN.out]
          exact rd_own ho ((rArr rPW _).more (fun b hb => ⟨hb.1, by omega⟩) h) (fun b hb hb2 => ⟨by have := HZ2.out; omega, hb2⟩)
end
end Go.Proofs.YtngddhoolijimaaGreatDoor
