/-
  NewPages.
-/
import Derived.Test.YtngddhoolijimaaDoorPgA
import Derived.Deep.RegionLaw
namespace Go.Proofs.YtngddhoolijimaaDoor
open Go.RowKit
set_option linter.unusedVariables false
set_option linter.unusedSimpArgs false

theorem make100 (W : World) : Sem.run Tryd.prog (Instr.makeSlice 25 (.int .i64 100) (.int .i64 100)) W = .ok (.slice (some ⟨W.heap.size, 0, none⟩) 100 100) (W.alloc (.cells zero100.toArray 5)) := by
  obtain ⟨i0, hi0, hz0, hz1, hz2⟩ := info_parts byte_info2
  have h := run_makeSlice (P := Tryd.prog) W 25 5 i0 (.int .u8 0) Tryd.underlying25 hi0 hz0 .i64 .i64 100 100 (by omega) (by omega) (by rw [hz1]; decide) (by rw [hz2]; decide) (by decide)
  rw [h, hz1]
  have : madeCells (Value.int .u8 0).cells ((100 : Int).toNat * 1) = zero100.toArray := by
    apply Array.toList_inj.1
    rw [show (Value.int .u8 0).cells = #[.int .u8 0] from rfl, made_one]; rfl
  rw [this]; rfl

theorem heap_two (w : World) (o1 o2 : Obj) : ((w.alloc o1).alloc o2).drew.heap[w.heap.size]? = some o1 := by
  show ((w.heap.push o1).push o2)[w.heap.size]? = _
  simp [Array.getElem?_push]

/-- Payloads that are being laid. -/
structure Lays (w wr : World) (k : Nat) (v : Value) (xs : List Value) : Prop where
  bel : Below w.heap.size w wr
  lt : w.heap.size < wr.heap.size
  cell : wr.cell? ⟨w.heap.size, 0, none⟩ = some v
  fr : wr.frozen? ⟨w.heap.size, 0, none⟩ = false
  own : wr.ownsRow (w.heap.size + 1) 25 1 v k xs
  at_ : ∀ (j : Nat) (u : Value), xs[j]? = some u → ∃ g, u = plv g ∧ w.heap.size < g ∧ wr.heap[g]? = some (.cells zero100.toArray 5 (0, 0))

theorem Lays.step {w wr w1 : World} {k : Nat} {v v1 : Value} {xs : List Value} {o2 : Obj} (h : Lays w wr k v xs) (hown : w1.ownsRow (w.heap.size + 1) 25 1 v1 (k + 1) (xs ++ [plv wr.heap.size])) (hg : ((wr.alloc (.cells zero100.toArray 5)).alloc o2).drew.grownBy w1 v.ownBlock) :
    Lays w (w1.setCell ⟨w.heap.size, 0, none⟩ v1) (k + 1) v1 (xs ++ [plv wr.heap.size]) ∧ w1.cell? ⟨w.heap.size, 0, none⟩ = some v ∧ w1.frozen? ⟨w.heap.size, 0, none⟩ = false := by
  have hbase := own_base h.own
  have hlt := h.lt
  have hsz := hg.size
  simp only [show ∀ W : World, W.drew.heap.size = W.heap.size from fun _ => rfl, World.size_alloc] at hsz
  have old : ∀ b, b < wr.heap.size → some b ≠ v.ownBlock → w1.heap[b]? = wr.heap[b]? := fun b hb hne => by
    rw [hg.block b (by show b < ((wr.alloc _).alloc _).heap.size; simp; omega) hne]
    show ((wr.alloc _).alloc _).heap[b]? = _
    rw [heap_alloc_old _ _ (by simp; omega), heap_alloc_old _ _ hb]
  have h0 : some w.heap.size ≠ v.ownBlock := fun e => by have := hbase _ e.symm; omega
  have hb0 := old w.heap.size hlt h0
  have hc1 : w1.cell? ⟨w.heap.size, 0, none⟩ = some v := (World.cell?_of_block (a := ⟨w.heap.size, 0, none⟩) hb0).trans h.cell
  have hf1 : w1.frozen? ⟨w.heap.size, 0, none⟩ = false := by
    have := h.fr
    unfold World.frozen? at this ⊢
    rw [show w1.heap[(⟨w.heap.size, 0, none⟩ : Addr).block]? = _ from hb0]; exact this
  have hch : Chg (fun b => b = w.heap.size) w1 (w1.setCell ⟨w.heap.size, 0, none⟩ v1) := Chg.setCell _ _ rfl
  refine ⟨⟨?_, by simp; omega, World.cell?_setCell_same _ _ _ hc1, by rw [World.frozen?_setCell]; exact hf1, own_chg hown hch (fun b hb e => by have := own_base hown b hb; omega), fun j u hu => ?_⟩, hc1, hf1⟩
  · have hb : Below w.heap.size w w1 := h.bel.trans ⟨hg.os, hg.tape, hg.output, by omega, fun b hb => old b (by omega) (fun e => by have := hbase _ e.symm; omega)⟩
    exact hb.setCell (Nat.le_refl _) _
  · have hl : xs.length = k := by have := h.own.1; omega
    have hset : ∀ g, g ≠ w.heap.size → g < w1.heap.size → (w1.setCell ⟨w.heap.size, 0, none⟩ v1).heap[g]? = w1.heap[g]? := fun g hne hl => hch.block g hl hne
    by_cases hj : j < xs.length
    · rw [List.getElem?_append_left hj] at hu
      obtain ⟨g, e, hgw, hg2⟩ := h.at_ j u hu
      have hgl := (Array.getElem?_eq_some_iff.1 hg2).1
      refine ⟨g, e, hgw, ?_⟩
      rw [hset g (by omega) (by omega), old g hgl (row_block h.own (by decide) hg2)]
      exact hg2
    · rw [List.getElem?_append_right (by omega)] at hu
      have hj0 : j - xs.length = 0 := by have := (List.getElem?_eq_some_iff.1 hu).1; rw [List.length_singleton] at this; omega
      rw [hj0] at hu
      obtain rfl : plv wr.heap.size = u := by simpa using hu
      refine ⟨wr.heap.size, rfl, hlt, ?_⟩
      rw [hset _ (by omega) (by omega), hg.block _ (by show wr.heap.size < ((wr.alloc _).alloc _).heap.size; simp; omega) (own_block_lt h.own _ (Nat.le_refl _))]
      exact heap_two _ _ _

theorem pc_zero100 : pc (List.replicate 100 0) = zero100 := by unfold pc zero100; rw [List.map_replicate]; rfl

theorem Lays.pages {w wr : World} {k : Nat} {v : Value} {xs : List Value} (h : Lays w wr k v xs) : IsPages wr (fun b => w.heap.size ≤ b ∧ b < wr.heap.size) w.heap.size (zeroP k) := by
  refine ⟨⟨Nat.le_refl _, h.lt⟩, h.lt, v, h.cell, rd_own h.own ⟨by rw [h.own.1]; rfl, by simp [zeroP], fun i x hx => ?_⟩ (fun b hb hb2 => ⟨by omega, hb2⟩)⟩
  have hi : i < k := by have := (List.getElem?_eq_some_iff.1 hx).1; simpa [zeroP] using this
  have hx2 : x = List.replicate 100 0 := by
    unfold zeroP at hx
    rw [List.getElem?_replicate, if_pos hi] at hx
    exact (Option.some.inj hx).symm
  have hl : i < xs.length := by have := h.own.1; omega
  obtain ⟨g, e, hgw, hg⟩ := h.at_ i _ (List.getElem?_eq_getElem hl)
  have e1 : (rSlice rByte).size = 1 := rfl
  rw [e1, Nat.mul_one, List.drop_eq_getElem_cons hl, List.take_succ_cons, List.take_zero, e, hx2]
  exact rd_pay (by simp) (by rw [pc_zero100]; exact hg) ⟨by omega, (Array.getElem?_eq_some_iff.1 hg).1⟩

set_option maxRecDepth 100000 in
set_option maxHeartbeats 4000000 in
theorem rf_newPages (n : Nat) (hn : n ≤ 4096) (w : World) : Calls Tryd.prog 56 #[.int .i64 (n : Int)] w fun e w' => e = .returned (.pointer (some ⟨w.heap.size, 0, none⟩)) ∧ Below w.heap.size w w' ∧ IsPages w' (fun b => w.heap.size ≤ b ∧ b < w'.heap.size) w.heap.size (zeroP n) := by
  have hmk := make100
  obtain ⟨i0, hi0, hz0, hz1, hz2⟩ := info_parts bs_info
  have hnn : (n : Int) ≤ 4096 := by omega
  go_enter Tryd.func56, Tryd.ntmps56
  go_wp2
  go_loopg [4] n (fun gk t wr => ∃ (k : Nat) (v : Value) (xs : List Value), k ≤ n ∧ gk + k = n ∧ t = .int .i64 (k : Int) ∧ Lays w wr k v xs)
  case atStart =>
    refine ⟨0, .slice none 0 0, [], by omega, by omega, rfl, (Below.refl _ _).alloc (Nat.le_refl _) _, by simp, by go_simp, by go_simp, World.ownsRow_nil _ _ _ _, fun j u hu => by simp at hu⟩
  case round =>
    obtain ⟨k, v, xs, hk, hgk, rfl, hL⟩ := hrel
    have HGK := Lib.hid hgk
    have HL := Lib.hid hL
    have hlr := hL.lt
    have c0 := hL.cell
    have f0 := hL.fr
    obtain ⟨sa, sc, rfl⟩ := own_nil hL.own
    clear hL hgk
    by_cases hkn : k < n
    · have hkd : decide ((k : Int) < (n : Int)) = true := by simp; omega
      have k2 : (k : Int) ≤ 4096 := by omega
      go_wp2_with fail
      go_region_law (first | (refine step_append_sl (by rfl) (.tmp 16) (.tmp 18) 57 (by rfl) (w.heap.size + 1) 25 i0 (.slice none 0 0) 1 24 Tryd.underlying57 hi0 hz0 hz1 hz2 rfl (by decide) (.slice sa k sc) k xs (by simp [Act.eval, Act.put]) ((HL.out.own.alloc _).alloc _) (.slice (some ⟨wr.heap.size + 1, 0, none⟩) 1 1) 1 [.slice (some ⟨wr.heap.size, 0, none⟩) 100 100] (by simp [Act.eval, Act.put]) (by first | exact sl_at (by simp) | exact sl_keep3 (Below.refl _ _).drew (sl_at (by simp))) (fun c h => by cases h) (one_val _ rfl) (by unfold maxLen; omega) (by omega) (by simp; omega) wr (by repeat (first | exact Below.refl _ _ | refine Below.drew ?_ | (refine Below.alloc ?_ (by first | omega | (simp; omega) | simp) _))) ?_; intro v1 w1 hown1 hg1 hb1; obtain ⟨va, vc, rfl⟩ := own_nil hown1; obtain ⟨hLS, j0, j1⟩ := HL.out.step hown1 hg1) | fail)
      all_goals
        have HLS := Lib.hid hLS
        clear hLS hown1 hg1 hb1 j0 j1 c0 f0
        go_wp2
        go_roundg (gk - 1)
        case rel => exact ⟨k + 1, _, _, by omega, by have := HGK.out; omega, by go_num, HLS.out⟩
        case measure => have := HGK.out; omega
    · obtain rfl : k = n := by omega
      have hkd : decide ((k : Int) < (k : Int)) = false := by simp
      go_wp2
      go_ret
      exact ⟨rfl, HL.out.bel, HL.out.pages⟩
end Go.Proofs.YtngddhoolijimaaDoor
