/-
  The library's functions that a disk calls: slices.Clone (bytes, pages), maps.Clone, slices.Sorted(maps.Keys(m)), by the kit's contracts.
-/
import Derived.Test.YtbolglpbkgmlfaaDkB
import Derived.Shelf.SlIterI.Nil
import Derived.Shelf.SortM.Plain
import Derived.Shelf.SortM.SortNone
import Derived.Shelf.SlMaps.Clone
import Derived.Shelf.SlicesE.Clone
import Derived.Ground.GgzProg
import Derived.Ground.SlgmProg
import Derived.Ground.SlmcProg
import Derived.Ground.SlgnProg
namespace Go.Proofs.Ytbolglpbkgmlfaa
open Go.RowKit Go.Maps Go.Shelf Go.Sort

shelf_lay_g SlLaysE0.n41 Slgn 41 at Try 22 as Sh.cloneB
shelf_lay_g SlLaysE0.n41 Slgn 41 at Try 32 as Sh.cloneP
shelf_lay_g SlLaysW.n5 Slmc 5 at Try 33 as Sh.cloneM
shelf_lay_g SlLaysZI.n7 Ggz 7 at Try 25 as Sh.keysA
shelf_lay_g SlLaysZI.n6 Ggz 6 at Try 24 as Sh.sortedA
shelf_lay_g SlLaysM.n5 Slgm 5 at Try 35 as Sh.sortA

theorem byte_info : (Try.prog.info? 5).map (fun i => (i.zero, i.size, i.bytes)) = some (some (.int .u8 0), 1, 1) := by kernel_rfl

theorem clone_bytes (b off n c : Nat) (xs : List UInt8) (w : World) (hl : xs.length = n) (hn : n ≤ 1000000) (hc : w.rangeAt b off (pc xs)) :
    Calls Try.prog 22 #[.slice (some ⟨b, off, none⟩) n c] w fun e w' => ∃ v', e = .returned v' ∧ w'.ownsRow w.heap.size 5 1 v' n (pc xs) ∧ v' ≠ .slice none 0 0 ∧ Below w.heap.size w w' := by
  obtain ⟨i0, hi0, hz0, hz1, hz2⟩ := info_parts byte_info
  exact AnyE.slices_Clone Sh.cloneB i0 _ 1 1 hi0 hz0 hz1 hz2 rfl (by decide) Try.sizeOf5 b off n c (pc xs) w (by rw [pc_len]; omega) (by unfold maxLen; omega) (by omega) (fun j u hu => hc j u hu) (pc_one xs)

theorem clone_pages (sb c : Nat) (st : List Page) (w : World) (hp : ∀ p ∈ st, p.length = 128) (hn : st.length ≤ 4096) (h : Stable w sb st) :
    Calls Try.prog 32 #[.slice (some ⟨sb, 0, none⟩) st.length c] w fun e w' => ∃ v', e = .returned v' ∧ w'.ownsRow w.heap.size 54 128 v' st.length (st.flatMap pc) ∧ v' ≠ .slice none 0 0 ∧ Below w.heap.size w w' := by
  obtain ⟨i0, hi0, hz0, hz1, hz2⟩ := info_parts pg_info
  refine AnyE.slices_Clone Sh.cloneP i0 _ 128 128 hi0 hz0 hz1 hz2 rfl (by decide) Try.sizeOf54 sb 0 st.length c (st.flatMap pc) w (pages_len hp) (by unfold maxLen; omega) (by omega) (fun j u hu => ?_) (fun u hu => ?_)
  · have hj : j < st.length * 128 := by have := (List.getElem?_eq_some_iff.1 hu).1; rwa [pages_len hp] at this
    have hi : j / 128 < st.length := by omega
    have hg := List.getElem?_eq_getElem hi
    have := pages_get hp hg (j := j % 128) (by omega)
    rw [show j / 128 * 128 + j % 128 = j by omega, hu] at this
    have := h.2.1 _ _ hg _ _ this.symm
    rwa [show 0 + j = j / 128 * 128 + j % 128 by omega]
  · obtain ⟨p, _, hu⟩ := List.mem_flatMap.1 hu
    exact pc_one p u hu

theorem clone_map (mb : Nat) (buf : Nat → Option Page) (w : World) (h : Buffer w mb buf) :
    Calls Try.prog 33 #[.map (some mb)] w fun e w' => ∃ mb', e = .returned (.map (some mb')) ∧ w.heap.size ≤ mb' ∧ Buffer w' mb' buf ∧ Below w.heap.size w w' := by
  obtain ⟨D, n, hown, hof⟩ := h
  refine (AnyW.maps_Clone_owns Sh.cloneM kInt pageR mb n D w hown).mono ?_
  rintro e w' ⟨rfl, h1, _, h2⟩
  exact ⟨_, rfl, Nat.le_refl _, ⟨D, n, h1, hof⟩, h2⟩

theorem sortsA (m : Nat) : AnyZI.SortsIn Try.prog Sh.sortedA_ren Fence.wide m :=
  ⟨fun blk off cap ss W hH hblk hsz => callsIn_wide.2 (AnyM.slices_Sort_int Sh.sortA blk off cap ss W hH hblk hsz),
   fun p cap W => callsIn_wide.2 (AnyM.slices_Sort_int_none Sh.sortA p cap W)⟩

theorem keys_call (mb : Option Nat) (W : World) : Calls Try.prog 25 #[.map mb] W fun e w' => e = .returned (.func (.func 36) #[] #[.pointer (some ⟨W.heap.size, 0, none⟩)]) ∧ w' = W.alloc (.cells #[.map mb] 49) :=
  callsIn_wide.1 (AnyZI.keys_in Sh.keysA Fence.wide 5 trivial rfl mb W)

set_option maxHeartbeats 1000000 in
theorem sorted_call (mb N : Nat) (buf : Nat → Option Page) (w : World) (h : Buffer w mb buf) (hN : ∀ i p, buf i = some p → i < N) (hN4 : N ≤ 4096) :
    Calls Try.prog 24 #[.func (.func 36) #[] #[.pointer (some ⟨w.heap.size, 0, none⟩)]] (w.alloc (.cells #[.map (some mb)] 49)) fun e w' =>
      ∃ v, e = .returned v ∧ w'.ownsRow w.heap.size 3 1 v (nums buf N).length ((nums buf N).map fun i : Nat => .int .i64 (i : Int)) ∧ Below w.heap.size w w' := by
  obtain ⟨D, n, hown, hof⟩ := h
  have hbl := hown.lt
  have hperm := nums_keys (N := N) (int_keyed Try.underlying3) Try.underlying3 hown hof hN
  have hlen : (nums buf N).length ≤ 4096 := Nat.le_trans (List.length_filter_le _ _) (by rw [List.length_range]; exact hN4)
  have hkl : (intKeys D).length = Maps.size D := by
    obtain ⟨es, hD⟩ := hown.isMap
    subst hD
    simp [intKeys, Maps.size]
  have hsz : Maps.size D = (nums buf N).length := by rw [← hkl, ← hperm.length_eq, List.length_map]
  have hseq : SeqGives Fence.wide 2 Try.prog 36 #[.pointer (some ⟨w.heap.size, 0, none⟩)] encZ (fun ss => ss.Perm (intKeys D)) (Maps.size D) (w.alloc (.cells #[.map (some mb)] 49)) :=
    AnyZI.keys_gives (ρ := Sh.keysA_ren) { Sh.keysA with } Fence.wide _ trivial rfl (by omega) w.heap.size mb n D _ (by simp) (by simp) (by
      obtain ⟨es, clock, hb, Ft, hs, hD⟩ := hown
      exact ⟨es, clock, (Below.heap_alloc _ _ mb hbl).trans hb, Ft, hs, hD⟩)
  have cS := AnyZI.sorted_in Sh.sortedA Fence.wide 5 trivial trivial trivial trivial rfl (by omega) (sortsA _) (enters_of Try.func35 (by kernel_rfl) rfl) 36 #[.pointer (some ⟨w.heap.size, 0, none⟩)] trivial (enters_of Try.func36 (by kernel_rfl) rfl) _ _ (by unfold maxLen; omega) (by omega) _ hseq
  change CallsIn _ _ Try.prog 24 _ _ _ at cS
  refine (callsIn_wide.1 cS).mono ?_
  rintro e w' ⟨v, ss, rfl, hS, hrow, hnil, hb⟩
  have e1 : ss.mergeSort (fun x y => decide (x ≤ y)) = (nums buf N).map fun i : Nat => (i : Int) := by
    rw [mergeSort_of_perm_i (hS.trans hperm.symm)]
    refine List.mergeSort_of_pairwise ?_
    refine List.pairwise_map.2 (List.Pairwise.imp (R := (· < ·)) (fun {a b} hab => by simp only [leI, decide_eq_true_eq]; omega) ?_)
    exact List.Pairwise.filter _ List.pairwise_lt_range
  have e2 : ss.length = (nums buf N).length := by
    have := congrArg List.length e1
    rwa [List.length_mergeSort, List.length_map] at this
  rw [e1, e2, List.map_map] at hrow
  exact ⟨v, rfl, ownsRow_base_a hrow (by simp), ((Below.refl _ w).alloc (Nat.le_refl _) _).trans (hb.mono (by simp))⟩

end Go.Proofs.Ytbolglpbkgmlfaa
