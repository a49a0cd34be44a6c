/-
  The library's functions that a disk calls: slices.Clone (bytes, pages), maps.Clone, slices.Sorted(maps.Keys(m)), by the kit's contracts.
-/
import Derived.Test.YtngddhoolijimaaGreatDoorDkB
import Derived.Shelf.SlIterI.Nil
import Derived.Shelf.SortM.Plain
import Derived.Shelf.SortM.SortNone
import Derived.Shelf.SlMaps.Clone
import Derived.Shelf.SlicesE.Clone
import Derived.Ground.GgzProg
import Derived.Ground.SlgmProg
import Derived.Ground.SlmcProg
import Derived.Ground.SlgnProg
namespace Go.Proofs.YtngddhoolijimaaGreatDoor
open Go.RowKit Go.Maps Go.Shelf Go.Sort

shelf_lay_g SlLaysE0.n41 Slgn 41 at Tryz 60 as Sh.cloneB

shelf_lay_g SlLaysZI.n7 Ggz 7 at Tryz 26 as Sh.keysA

shelf_lay_g SlLaysZI.n6 Ggz 6 at Tryz 25 as Sh.sortedA

shelf_lay_g SlLaysM.n5 Slgm 5 at Tryz 49 as Sh.sortA


theorem byte_info : (Tryz.prog.info? 5).map (fun i => (i.zero, i.size, i.bytes)) = some (some (.int .u8 0), 1, 1) := by kernel_rfl

theorem clone_bytes (b off n c : Nat) (xs : List UInt8) (w : World) (hl : xs.length = n) (hn : n ≤ 1000000) (hc : w.rangeAt b off (pc xs)) :
    Calls Tryz.prog 60 #[.slice (some ⟨b, off, none⟩) n c] w fun e w' => ∃ v', e = .returned v' ∧ w'.ownsRow w.heap.size 5 1 v' n (pc xs) ∧ v' ≠ .slice none 0 0 ∧ Below w.heap.size w w' := by
  obtain ⟨i0, hi0, hz0, hz1, hz2⟩ := info_parts byte_info
  exact AnyE.slices_Clone Sh.cloneB i0 _ 1 1 hi0 hz0 hz1 hz2 rfl (by decide) Tryz.sizeOf5 b off n c (pc xs) w (by rw [pc_len]; omega) (by unfold maxLen; omega) (by omega) (fun j u hu => hc j u hu) (pc_one xs)

theorem sortsA (m : Nat) : AnyZI.SortsIn Tryz.prog Sh.sortedA_ren Fence.wide m :=
  ⟨fun blk off cap ss W hH hblk hsz => callsIn_wide.2 (AnyM.slices_Sort_int Sh.sortA blk off cap ss W hH hblk hsz),
   fun p cap W => callsIn_wide.2 (AnyM.slices_Sort_int_none Sh.sortA p cap W)⟩

theorem keys_call (mb : Option Nat) (W : World) : Calls Tryz.prog 26 #[.map mb] W fun e w' => e = .returned (.func (.func 50) #[] #[.pointer (some ⟨W.heap.size, 0, none⟩)]) ∧ w' = W.alloc (.cells #[.map mb] 40) :=
  callsIn_wide.1 (AnyZI.keys_in Sh.keysA Fence.wide 5 trivial rfl mb W)

set_option maxHeartbeats 1000000 in
theorem sorted_call (mb N : Nat) (buf : Nat → Option Page) (w : World) (h : Buffer w mb buf) (hN : ∀ i p, buf i = some p → i < N) (hN4 : N ≤ 4096) :
    Calls Tryz.prog 25 #[.func (.func 50) #[] #[.pointer (some ⟨w.heap.size, 0, none⟩)]] (w.alloc (.cells #[.map (some mb)] 40)) fun e w' =>
      ∃ v, e = .returned v ∧ w'.ownsRow w.heap.size 3 1 v (nums buf N).length ((nums buf N).map fun i : Nat => .int .i64 (i : Int)) ∧ Below w.heap.size w w' := by
  obtain ⟨D, n, hown, hof⟩ := h
  have hbl := hown.lt
  have hperm := nums_keys (N := N) (int_keyed Tryz.underlying3) Tryz.underlying3 hown hof hN
  have hlen : (nums buf N).length ≤ 4096 := Nat.le_trans (List.length_filter_le _ _) (by rw [List.length_range]; exact hN4)
  have hkl : (intKeys D).length = Maps.size D := by
    obtain ⟨es, hD⟩ := hown.isMap
    subst hD
    simp [intKeys, Maps.size]
  have hsz : Maps.size D = (nums buf N).length := by rw [← hkl, ← hperm.length_eq, List.length_map]
  have hseq : SeqGives Fence.wide 2 Tryz.prog 50 #[.pointer (some ⟨w.heap.size, 0, none⟩)] encZ (fun ss => ss.Perm (intKeys D)) (Maps.size D) (w.alloc (.cells #[.map (some mb)] 40)) :=
    AnyZI.keys_gives (ρ := Sh.keysA_ren) { Sh.keysA with } Fence.wide _ trivial rfl (by omega) w.heap.size mb n D _ (by simp) (by simp) (by
      obtain ⟨es, clock, hb, Ft, hs, hD⟩ := hown
      exact ⟨es, clock, (Below.heap_alloc _ _ mb hbl).trans hb, Ft, hs, hD⟩)
  have cS := AnyZI.sorted_in Sh.sortedA Fence.wide 5 trivial trivial trivial trivial rfl (by omega) (sortsA _) (enters_of Tryz.func49 (by kernel_rfl) rfl) 50 #[.pointer (some ⟨w.heap.size, 0, none⟩)] trivial (enters_of Tryz.func50 (by kernel_rfl) rfl) _ _ (by unfold maxLen; omega) (by omega) _ hseq
  change CallsIn _ _ Tryz.prog 25 _ _ _ at cS
  refine (callsIn_wide.1 cS).mono ?_
  rintro e w' ⟨v, ss, rfl, hS, hrow, hnil, hb⟩
  have e1 : ss.mergeSort (fun x y => decide (x ≤ y)) = (nums buf N).map fun i : Nat => (i : Int) := by
    rw [mergeSort_of_perm_i (hS.trans hperm.symm)]
    refine List.mergeSort_of_pairwise ?_
    refine List.pairwise_map.2 (List.Pairwise.imp (R := (· < ·)) (fun {a b} hab => by simp only [leI, decide_eq_true_eq]; omega) ?_)
    exact List.Pairwise.filter _ List.pairwise_lt_range
  have e2 : ss.length = (nums buf N).length := by
    have := congrArg List.length e1
    rwa [List.length_mergeSort, List.length_map] at this
  rw [e1, e2, List.map_map] at hrow
  exact ⟨v, rfl, ownsRow_base_a hrow (by simp), ((Below.refl _ w).alloc (Nat.le_refl _) _).trans (hb.mono (by simp))⟩

end Go.Proofs.YtngddhoolijimaaGreatDoor
