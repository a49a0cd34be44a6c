/-
  The reference's NewDisk, its walk.
-/
import Derived.Test.YtbolglpbkgmlfaaDrG
namespace Go.Proofs.Ytbolglpbkgmlfaa
open Go.RowKit Go.Maps
set_option linter.unusedVariables false
set_option linter.unusedSimpArgs false

theorem rows_info : (Try.prog.info? 24).map (fun i => (i.zero, i.size, i.bytes)) = some (some (.slice none 0 0), 1, 24) := by kernel_rfl
theorem bool_info : (Try.prog.info? 4).map (fun i => (i.zero, i.size, i.bytes)) = some (some (.bool false), 1, 1) := by kernel_rfl

theorem heap_two (w : World) (o1 o2 : Obj) : ((w.alloc o1).alloc o2).drew.heap[w.heap.size]? = some o1 := by
  show ((w.heap.push o1).push o2)[w.heap.size]? = _
  simp [Array.getElem?_push]

theorem sl_one (w : World) (u : Value) (t : TypeId) : Sl (w.alloc (.cells #[u] t)) 1 (.slice (some ⟨w.heap.size, 0, none⟩) 1 1) 1 [u] := sl_new w u t

set_option maxRecDepth 100000 in
set_option maxHeartbeats 8000000 in
theorem rf_new (n : Nat) (hn : n ≤ 4096) (w : World) : Calls Try.prog 17 #[.int .i64 (n : Int)] w fun e w' => ∃ sv bv wv xs, e = .returned (.pointer (some ⟨w.heap.size, 0, none⟩)) ∧ Below w.heap.size w w' ∧ Grow w' w.heap.size n n n sv bv wv xs := by
  have hmk := make_run
  obtain ⟨i0, hi0, hz0, hz1, hz2⟩ := info_parts rows_info
  obtain ⟨i4, hi4, hb0, hb1, hb2⟩ := info_parts bool_info
  have hmm1 : max (n : Int) 0 = (n : Int) := by omega
  have hmm2 : min (n : Int) 4096 = (n : Int) := by omega
  go_enter Try.func17, Try.ntmps17
  go_wp2
  go_loopg [4] n (fun gk t wr => ∃ (k : Nat) (sv bv wv : Value) (xs : List Value), k ≤ n ∧ gk + k = n ∧ t = .int .i64 (k : Int) ∧ Below w.heap.size w wr ∧ Grow wr w.heap.size k k k sv bv wv xs)
  case atStart =>
    refine ⟨0, .slice none 0 0, .slice none 0 0, .slice none 0 0, [], by omega, by omega, rfl, (Below.refl _ _).alloc (Nat.le_refl _) _, ?_⟩
    exact ⟨fun _ => rfl, fun _ => rfl, fun _ => rfl, by go_simp, by go_simp, by go_simp, by go_simp, by go_simp, fun j => by go_simp, World.ownsRow_nil _ _ _ _, World.ownsRow_nil _ _ _ _, World.ownsRow_nil _ _ _ _, fun j v h => by simp at h⟩
  case round =>
    obtain ⟨k, sv, bv, wv, xs, hk, hgk, rfl, hB, hG⟩ := hrel
    have HGK := Lib.hid hgk
    have HG := Lib.hid hG
    have HB := Lib.hid hB
    have hlr := hG.lt
    have c0 := hG.c0
    have c1 := hG.c1
    have c2 := hG.c2
    have f0 := hG.fr 0
    have f1 := hG.fr 1
    have f2 := hG.fr 2
    obtain ⟨⟨sa, sn, sc, rfl⟩, ⟨ba, bn, bc, rfl⟩, ⟨wa, wn, wc, rfl⟩⟩ := hG.one
    clear hG hB hgk
    by_cases hkn : k < n
    · have hkd : decide ((k : Int) < (n : Int)) = true := by simp; omega
      go_wp2_with fail
      go_region_law (first | (refine step_append_sl (by rfl) (.tmp 18) (.tmp 20) 61 (by rfl) (w.heap.size + 1) 24 i0 (.slice none 0 0) 1 24 Try.underlying61 hi0 hz0 hz1 hz2 rfl (by decide) (.slice sa sn sc) k xs (by simp [Act.eval, Act.put]) ((HG.out.os.alloc _).alloc _) (.slice (some ⟨wr.heap.size + 1, 0, none⟩) 1 1) 1 [.slice (some ⟨wr.heap.size, 0, none⟩) 128 128] (by simp [Act.eval, Act.put]) (by
          refine ⟨rfl, .inr ⟨_, 0, 1, rfl, Nat.le_refl _, by simp, ?_⟩⟩
          intro j u hu
          cases j with
          | zero => (simp at hu; subst hu; go_simp)
          | succ j => simp at hu) (fun c h => by cases h) (by intro u hu; simp at hu; subst hu; rfl) (by unfold maxLen; omega) (by omega) (by simp; omega) wr (by repeat (first | exact Below.refl _ _ | refine Below.drew ?_ | (refine Below.alloc ?_ (by first | omega | (simp; omega) | simp) _))) ?_; intro v1 w1 hown1 hg1 hb1; obtain ⟨va, vc, rfl⟩ := Sl.len (Sl.of_own hown1); have j0 : w1.cell? ⟨w.heap.size, 0, none⟩ = some (.slice sa sn sc) := (hb1.cell (p := ⟨w.heap.size, 0, none⟩) (by show w.heap.size < w.heap.size + 1; omega)).trans c0; have j1 : w1.frozen? ⟨w.heap.size, 0, none⟩ = false := (hb1.frozen (p := ⟨w.heap.size, 0, none⟩) (by show w.heap.size < w.heap.size + 1; omega)).trans f0) | fail)
      all_goals
        have HG1 := Lib.hid ((HG.out.grown (((World.grownBy_alloc wr _ none).trans (World.grownBy_alloc _ _ none)).trans (grown_drew _))).step1 (v := .slice (some ⟨wr.heap.size, 0, none⟩) 128 128) rfl hlr (heap_two _ _ _) hown1 hg1)
        have HB1 := Lib.hid (show Below w.heap.size w (w1.setCell ⟨w.heap.size, 0, none⟩ (.slice va (k + 1) vc)) from (HB.out.trans (hb1.mono (Nat.le_succ _))).setCell (Nat.le_refl _) _)
        clear hown1 hg1 hb1 j0 j1 c0 c1 c2 f0 f1 f2
        generalize w1.setCell ⟨w.heap.size, 0, none⟩ (.slice va (k + 1) vc) = wA at *
        have c0 := HG1.out.c0
        have c1 := HG1.out.c1
        have c2 := HG1.out.c2
        have f1 := HG1.out.fr 1
        have f2 := HG1.out.fr 2
        have hlA := HG1.out.lt
        go_wp2_with (at_builtin; refine wpList_append_sl rfl (.tmp 28) (.tmp 29) 61 rfl (w.heap.size + 1) 24 i0 (.slice none 0 0) 1 24 Try.underlying61 hi0 hz0 hz1 hz2 rfl (by decide) (.slice ba bn bc) k (List.replicate k (.slice none 0 0)) rfl (HG1.out.ob.alloc _) (.slice (some ⟨wA.heap.size, 0, none⟩) 1 1) 1 [.slice none 0 0] rfl (sl_one wA _ _) (fun n c h => by cases h) (by intro u hu; simp at hu; subst hu; rfl) (by unfold maxLen; omega) (by omega) (by simp; omega) ?_)
        intro v2 w2 hown2 hg2 hb2
        obtain ⟨va2, vc2, rfl⟩ := Sl.len (Sl.of_own hown2)
        have hA2 : Below (w.heap.size + 1) wA w2 := ((Below.refl _ _).alloc (by omega) _).trans hb2
        have j0 : w2.cell? ⟨w.heap.size, 1, none⟩ = some (.slice ba bn bc) := (hA2.cell (p := ⟨w.heap.size, 1, none⟩) (by show w.heap.size < w.heap.size + 1; omega)).trans c1
        have j1 : w2.frozen? ⟨w.heap.size, 1, none⟩ = false := (hA2.frozen (p := ⟨w.heap.size, 1, none⟩) (by show w.heap.size < w.heap.size + 1; omega)).trans f1
        have j2 : w2.cell? ⟨w.heap.size, 2, none⟩ = some (.slice wa wn wc) := (hA2.cell (p := ⟨w.heap.size, 2, none⟩) (by show w.heap.size < w.heap.size + 1; omega)).trans c2
        have hl2 : w.heap.size < w2.heap.size := Nat.lt_of_lt_of_le hlA hA2.size
        have HG2 := Lib.hid ((HG1.out.grown (World.grownBy_alloc wA _ none)).step2 hown2 hg2)
        have HB2 := Lib.hid (show Below w.heap.size w (w2.setCell ⟨w.heap.size, 1, none⟩ (.slice va2 (k + 1) vc2)) from (HB1.out.trans (hA2.mono (Nat.le_succ _))).setCell (Nat.le_refl _) _)
        have j3 : w2.frozen? ⟨w.heap.size, 2, none⟩ = false := (hA2.frozen (p := ⟨w.heap.size, 2, none⟩) (by show w.heap.size < w.heap.size + 1; omega)).trans f2
        clear hown2 hg2 hb2 hA2 c0 c1 c2 f1 f2
        go_wp2_with (at_builtin; refine wpList_append_sl rfl (.tmp 37) (.tmp 38) 62 rfl (w.heap.size + 1) 4 i4 (.bool false) 1 1 Try.underlying62 hi4 hb0 hb1 hb2 rfl (by decide) (.slice wa wn wc) k (List.replicate k (.bool false)) rfl (HG2.out.ow.alloc _) (.slice (some ⟨w2.heap.size, 0, none⟩) 1 1) 1 [.bool false] rfl (by simpa using sl_one (w2.setCell ⟨w.heap.size, 1, none⟩ (.slice va2 (k + 1) vc2)) (.bool false) 4) (fun n c h => by cases h) (by intro u hu; simp at hu; subst hu; rfl) (by unfold maxLen; omega) (by omega) (by simp; omega) ?_)
        intro v3 w3 hown3 hg3 hb3
        obtain ⟨va3, vc3, rfl⟩ := Sl.len (Sl.of_own hown3)
        have hA3 : Below (w.heap.size + 1) (w2.setCell ⟨w.heap.size, 1, none⟩ (.slice va2 (k + 1) vc2)) w3 := ((Below.refl _ _).alloc (by simp; omega) _).trans hb3
        have i2 : w3.cell? ⟨w.heap.size, 2, none⟩ = some (.slice wa wn wc) := (hA3.cell (p := ⟨w.heap.size, 2, none⟩) (by show w.heap.size < w.heap.size + 1; omega)).trans HG2.out.c2
        have i3 : w3.frozen? ⟨w.heap.size, 2, none⟩ = false := (hA3.frozen (p := ⟨w.heap.size, 2, none⟩) (by show w.heap.size < w.heap.size + 1; omega)).trans (HG2.out.fr 2)
        have hl3 : w.heap.size < w3.heap.size := by have := hA3.size; simp at this; omega
        have HG3 := Lib.hid ((HG2.out.grown (World.grownBy_alloc _ _ none)).step3 hown3 hg3)
        have HB3 := Lib.hid (show Below w.heap.size w (w3.setCell ⟨w.heap.size, 2, none⟩ (.slice va3 (k + 1) vc3)) from (HB2.out.trans (hA3.mono (Nat.le_succ _))).setCell (Nat.le_refl _) _)
        clear hown3 hg3 hb3 hA3 j0 j1 j2 j3
        go_wp2
        go_roundg (gk - 1)
        case rel => exact ⟨k + 1, _, _, _, _, by omega, by have := HGK.out; omega, rfl, HB3.out, HG3.out⟩
        case measure => have := HGK.out; omega
    · obtain rfl : k = n := by omega
      have hkd : decide ((k : Int) < (k : Int)) = false := by simp
      go_wp2
      go_ret
      exact ⟨_, _, _, _, rfl, HB.out, HG.out⟩

end Go.Proofs.Ytbolglpbkgmlfaa
