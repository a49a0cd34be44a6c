/-
  The reference's decoder: strings.
-/
import Derived.Test.YtfppjpmflpaffaaGreatCsC
namespace Go.Proofs.YtfppjpmflpaffaaGreat
open Go.RowKit
set_option linter.unusedVariables false
set_option linter.unusedSimpArgs false

/-- s[k:m] -/
theorem cutr_lh {a : Option Addr} {n c K M : Nat} {z1 z2 : Int} (h1 : z1 = (K : Int)) (h2 : z2 = (M : Int)) (hK : K ≤ M) (hM : M ≤ n) (hn : n ≤ c) : ∃ sa sn sc, (∀ W, Sem.run Tryz.prog (Instr.sliceAt 31 (.slice a n c) (some (.int .i64 z1)) (some (.int .i64 z2)) none) W = .ok (.slice sa sn sc) W) ∧
    (∀ W, Sem.run Tryz.prog (Instr.slice 31 (.slice a n c) (some (.int .i64 z1)) (some (.int .i64 z2)) none) W = .ok (.slice sa sn sc) W) ∧ ∀ w l, Dat w (.slice a n c) l → Dat w (.slice sa sn sc) ((l.take M).drop K) := by
  subst h1
  subst h2
  have h2 : ∀ W, Sem.run Tryz.prog (Instr.slice 31 (.slice a n c) (some (.int .i64 (K : Int))) (some (.int .i64 (M : Int))) none) W = .ok (sliced a K M c 1) W := by
    intro W
    rw [run_slice_lh W 31 a n c under_bytes .i64 .i64 (K : Int) (M : Int) (by omega) (by omega) (by omega), size_byte]
    rfl
  exact ⟨_, _, _, fun W => (run_sliceAt_slice W 31 _ _ _ _ under_bytes).trans (h2 W), h2, fun w l h => cut_dat hK (by have := h.le.1; omega) h⟩

set_option maxRecDepth 100000 in
set_option maxHeartbeats 2000000 in
theorem rget_str : RGetC 124 .str := by
  intro w rb B s h _
  have H := Lib.hid (rcd_length h)
  clear h
  obtain ⟨n, t, hnt⟩ : ∃ n t, dsize s = (n, t) := ⟨_, _, rfl⟩
  rw [hnt] at H
  have HZ := Lib.hid hnt
  have hn0 : 0 ≤ (n : Int) := by omega
  clear hnt
  go_enter Tryz.func124, Tryz.ntmps124
  go_wp2_with fail
  refine H.out.mono ?_
  rintro e w1 ⟨rfl, hs, hc⟩
  replace hs : RefR w1 rb B t := hs
  obtain ⟨i, err, hp, hst⟩ := hs.at_
  have hin : i + n ≤ B.length := by
    cases t with
    | error a =>
      have h0 : n = 0 := by
        have h1 := HZ.out
        unfold dsize at h1
        split at h1
        · cases h1; rfl
        · split at h1
          · cases h1; rfl
          · split at h1
            · cases h1; rfl
            · cases h1
      have := hp.le; omega
    | ok r =>
      obtain ⟨_, hr⟩ := hst.1 r rfl
      have h1 := dsize_le HZ.out
      rw [hr, List.length_drop] at h1
      have := hp.le
      omega
  obtain ⟨S, hS⟩ : ∃ S : ByteArray, S = ⟨(((B.take (i + n)).drop i)).toArray⟩ := ⟨_, rfl⟩
  have HDD := Lib.hid (show ∃ t', dec .str s = (S, t') ∧ RefS B (i + n) err t' from by
    cases t with
    | error a =>
      have h0 : n = 0 := by
        have h1 := HZ.out
        unfold dsize at h1
        split at h1
        · cases h1; rfl
        · split at h1
          · cases h1; rfl
          · split at h1
            · cases h1; rfl
            · cases h1
      subst h0
      refine ⟨.error a, ?_, fun r e => (by cases e), hst.2⟩
      show dstr s = _
      unfold dstr
      rw [HZ.out, hS, Nat.add_zero, List.drop_of_length_le (by rw [List.length_take]; omega)]
      rfl
    | ok r =>
      obtain ⟨he, hr⟩ := hst.1 r rfl
      refine ⟨.ok (r.drop n), ?_, fun r' e => ?_, fun e h => (by cases h)⟩
      · show dstr s = _
        unfold dstr
        rw [HZ.out, hS, hr, List.drop_take, Nat.add_sub_cancel_left]
      · cases e
        exact ⟨he, by rw [hr, List.drop_drop]⟩)
  obtain ⟨v, c0, hd, hlow⟩ := hp.c0
  obtain ⟨a, cp, rfl⟩ := hd.len
  obtain ⟨-, hcap, -⟩ := hd.le
  obtain ⟨m, hm⟩ : ∃ m, m = B.length := ⟨_, rfl⟩
  rw [← hm] at c0 hd hlow hcap
  have HM := Lib.hid hm
  obtain ⟨j, hj⟩ : ∃ j, j = i + n := ⟨_, rfl⟩
  have HJ := Lib.hid hj
  have hj0 : 0 ≤ (j : Int) ∧ (j : Int) ≤ 1073741824 := by have := hp.max; omega
  have hij : (i : Int) + (n : Int) = (j : Int) := by omega
  have ew : IntKind.i64.wrap ((j : Int) - (n : Int)) = (i : Int) := by rw [IntWalk.i64_in _ (by omega)]; omega
  have hi0 : 0 ≤ (i : Int) := by omega
  obtain ⟨sa, sn, sc, hr1, hr2, hcd⟩ := cutr_lh (a := a) (n := m) (c := cp) (K := i) (M := j) (z1 := (i : Int)) (z2 := (j : Int)) rfl rfl (by omega) (by rw [hm, hj]; exact hin) hcap
  have c1 := hp.c1
  have f1 := hp.free 1
  have HP2 := Lib.hid (show RefP (w1.setCell ⟨rb, 1, none⟩ (.int .i64 (j : Int))) rb B j err ∧ Chg (fun b => b = rb) w1 (w1.setCell ⟨rb, 1, none⟩ (.int .i64 (j : Int))) from hp.set1 j (by rw [hj]; exact hin))
  have cv : ∀ k, Sem.run Tryz.prog (convert 31 9 (.slice sa sn sc)) ((w1.setCell ⟨rb, 1, none⟩ (.int .i64 (j : Int))).drewN k) = .ok (.string S) ((w1.setCell ⟨rb, 1, none⟩ (.int .i64 (j : Int))).drewN k) := fun k => by
    have hd2 : Dat ((w1.setCell ⟨rb, 1, none⟩ (.int .i64 (j : Int))).drewN k) (.slice a m cp) B := dat_chg hd hlow (HP2.out.2.drewN k) (fun b hb => by omega)
    have := convert_dat (hcd _ _ hd2)
    rw [hj, ← hS] at this
    rw [hj]
    exact this
  have HSL := Lib.hid (show S.size ≤ maxLen from by
    have h1 : S.size = ((B.take (i + n)).drop i).length := by rw [hS]; exact List.size_toArray
    rw [h1, List.length_drop, List.length_take]
    have := hp.max
    unfold maxLen
    omega)
  have HC := Lib.hid hc
  clear hs hp hst hd hlow hcd hS hcap hin hc hm hj
  go_wp2
  go_quiet (fail)
  generalize nq = m1
  go_wp2
  go_ret
  obtain ⟨t', hd, ht⟩ := HDD.out
  rw [← HJ.out] at ht
  exact ⟨[.string S], rfl, by rw [hd]; exact ⟨rfl, HSL.out⟩, by rw [hd]; exact ⟨⟨j, err, HP2.out.1.drewN m1, ht⟩⟩, (HC.out.trans HP2.out.2).drewN m1⟩
end Go.Proofs.YtfppjpmflpaffaaGreat
