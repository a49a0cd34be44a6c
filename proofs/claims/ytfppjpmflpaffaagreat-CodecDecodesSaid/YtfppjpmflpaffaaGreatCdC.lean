/-
  The program's decoder: lengths, strings, the end.
-/
import Derived.Test.YtfppjpmflpaffaaGreatCdB
namespace Go.Proofs.YtfppjpmflpaffaaGreat
open Go.RowKit
set_option linter.unusedVariables false
set_option linter.unusedSimpArgs false

theorem convert_dat {w : World} {v : Value} {l : List UInt8} (h : Dat w v l) : (convert 31 9 v).run Tryz.prog w = .ok (.string ⟨l.toArray⟩) w := by
  rcases h.1.2 with ⟨h0, a, c, rfl⟩ | ⟨b, off, c, rfl, hnc, hl, hc⟩
  · obtain rfl : l = [] := List.eq_nil_of_length_eq_zero h0
    cases a with
    | none => exact run_convert_bytes_nil w 31 5 Tryz.underlying31 Tryz.underlying5 0 c 9 Tryz.underlying9
    | some a => exact run_convert_bytes_back w 31 9 5 a c [] Tryz.underlying31 Tryz.underlying5 Tryz.underlying9 (fun j hj => by simp at hj)
  · exact run_convert_bytes_back w 31 9 5 ⟨b, off, none⟩ c l Tryz.underlying31 Tryz.underlying5 Tryz.underlying9 (fun j hj => by
      rw [Addr.add_mid]
      exact hc j _ (pc_get (List.getElem?_eq_getElem hj)))

theorem dsize_le {s : St} {n : Nat} {r : List UInt8} (h : dsize s = (n, .ok r)) : n ≤ r.length := by
  cases s with
  | error e => rw [dsize_error] at h; cases h
  | ok b => exact (dsize_back h).2.1

set_option maxRecDepth 100000 in
theorem get_num : GetC 26 .num := by
  intro w rb s h _
  have H := Lib.hid (get_int64 w rb s h trivial)
  clear h
  go_enter Tryz.func26, Tryz.ntmps26
  go_wp2_with fail
  refine H.out.mono ?_
  rintro e w1 ⟨cs, rfl, hr, hs, hc⟩
  have HR := Lib.hid (And.intro hr (And.intro hs hc))
  obtain ⟨rfl, hw⟩ := hr
  obtain ⟨z, hz⟩ : ∃ z, z = (dec .num s).1 := ⟨_, rfl⟩
  have e : goV [.int .i64 (dec .num s).1] = .int .i64 z := by rw [hz]; rfl
  rw [e]
  have E := Lib.hid e
  clear hs hc hw e hz
  go_wp2
  go_ret
  exact ⟨_, by rw [E.out]; rfl, HR.out⟩

set_option maxRecDepth 100000 in
set_option maxHeartbeats 2000000 in
theorem cd_size {w : World} {rb : Nat} {s : St} (h : Rdr w rb s) :
    Calls Tryz.prog 63 #[.pointer (some ⟨rb, 0, none⟩)] w fun e w' => e = .returned (.int .i64 ((dsize s).1 : Int)) ∧ Rdr w' rb (dsize s).2 ∧ Chg (fun b => b = rb) w w' := by
  have H := Lib.hid (get_num w rb s h trivial)
  clear h
  obtain ⟨D, hD⟩ : ∃ D, D = dsize s := ⟨_, rfl⟩
  rw [← hD]
  have HD := Lib.hid hD
  clear hD
  go_enter Tryz.func63, Tryz.ntmps63
  go_wp2_with fail
  refine H.out.mono ?_
  rintro e w1 ⟨cs, rfl, hr, hs, hc⟩
  obtain ⟨rfl, hw⟩ := hr
  replace hs : Rdr w1 rb (dnum s).2 := hs
  obtain ⟨z, t, hzt⟩ : ∃ z t, dnum s = (z, t) := ⟨_, _, rfl⟩
  have e : goV [.int .i64 (dec .num s).1] = .int .i64 z := by show Value.int .i64 (dnum s).1 = _; rw [hzt]
  rw [e]
  rw [hzt] at hs
  have HS := Lib.hid (show Rdr w1 rb t from hs)
  have HC := Lib.hid hc
  have HZ := Lib.hid hzt
  have f0 := hs.free 0
  clear hs hc hw e hzt
  cases t with
  | error a =>
    have hz0 : z = 0 := by
      have h1 := HZ.out
      cases s with
      | error e0 => rw [dnum_error] at h1; cases h1; rfl
      | ok b0 =>
        unfold dnum at h1
        simp only at h1
        split at h1 <;> cases h1
        rfl
    subst hz0
    obtain ⟨c0, c1, ha⟩ := HS.out.bad a rfl
    have g0 : (a == 0) = false := by rcases ha with rfl | rfl <;> rfl
    have HDD := Lib.hid (show D = (0, .error a) from by rw [HD.out]; unfold dsize; rw [HZ.out])
    clear ha
    go_wp2
    go_ret
    exact ⟨by rw [HDD.out]; rfl, by rw [HDD.out]; exact HS.out, HC.out⟩
  | ok r =>
    obtain ⟨v, c0, c1, hd, hlow⟩ := HS.out.ok r rfl
    obtain ⟨a, cp, rfl⟩ := hd.len
    obtain ⟨n, hn⟩ : ∃ n, n = r.length := ⟨_, rfl⟩
    rw [← hn] at c0
    have HN := Lib.hid hn
    clear hd hlow hn
    by_cases hneg : z < 0
    · have g1 : decide (z < 0) = true := decide_eq_true hneg
      have HDD := Lib.hid (show D = (0, .error 5) from by rw [HD.out]; unfold dsize; rw [HZ.out]; simp only; rw [if_pos hneg])
      go_wp2_with fail
      refine (cd_fail HS.out 5 (.inr rfl)).mono ?_
      rintro e w2 ⟨rfl, hr, hc⟩
      replace hr : Rdr w2 rb (.error 5) := hr
      have HR := Lib.hid (And.intro hr hc)
      obtain ⟨k0, k1, _⟩ := hr.bad 5 rfl
      clear hr hc c0 c1
      go_wp2
      go_ret
      exact ⟨by rw [HDD.out]; rfl, by rw [HDD.out]; exact HR.out.1, HC.out.trans HR.out.2⟩
    · have g1 : decide (z < 0) = false := decide_eq_false hneg
      obtain ⟨k, rfl⟩ : ∃ k : Nat, z = (k : Int) := ⟨z.toNat, by omega⟩
      by_cases hbig : n < k
      · have g2 : decide ((n : Int) < (k : Int)) = true := decide_eq_true (by omega)
        have HDD := Lib.hid (show D = (0, .error 2) from by rw [HD.out]; unfold dsize; rw [HZ.out]; simp only; rw [if_neg hneg, if_pos (by have := HN.out; omega)])
        clear hneg
        go_wp2_with fail
        refine (cd_fail HS.out 2 (.inl rfl)).mono ?_
        rintro e w2 ⟨rfl, hr, hc⟩
        replace hr : Rdr w2 rb (.error 2) := hr
        have HR := Lib.hid (And.intro hr hc)
        obtain ⟨k0, k1, _⟩ := hr.bad 2 rfl
        clear hr hc c0 c1
        go_wp2
        go_ret
        exact ⟨by rw [HDD.out]; rfl, by rw [HDD.out]; exact HR.out.1, HC.out.trans HR.out.2⟩
      · have g2 : decide ((n : Int) < (k : Int)) = false := decide_eq_false (by omega)
        have HDD := Lib.hid (show D = (k, .ok r) from by rw [HD.out]; unfold dsize; rw [HZ.out]; simp only; rw [if_neg hneg, if_neg (by have := HN.out; omega), Int.toNat_natCast])
        clear hneg
        go_wp2
        go_ret
        exact ⟨by rw [HDD.out]; rfl, by rw [HDD.out]; exact HS.out, HC.out⟩

set_option maxRecDepth 100000 in
set_option maxHeartbeats 2000000 in
theorem get_str : GetC 73 .str := by
  intro w rb s h _
  have H := Lib.hid (cd_size h)
  clear h
  obtain ⟨n, t, hnt⟩ : ∃ n t, dsize s = (n, t) := ⟨_, _, rfl⟩
  rw [hnt] at H
  have HZ := Lib.hid hnt
  have hn0 : 0 ≤ (n : Int) := by omega
  clear hnt
  go_enter Tryz.func73, Tryz.ntmps73
  go_wp2_with fail
  refine H.out.mono ?_
  rintro e w1 ⟨rfl, hs, hc⟩
  have HS := Lib.hid (show Rdr w1 rb t from hs)
  have HC := Lib.hid hc
  have f0 := hs.free 0
  clear hs hc
  cases t with
  | error a =>
    have hn : n = 0 := by
      have h1 := HZ.out
      unfold dsize at h1
      split at h1
      · cases h1; rfl
      · split at h1
        · cases h1; rfl
        · split at h1
          · cases h1; rfl
          · cases h1
    subst hn
    obtain ⟨c0, c1, ha⟩ := HS.out.bad a rfl
    have HDD := Lib.hid (show dec .str s = (ByteArray.empty, .error a) from by show dstr s = _; unfold dstr; rw [HZ.out])
    have hr : ∀ W, (convert 31 9 (.slice none 0 0)).run Tryz.prog W = .ok (.string ⟨#[]⟩) W := fun W => convert_dat (Row.nil W 0).dat
    have HP := Lib.hid (show Rdr (w1.setCell ⟨rb, 0, none⟩ (.slice none 0 0)) rb (.error a) ∧ Chg (fun b => b = rb) w1 (w1.setCell ⟨rb, 0, none⟩ (.slice none 0 0)) from by
      refine ⟨⟨by have := HS.out.lt; simpa using this, fun j => by rw [World.frozen?_setCell]; exact HS.out.free j, fun r e => (by cases e), fun e he => ?_, fun r e => (by cases e)⟩, Chg.setCell _ _ rfl⟩
      cases he
      exact ⟨World.cell?_setCell_same _ _ _ c0, by rw [World.cell?_setCell_other _ _ _ _ (by simp)]; exact c1, ha⟩)
    clear ha
    go_wp2
    go_ret
    exact ⟨[.string ⟨#[]⟩], rfl, by rw [HDD.out]; exact ⟨rfl, Nat.zero_le _⟩, by rw [HDD.out]; exact HP.out.1, HC.out.trans HP.out.2⟩
  | ok r =>
    obtain ⟨v, c0, c1, hd, hlow⟩ := HS.out.ok r rfl
    obtain ⟨a, cp, rfl⟩ := hd.len
    obtain ⟨-, hcap, -⟩ := hd.le
    have hle := (dsize_le HZ.out)
    obtain ⟨m, hm⟩ : ∃ m, m = r.length := ⟨_, rfl⟩
    rw [← hm] at c0 hcap hle hd hlow
    have HM := Lib.hid hm
    obtain ⟨sa, sn, sc, hr1, hr2, hcd, hcl⟩ := cutr_h (a := a) (n := m) (c := cp) (M := n) (z2 := (n : Int)) rfl hle hcap
    obtain ⟨ta, tn, tc, ht1, ht2, htd, htl⟩ := cutr_l (a := a) (n := m) (c := cp) (K := n) (z1 := (n : Int)) rfl hle hcap
    have cv := convert_dat (hcd _ _ hd)
    obtain ⟨S, hS⟩ : ∃ S : ByteArray, S = ⟨(r.take n).toArray⟩ := ⟨_, rfl⟩
    rw [← hS] at cv
    have HSS := Lib.hid hS
    have HDD := Lib.hid (show dec .str s = (S, .ok (r.drop n)) from by show dstr s = _; unfold dstr; rw [HZ.out, hS])
    have HSL := Lib.hid (show S.size ≤ maxLen from by
      have : S.size ≤ r.length := by rw [hS]; show ((r.take n).toArray).size ≤ _; rw [List.size_toArray, List.length_take]; omega
      exact Nat.le_trans this (HS.out.max r rfl))
    have HP := Lib.hid (HS.out.store (r := r.drop n) (u := .slice ta tn tc) c0 c1 (htd _ _ hd) (htl _ hlow) (by have := HS.out.max r rfl; rw [List.length_drop]; omega))
    clear hd hlow hcd hcl htd htl hS hcap hle hm
    go_wp2
    go_ret
    exact ⟨[.string S], rfl, by rw [HDD.out]; exact ⟨rfl, HSL.out⟩, by rw [HDD.out]; exact HP.out.1, HC.out.trans HP.out.2⟩
end Go.Proofs.YtfppjpmflpaffaaGreat
