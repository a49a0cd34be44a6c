/-
  write, erase.
-/
import Derived.Test.YtngddhoolijimaaGreatDoorPfC
namespace Go.Proofs.YtngddhoolijimaaGreatDoor
open Go.RowKit
set_option linter.unusedVariables false

abbrev rInts : Rd (List Int) := rSlice (rInt .i64)
abbrev rBs : Rd (List (List UInt8)) := rSlice (rSlice rByte)
abbrev DB.off (B : DB) (b : Nat) : Prop := ¬ B.has b

theorem kept_chg {F : Nat → Prop} {w w' : World} (h : Chg F w w') : Kept (fun b => ¬ F b) w w' := fun b hF hb => h.block b hb hF

/-- An element of a slice of ints; of a slice of byte slices. -/
theorem ints_get {w : World} {F : Nat → Prop} {v : Value} {l : List Int} (h : rInts.rd w F [v] l) : ∃ a c, v = .slice a l.length c ∧ ∀ k x, l[k]? = some x → ∃ g off, a = some ⟨g, off, none⟩ ∧ g < w.heap.size ∧ w.cell? ⟨g, off + k, none⟩ = some (.int .i64 x) ∧ (Lit.int .i64 x).wf = true := by
  obtain ⟨a, n, c, e, rfl, hnc, hcm, h4⟩ := h
  obtain rfl : v = .slice a l.length c := by simpa using e
  refine ⟨a, c, rfl, fun k x hx => ?_⟩
  rcases h4 with h4 | ⟨b, off, rfl, _, hb, h⟩
  · have := (List.getElem?_eq_some_iff.1 hx).1; omega
  · obtain ⟨ys, hA, rfl, hw⟩ := h k x hx
    have := hA 0 _ rfl
    rw [Nat.add_zero, show k * (rInt .i64).size = k from Nat.mul_one k] at this
    exact ⟨b, off, rfl, hb, this, hw⟩

theorem bs_get {w : World} {F : Nat → Prop} {v : Value} {l : List (List UInt8)} (h : rBs.rd w F [v] l) : ∃ a c, v = .slice a l.length c ∧ ∀ k x, l[k]? = some x → ∃ g off u, a = some ⟨g, off, none⟩ ∧ g < w.heap.size ∧ w.cell? ⟨g, off + k, none⟩ = some u ∧ (rSlice rByte).rd w F [u] x := by
  obtain ⟨a, n, c, e, rfl, hnc, hcm, h4⟩ := h
  obtain rfl : v = .slice a l.length c := by simpa using e
  refine ⟨a, c, rfl, fun k x hx => ?_⟩
  rcases h4 with h4 | ⟨b, off, rfl, _, hb, h⟩
  · have := (List.getElem?_eq_some_iff.1 hx).1; omega
  · obtain ⟨ys, hA, hr⟩ := h k x hx
    have hl : ys.length = 1 := (rSlice rByte).len hr
    obtain ⟨u, rfl⟩ : ∃ u, ys = [u] := by match ys, hl with | [a], _ => exact ⟨a, rfl⟩
    have := hA 0 _ rfl
    rw [Nat.add_zero, show k * (rSlice rByte).size = k from Nat.mul_one k] at this
    exact ⟨b, off, u, rfl, hb, this, hr⟩

section
variable {w : World} {fb : Nat} {B : DB} {f : PF} {d : DK}

set_option maxRecDepth 100000 in
set_option maxHeartbeats 2000000 in
theorem pf_write (h : IsFile w fb B f) (hd : IsDisk w B d) (nv dv : Value) (ns : List Int) (ds : List (List UInt8)) (hn : rInts.rd w B.off [nv] ns) (hs : rBs.rd w B.off [dv] ds) (hl : ns.length = ds.length) (hlm : ns.length ≤ 1000000) :
    Calls Tryz.prog 62 #[pfPtr fb, nv, dv] w fun e w' => e = .returned (.int .i64 (d.writes (ns.zip ds)).2) ∧ Turns B w w' (d.writes (ns.zip ds)).1 := by
  obtain ⟨na, nc, rfl, _⟩ := ints_get hn
  obtain ⟨da, dc, rfl, _⟩ := bs_get hs
  have HN := Lib.hid hn
  have HS := Lib.hid hs
  have HF := Lib.hid h
  have HD := Lib.hid hd
  have HL := Lib.hid (And.intro hl hlm)
  clear hn hs h hd
  rw [← hl]
  clear hl hlm
  generalize hR : d.writes (ns.zip ds) = R at *
  have HR := Lib.hid hR
  clear hR
  unfold pfPtr
  go_enter Tryz.func62, Tryz.ntmps62
  go_wp2
  go_loopg [12] (ns.length) (fun gk t12 wr => ∃ (k : Nat) (d' : DK), k ≤ ns.length ∧ gk + k = ns.length ∧ t12 = .int .i64 (k : Int) ∧ IsDisk wr B d' ∧ Chg B.has w wr ∧ R = d'.writes ((ns.zip ds).drop k))
  case atStart => exact ⟨0, d, by omega, by omega, rfl, HD.out, Chg.refl _ _, by rw [← HR.out]; rfl⟩
  case round =>
    obtain ⟨k, d', hk, hgk, rfl, hD', hC', hR'⟩ := hrel
    have HGK := Lib.hid hgk
    have HD2 := Lib.hid hD'
    have HC2 := Lib.hid hC'
    have HR2 := Lib.hid hR'
    clear hgk hD' hC' hR' HR HD
    by_cases hin : k < ns.length
    · have hd1 : decide ((k : Int) < (ns.length : Int)) = true := by simp; omega
      have i0 : (0 : Int) ≤ (k : Int) := by omega
      have i1 : (k : Int) < (ns.length : Int) := by omega
      have i2 : (k : Int) ≤ 1000000 := by have := HL.out; omega
      obtain ⟨x, hx⟩ : ∃ x, ns[k]? = some x := ⟨_, List.getElem?_eq_getElem hin⟩
      obtain ⟨y, hy⟩ : ∃ y, ds[k]? = some y := ⟨_, List.getElem?_eq_getElem (by have := HL.out; omega)⟩
      have hk1 := HC2.out.size
      obtain ⟨_, _, e1, hg1⟩ := ints_get (rInts.keep (kept_chg HC2.out) hk1 HN.out)
      obtain ⟨ng, noff, rfl, hngl, c1, hxw⟩ := hg1 k x hx
      cases e1
      obtain ⟨_, _, e2, hg2⟩ := bs_get (rBs.keep (kept_chg HC2.out) hk1 HS.out)
      obtain ⟨dg, doff, u, rfl, hdgl, c2, hu⟩ := hg2 k y hy
      cases e2
      have hfile := HF.out.keep HC2.out HF.out.ne
      have c0 := hfile.hd
      have HDA := Lib.hid (data_of hu)
      have HXW := Lib.hid hxw
      have hz : (ns.zip ds)[k]? = some (x, y) := by rw [List.getElem?_zip_eq_some]; exact ⟨hx, hy⟩
      have hdrop : (ns.zip ds).drop k = (x, y) :: (ns.zip ds).drop (k + 1) := by
        have hlt := (List.getElem?_eq_some_iff.1 hz).1
        rw [List.drop_eq_getElem_cons hlt]
        congr 1
        exact (List.getElem?_eq_some_iff.1 hz).2
      have HR3 := Lib.hid (show R = thn (d'.write x y) fun d => d.writes ((ns.zip ds).drop (k + 1)) from by rw [HR2.out, hdrop]; rfl)
      clear hg1 hg2 hx hy hz hdrop hxw hu hfile HR2
      go_wp2_with fail
      refine region_still 9 (by kernel_rfl) (by kernel_rfl) ?_
      intro wD hWD
      simp only [List.take_succ_cons, List.take_zero, List.drop_succ_cons, List.drop_zero]
      have k0 : wD.cell? ⟨fb, 0, none⟩ = some (.pointer (some ⟨B.db, 0, none⟩)) := by rw [hWD]; exact c0
      have k2 : wD.cell? ⟨dg, doff + k, none⟩ = some u := by rw [hWD]; exact c2
      have HDD := Lib.hid (show Data wD u y from by rw [hWD]; exact HDA.out.keep (Below.refl _ _).drew)
      have HD3 := Lib.hid (show IsDisk wD B d' from by rw [hWD]; exact HD2.out.below (Below.refl _ _).drew)
      have HC3 := Lib.hid (show Chg B.has w wD from by rw [hWD]; exact HC2.out.trans (Chg.of_below (Below.refl _ _).drew))
      clear hWD c0 c1 c2 hk1
      iterate 9 (refine stillH_want (by kernel_rfl) (fun K hK => ?_); go_simp; refine hK _ ?_; clear hK K)
      refine stillH_nil ?_
      go_wp2_with fail
      refine (dk_write HD3.out x HXW.out u y HDD.out).mono ?_
      rintro e w2 ⟨rfl, hT⟩
      have HD4 := Lib.hid hT.1
      have HC4 := Lib.hid (HC3.out.trans hT.2)
      clear hT k0 k2
      generalize hc : (d'.write x y).2 = c at *
      by_cases h0 : c = 0
      · subst h0
        have g0 : ((0 : Int) != 0) = false := rfl
        have HR4 := Lib.hid (show R = (d'.write x y).1.writes ((ns.zip ds).drop (k + 1)) from by rw [HR3.out]; exact if_pos hc)
        go_wp2
        go_roundg (gk - 1)
        case rel => exact ⟨k + 1, _, by omega, by have := HGK.out; omega, rfl, HD4.out, HC4.out, HR4.out⟩
        case measure => have := HGK.out; omega
      · have g0 : (c != 0) = true := by simpa using h0
        have HR4 := Lib.hid (show R = d'.write x y from by rw [HR3.out]; exact if_neg (by rw [hc]; exact h0))
        go_wp2
        go_ret
        exact ⟨by rw [HR4.out, hc]; rfl, by rw [HR4.out]; exact HD4.out, HC4.out⟩
    · have hd1 : decide ((k : Int) < (ns.length : Int)) = false := by simp; omega
      have hk2 : k = ns.length := by omega
      have HR3 := Lib.hid (show R = d'.sync from by
        rw [HR2.out, List.drop_of_length_le (by rw [List.length_zip]; omega)]
        rfl)
      have hfile := HF.out.keep HC2.out HF.out.ne
      have c0 := hfile.hd
      clear hfile
      go_wp2_with fail
      refine (dk_sync HD2.out).mono ?_
      rintro e w2 ⟨rfl, hT⟩
      have HD4 := Lib.hid hT.1
      have HC4 := Lib.hid (HC2.out.trans hT.2)
      clear hT c0
      go_wp2
      go_ret
      exact ⟨by rw [HR3.out]; rfl, by rw [HR3.out]; exact HD4.out, HC4.out⟩
end
end Go.Proofs.YtngddhoolijimaaGreatDoor
