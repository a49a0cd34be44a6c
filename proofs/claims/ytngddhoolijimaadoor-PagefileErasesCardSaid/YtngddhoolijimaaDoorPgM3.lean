/-
  Merged: PgG, PgH, PgI.
-/
import Derived.Test.YtngddhoolijimaaDoorPgM2
namespace Go.Proofs.YtngddhoolijimaaDoor
open Go.RowKit
set_option linter.unusedVariables false
set_option linter.unusedSimpArgs false

section
variable {W w : World} {E : Nat → Prop} {wb fb pb n N : Nat} {B : DB} {f : PF} {d : DK} {P : List (List UInt8)} {mt : Option (Nat × List (List UInt8))} {down : Bool}

/-- What write leaves. -/
def Wrote (W w : World) (E : Nat → Prop) (wb : Nat) (B : DB) (fb n N : Nat) (d : DK) (down : Bool) (w' : World) : Prop :=
  ∃ pb' f' d' P' mt' down', LW W w' E wb B fb pb' n N f' d' P' mt' down' ∧ (d.fuse = 0 → down = false → d'.fuse = 0 ∧ down' = false) ∧ Chg (LB B fb wb) w w'

set_option maxRecDepth 100000 in
set_option maxHeartbeats 8000000 in
theorem write36 (h : LW W w E wb B fb pb n N f d P mt down) (hE : ∀ b, E b → b < w.heap.size) {G : Nat → Prop} (wv : Value) (l : List (Int × List UInt8)) (hw : (rSlice rPWN).rd w G [wv] l) (hG : ∀ b, G b → b < w.heap.size ∧ ¬ LB B fb wb b) (hl : l.length ≤ 1000) (hd : ∀ x ∈ l, x.2.length ≤ 1000) :
    Calls Tryd.prog 28 #[.pointer (some ⟨wb, 0, none⟩), wv] w fun e w' => e = .returned (.bool true) ∧ Wrote W w E wb B fb n N d down w' := by
  obtain ⟨i0, hi0, hz0, hz1, hz2⟩ := info_parts byte_info2
  obtain ⟨q0, hq0, hr0, hr1, hr2⟩ := info_parts pw_info
  obtain ⟨wa, wc, rfl, hwc, hget⟩ := pwn_get hw
  have HW := Lib.hid hw
  have HGT := Lib.hid hget
  have HG := Lib.hid hG
  have HD := Lib.hid hd
  have HE := Lib.hid hE
  have HUP := Lib.hid (And.intro h.up h.dn)
  have HL := Lib.hid (show LM W w (fun b => E b ∨ w.heap.size ≤ b) wb B fb pb n N f d P mt down from h.lm.more (fun b hl e => e.elim id (fun e => absurd e (by omega))))
  have hll : 0 ≤ (l.length : Int) ∧ (l.length : Int) ≤ 1000 := by omega
  clear h hE hw hG hd hget
  go_enter Tryd.func28, Tryd.ntmps28
  go_wp2
  go_loopg [5, 14] (l.length) (fun gk t5 t14 wr => ∃ (k : Nat) (xs : List Value), k ≤ l.length ∧ gk + k = l.length ∧ t14 = .int .i64 (k : Int) ∧ Copied w wr k t5 xs l)
  case atStart => exact ⟨0, [], by omega, by omega, rfl, Below.refl _ _, World.ownsRow_nil _ _ _ _, fun j x hj => by omega⟩
  case round =>
    obtain ⟨k, xs, hk, hgk, rfl, hC⟩ := hrel
    have HGK := Lib.hid hgk
    have HC := Lib.hid hC
    obtain ⟨a5, c5, rfl⟩ : ∃ a c, _ = Value.slice a k c := by obtain ⟨a, c, e⟩ := Sl.len (Sl.of_own hC.own); exact ⟨a, c, e⟩
    clear hC hgk
    by_cases hkn : k < l.length
    · have hd1 : decide ((k : Int) < (l.length : Int)) = true := by simp; omega
      have k0 : 0 ≤ (k : Int) ∧ (k : Int) < 1000 := by omega
      have k1 : (k : Int) < (l.length : Int) := by omega
      obtain ⟨x, hx⟩ : ∃ x, l[k]? = some x := ⟨_, List.getElem?_eq_getElem hkn⟩
      obtain ⟨wg, wo, ua, uc, rfl, hwg, hwgl, hc0, hc1, hwf, hrd, hnil⟩ := HGT.out k x hx
      have HX := Lib.hid hx
      have hxl := HD.out x (List.mem_of_getElem? hx)
      have HWL := Lib.hid (show wg < wr.heap.size from Nat.lt_of_lt_of_le hwgl HC.out.bel.size)
      have KEEP := Lib.hid (show ∀ W' : World, Below w.heap.size w W' → (W'.cell? ⟨wg, wo + k * 2, none⟩ = some (.int .i64 x.1) ∧ W'.cell? ⟨wg, wo + k * 2 + 1, none⟩ = some (.slice ua x.2.length uc) ∧ wg < W'.heap.size) from fun W' hb => ⟨(hb.cell (p := ⟨wg, wo + k * 2, none⟩) hwgl).trans hc0, (hb.cell (p := ⟨wg, wo + k * 2 + 1, none⟩) hwgl).trans hc1, Nat.lt_of_lt_of_le hwgl hb.size⟩)
      have e0 := (HC.out.bel.cell (p := ⟨wg, wo + k * 2, none⟩) hwgl).trans hc0
      have e1 := (HC.out.bel.cell (p := ⟨wg, wo + k * 2 + 1, none⟩) hwgl).trans hc1
      have HSL := Lib.hid (show Sl wr 1 (.slice ua x.2.length uc) x.2.length (pc x.2) from (data_of hrd).keep HC.out.bel)
      have HNL := Lib.hid hnil
      have HBL := Lib.hid (show w.heap.size ≤ wr.heap.size from HC.out.bel.size)
      obtain ⟨px, hpx⟩ : ∃ px, px = x.1 := ⟨_, rfl⟩
      rw [← hpx] at e0 hwf KEEP
      have HPX := Lib.hid hpx
      obtain ⟨m, hm⟩ : ∃ m, m = x.2.length := ⟨_, rfl⟩
      rw [← hm] at e1 HSL hxl KEEP
      have HM := Lib.hid hm
      clear hx hc0 hc1 hrd hnil hwg hwgl hpx hm
      go_wp2_with fail
      go_region_held3 (fun W => W.cell? ⟨wg, wo + k * 2, none⟩ = some (.int .i64 px) ∧ W.cell? ⟨wg, wo + k * 2 + 1, none⟩ = some (.slice ua m uc) ∧ wg < W.heap.size)
        (first | assumption | exact KEEP.out _ HC.out.bel.drew | exact KEEP.out _ (HC.out.bel.trans (hb1.mono HBL.out)) | exact KEEP.out _ ((HC.out.bel.trans (hb1.mono HBL.out)).alloc (HC.out.bel.trans (hb1.mono HBL.out)).size _) | exact KEEP.out _ hb2)
        (first | (refine step_append_sl (by rfl) (.const (.slice none 0 0)) (.tmp 27) 25 (by rfl) wr.heap.size 5 i0 (.int .u8 0) 1 1 Tryd.underlying25 hi0 hz0 hz1 hz2 rfl (by decide) (.slice none 0 0) 0 [] (by simp [Act.eval]) (World.ownsRow_nil _ _ _ _) (.slice ua m uc) m (pc x.2) (by simp [Act.eval, Act.put]) (HSL.out.keep (Below.refl _ _).drew) (fun c h => by cases h; exact HNL.out rfl) (pc_one _) (by unfold maxLen; omega) (by omega) (by simp) wr ((Below.refl _ _).drew) ?_; intro v1 w1 hown1 hg1 hb1; rw [Nat.zero_add, List.nil_append] at hown1; obtain ⟨va, vc, rfl⟩ := own_nil hown1) | (refine step_append_sl (by rfl) (.tmp 17) (.tmp 30) 43 (by rfl) w.heap.size 42 q0 _ 2 32 Tryd.underlying43 hq0 hr0 hr1 hr2 rfl (by decide) (.slice a5 k c5) k xs (by simp [Act.eval, Act.put]) ((own_at' HC.out.own hb1).alloc _) (.slice (some ⟨w1.heap.size, 0, none⟩) 1 1) 1 [.int .i64 px, .slice va m vc] (by simp [Act.eval, Act.put]) (sl_at2 (by simp)) (fun c h => by cases h) (one_two _ _ rfl rfl) (by unfold maxLen; omega) (by omega) (by have := hb1.size; have := HBL.out; simp; omega) w ((HC.out.bel.trans (hb1.mono HBL.out)).alloc (HC.out.bel.trans (hb1.mono HBL.out)).size _) ?_; intro v2 w2 hown2 hg2 hb2) | fail)
      all_goals
        have HCP := Lib.hid (show Copied w w2 (k + 1) v2 (xs ++ [.int .i64 px, .slice va m vc]) l from by
          have a := HC.out.step (v1 := .slice va m vc) (v2 := v2) (w2 := w2) HX.out (by rw [← HM.out]; exact own_low hown1 HBL.out) hb1 ((Below.refl _ _).alloc (Nat.le_refl _) _) hg2 (by rw [← HPX.out]; exact hown2) hb2
          rw [← HPX.out] at a; exact a)
        clear hown1 hg1 hb1 hown2 hg2 hb2 e0 e1
        go_wp2
        go_roundg (gk - 1)
        case rel => exact ⟨k + 1, _, by omega, by have := HGK.out; omega, by go_num, HCP.out⟩
        case measure => have := HGK.out; omega
    · obtain rfl : k = l.length := by omega
      have hd1 : decide ((l.length : Int) < (l.length : Int)) = false := by simp
      have HLR := Lib.hid (HL.out.below HC.out.bel)
      have c1 := HLR.out.c1
      have HRD := Lib.hid (show (rSlice rPW).rd wr (Aside fb B wr) [.slice a5 l.length c5] l from (rSlice rPW).more (fun b hb => ⟨fun e => by have := HL.out.bl b (.inl e); omega, fun e => by have := HL.out.bl b (.inr (.inl e)); omega, hb.2⟩) (HC.out.rd (fun x hx => pw_wf (pwn_pw HW.out) x.1 (List.mem_map_of_mem hx))))
      go_wp2_with fail
      obtain ⟨R, hR⟩ : ∃ R, R = pfWrite f d l := ⟨_, rfl⟩
      have hwrite := pf_Write HLR.out.file HLR.out.disk _ l HRD.out (by omega)
      rw [← hR] at hwrite
      unfold pfPtr at hwrite
      refine hwrite.mono ?_
      rintro e w5 ⟨rfl, hT⟩
      have hRn : R.1.n = n := by rw [hR, pfWrite_n]; exact HL.out.fn
      have HR := Lib.hid hR
      have HSW := Lib.hid (show Sw W w w5 E wb B fb pb n N R.1 R.2.1 P mt down (.slice a5 l.length c5) xs l from
        ⟨HLR.out.turns hT hRn, HC.out.scram (fun b h1 h2 => hT.2.2.block b h2 (fun e => by have := HL.out.bl b (e.elim .inl (fun e => .inr (.inl e))); omega)), chg_then (Chg.of_below HC.out.bel) hT.2.2 (fun b _ e => e.elim .inl (fun e => .inr (.inl e)))⟩)
      have HWW := Lib.hid (show W.heap.size ≤ w.heap.size from HL.out.bel.size)
      clear hwrite hT hR hRn c1 HRD
      go_wp2
      generalize hgk0 : gk = gk0 at *
      generalize hwr0 : wr = wr0 at *
      clear hgk0 hwr0
      go_loopg [41] (l.length) (fun gk t wr => ∃ j : Nat, j ≤ l.length ∧ gk + j = l.length ∧ t = .int .i64 (j : Int) ∧ Sw W w wr E wb B fb pb n N R.1 R.2.1 P mt down (.slice a5 l.length c5) xs l)
      case atStart => exact ⟨0, by omega, by omega, rfl, HSW.out⟩
      case round =>
        obtain ⟨j, hj, hgk, rfl, hS⟩ := hrel
        have HGK2 := Lib.hid hgk
        have HS := Lib.hid hS
        clear hgk hS
        by_cases hjl : j < l.length
        · have hd2 : decide ((j : Int) < (l.length : Int)) = true := by simp; omega
          have j0 : 0 ≤ (j : Int) ∧ (j : Int) < 1000 := by omega
          have j1 : (j : Int) < (l.length : Int) := by omega
          obtain ⟨x, hx⟩ : ∃ x, l[j]? = some x := ⟨_, List.getElem?_eq_getElem hjl⟩
          have HX := Lib.hid hx
          have hxl := HD.out x (List.mem_of_getElem? hx)
          obtain ⟨rb, ro, rfl⟩ : ∃ rb ro, a5 = some ⟨rb, ro, none⟩ := by
            rcases HS.out.scr.row.2 with ⟨e, _⟩ | ⟨b, off, c, e, _⟩
            · omega
            · cases e; exact ⟨_, _, rfl⟩
          have HROW := Lib.hid (show ∀ wr, Sw W w wr E wb B fb pb n N R.1 R.2.1 P mt down (.slice (some ⟨rb, ro, none⟩) l.length c5) xs l → ∀ ua, xs[j * 2 + 1]? = some ua → wr.cell? ⟨rb, ro + j * 2 + 1, none⟩ = some ua from fun wr h ua hua => by
            rcases h.scr.row.2 with ⟨e, _⟩ | ⟨b, off, c, e, _, _, hc⟩
            · omega
            · cases e
              rw [Nat.add_assoc]; exact hc _ _ hua)
          obtain ⟨ua, uc, q1, q2, q3, q4⟩ := HS.out.scr.at_ j x hx
          have e1 := HROW.out _ HS.out _ q2
          obtain ⟨m, hm⟩ : ∃ m, m = x.2.length := ⟨_, rfl⟩
          rw [← hm] at e1 hxl q2 q3 q4
          have HQ2 := Lib.hid q2
          have HQ4 := Lib.hid (And.intro q3 q4)
          have HM := Lib.hid hm
          have hmI : 0 ≤ (m : Int) ∧ (m : Int) ≤ 1000 := by omega
          clear hx q1 q2 q3 q4 hm
          go_wp2
          generalize hgk1 : gk = gk1 at *
          generalize hwr1 : wr = wr1 at *
          clear hgk1 hwr1
          go_loopg [50] m (fun gk t wr => ∃ i : Nat, i ≤ m ∧ gk + i = m ∧ t = .int .i64 (i : Int) ∧ Sw W w wr E wb B fb pb n N R.1 R.2.1 P mt down (.slice (some ⟨rb, ro, none⟩) l.length c5) xs l)
          case atStart => exact ⟨0, by omega, by omega, rfl, HS.out⟩
          case round =>
            obtain ⟨i, hi, hgk3, rfl, hS3⟩ := hrel
            have HGK3 := Lib.hid hgk3
            have HS3 := Lib.hid hS3
            clear hgk3 hS3 e1
            by_cases him : i < m
            · have hd3 : decide ((i : Int) < (m : Int)) = true := by simp; omega
              have i0 : 0 ≤ (i : Int) ∧ (i : Int) < 1000 := by omega
              have i1 : (i : Int) < (m : Int) := by omega
              have e1 := HROW.out _ HS3.out _ HQ2.out
              obtain ⟨ua', uc', r1, r2, r3, r4⟩ := HS3.out.scr.at_ j x HX.out
              rw [← HM.out, HQ2.out] at r2
              cases r2
              rw [← HM.out] at r4
              obtain ⟨g, rfl, hgw, hcells⟩ := r4 (by omega)
              obtain ⟨⟨z, hz⟩, hfz⟩ := hcells i him
              have HST := Lib.hid (show ∀ y : Int, Sw W w (wr.drew.setCell ⟨g, i, none⟩ (.int .u8 y)) E wb B fb pb n N R.1 R.2.1 P mt down (.slice (some ⟨rb, ro, none⟩) l.length c5) xs l from fun y => HS3.out.drew.store HWW.out hgw hz)
              have huc : m ≤ uc := HQ4.out.1
              clear r1 r3 r4 hcells hgw
              go_wp2_with fail
              go_region_law (fail)
              all_goals
                go_wp2
                go_roundg (gk - 1)
                case rel => exact ⟨i + 1, by omega, by have := HGK3.out; omega, by go_num, HST.out _⟩
                case measure => have := HGK3.out; omega
            · have hd3 : decide ((i : Int) < (m : Int)) = false := by simp; omega
              go_wp2
              go_roundg (gk1 - 1)
              case rel => exact ⟨j + 1, by omega, by have := HGK2.out; omega, by go_num, HS3.out⟩
              case measure => have := HGK2.out; omega
        · have hd2 : decide ((j : Int) < (l.length : Int)) = false := by simp; omega
          have HL6 := Lib.hid HS.out.lm
          have HC6 := Lib.hid HS.out.chg
          have HW6 := Lib.hid (show (rSlice rPW).rd wr G [.slice wa l.length wc] l from (rSlice rPW).keep (fun b hb hl => HC6.out.block b hl (HG.out b hb).2) HC6.out.size (pwn_pw HW.out))
          have c4 := HL6.out.c4
          clear HS
          cases down with
          | true =>
            have hR2 : R = ({ f with failed := true }, d, 13) := by rw [HR.out]; exact pfWrite_down (HUP.out.2 rfl).1
            have e13 : R.2.2 = 13 := by rw [hR2]
            rw [e13]
            have HFIN := Lib.hid (show LW W wr E wb B fb pb n N R.1 R.2.1 P mt true from ⟨HL6.out.more (fun b _ e => .inl e), (fun e => by cases e), fun _ => by rw [hR2]; exact HUP.out.2 rfl⟩)
            clear hR2 e13
            go_wp2
            go_ret
            exact ⟨rfl, _, _, _, _, _, _, HFIN.out, (fun _ e => by cases e), HC6.out⟩
          | false =>
            obtain ⟨hff, hmt, hcl⟩ := HUP.out.1 rfl
            have hfe : f = ⟨n, false⟩ := by
              have := HL.out.fn
              cases f; simp_all
            have hany := pfWrite_any (l := l) hcl hfe
            rw [← HR.out] at hany
            have hn4 : n ≤ 4096 ∧ 0 < n := ⟨hcl.pos.2.2, hcl.pos.1⟩
            have c2 := HL6.out.c2
            have HCL := Lib.hid hcl
            have HFE := Lib.hid hfe
            have HMT := Lib.hid hmt
            have HN4 := Lib.hid hn4
            have HANY := Lib.hid hany
            clear hff hmt hcl hfe hany hn4
            go_wp2_with fail
            refine (rf_pagesCheck HL6.out.pg HL6.out.pays HN4.out.1 HW6.out (by omega)).mono ?_
            rintro e w7 ⟨rfl, hb⟩
            have HL7 := Lib.hid (HL6.out.below hb)
            have HC7 := Lib.hid (chg_then HC6.out (Chg.of_below (F := fun _ => False) hb) (fun _ _ h => h.elim))
            have HW7 := Lib.hid (show (rSlice rPW).rd w7 G [.slice wa l.length wc] l from (rSlice rPW).keep (fun b hb' hl => hb.block b hl) hb.size HW6.out)
            clear hb c2 c4 hd2
            have c0 := HL7.out.c0
            have c1 := HL7.out.c1
            have c2 := HL7.out.c2
            have c3 := HL7.out.c3
            have c4 := HL7.out.c4
            have hfr : ∀ j, w7.frozen? ⟨wb, j, none⟩ = false := HL7.out.fr
            rcases HANY.out with ⟨hw, hR2⟩ | ⟨hr, r1, r2, r3, r4⟩ | ⟨hr, r1, r2, r3, r4, r5⟩
            · obtain ⟨z, hz⟩ : ∃ z, z = wrongs n l := ⟨_, rfl⟩
              have e3 : R.2.2 = z := by rw [hR2, hz]
              have hz0 : (z != 0) = true := by rw [hz]; simpa using hw
              have hzz : (z == z) = true := by simp
              rw [e3, ← hz]
              have HLD := Lib.hid (show LM W w7.drew (fun b => E b ∨ w.heap.size ≤ b) wb B fb pb n N ⟨n, false⟩ d P mt false from by
                have := HL7.out.below (Below.refl _ _).drew
                rw [hR2, HFE.out] at this; exact this)
              have hrs := reads36 HLD.out.file HLD.out.disk HCL.out HLD.out.pg HLD.out.pays (fun b hb e => e.elim hb.1 hb.2.1)
              rw [decide_eq_true rfl] at hrs
              unfold pfPtr at hrs
              have HRS := Lib.hid hrs
              have INIT := Lib.hid (And.intro HLD.out.c1 HLD.out.c2)
              have KEEP := Lib.hid (show ∀ w', PTurns fb B w7.drew w' ⟨n, false⟩ d → (w'.cell? ⟨wb, 1, none⟩ = some (.pointer (some ⟨fb, 0, none⟩)) ∧ w'.cell? ⟨wb, 2, none⟩ = some (.pointer (some ⟨pb, 0, none⟩))) from fun w' ht => ⟨(HLD.out.turns ht rfl).c1, (HLD.out.turns ht rfl).c2⟩)
              have HZ := Lib.hid hz
              clear hrs hw hR2 e3 hz hfr c3 c4
              go_wp2_with fail
              go_region_held3 (fun W => W.cell? ⟨wb, 1, none⟩ = some (.pointer (some ⟨fb, 0, none⟩)) ∧ W.cell? ⟨wb, 2, none⟩ = some (.pointer (some ⟨pb, 0, none⟩))) (first | assumption | exact INIT.out | exact KEEP.out _ hT)
                (first | (go_at_call 24; refine HRS.out.mono ?_; rintro e wJ ⟨rfl, hT⟩) | fail)
              all_goals
                have HFIN := Lib.hid (show LW W wJ E wb B fb pb n N ⟨n, false⟩ d P mt false ∧ Chg (LB B fb wb) w wJ from ⟨⟨(HLD.out.turns hT rfl).more (fun b _ e => .inl e), fun _ => ⟨rfl, HMT.out, HCL.out⟩, (fun e => by cases e)⟩,
                  chg_then (chg_then HC7.out (Chg.of_below (F := fun _ => False) (Below.refl _ _).drew) (fun _ _ h => h.elim)) hT.2.2 (fun b _ e => e.elim .inl (fun e => .inr (.inl e)))⟩)
                clear hT
                go_wp2
                go_ret
                exact ⟨rfl, _, _, _, _, _, _, HFIN.out.1, fun h _ => ⟨h, rfl⟩, HFIN.out.2⟩
            · have hw0 := wrongs_zero.2 hr
              rw [r2, hw0]
              have HR4 := Lib.hid (And.intro hr (And.intro r1 (And.intro r3 r4)))
              clear hw0 hr r1 r2 r3 r4
              go_wp2_with fail
              refine (rf_pagesWith HL7.out.pg HL7.out.pays HN4.out.1 HN4.out.2 HW7.out (by omega) HR4.out.1).mono ?_
              rintro e w8 ⟨qb, rfl, hqb, hb8, hpg⟩
              have HL8 := Lib.hid (show LM W w8 E wb B fb pb n N ⟨n, false⟩ R.2.1 P mt false from by
                have := (HL7.out.below hb8).more (E' := E) (fun b _ e => .inl e)
                rw [HR4.out.2.1, HFE.out] at this; exact this)
              have HPG := Lib.hid (show IsPages w8 (LF E B fb wb) qb (withW P l) from hpg.shrink (fun b hb hl => by
                rcases hb with ⟨hb, _⟩ | ⟨hb, _⟩
                · exact ⟨hb.1, hb.2.1, hb.2.2.1, fun e => hb.2.2.2 (.inl e)⟩
                · refine ⟨fun e => ?_, fun e => ?_, fun e => ?_, fun e => ?_⟩
                  · have := HL7.out.bl b (.inl e); omega
                  · have := HL7.out.bl b (.inr (.inl e)); omega
                  · have := HL7.out.bl b (.inr (.inr e)); omega
                  · have := HE.out b e; have := HC7.out.size; omega))
              have HC8 := Lib.hid (chg_then HC7.out (Chg.of_below (F := fun _ => False) hb8) (fun _ _ h => h.elim))
              clear hqb hb8 hpg c0 c1 c2 c3 c4 hfr
              have c1 := HL8.out.c1
              have c2 := HL8.out.c2
              have f2 := HL8.out.fr 2
              go_wp2_with fail
              obtain ⟨W9, hW9⟩ : ∃ W9, W9 = w8.setCell ⟨wb, 2, none⟩ (.pointer (some ⟨qb, 0, none⟩)) := ⟨_, rfl⟩
              have HLD := Lib.hid (show LM W W9.drew E wb B fb qb n N ⟨n, false⟩ R.2.1 (withW P l) mt false from by
                rw [hW9]
                exact (HL8.out.setPages HPG.out (withW_pays HR4.out.1 HCL.out.pays)).below (Below.refl _ _).drew)
              have HC9 := Lib.hid (show Chg (LB B fb wb) w W9.drew from by
                rw [hW9]
                exact chg_then (HC8.out.trans (Chg.setCell _ _ (.inr (.inr rfl)))) (Chg.of_below (F := fun _ => False) (Below.refl _ _).drew) (fun _ _ h => h.elim))
              have hrs := reads36 HLD.out.file HLD.out.disk HR4.out.2.2.1 HLD.out.pg HLD.out.pays (fun b hb e => e.elim hb.1 hb.2.1)
              rw [decide_eq_true rfl] at hrs
              unfold pfPtr at hrs
              have HRS := Lib.hid hrs
              have INIT := Lib.hid (And.intro HLD.out.c1 HLD.out.c2)
              have KEEP := Lib.hid (show ∀ w', PTurns fb B W9.drew w' ⟨n, false⟩ R.2.1 → (w'.cell? ⟨wb, 1, none⟩ = some (.pointer (some ⟨fb, 0, none⟩)) ∧ w'.cell? ⟨wb, 2, none⟩ = some (.pointer (some ⟨qb, 0, none⟩))) from fun w' ht => ⟨(HLD.out.turns ht rfl).c1, (HLD.out.turns ht rfl).c2⟩)
              have d1 : W9.cell? ⟨wb, 1, none⟩ = some (.pointer (some ⟨fb, 0, none⟩)) := HLD.out.c1
              have d2 : W9.cell? ⟨wb, 2, none⟩ = some (.pointer (some ⟨qb, 0, none⟩)) := HLD.out.c2
              rw [← hW9]
              clear hrs hW9 c1 c2 f2
              go_region_held3 (fun W => W.cell? ⟨wb, 1, none⟩ = some (.pointer (some ⟨fb, 0, none⟩)) ∧ W.cell? ⟨wb, 2, none⟩ = some (.pointer (some ⟨qb, 0, none⟩))) (first | assumption | exact INIT.out | exact KEEP.out _ hT)
                (first | (go_at_call 24; refine HRS.out.mono ?_; rintro e wJ ⟨rfl, hT⟩) | fail)
              all_goals
                have HFIN := Lib.hid (show LW W wJ E wb B fb qb n N ⟨n, false⟩ R.2.1 (withW P l) mt false ∧ Chg (LB B fb wb) w wJ from ⟨⟨HLD.out.turns hT rfl, fun _ => ⟨rfl, HMT.out, HR4.out.2.2.1⟩, (fun e => by cases e)⟩,
                  chg_then HC9.out hT.2.2 (fun b _ e => e.elim .inl (fun e => .inr (.inl e)))⟩)
                clear hT
                go_wp2
                go_ret
                exact ⟨rfl, _, _, _, _, _, _, HFIN.out.1, fun h _ => ⟨HR4.out.2.2.2 h, rfl⟩, HFIN.out.2⟩
            · have hw0 := wrongs_zero.2 hr
              rw [r2, hw0]
              have HR4 := Lib.hid (And.intro hr (And.intro r1 (And.intro r3 (And.intro r4 r5))))
              clear hw0 hr r1 r2 r3 r4 r5
              go_wp2_with fail
              refine (rf_pagesWith HL7.out.pg HL7.out.pays HN4.out.1 HN4.out.2 HW7.out (by omega) HR4.out.1).mono ?_
              rintro e w8 ⟨qb, rfl, hqb, hb8, hpg⟩
              have HL8 := Lib.hid (show LM W w8 E wb B fb pb n N R.1 R.2.1 P mt false from (HL7.out.below hb8).more (E' := E) (fun b _ e => .inl e))
              have HPG := Lib.hid (show IsPages w8 (LF E B fb wb) qb (withW P l) from hpg.shrink (fun b hb hl => by
                rcases hb with ⟨hb, _⟩ | ⟨hb, _⟩
                · exact ⟨hb.1, hb.2.1, hb.2.2.1, fun e => hb.2.2.2 (.inl e)⟩
                · refine ⟨fun e => ?_, fun e => ?_, fun e => ?_, fun e => ?_⟩
                  · have := HL7.out.bl b (.inl e); omega
                  · have := HL7.out.bl b (.inr (.inl e)); omega
                  · have := HL7.out.bl b (.inr (.inr e)); omega
                  · have := HE.out b e; have := HC7.out.size; omega))
              have HC8 := Lib.hid (chg_then HC7.out (Chg.of_below (F := fun _ => False) hb8) (fun _ _ h => h.elim))
              clear hqb hb8 hpg c0 c1 c2 c3 c4 hfr
              have c0 := HL8.out.c0
              have c3 := HL8.out.c3
              have c4 := HL8.out.c4
              have f3 := HL8.out.fr 3
              have f4 := HL8.out.fr 4
              go_wp2_with fail
              obtain ⟨W9, hW9⟩ : ∃ W9, W9 = (w8.setCell ⟨wb, 4, none⟩ (.bool true)).setCell ⟨wb, 3, none⟩ (.pointer (some ⟨qb, 0, none⟩)) := ⟨_, rfl⟩
              have HL9 := Lib.hid (show LM W W9 E wb B fb pb n N R.1 R.2.1 P (some (qb, withW P l)) true from by
                rw [hW9]
                exact (HL8.out.setDown true).setMight (mt' := some (qb, withW P l)) (fun q Q e => by
                  cases e
                  exact ⟨(HL8.out.set 4 (.bool true)).2.2.2.2 _ _ HPG.out, withW_pays HR4.out.1 HCL.out.pays⟩))
              have HC9 := Lib.hid (show Chg (LB B fb wb) w W9 from by
                rw [hW9]
                exact (HC8.out.trans (Chg.setCell _ _ (.inr (.inr rfl)))).trans (Chg.setCell _ _ (.inr (.inr rfl))))
              rw [← hW9]
              clear hW9 c0 c3 c4 f3 f4
              have hdw := dk_down HL9.out.disk
              rw [HR4.out.2.2.2.1] at hdw
              refine hdw.mono ?_
              rintro e wJ ⟨rfl, rfl⟩
              have HFIN := Lib.hid (show LW W wJ E wb B fb pb n N R.1 R.2.1 P (some (qb, withW P l)) true from ⟨HL9.out, (fun e => by cases e), fun _ => ⟨HR4.out.2.2.2.1, qb, withW P l, rfl, HR4.out.2.2.2.2⟩⟩)
              clear hdw
              go_wp2
              go_ret
              exact ⟨rfl, _, _, _, _, _, _, HFIN.out, (fun h _ => absurd h HR4.out.2.2.1), HC9.out⟩
end
end Go.Proofs.YtngddhoolijimaaDoor
namespace Go.Proofs.YtngddhoolijimaaDoor
open Go.RowKit Go.Maps Go.ChangeShapes Go.WideShapes
set_option linter.unusedVariables false
set_option linter.unusedSimpArgs false

abbrev rOp36 := rPair (rInt .i64) (rPair (rInt .i64) (rPair (rSlice rPWN) (rSlice (rInt .i64))))

theorem op_at36 {W w : World} {b off i : Nat} {x : Int × Int × List (Int × List UInt8) × List Int} (hb : b < W.heap.size) (hB : Below W.heap.size W w) (h : ∃ ys, At W b (off + i * rOp36.size) ys ∧ rOp36.rd W (· < W.heap.size) ys x) :
    ∃ dv kv, w.cell? ⟨b, off + i * 4, none⟩ = some (.int .i64 x.1) ∧ w.cell? ⟨b, off + i * 4 + 1, none⟩ = some (.int .i64 x.2.1) ∧ w.cell? ⟨b, off + i * 4 + 2, none⟩ = some dv ∧ w.cell? ⟨b, off + i * 4 + 3, none⟩ = some kv ∧
      (Lit.int .i64 x.2.1).wf = true ∧ (rSlice rPWN).rd W (· < W.heap.size) [dv] x.2.2.1 ∧ (rSlice (rInt .i64)).rd W (· < W.heap.size) [kv] x.2.2.2 := by
  obtain ⟨ys, hA, u1, v1, rfl, ⟨rfl, _⟩, u2, v2, rfl, ⟨rfl, hw⟩, u3, v3, rfl, hd, hk⟩ := h
  have l3 : u3.length = 1 := (rSlice rPWN).len hd
  have l4 : v3.length = 1 := (rSlice (rInt .i64)).len hk
  obtain ⟨dv, rfl⟩ : ∃ dv, u3 = [dv] := by match u3, l3 with | [a], _ => exact ⟨a, rfl⟩
  obtain ⟨kv, rfl⟩ : ∃ kv, v3 = [kv] := by match v3, l4 with | [a], _ => exact ⟨a, rfl⟩
  have c : ∀ j u, ([.int .i64 x.1, .int .i64 x.2.1, dv, kv] : List Value)[j]? = some u → w.cell? ⟨b, off + i * 4 + j, none⟩ = some u := fun j u hu => (hB.cell (p := ⟨b, off + i * 4 + j, none⟩) hb).trans (hA j u hu)
  exact ⟨dv, kv, c 0 _ rfl, c 1 _ rfl, c 2 _ rfl, c 3 _ rfl, hw, hd, hk⟩

/-- What few answers. -/
def Fewed (w : World) (l : List (Int × List UInt8)) (kl : Nat) (e : Ending) (w' : World) : Prop := ∃ r, e = .returned (.bool r) ∧ Below w.heap.size w w' ∧ (r = true → l.length ≤ 12 ∧ (∀ x ∈ l, x.2.length ≤ 150) ∧ kl ≤ 100)

set_option maxRecDepth 100000 in
set_option maxHeartbeats 4000000 in
theorem few36 {w : World} {G : Nat → Prop} (k nn : Int) (wa ka : Option Addr) (wc kl kc : Nat) (l : List (Int × List UInt8)) (hw : (rSlice rPWN).rd w G [.slice wa l.length wc] l) :
    Calls Tryd.prog 25 #[.agg #[.int .i64 k, .int .i64 nn, .slice wa l.length wc, .slice ka kl kc]] w (Fewed w l kl) := by
  obtain ⟨wa', wc', e, hwc, hget⟩ := pwn_get hw
  cases e
  have HGT := Lib.hid hget
  have hlen : l.length ≤ maxLen := by
    obtain ⟨a, n, c, e, h1, h2, h3, _⟩ := hw
    omega
  have hll : 0 ≤ (l.length : Int) := by omega
  have hkk : 0 ≤ (kl : Int) := by omega
  clear hget hw
  go_enter Tryd.func25, Tryd.ntmps25
  go_wp2_with fail
  obtain ⟨W0, hW0⟩ : ∃ W0, W0 = w.alloc (.cells #[.int .i64 k, .int .i64 nn, .slice wa l.length wc, .slice ka kl kc] 51) := ⟨_, rfl⟩
  have HB0 := Lib.hid (show Below w.heap.size w W0 from by rw [hW0]; exact (Below.refl _ _).alloc (Nat.le_refl _) _)
  have hcs : ∀ j u, ([.int .i64 k, .int .i64 nn, .slice wa l.length wc, .slice ka kl kc] : List Value)[j]? = some u → W0.cell? ⟨w.heap.size, j, none⟩ = some u := fun j u hu => by
    rw [hW0]
    have := new_cells w [.int .i64 k, .int .i64 nn, .slice wa l.length wc, .slice ka kl kc] 51 j u hu
    rw [Addr.add_mid, Nat.zero_add] at this; exact this
  have HZ0 := Lib.hid (show w.heap.size < W0.heap.size by rw [hW0]; simp)
  have HCS := Lib.hid hcs
  rw [← hW0]
  clear hW0 hcs
  go_loopg [3] 13 (fun gk t3 wr => ∃ i : Nat, i ≤ 13 ∧ i ≤ l.length ∧ gk + i = 13 ∧ t3 = .int .i64 (i : Int) ∧ (∀ (j : Nat) x, j < i → l[j]? = some x → x.2.length ≤ 150) ∧ Below W0.heap.size W0 wr)
  case atStart => exact ⟨0, by omega, by omega, by omega, rfl, fun j x hj => by omega, Below.refl _ _⟩
  case round =>
    obtain ⟨i, hi, hil, hgk, rfl, hpre, hB⟩ := hrel
    have HGK := Lib.hid hgk
    have HPRE := Lib.hid hpre
    have HB := Lib.hid hB
    have e2 := (hB.cell (p := ⟨w.heap.size, 2, none⟩) HZ0.out).trans (HCS.out 2 _ rfl)
    have e3 := (hB.cell (p := ⟨w.heap.size, 3, none⟩) HZ0.out).trans (HCS.out 3 _ rfl)
    have hi0 : 0 ≤ (i : Int) ∧ (i : Int) ≤ 13 := by omega
    clear hgk hpre hB
    by_cases hc : i < l.length ∧ i ≤ 12
    · have hd1 : decide ((i : Int) < (l.length : Int)) = true := by simp; omega
      have hd2 : decide ((i : Int) ≤ 12) = true := by simp; omega
      have hi1 : (i : Int) < (l.length : Int) := by omega
      obtain ⟨x, hx⟩ : ∃ x, l[i]? = some x := ⟨_, List.getElem?_eq_getElem hc.1⟩
      obtain ⟨wg, wo, ua, uc, rfl, _, hwgl, _, hc1, _, _, _⟩ := HGT.out i x hx
      have e1 := ((HB0.out.trans (HB.out.mono HB0.out.size)).cell (p := ⟨wg, wo + i * 2 + 1, none⟩) hwgl).trans hc1
      have HX := Lib.hid hx
      have hm0 : 0 ≤ (x.2.length : Int) := by omega
      clear hc1 hx
      by_cases h150 : 150 < x.2.length
      · have g3 : decide ((150 : Int) < (x.2.length : Int)) = true := by simp; omega
        go_wp2
        go_ret
        exact ⟨false, rfl, HB0.out.trans (HB.out.mono HB0.out.size), fun e => by cases e⟩
      · have g3 : decide ((150 : Int) < (x.2.length : Int)) = false := by simp; omega
        have HN := Lib.hid (show ∀ (j : Nat) y, j < i + 1 → l[j]? = some y → y.2.length ≤ 150 from fun j y hj hy => by
          by_cases hji : j < i
          · exact HPRE.out j y hji hy
          · obtain rfl : j = i := by omega
            rw [HX.out] at hy; cases hy; omega)
        go_wp2
        go_roundg (gk - 1)
        case rel => exact ⟨i + 1, by omega, by omega, by have := HGK.out; omega, by go_num, HN.out, HB.out⟩
        case measure => have := HGK.out; omega
    · have HFIN := Lib.hid (show l.length ≤ 12 → ∀ x ∈ l, x.2.length ≤ 150 from fun h12 x hx => by
        obtain ⟨j, hj, e⟩ := List.getElem_of_mem hx
        exact HPRE.out j x (by omega) (by rw [List.getElem?_eq_getElem hj, e]))
      have HBB := Lib.hid (HB0.out.trans (HB.out.mono HB0.out.size))
      by_cases hil2 : i = l.length
      · subst hil2
        have hd1 : decide ((l.length : Int) < (l.length : Int)) = false := by simp
        by_cases hp : l.length ≤ 12
        · have g1 : decide ((l.length : Int) ≤ 12) = true := by simp; omega
          have g1' : (l.length : Int) ≤ 12 := by omega
          by_cases hq : kl ≤ 100
          · have g2 : decide ((kl : Int) ≤ 100) = true := by simp; omega
            have g2' : (kl : Int) ≤ 100 := by omega
            have HFF := Lib.hid (show l.length ≤ 12 ∧ (∀ x ∈ l, x.2.length ≤ 150) ∧ kl ≤ 100 from ⟨hp, HFIN.out hp, hq⟩)
            clear hc
            go_wp2
            go_ret
            exact ⟨true, rfl, HBB.out, fun _ => HFF.out⟩
          · have g2 : decide ((kl : Int) ≤ 100) = false := by simp; omega
            have g2' : ¬ (kl : Int) ≤ 100 := by omega
            clear hc
            go_wp2
            go_ret
            exact ⟨false, rfl, HBB.out, fun e => by cases e⟩
        · have g1 : decide ((l.length : Int) ≤ 12) = false := by simp; omega
          have g1' : ¬ (l.length : Int) ≤ 12 := by omega
          clear hc
          go_wp2
          go_ret
          exact ⟨false, rfl, HBB.out, fun e => by cases e⟩
      · obtain rfl : i = 13 := by omega
        have hi1 : (13 : Int) < (l.length : Int) := by omega
        have hd1 : decide ((13 : Int) < (l.length : Int)) = true := decide_eq_true hi1
        have g1 : decide ((l.length : Int) ≤ 12) = false := by simp; omega
        have g1' : ¬ (l.length : Int) ≤ 12 := by omega
        clear hc
        go_wp2
        go_ret
        exact ⟨false, rfl, HBB.out, fun e => by cases e⟩

section
variable {W w : World} {E : Nat → Prop} {wb fb pb n N : Nat} {B : DB} {f : PF} {d : DK} {P : List (List UInt8)} {mt : Option (Nat × List (List UInt8))} {down : Bool}

theorem LW.ready (h : LW W w E wb B fb pb n N f d P mt down) : Ready N (fun st => Rec n P st ∨ ∃ q Q, mt = some (q, Q) ∧ Rec n Q st) d := by
  cases down with
  | false => exact (h.up rfl).2.2.ready.more (fun st h => .inl h)
  | true =>
    obtain ⟨_, q, Q, e, hr⟩ := h.dn rfl
    exact hr.more (fun st h => h.imp id (fun h => ⟨q, Q, e, h⟩))

theorem LW.arm {w' : World} (h : LW W w E wb B fb pb n N f d P mt down) (k : Int) (ht : Turns B w w' (d.arm k)) : LW W w' E wb B fb pb n N f (d.arm k) P mt down :=
  ⟨h.lm.turns' ht, fun e => ⟨(h.up e).1, (h.up e).2.1, (h.up e).2.2.arm k⟩, fun e => by
    obtain ⟨h1, q, Q, e2, hr⟩ := h.dn e
    exact ⟨h1, q, Q, e2, hr.arm k⟩⟩

/-- What step leaves. -/
def Stepped (W : World) (E : Nat → Prop) (wb : Nat) (B : DB) (n N : Nat) (w' : World) : Prop :=
  ∃ fb' pb' f' d' P' mt' down', LW W w' E wb B fb' pb' n N f' d' P' mt' down'

set_option maxRecDepth 100000 in
set_option maxHeartbeats 8000000 in
theorem step36 (h : LW W w E wb B fb pb n N f d P mt down) (hE : ∀ b, E b → b < w.heap.size) (k nn : Int) (hnn : (Lit.int .i64 nn).wf = true) (dv kv : Value) (l : List (Int × List UInt8)) (keep : List Int)
    (hd : (rSlice rPWN).rd W (· < W.heap.size) [dv] l) (hk : (rSlice (rInt .i64)).rd W (· < W.heap.size) [kv] keep) (hl : l.length ≤ 12) (hx : ∀ x ∈ l, x.2.length ≤ 150) (hkl : keep.length ≤ 100) :
    Calls Tryd.prog 26 #[.pointer (some ⟨wb, 0, none⟩), .agg #[.int .i64 k, .int .i64 nn, dv, kv]] w fun e w' => e = .returned (.bool true) ∧ Stepped W E wb B n N w' := by
  obtain ⟨wa, wc, rfl, _, _⟩ := pwn_get hd
  obtain ⟨ka, kl, kc, e, rfl, _, _, _⟩ := id hk
  obtain rfl : kv = .slice ka keep.length kc := by simpa using e
  have HD := Lib.hid hd
  have HK := Lib.hid hk
  have HLL := Lib.hid (And.intro hl (And.intro hx hkl))
  have HL := Lib.hid h
  have HE := Lib.hid hE
  clear hd hk hl hx hkl h e hE
  go_enter Tryd.func26, Tryd.ntmps26
  obtain ⟨W0, hW0⟩ : ∃ W0, W0 = w.alloc (.cells #[.int .i64 k, .int .i64 nn, .slice wa l.length wc, .slice ka keep.length kc] 51) := ⟨_, rfl⟩
  have HB0 := Lib.hid (show Below w.heap.size w W0 from by rw [hW0]; exact (Below.refl _ _).alloc (Nat.le_refl _) _)
  have hcs : ∀ j u, ([.int .i64 k, .int .i64 nn, .slice wa l.length wc, .slice ka keep.length kc] : List Value)[j]? = some u → W0.cell? ⟨w.heap.size, j, none⟩ = some u := fun j u hu => by
    rw [hW0]
    have := new_cells w [.int .i64 k, .int .i64 nn, .slice wa l.length wc, .slice ka keep.length kc] 51 j u hu
    rw [Addr.add_mid, Nat.zero_add] at this; exact this
  have HZ0 := Lib.hid (show w.heap.size < W0.heap.size by rw [hW0]; simp)
  have HCS := Lib.hid hcs
  have HW0 := Lib.hid hW0
  have HL0 := Lib.hid (HL.out.below HB0.out)
  clear hW0 hcs
  by_cases k0 : k = 0
  · subst k0
    have HLD := Lib.hid (HL0.out.below (Below.refl _ _).drew)
    have HFA := Lib.hid (dk_failAfter HLD.out.lm.disk nn hnn)
    have INIT := Lib.hid (show W0.drew.cell? ⟨wb, 0, none⟩ = some (.pointer (some ⟨B.db, 0, none⟩)) ∧ W0.drew.cell? ⟨w.heap.size, 1, none⟩ = some (.int .i64 nn) from ⟨HL0.out.lm.c0, HCS.out 1 _ rfl⟩)
    have HNB := Lib.hid (show ¬ B.has w.heap.size from fun e => by have := HL.out.lm.bl _ (.inl e); omega)
    have KEEP := Lib.hid (show ∀ w', Turns B W0.drew w' (d.arm nn) → (w'.cell? ⟨wb, 0, none⟩ = some (.pointer (some ⟨B.db, 0, none⟩)) ∧ w'.cell? ⟨w.heap.size, 1, none⟩ = some (.int .i64 nn)) from fun w' ht => ⟨(HLD.out.arm nn ht).lm.c0, (ht.2.cell (a := ⟨w.heap.size, 1, none⟩) HNB.out HZ0.out).trans INIT.out.2⟩)
    go_wp2_with fail
    rw [← HW0.out]
    go_region_held3 (fun W => W.cell? ⟨wb, 0, none⟩ = some (.pointer (some ⟨B.db, 0, none⟩)) ∧ W.cell? ⟨w.heap.size, 1, none⟩ = some (.int .i64 nn)) (first | assumption | exact INIT.out | exact KEEP.out _ hT)
      (first | (go_at_call 30; refine HFA.out.mono ?_; rintro e wJ ⟨rfl, hT⟩) | fail)
    all_goals
      have HFIN := Lib.hid (HLD.out.arm nn hT)
      clear hT
      go_wp2
      go_ret
      exact ⟨rfl, _, _, _, _, _, _, _, HFIN.out⟩
  · have g0 : (k == 0) = false := by simpa using k0
    have HE0 := Lib.hid (show ∀ b, E b → b < W0.heap.size from fun b hb => Nat.lt_of_lt_of_le (HE.out b hb) HB0.out.size)
    by_cases k1 : k = 1
    · subst k1
      have HLD := Lib.hid (HL0.out.below (Below.refl _ _).drew)
      have HFA := Lib.hid (dk_crash HLD.out.lm.disk (.slice ka keep.length kc) keep (keep_of HK.out (fun b hb => ⟨hb, fun e => by have := HLD.out.lm.bge b (.inr (.inl e)); omega⟩) HLD.out.lm.bel) (by have := HLL.out.2.2; omega))
      have INIT := Lib.hid (show W0.drew.cell? ⟨wb, 0, none⟩ = some (.pointer (some ⟨B.db, 0, none⟩)) ∧ W0.drew.cell? ⟨w.heap.size, 3, none⟩ = some (.slice ka keep.length kc) from ⟨HL0.out.lm.c0, HCS.out 3 _ rfl⟩)
      have HNB := Lib.hid (show ¬ B.has w.heap.size from fun e => by have := HL.out.lm.bl _ (.inl e); omega)
      have KEEP := Lib.hid (show ∀ w', Turns B W0.drew w' (d.crash keep) → (w'.cell? ⟨wb, 0, none⟩ = some (.pointer (some ⟨B.db, 0, none⟩)) ∧ w'.cell? ⟨w.heap.size, 3, none⟩ = some (.slice ka keep.length kc)) from fun w' ht => ⟨(HLD.out.lm.turns' ht).c0, (ht.2.cell (a := ⟨w.heap.size, 3, none⟩) HNB.out HZ0.out).trans INIT.out.2⟩)
      have KEEP1 := Lib.hid (show ∀ w', Turns B W0.drew w' (d.crash keep) → w'.cell? ⟨w.heap.size, 1, none⟩ = some (.int .i64 nn) from fun w' ht => (ht.2.cell (a := ⟨w.heap.size, 1, none⟩) HNB.out HZ0.out).trans (HCS.out 1 _ rfl))
      go_wp2_with fail
      rw [← HW0.out]
      go_region_held3 (fun W => W.cell? ⟨wb, 0, none⟩ = some (.pointer (some ⟨B.db, 0, none⟩)) ∧ W.cell? ⟨w.heap.size, 3, none⟩ = some (.slice ka keep.length kc)) (first | assumption | exact INIT.out | exact KEEP.out _ hT)
        (first | (go_at_call 20; refine HFA.out.mono ?_; rintro e wJ ⟨rfl, hT⟩) | fail)
      all_goals
        have HLJ := Lib.hid (HLD.out.lm.turns' hT)
        have hj1 := KEEP1.out _ hT
        have hj3 := (KEEP.out _ hT).2
        have HEJ := Lib.hid (show ∀ b, E b → b < wJ.heap.size from fun b hb => Nat.lt_of_lt_of_le (HE0.out b hb) hT.2.size)
        have HRJ := Lib.hid (HL.out.ready.crash keep)
        clear hT
        go_wp2_with fail
        refine (open36 HLJ.out HRJ.out HEJ.out nn hnn (.slice ka keep.length kc) keep HK.out (by have := HLL.out.2.2; omega)).mono ?_
        rintro e w5 ⟨rfl, fb', pb', d', P', hL5, -, -, -, -⟩
        have HFIN := Lib.hid hL5
        clear hL5
        go_wp2
        go_ret
        exact ⟨rfl, _, _, _, _, _, _, _, HFIN.out⟩
    · have g1 : (k == 1) = false := by simpa using k1
      by_cases k2 : k = 2
      · subst k2
        go_wp2_with fail
        rw [← HW0.out]
        refine (open36 HL0.out.lm HL.out.ready HE0.out nn hnn (.slice ka keep.length kc) keep HK.out (by have := HLL.out.2.2; omega)).mono ?_
        rintro e w5 ⟨rfl, fb', pb', d', P', hL5, -, -, -, -⟩
        have HFIN := Lib.hid hL5
        clear hL5
        go_wp2
        go_ret
        exact ⟨rfl, _, _, _, _, _, _, _, HFIN.out⟩
      · have g2 : (k == 2) = false := by simpa using k2
        go_wp2_with fail
        rw [← HW0.out]
        refine (write36 HL0.out HE0.out (G := (· < W.heap.size)) (.slice wa l.length wc) l ((rSlice rPWN).keep (fun b hb hl => HL0.out.lm.bel.block b hb) HL0.out.lm.bel.size HD.out) (fun b hb => ⟨Nat.lt_of_lt_of_le hb HL0.out.lm.bel.size, fun e => by
          have hb' : b < W.heap.size := hb
          rcases e with e | e | e
          · have := HL0.out.lm.bge b e; omega
          · have := HL0.out.lm.fge; omega
          · have := HL0.out.lm.wge; omega⟩) (by have := HLL.out.1; omega) (fun x hx => by have := HLL.out.2.1 x hx; omega)).mono ?_
        rintro e w5 ⟨rfl, pb', f', d', P', mt', down', hL5, -, -⟩
        have HFIN := Lib.hid hL5
        clear hL5
        go_wp2
        go_ret
        exact ⟨rfl, _, _, _, _, _, _, _, HFIN.out⟩
end
end Go.Proofs.YtngddhoolijimaaDoor
namespace Go.Proofs.YtngddhoolijimaaDoor
open Go.RowKit Go.Maps Go.ChangeShapes Go.WideShapes
set_option linter.unusedVariables false
set_option linter.unusedSimpArgs false

theorem opensBytesN : Opens Tryd.prog 25 (rSliceN rByte) := opens_sliceN Tryd.underlying25 (by kernel_rfl) (by decide) (opens_byte Tryd.underlying5 (by kernel_rfl))
theorem opensPW : Opens Tryd.prog 42 rPWN :=
  opens_struct Tryd.underlying42 (by kernel_rfl) (opensF_cons rfl (opens_int Tryd.underlying3 (by kernel_rfl)) (opensF_one rfl opensBytesN))
theorem opensPWs : Opens Tryd.prog 43 (rSlice rPWN) := opens_slice Tryd.underlying43 (by kernel_rfl) (by decide) opensPW
theorem opensOp36 : Opens Tryd.prog 51 rOp36 :=
  opens_struct Tryd.underlying51 (by kernel_rfl) (opensF_cons rfl (opens_int Tryd.underlying3 (by kernel_rfl)) (opensF_cons rfl (opens_int Tryd.underlying3 (by kernel_rfl)) (opensF_cons rfl opensPWs (opensF_one rfl opensInts))))
theorem opensOps36 : Opens Tryd.prog 46 (rSlice rOp36) := opens_slice Tryd.underlying46 (by kernel_rfl) (by decide) opensOp36

theorem wf_u8n {p : Int} (h : (Lit.int .u8 p).wf = true) : ∃ n : Nat, n < 256 ∧ p = (n : Int) := by
  have h : 0 ≤ p ∧ p ≤ 255 := by simpa [Lit.wf, IntKind.min, IntKind.max, IntKind.bits, IntKind.signed] using h
  exact ⟨p.toNat, by omega, by omega⟩

set_option maxRecDepth 100000 in
set_option maxHeartbeats 8000000 in
theorem plays36_walk (pp : Int) (v : Value) (L : List (Int × Int × List (Int × List UInt8) × List Int)) (hpw : (Lit.int .u8 pp).wf = true) (W : World) (hL : (rSlice rOp36).rd W (· < W.heap.size) [v] L) :
    Calls Tryd.prog 5 #[.int .u8 pp, v] W (Holds W) := by
  obtain ⟨pn, hp, rfl⟩ := wf_u8n hpw
  obtain ⟨va, vn, vc, ev, rfl, hvc, hvm, hx⟩ := hL
  obtain rfl : v = .slice va L.length vc := by simpa using ev
  have HX := Lib.hid hx
  have hll : 0 ≤ (L.length : Int) := by omega
  have hlm : (L.length : Int) ≤ 9223372036854775807 := by unfold maxLen at hvm; omega
  clear hx ev hpw
  go_enter Tryd.func5, Tryd.ntmps5
  go_wp2_with fail
  refine (begin36 pn hp _ _ (fun _ => False) (fun _ h => h.elim) (Below.refl _ _)).mono ?_
  rintro e w1 ⟨wb, B, fb, pb, d, rfl, hL, -, -, -⟩
  obtain ⟨n, hn⟩ : ∃ n, n = capN (7 + pn % 25) := ⟨_, rfl⟩
  obtain ⟨N, hN⟩ : ∃ N, N = 7 + pn % 25 := ⟨_, rfl⟩
  rw [← hn, ← hN] at hL
  obtain ⟨Z, hZ⟩ : ∃ Z, Z = zeroP n := ⟨_, rfl⟩
  rw [← hZ] at hL
  have HLD := Lib.hid (hL.below (Below.refl _ _).drew)
  have HCL := Lib.hid (hL.up rfl).2.2
  have hrs := reads36 HLD.out.lm.file HLD.out.lm.disk HCL.out HLD.out.lm.pg HLD.out.lm.pays (fun b hb e => e.elim hb.1 hb.2.1)
  rw [decide_eq_true rfl] at hrs
  unfold pfPtr at hrs
  have HRS := Lib.hid hrs
  have INIT := Lib.hid (show w1.drew.cell? ⟨wb, 1, none⟩ = some (.pointer (some ⟨fb, 0, none⟩)) ∧ w1.drew.cell? ⟨wb, 2, none⟩ = some (.pointer (some ⟨pb, 0, none⟩)) from ⟨HLD.out.lm.c1, HLD.out.lm.c2⟩)
  have KEEP := Lib.hid (show ∀ w', PTurns fb B w1.drew w' ⟨n, false⟩ d → (w'.cell? ⟨wb, 1, none⟩ = some (.pointer (some ⟨fb, 0, none⟩)) ∧ w'.cell? ⟨wb, 2, none⟩ = some (.pointer (some ⟨pb, 0, none⟩))) from fun w' ht => ⟨(HLD.out.lm.turns ht rfl).c1, (HLD.out.lm.turns ht rfl).c2⟩)
  have c1 := hL.lm.c1
  have c2 := hL.lm.c2
  clear hrs hn hN hZ hL
  go_wp2_with fail
  go_region_held3 (fun W => W.cell? ⟨wb, 1, none⟩ = some (.pointer (some ⟨fb, 0, none⟩)) ∧ W.cell? ⟨wb, 2, none⟩ = some (.pointer (some ⟨pb, 0, none⟩))) (first | assumption | exact INIT.out | exact KEEP.out _ hT)
    (first | (go_at_call 24; refine HRS.out.mono ?_; rintro e wJ ⟨rfl, hT⟩) | fail)
  all_goals
    have HSJ := Lib.hid (show Stepped W (fun _ => False) wb B n N wJ from ⟨_, _, _, _, _, _, _, HLD.out.lm.turns hT rfl, fun _ => ⟨rfl, rfl, HCL.out⟩, fun e => by cases e⟩)
    clear hT c1 c2
    go_wp2
    go_loopg [6] (L.length) (fun gk t6 wr => ∃ i : Nat, i ≤ L.length ∧ gk + i = L.length ∧ t6 = .int .i64 (i : Int) ∧ Stepped W (fun _ => False) wb B n N wr)
    case atStart => exact ⟨0, by omega, by omega, rfl, HSJ.out⟩
    case round =>
      obtain ⟨i, hi, hgk, rfl, hS⟩ := hrel
      have HGK := Lib.hid hgk
      obtain ⟨fb1, pb1, f1, d1, P1, mt1, down1, hl1⟩ := hS
      have HL1 := Lib.hid hl1
      clear hgk hl1
      have hi0 : 0 ≤ (i : Int) := by omega
      by_cases hin : i < L.length ∧ i < 40
      · have hd1 : decide ((i : Int) < (L.length : Int)) = true := by simp; omega
        have hd2 : decide ((i : Int) < 40) = true := by simp; omega
        have hi1 : (i : Int) < (L.length : Int) := by omega
        have hi2 : (i : Int) < 40 := by omega
        obtain ⟨x, hx⟩ : ∃ x, L[i]? = some x := ⟨_, List.getElem?_eq_getElem hin.1⟩
        rcases HX.out with h0 | ⟨b, off, rfl, hbF, hbl, hget⟩
        · omega
        obtain ⟨dv, kv, q0, q1, q2, q3, hwn, hdd, hkk⟩ := op_at36 (off := off) (i := i) (x := x) hbl HL1.out.lm.bel (hget i x hx)
        obtain ⟨da, dc, rfl, _, _⟩ := pwn_get hdd
        obtain ⟨ka, kl, kc, e, rfl, _, _, _⟩ := id hkk
        obtain rfl : kv = .slice ka x.2.2.2.length kc := by simpa using e
        have hbr : b < wr.heap.size := Nat.lt_of_lt_of_le hbl HL1.out.lm.bel.size
        have HDD := Lib.hid hdd
        have HKK := Lib.hid hkk
        clear hdd hkk hget e hx
        go_wp2_with fail
        have HDR := Lib.hid ((rSlice rPWN).keep (fun b hb hl => HL1.out.lm.bel.block b hb) HL1.out.lm.bel.size HDD.out)
        refine (few36 _ _ _ _ _ _ _ _ HDR.out).mono ?_
        rintro e w3 ⟨r, rfl, hb, hr⟩
        have HL2 := Lib.hid (HL1.out.below hb)
        have r0 := (hb.cell (p := ⟨b, off + i * 4, none⟩) hbr).trans q0
        have r1 := (hb.cell (p := ⟨b, off + i * 4 + 1, none⟩) hbr).trans q1
        have r2 := (hb.cell (p := ⟨b, off + i * 4 + 2, none⟩) hbr).trans q2
        have r3 := (hb.cell (p := ⟨b, off + i * 4 + 3, none⟩) hbr).trans q3
        have HR := Lib.hid hr
        clear hb q0 q1 q2 q3 hr hbr
        cases r with
        | false =>
          go_wp2
          go_roundg (gk - 1)
          case rel => exact ⟨i + 1, by omega, by have := HGK.out; omega, by go_num, _, _, _, _, _, _, _, HL2.out⟩
          case measure => have := HGK.out; omega
        | true =>
          obtain ⟨k1, k2, k3⟩ := HR.out rfl
          have hk3 : x.2.2.2.length ≤ 100 := k3
          have HKS := Lib.hid (And.intro k1 (And.intro k2 hk3))
          clear k1 k2 k3 hk3
          go_wp2_with fail
          refine (step36 HL2.out (fun _ h => h.elim) x.1 x.2.1 hwn _ _ _ _ HDD.out HKK.out HKS.out.1 HKS.out.2.1 HKS.out.2.2).mono ?_
          rintro e w4 ⟨rfl, hS⟩
          have HS := Lib.hid hS
          clear hS r0 r1 r2 r3
          go_wp2
          go_roundg (gk - 1)
          case rel => exact ⟨i + 1, by omega, by have := HGK.out; omega, by go_num, HS.out⟩
          case measure => have := HGK.out; omega
      · by_cases hil : i = L.length
        · subst hil
          have hd1 : decide ((L.length : Int) < (L.length : Int)) = false := by simp
          clear hin
          go_wp2_with fail
          refine (awake36_any _).mono ?_
          rintro e w5 ⟨rfl, hb⟩
          have HL2 := Lib.hid (HL1.out.below hb)
          clear hb
          go_wp2_with fail
          refine (open36 HL2.out.lm HL2.out.ready (fun _ h => h.elim) 0 (by rfl) (.slice none 0 0) [] ⟨none, 0, 0, rfl, rfl, Nat.le_refl _, Nat.zero_le _, .inl rfl⟩ (by simp)).mono ?_
          rintro e w6 ⟨rfl, fb', pb', d', P', hL5, -, -, -, -⟩
          have HFIN := Lib.hid hL5.lm.bel
          clear hL5
          go_wp2
          go_ret
          exact ⟨rfl, HFIN.out⟩
        · have hd1 : decide ((i : Int) < (L.length : Int)) = true := by simp; omega
          have hi1 : (i : Int) < (L.length : Int) := by omega
          have hd2 : decide ((i : Int) < 40) = false := by simp; omega
          have hi2 : ¬ (i : Int) < 40 := by omega
          clear hin
          go_wp2_with fail
          refine (awake36_any _).mono ?_
          rintro e w5 ⟨rfl, hb⟩
          have HL2 := Lib.hid (HL1.out.below hb)
          clear hb
          go_wp2_with fail
          refine (open36 HL2.out.lm HL2.out.ready (fun _ h => h.elim) 0 (by rfl) (.slice none 0 0) [] ⟨none, 0, 0, rfl, rfl, Nat.le_refl _, Nat.zero_le _, .inl rfl⟩ (by simp)).mono ?_
          rintro e w6 ⟨rfl, fb', pb', d', P', hL5, -, -, -, -⟩
          have HFIN := Lib.hid hL5.lm.bel
          clear hL5
          go_wp2
          go_ret
          exact ⟨rfl, HFIN.out⟩
end Go.Proofs.YtngddhoolijimaaDoor
