/-
  Merged: RlT, RlV, RlW, RpA, RpB, RpC, RpD, RpE, RpF, RpG, RpH.
-/
import Derived.Test.YtngddhoolijimaaGreatDoorRmD
namespace Go.Proofs.YtngddhoolijimaaGreatDoor
open Go.RowKit
set_option linter.unusedVariables false
set_option linter.unusedSimpArgs false

theorem first_short {b : List UInt8} (h : b.length < 8) : firstR b = none := by unfold firstR; rw [if_pos h]
theorem first_long {b : List UInt8} (h : 8 ≤ b.length) : firstR b = if wordAt b = 0 ∨ 1048577 < wordAt b then none else if b.length < 7 + wordAt b then none else if sumOf (b.take 4 ++ (b.drop 8).take (wordAt b - 1)) ≠ wordAt (b.drop 4) then none else some ((b.drop 8).take (wordAt b - 1)) := by
  conv => lhs; unfold firstR
  rw [if_neg (by omega)]

/-- Another S from here on. -/
theorem held_turn {P : Program} {md : Region.Mode} {ops : Array Oper} {Q : Exit → Act → World → Prop} {S S' : World → Prop} (hSS : ∀ w, S' w → S w) : ∀ (fuel : Nat) (listed : Array Bool) (a : Act) (w : World), wpAnyH P md ops Q S' fuel listed a w → wpAnyH P md ops Q S fuel listed a w
  | 0, _, _, _, h => h
  | fuel + 1, _, _, _, h => ⟨h.1, fun i hi => wpOp_mono (fun a' w' h' => ⟨hSS _ h'.1, held_turn hSS fuel _ a' w' h'.2⟩) (h.2 i hi)⟩

/-- Bytes that may be written over. -/
def ScrN (w : World) (a : Option Addr) (n : Nat) : Prop := n = 0 ∨ ∃ g, a = some ⟨g, 0, none⟩ ∧ ∀ j, j < n → (∃ z : Int, w.cell? ⟨g, j, none⟩ = some (.int .u8 z)) ∧ w.frozen? ⟨g, j, none⟩ = false

theorem Row.scr {w : World} {base c : Nat} {a : Option Addr} {l : List UInt8} (h : Row w base (.slice a l.length c) l) : ScrN w a l.length := by
  rcases h.2 with ⟨_, h0⟩ | ⟨g, cap, cur, e, _⟩
  · exact .inl h0
  · cases e
    refine .inr ⟨g, rfl, fun j hj => ⟨⟨(l[j].toNat : Int), ?_⟩, World.ownsRow.frozenAt (w := w) h j⟩⟩
    have := World.ownsRow.cellAt (w := w) h j (by omega)
    exact this.trans (pc_get (List.getElem?_eq_getElem hj))

theorem scr_set {w : World} {g n k : Nat} (h : ∀ j, j < n → (∃ z : Int, w.cell? ⟨g, j, none⟩ = some (.int .u8 z)) ∧ w.frozen? ⟨g, j, none⟩ = false) (hk : k < n) (u : Int) : ∀ j, j < n → (∃ z : Int, (w.setCell ⟨g, k, none⟩ (.int .u8 u)).cell? ⟨g, j, none⟩ = some (.int .u8 z)) ∧ (w.setCell ⟨g, k, none⟩ (.int .u8 u)).frozen? ⟨g, j, none⟩ = false := fun j hj => by
  refine ⟨?_, by rw [World.frozen?_setCell]; exact (h j hj).2⟩
  by_cases e : j = k
  · subst e
    obtain ⟨z, hz⟩ := (h j hj).1
    exact ⟨u, World.cell?_setCell_same _ _ _ hz⟩
  · obtain ⟨z, hz⟩ := (h j hj).1
    exact ⟨z, (World.cell?_setCell_other _ _ _ _ (fun e2 => e (congrArg Addr.off e2).symm)).trans hz⟩

section
variable {X : Nat → Prop} {w : World} {lb fb wb n N : Nat} {B : DB} {g : LG} {d : DK} {P L : List (List UInt8)} {G : Nat → Prop}

/-- What same leaves. -/
def SameOf (fb : Nat) (B : DB) (n : Nat) (d : DK) (w w' : World) : Prop := PTurns fb B w w' ⟨n, false⟩ d

set_option maxRecDepth 100000 in
set_option maxHeartbeats 8000000 in
theorem same37 (hlog : IsLog X w lb fb B g) (hf : IsFile w fb B ⟨n, false⟩) (hd : IsDisk w B d) (hw : ¬ (B.has wb ∨ wb = fb)) (hwl : wb < w.heap.size) (k1 : w.cell? ⟨wb, 1, none⟩ = some (pfPtr fb)) (k2 : w.cell? ⟨wb, 2, none⟩ = some (lgPtr lb))
    (rv : Value) (hL : rRs.rd w G [rv] L) (hG : ∀ b, G b → ¬ (B.has b ∨ b = fb)) (hr : g.recs = L) (hsm : Small L) (hLm : L.length ≤ 1000000) (bytes : Bool) (hb : bytes = true → Clean n N P d ∧ P.flatten = padTo (100 * n) (encs L) ∧ (encs L).length ≤ 100 * n) :
    Calls Tryz.prog 14 #[.pointer (some ⟨wb, 0, none⟩), rv, .bool bytes] w fun e w' => e = .returned (.bool true) ∧ SameOf fb B n d w w' := by
  obtain ⟨ra, rc, rfl, _, _, hget⟩ := rs_get hL
  have HLOG := Lib.hid hlog
  have HFD := Lib.hid (And.intro hf hd)
  have HW := Lib.hid (And.intro hw hwl)
  have HK := Lib.hid (And.intro k1 k2)
  have HL := Lib.hid hL
  have HG := Lib.hid hG
  have HGET := Lib.hid hget
  have HRS := Lib.hid hr
  have HSM := Lib.hid hsm
  have HB := Lib.hid hb
  have hll : 0 ≤ (L.length : Int) ∧ (L.length : Int) ≤ 1000000 := by omega
  have hrl : g.recs.length = L.length := by rw [hr]
  have HLEN := Lib.hid (rl_Len hlog)
  rw [hrl] at HLEN
  clear hlog hf hd hw hwl hL hG hget hr hsm hLm hb hrl
  unfold lgPtr at *
  unfold pfPtr at *
  go_enter Tryz.func14, Tryz.ntmps14
  go_wp2_with fail
  refine HLEN.out.mono ?_
  rintro e w1 ⟨rfl, rfl⟩
  clear k1 k2
  go_wp2
  go_loopg [26] (L.length) (fun gk t26 wr => ∃ k : Nat, k ≤ L.length ∧ gk + k = L.length ∧ t26 = .int .i64 (k : Int) ∧ Below w1.heap.size w1 wr)
  case atStart => exact ⟨0, by omega, by omega, rfl, Below.refl _ _⟩
  case round =>
    obtain ⟨k, hk, hgk, rfl, hB⟩ := hrel
    have HGK := Lib.hid hgk
    have HBW := Lib.hid hB
    have k2 := (hB.cell (p := ⟨wb, 2, none⟩) HW.out.2).trans HK.out.2
    clear hgk hB
    by_cases hin : k < L.length
    · have hd1 : decide ((k : Int) < (L.length : Int)) = true := by simp; omega
      have i0 : (0 : Int) ≤ (k : Int) := by omega
      have i1 : (k : Int) < (L.length : Int) := by omega
      obtain ⟨x, hx⟩ : ∃ x, L[k]? = some x := ⟨_, List.getElem?_eq_getElem hin⟩
      obtain ⟨rg, off, u, rfl, _, hgl, hc, hu⟩ := HGET.out k x hx
      obtain ⟨ua, uc, rfl⟩ := (Dat.of_rd hu).len
      have HU := Lib.hid (Dat.of_rd hu)
      have HXL := Lib.hid (HSM.out.1 x (List.mem_of_getElem? hx))
      have hxl0 : 0 ≤ (x.length : Int) ∧ (x.length : Int) ≤ 1048576 := by have := HXL.out; omega
      have HC := Lib.hid (And.intro hgl hc)
      have HRD := Lib.hid (rl_Read (HLOG.out.below HBW.out) k x (by rw [HRS.out]; exact hx) (by have := HXL.out; omega))
      clear hu hx hc hgl
      unfold lgPtr at HRD
      go_wp2_with fail
      refine HRD.out.mono ?_
      rintro e w2 ⟨v, rfl, hrow, hb2⟩
      obtain ⟨va, vc, rfl⟩ := hrow.dat.len
      have HROW := Lib.hid hrow
      have HB2 := Lib.hid (HBW.out.trans (hb2.mono HBW.out.size))
      have HGE := Lib.hid (show ∀ b, va = some b → w1.heap.size ≤ b.block from fun b e => by
        rcases hrow.2 with ⟨e1, _⟩ | ⟨g', cap, cur, e1, hB', _⟩
        · simp only [Value.slice.injEq] at e1
          rw [e1.1] at e; cases e
        · simp only [Value.slice.injEq] at e1
          rw [e1.1] at e; cases e; have := HBW.out.size; exact Nat.le_trans this hB')
      clear hrow hb2 k2
      go_wp2_with fail
      refine region_all (by kernel_rfl) (by kernel_rfl) ?_
      intro wD hWD
      have hbD : Below w2.heap.size w2 wD := by rw [hWD]; exact (Below.refl _ _).drew
      have HBD := Lib.hid (HB2.out.trans (hbD.mono HB2.out.size))
      have cc := (HBD.out.cell (p := ⟨rg, off + k, none⟩) HC.out.1).trans HC.out.2
      have cv1 := convert_data (HROW.out.dat.keep hbD).1
      have cv2 := convert_data (HU.out.keep HBD.out).1
      have HSC := Lib.hid (HROW.out.keep hbD).scr
      unfold txt at cv1 cv2
      clear hWD hbD
      generalize (⟨x.toArray⟩ : ByteArray) = sx at *
      iterate 12 (refine stillH_want (by kernel_rfl) (fun K hK => ?_); go_simp; refine hK _ ?_; clear hK K)
      refine stillH_nil ?_
      clear cv1 cv2 cc
      go_wp2
      generalize gk = GK at *
      go_loopg [52] (x.length) (fun gk t52 wr => ∃ j : Nat, j ≤ x.length ∧ gk + j = x.length ∧ t52 = .int .i64 (j : Int) ∧ ScrN wr va x.length ∧ Below w1.heap.size w1 wr)
      case atStart => exact ⟨0, by omega, by omega, rfl, HSC.out, HBD.out⟩
      case round =>
        obtain ⟨j, hj, hgj, rfl, hscr, hB⟩ := hrel
        have HGJ := Lib.hid hgj
        have HBJ := Lib.hid hB
        have HSJ := Lib.hid hscr
        clear hgj hB hscr
        by_cases hjn : j < x.length
        · have hd2 : decide ((j : Int) < (x.length : Int)) = true := by simp; omega
          have j0 : (0 : Int) ≤ (j : Int) := by omega
          have j1 : (j : Int) < (x.length : Int) := by omega
          rcases HSJ.out with h0 | ⟨vg, rfl, hs⟩
          · omega
          obtain ⟨⟨z, hz⟩, hfz⟩ := hs j hjn
          have HST := Lib.hid (scr_set hs hjn (bits .xor .u8 z 255))
          have HBS := Lib.hid (show Below w1.heap.size w1 (wr.setCell ⟨vg, j, none⟩ (.int .u8 (bits .xor .u8 z 255))) from HBJ.out.setCell (show w1.heap.size ≤ vg from HGE.out ⟨vg, 0, none⟩ rfl) _)
          clear hs
          go_wp2
          go_roundg (gk - 1)
          case rel => exact ⟨j + 1, by omega, by have := HGJ.out; omega, by go_num, .inr ⟨vg, rfl, HST.out⟩, HBS.out⟩
          case measure => have := HGJ.out; omega
        · have hd2 : decide ((j : Int) < (x.length : Int)) = false := by simp; omega
          have hd2' : ¬ (j : Int) < (x.length : Int) := by omega
          go_wp2
          go_roundg (GK - 1)
          case rel => exact ⟨k + 1, by omega, by have := HGK.out; omega, by go_num, HBJ.out⟩
          case measure => have := HGK.out; omega
    · have hd1 : decide ((k : Int) < (L.length : Int)) = false := by simp; omega
      obtain rfl : k = L.length := by omega
      clear k2 hin
      cases bytes with
      | false =>
        have HFIN := Lib.hid (show SameOf fb B n d w1 wr from ⟨HFD.out.1.keep (Chg.of_below HBW.out (F := fun _ => False)) (fun h => h), HFD.out.2.below HBW.out, Chg.of_below HBW.out⟩)
        go_wp2
        go_ret
        exact ⟨rfl, HFIN.out⟩
      | true =>
        obtain ⟨hcl, hpf, hfit⟩ := HB.out rfl
        have HC := Lib.hid (And.intro hcl (And.intro hpf hfit))
        have hn := HFD.out.1.few
        have hn0 : 0 ≤ (n : Int) ∧ (n : Int) ≤ 4096 := by show 0 ≤ (n : Int) ∧ (n : Int) ≤ 4096; simp only at hn; omega
        have HBL := Lib.hid (show ∀ b, B.has b ∨ b = fb → b < w1.heap.size from fun b hb => by
          have h1 := HFD.out.2.lt
          have h2 := HFD.out.1.lt
          rcases hb with (e | e | e) | e <;> (subst e; omega))
        have HPT := Lib.hid (show PTurns fb B w1 wr ⟨n, false⟩ d from ⟨HFD.out.1.keep (Chg.of_below HBW.out (F := fun _ => False)) (fun h => h), HFD.out.2.below HBW.out, Chg.of_below HBW.out⟩)
        clear hcl hpf hfit hn
        generalize wr = wo at *
        go_wp2
        go_loopg [11, 12] n (fun gk t11 t12 wr => ∃ (i : Nat) (u : Value), u = t11 ∧ i ≤ n ∧ gk + i = n ∧ t12 = .int .i64 (i : Int) ∧ Row wr w1.heap.size u ((P.take i).flatten) ∧ PTurns fb B w1 wr ⟨n, false⟩ d)
        case atStart => exact ⟨0, _, rfl, by omega, by omega, rfl, by rw [List.take_zero]; exact Row.nil _ _, HPT.out⟩
        case round =>
          obtain ⟨i, u, rfl, hin, hgk, rfl, hrow, hT⟩ := hrel
          obtain ⟨I, hI⟩ : ∃ I, I = (P.take i).flatten := ⟨_, rfl⟩
          rw [← hI] at hrow
          have HI := Lib.hid hI
          have HGK := Lib.hid hgk
          have HT := Lib.hid hT
          have HRO := Lib.hid hrow
          obtain ⟨va, vc, rfl⟩ := hrow.dat.len
          have k1 := (hT.2.2.cell (a := ⟨wb, 1, none⟩) HW.out.1 HW.out.2).trans HK.out.1
          have hi0 : 0 ≤ (i : Int) ∧ (i : Int) ≤ 4096 := by omega
          clear hgk hT hrow hI
          by_cases hlt : i < n
          · have hd1 : decide ((i : Int) < (n : Int)) = true := by simp; omega
            have hd1' : (i : Int) < (n : Int) := by omega
            have hdn : PF.down ⟨n, false⟩ d = false := by unfold PF.down; rw [HC.out.1.up]; rfl
            have hperr : pfErr ⟨n, false⟩ d (i : Int) = 0 := by unfold pfErr; rw [hdn]; show (if (i : Int) < 0 ∨ (n : Int) ≤ (i : Int) then (10 : Int) else 0) = 0; rw [if_neg (by omega)]
            have hpay : d.pay (i : Int).toNat = P.getD i [] := by rw [Int.toNat_natCast, HC.out.1.pay hlt]
            have hNl : (⟨n, false⟩ : PF).n ≤ d.st.length := by rw [HC.out.1.len]; have := HC.out.1.pos; show n ≤ N; omega
            have hrdc := pf_Read HT.out.1 HT.out.2.1 (i : Int) (WalkArith.wf_i64 (by omega)) hNl
            rw [hperr, hpay, hdn] at hrdc
            obtain ⟨pg, hpg⟩ : ∃ pg, pg = P.getD i [] := ⟨_, rfl⟩
            rw [← hpg] at hrdc
            have HRC := Lib.hid hrdc
            have HPI := Lib.hid (show P[i]? = some pg ∧ pg.length = 100 from ⟨by rw [hpg, List.getD_eq_getElem?_getD, List.getElem?_eq_getElem (by rw [HC.out.1.pays.len]; exact hlt)]; rfl, by rw [hpg]; exact HC.out.1.pays.each i hlt⟩)
            have HCP := Lib.hid (pf_cap HT.out.1)
            clear hrdc hpay hperr hdn hNl hpg
            unfold pfPtr at HRC HCP
            go_wp2_with fail
            refine HCP.out.mono ?_
            rintro e wr ⟨rfl, rfl⟩
            go_wp2_with fail
            refine HRC.out.mono ?_
            rintro e w3 ⟨pv, rfl, hG, hT⟩
            obtain ⟨gp, rfl, hPA⟩ := hG.1 rfl
            have HPT3 := Lib.hid (show PTurns fb B w1 w3 ⟨n, false⟩ d from HT.out.trans hT)
            have HRO3 := Lib.hid (show Row w3 w1.heap.size (.slice va I.length vc) I from own_chg HRO.out hT.2.2 (fun b hb e => by have h1 := own_base HRO.out b hb; have h2 := HBL.out b e; omega))
            have HPA := Lib.hid (show Dat w3 (.slice (some ⟨gp, 0, none⟩) 100 100) pg from ⟨hPA.data, fun n c e => by cases e⟩)
            have HFL := Lib.hid (show I.length ≤ 409600 from by rw [HI.out, flat_len (pays_take HC.out.1.pays (Nat.le_of_lt hlt))]; omega)
            clear hG hT hPA
            go_wp2_with (at_builtin; refine wpList_app rfl _ _ rfl w1.heap.size _ I rfl HRO3.out _ pg rfl HPA.out (by have := HFL.out; have := HPI.out.2; omega) HPT3.out.2.2.size ?_)
            intro v6 w6 h6 _ hb6
            obtain ⟨I6, hI6⟩ : ∃ I6, I6 = I ++ pg := ⟨_, rfl⟩
            rw [← hI6] at h6
            have HX := Lib.hid (show (P.take (i + 1)).flatten = I6 from by rw [hI6, snoc_take HPI.out.1, List.flatten_append, HI.out]; simp)
            have H6 := Lib.hid h6
            have HPT6 := Lib.hid (show PTurns fb B w1 w6 ⟨n, false⟩ d from by
              have hc2 : Chg (fun b => w1.heap.size ≤ b) w3 w6 := ⟨hb6.os, hb6.tape, hb6.output, hb6.size, fun b _ hn => hb6.block b (by omega)⟩
              exact ⟨HPT3.out.1.keep hc2 (fun e => by have := HBL.out fb (.inr rfl); omega), HPT3.out.2.1.keep hc2 (fun b hb e => by have := HBL.out b (.inl hb); omega), chg_fresh' HPT3.out.2.2 hc2⟩)
            clear h6 hb6 hI6
            go_wp2
            go_roundg (gk - 1)
            case rel => exact ⟨i + 1, _, rfl, by omega, by have := HGK.out; omega, by go_num, by rw [HX.out]; exact H6.out, HPT6.out⟩
            case measure => have := HGK.out; omega
          · have hd1 : decide ((i : Int) < (n : Int)) = false := by simp; omega
            have hd1' : ¬ (i : Int) < (n : Int) := by omega
            obtain rfl : i = n := by omega
            have HCP := Lib.hid (pf_cap HT.out.1)
            have hIP : I = P.flatten := by rw [HI.out, List.take_of_length_le (by rw [HC.out.1.pays.len]; exact Nat.le_refl _)]
            obtain ⟨E, hE⟩ : ∃ E, E = encs L := ⟨_, rfl⟩
            have hIE : I = padTo (100 * i) E := by rw [hIP, HC.out.2.1, hE]
            have hEl : E.length ≤ 100 * i := by rw [hE]; exact HC.out.2.2
            have hIL : I.length = 100 * i := by rw [hIE]; exact padTo_len hEl
            obtain ⟨z, hz⟩ : ∃ z, z = I.length - E.length := ⟨_, rfl⟩
            have HIZ := Lib.hid (show E ++ List.replicate z 0 = I from by rw [hz, hIL, hIE]; rfl)
            have hsub : (I.length : Int) - (E.length : Int) = (z : Int) := by omega
            have hz0 : 0 ≤ (z : Int) ∧ (z : Int) ≤ 409600 := by omega
            have wz : IntKind.i64.wrap (z : Int) = (z : Int) := by rw [IntKind.wrap_i64]; omega
            have hge : decide ((E.length : Int) ≤ (I.length : Int)) = true := by simp; omega
            have hge' : (E.length : Int) ≤ (I.length : Int) := by omega
            have HEI := Lib.hid hE
            have HLZ := Lib.hid (show E.length + z ≤ 1000000000 ∧ I.length ≤ 409600 from by omega)
            have hRl := rf_EncodeRecords (.slice ra L.length rc) L wr (rRs.keep (fun b hb hl => HT.out.2.2.block b hl (HG.out b hb)) HT.out.2.2.size HL.out) HSM.out
            rw [← hE] at hRl
            have HEN := Lib.hid hRl
            clear hIP hIE hEl hIL hz hRl hE hlt
            unfold pfPtr at HCP
            go_wp2_with fail
            refine HCP.out.mono ?_
            rintro e wr ⟨rfl, rfl⟩
            go_wp2_with fail
            refine HEN.out.mono ?_
            rintro e w5 ⟨v5, rfl, hr5, hb5⟩
            obtain ⟨ea, ec, rfl⟩ := hr5.dat.len
            have HR5 := Lib.hid hr5
            have HI5 := Lib.hid (HRO.out.keep hb5)
            have HPT5 := Lib.hid (HT.out.of_below hb5)
            have HWR := Lib.hid hb5.size
            have HIX := Lib.hid (show ∀ b, (Value.slice va I.length vc).ownBlock = some b → b < wr.heap.size from fun b hb => (HRO.out.ge b hb).2)
            clear hr5 hb5
            go_wp2_with fail
            have HB6 := Lib.hid (show Below w5.heap.size w5 w5.drew from (Below.refl _ _).drew)
            have cv0 := convert_data (HI5.out.keep HB6.out).dat.1
            unfold txt at cv0
            obtain ⟨sI, hsI⟩ : ∃ sI : ByteArray, sI = ⟨I.toArray⟩ := ⟨_, rfl⟩
            rw [← hsI] at cv0
            have HSI := Lib.hid hsI
            obtain ⟨v7, w7, hrun, h7, hg7⟩ := run_append_z (w := w5.drew) 3 51 .i64 .i64 Tryz.underlying3 (HR5.out.keep HB6.out) z HLZ.out.1 (Nat.le_trans HWR.out HB6.out.size)
            have HB7 := Lib.hid (show Below wr.heap.size w5 w7 from (HB6.out.mono HWR.out).trans ((Below.refl _ _).grown hg7 (Nat.le_trans HWR.out HB6.out.size) (fun b hb => ((HR5.out.keep HB6.out).ge b hb).1)))
            have HI7 := Lib.hid (show Row w7 w1.heap.size (.slice va I.length vc) I from (HI5.out.keep HB6.out).other hg7 (fun b hb e => by
              have a1 := HIX.out b hb
              have a2 := (HR5.out.ge b e.symm).1
              omega))
            have cv7 := convert_data HI7.out.dat.1
            have cvR := convert_data h7.dat.1
            rw [HIZ.out] at h7
            unfold txt at cv7 cvR
            rw [HIZ.out] at cvR
            rw [← hsI] at cv7 cvR
            obtain ⟨ya, yc, rfl⟩ := h7.dat.len
            have HRUN := Lib.hid hrun
            have HPT7 := Lib.hid (show PTurns fb B w1 w7 ⟨i, false⟩ d from by
              have hc2 : Chg (fun b => w1.heap.size ≤ b) w5 w7 := ⟨HB7.out.os, HB7.out.tape, HB7.out.output, HB7.out.size, fun b _ hn => HB7.out.block b (by have := HT.out.2.2.size; omega)⟩
              exact ⟨HPT5.out.1.keep hc2 (fun e => by have := HBL.out fb (.inr rfl); omega), HPT5.out.2.1.keep hc2 (fun b hb e => by have := HBL.out b (.inl hb); omega), chg_fresh' HPT5.out.2.2 hc2⟩)
            clear hrun h7 hg7 hsI
            refine wp_region_noPanic ?_
            refine wp_region_held_drew (S := fun W => Sem.run Tryz.prog (convert 51 9 (.slice va I.length vc)) W = .ok (.string sI) W) (by kernel_rfl) cv0 ?_
            intro hS0
            refine wpAnyH_take (i := 0) (v := ?_) (by simp only [List.getElem?_toArray, List.getElem?_cons_succ, List.getElem?_cons_zero] <;> rfl) (by kernel_rfl) (by kernel_rfl) (by kernel_rfl) (fun _ _ _ h => h) (Or.inl ⟨by rfl, ?_⟩) (by assumption) ?_
            rotate_left
            · intro w hSw
              (try dsimp only at hSw)
              go_simp
              (try with_reducible rfl)
            (try simp only [Act.put, List.setIfInBounds_toArray, List.set_cons_zero, List.set_cons_succ])
            refine wpAnyH_take (i := 1) (v := ?_) (by simp only [List.getElem?_toArray, List.getElem?_cons_succ, List.getElem?_cons_zero] <;> rfl) (by kernel_rfl) (by kernel_rfl) (by kernel_rfl) (fun _ _ _ h => h) (Or.inl ⟨by rfl, ?_⟩) (by assumption) ?_
            rotate_left
            · intro w hSw
              (try dsimp only at hSw)
              go_simp
              (try with_reducible rfl)
            (try simp only [Act.put, List.setIfInBounds_toArray, List.set_cons_zero, List.set_cons_succ])
            refine wpAnyH_take (i := 2) (v := ?_) (by simp only [List.getElem?_toArray, List.getElem?_cons_succ, List.getElem?_cons_zero] <;> rfl) (by kernel_rfl) (by kernel_rfl) (by kernel_rfl) (fun _ _ _ h => h) (Or.inl ⟨by rfl, ?_⟩) (by assumption) ?_
            rotate_left
            · intro w hSw
              (try dsimp only at hSw)
              go_simp
              (try with_reducible rfl)
            (try simp only [Act.put, List.setIfInBounds_toArray, List.set_cons_zero, List.set_cons_succ])
            refine wpAnyH_take (i := 3) (v := ?_) (by simp only [List.getElem?_toArray, List.getElem?_cons_succ, List.getElem?_cons_zero] <;> rfl) (by kernel_rfl) (by kernel_rfl) (by kernel_rfl) (fun _ _ _ h => h) (Or.inl ⟨by rfl, ?_⟩) (by assumption) ?_
            rotate_left
            · intro w hSw
              (try dsimp only at hSw)
              go_simp
              (try with_reducible rfl)
            (try simp only [Act.put, List.setIfInBounds_toArray, List.set_cons_zero, List.set_cons_succ])
            refine wpAnyH_take (i := 4) (v := .bool true) (by simp only [List.getElem?_toArray, List.getElem?_cons_succ, List.getElem?_cons_zero] <;> rfl) (by kernel_rfl) (by kernel_rfl) (by kernel_rfl) (fun _ _ _ h => h) (Or.inl ⟨by rfl, ?_⟩) (by assumption) ?_
            · intro w hSw
              (try dsimp only at hSw)
              go_simp
              (try with_reducible rfl)
            (try simp only [Act.put, List.setIfInBounds_toArray, List.set_cons_zero, List.set_cons_succ])
            refine wpAnyH_take (i := 5) (v := ?_) (by simp only [List.getElem?_toArray, List.getElem?_cons_succ, List.getElem?_cons_zero] <;> rfl) (by kernel_rfl) (by kernel_rfl) (by kernel_rfl) (fun _ _ _ h => h) (Or.inl ⟨by rfl, ?_⟩) (by assumption) ?_
            rotate_left
            · intro w hSw
              (try dsimp only at hSw)
              go_simp
              (try with_reducible rfl)
            (try simp only [Act.put, List.setIfInBounds_toArray, List.set_cons_zero, List.set_cons_succ])
            refine wpAnyH_take (i := 6) (v := ?_) (by simp only [List.getElem?_toArray, List.getElem?_cons_succ, List.getElem?_cons_zero] <;> rfl) (by kernel_rfl) (by kernel_rfl) (by kernel_rfl) (fun _ _ _ h => h) (Or.inl ⟨by rfl, ?_⟩) (by assumption) ?_
            rotate_left
            · intro w hSw
              (try dsimp only at hSw)
              go_simp
              (try with_reducible rfl)
            (try simp only [Act.put, List.setIfInBounds_toArray, List.set_cons_zero, List.set_cons_succ])
            refine wpAnyH_take (i := 7) (v := .string sI) (by simp only [List.getElem?_toArray, List.getElem?_cons_succ, List.getElem?_cons_zero] <;> rfl) (by kernel_rfl) (by kernel_rfl) (by kernel_rfl) (fun _ _ _ h => h) (Or.inl ⟨by rfl, ?_⟩) (by assumption) ?_
            · intro w hSw
              (try dsimp only at hSw)
              go_simp
              (try with_reducible rfl)
            (try simp only [Act.put, List.setIfInBounds_toArray, List.set_cons_zero, List.set_cons_succ])
            refine wpAnyH_take (i := 8) (v := ?_) (by simp only [List.getElem?_toArray, List.getElem?_cons_succ, List.getElem?_cons_zero] <;> rfl) (by kernel_rfl) (by kernel_rfl) (by kernel_rfl) (fun _ _ _ h => h) (Or.inl ⟨by rfl, ?_⟩) (by assumption) ?_
            rotate_left
            · intro w hSw
              (try dsimp only at hSw)
              go_simp
              (try with_reducible rfl)
            (try simp only [Act.put, List.setIfInBounds_toArray, List.set_cons_zero, List.set_cons_succ])
            refine wpAnyH_take (i := 9) (v := ?_) (by simp only [List.getElem?_toArray, List.getElem?_cons_succ, List.getElem?_cons_zero] <;> rfl) (by kernel_rfl) (by kernel_rfl) (by kernel_rfl) (fun _ _ _ h => h) (Or.inl ⟨by rfl, ?_⟩) (by assumption) ?_
            rotate_left
            · intro w hSw
              (try dsimp only at hSw)
              go_simp
              (try with_reducible rfl)
            (try simp only [Act.put, List.setIfInBounds_toArray, List.set_cons_zero, List.set_cons_succ])
            refine wpAnyH_take (i := 10) (v := ?_) (by simp only [List.getElem?_toArray, List.getElem?_cons_succ, List.getElem?_cons_zero] <;> rfl) (by kernel_rfl) (by kernel_rfl) (by kernel_rfl) (fun _ _ _ h => h) (Or.inl ⟨by rfl, ?_⟩) (by assumption) ?_
            rotate_left
            · intro w hSw
              (try dsimp only at hSw)
              go_simp
              (try with_reducible rfl)
            (try simp only [Act.put, List.setIfInBounds_toArray, List.set_cons_zero, List.set_cons_succ])
            refine wpAnyH_take (i := 11) (v := ?_) (by simp only [List.getElem?_toArray, List.getElem?_cons_succ, List.getElem?_cons_zero] <;> rfl) (by kernel_rfl) (by kernel_rfl) (by kernel_rfl) (fun _ _ _ h => h) (Or.inl ⟨by rfl, ?_⟩) (by assumption) ?_
            rotate_left
            · intro w hSw
              (try dsimp only at hSw)
              go_simp
              (try with_reducible rfl)
            (try simp only [Act.put, List.setIfInBounds_toArray, List.set_cons_zero, List.set_cons_succ])
            refine wpAnyH_take (i := 12) (v := ?_) (by simp only [List.getElem?_toArray, List.getElem?_cons_succ, List.getElem?_cons_zero] <;> rfl) (by kernel_rfl) (by kernel_rfl) (by kernel_rfl) (fun _ _ _ h => h) (Or.inl ⟨by rfl, ?_⟩) (by assumption) ?_
            rotate_left
            · intro w hSw
              (try dsimp only at hSw)
              go_simp
              (try with_reducible rfl)
            (try simp only [Act.put, List.setIfInBounds_toArray, List.set_cons_zero, List.set_cons_succ])
            refine wpAnyH_take (i := 13) (v := .int .i64 (z : Int)) (by simp only [List.getElem?_toArray, List.getElem?_cons_succ, List.getElem?_cons_zero] <;> rfl) (by kernel_rfl) (by kernel_rfl) (by kernel_rfl) (fun _ _ _ h => h) (Or.inl ⟨by rfl, ?_⟩) (by assumption) ?_
            · intro w hSw
              (try dsimp only at hSw)
              go_simp
              (try with_reducible rfl)
            (try simp only [Act.put, List.setIfInBounds_toArray, List.set_cons_zero, List.set_cons_succ])
            refine wpAnyH_ready (rs := [14]) (by kernel_rfl) (by simp) ?_
            refine AllReadyH.cons (by simp only [List.getElem?_toArray, List.getElem?_cons_succ, List.getElem?_cons_zero] <;> rfl) (fun K hK => ?_) AllReadyH.nil
            rw [if_pos (by kernel_rfl)]
            refine Lib.wp_append_run _ _ _ _ _ rfl _ (.int .i64 (z : Int)) rfl rfl _ w7 HRUN.out ?_
            refine hK.out _ _ cv7 ?_
            intro hS1
            clear hK hS0 cv0
            refine held_turn (S' := fun W => (Sem.run Tryz.prog (convert 51 9 (.slice va I.length vc)) W = .ok (.string sI) W) ∧ Sem.run Tryz.prog (convert 51 9 (.slice ya I.length yc)) W = .ok (.string sI) W) (fun _ h => h.1) _ _ _ _ ?_
            have hS2 := And.intro cv7 cvR
            (try simp only [Act.put, List.setIfInBounds_toArray, List.set_cons_zero, List.set_cons_succ])
            refine wpAnyH_take (i := 15) (v := .string sI) (by simp only [List.getElem?_toArray, List.getElem?_cons_succ, List.getElem?_cons_zero] <;> rfl) (by kernel_rfl) (by kernel_rfl) (by kernel_rfl) (fun _ _ _ h => h) (Or.inl ⟨by rfl, ?_⟩) (by assumption) ?_
            · intro w hSw
              (try dsimp only at hSw)
              go_simp
              (try with_reducible rfl)
            (try simp only [Act.put, List.setIfInBounds_toArray, List.set_cons_zero, List.set_cons_succ])
            refine wpAnyH_take (i := 16) (v := .bool true) (by simp only [List.getElem?_toArray, List.getElem?_cons_succ, List.getElem?_cons_zero] <;> rfl) (by kernel_rfl) (by kernel_rfl) (by kernel_rfl) (fun _ _ _ h => h) (Or.inl ⟨by rfl, ?_⟩) (by assumption) ?_
            · intro w hSw
              (try dsimp only at hSw)
              go_simp
              (try with_reducible rfl)
            (try simp only [Act.put, List.setIfInBounds_toArray, List.set_cons_zero, List.set_cons_succ])
            refine wpAnyH_take (i := 17) (v := .bool true) (by simp only [List.getElem?_toArray, List.getElem?_cons_succ, List.getElem?_cons_zero] <;> rfl) (by kernel_rfl) (by kernel_rfl) (by kernel_rfl) (fun _ _ _ h => h) (Or.inl ⟨by rfl, ?_⟩) (by assumption) ?_
            · intro w hSw
              (try dsimp only at hSw)
              go_simp
              (try with_reducible rfl)
            (try simp only [Act.put, List.setIfInBounds_toArray, List.set_cons_zero, List.set_cons_succ])
            refine wpAnyH_take (i := 18) (v := .bool true) (by simp only [List.getElem?_toArray, List.getElem?_cons_succ, List.getElem?_cons_zero] <;> rfl) (by kernel_rfl) (by kernel_rfl) (by kernel_rfl) (fun _ _ _ h => h) (Or.inl ⟨by rfl, ?_⟩) (by assumption) ?_
            · intro w hSw
              (try dsimp only at hSw)
              go_simp
              (try with_reducible rfl)
            (try simp only [Act.put, List.setIfInBounds_toArray, List.set_cons_zero, List.set_cons_succ])
            refine wpAnyH_done (by kernel_rfl) ?_ _
            refine NoPanic.normal ?_
            go_wp2
            go_ret
            exact ⟨rfl, HPT7.out⟩
end
end Go.Proofs.YtngddhoolijimaaGreatDoor
namespace Go.Proofs.YtngddhoolijimaaGreatDoor
open Go.RowKit
set_option linter.unusedVariables false
set_option linter.unusedSimpArgs false

theorem four_word {b : List UInt8} (h : 4 ≤ b.length) : four (wordAt b) = b.take 4 := by
  have h0 : four (wordAt b) = four (wordAt (b.take 4)) := by
    have : wordAt b = wordAt (b.take 4) := by
      conv => lhs; rw [← List.take_append_drop 4 b]
      exact word_prefix (by rw [List.length_take]; omega)
    rw [this]
  have hl : (b.take 4).length = 4 := by rw [List.length_take]; omega
  have hw : wordAt (four (wordAt b)) = wordAt (b.take 4) := by
    rw [word_four' (wordAt_lt b), ← List.take_append_drop 4 b, word_prefix (by omega)]
    simp
  have hi := word_inj hw
  apply List.ext_getElem?
  intro i
  by_cases h4 : i < 4
  · have := hi i h4
    rw [List.getD_eq_getElem?_getD, List.getD_eq_getElem?_getD, List.getElem?_eq_getElem (by rw [four_len]; exact h4), List.getElem?_eq_getElem (by omega)] at this
    rw [List.getElem?_eq_getElem (by rw [four_len]; exact h4), List.getElem?_eq_getElem (by omega)]
    exact congrArg some this
  · rw [List.getElem?_eq_none (by rw [four_len]; omega), List.getElem?_eq_none (by omega)]

theorem first_stands {b r : List UInt8} (h : firstR b = some r) : recB r = b.take (8 + r.length) ∧ r.length ≤ 1048576 := by
  unfold firstR at h
  split at h
  · cases h
  · rename_i h8
    split at h
    · cases h
    · rename_i hw
      split at h
      · cases h
      · rename_i hl
        split at h
        · cases h
        · rename_i hs
          have hr : (b.drop 8).take (wordAt b - 1) = r := by simpa using h
          have hrl : r.length = wordAt b - 1 := by rw [← hr, List.length_take, List.length_drop]; omega
          rw [hr] at hs
          have hs' : sumOf (b.take 4 ++ r) = wordAt (b.drop 4) := by simpa using hs
          have h4 := four_word (b := b) (by omega)
          have h4' := four_word (b := b.drop 4) (by rw [List.length_drop]; omega)
          refine ⟨?_, by omega⟩
          unfold recB
          rw [show r.length + 1 = wordAt b by omega, h4, hs', h4', show 8 + r.length = 4 + (4 + r.length) by omega, List.take_add, List.append_assoc]
          congr 1
          rw [List.take_add, List.drop_drop, hrl, show 4 + 4 = 8 from rfl, hr]

theorem dec_stands : ∀ (m : Nat) (b : List UInt8), b.length ≤ m → encs (dec b).1 = b.take (dec b).2 ∧ (dec b).2 ≤ b.length ∧ (∀ r ∈ (dec b).1, r.length ≤ 1048576) ∧ (dec b).1.length ≤ (dec b).2
  | m, b, hm => by
    cases hf : firstR b with
    | none => rw [dec_none hf]; exact ⟨by simp [encs_nil], by omega, by simp, by simp⟩
    | some r =>
      have hl := firstR_len hf
      obtain ⟨h1, h2⟩ := first_stands hf
      obtain ⟨m', rfl⟩ : ∃ k, m = k + 1 := ⟨m - 1, by omega⟩
      obtain ⟨i1, i2, i3, i4⟩ := dec_stands m' (b.drop (8 + r.length)) (by rw [List.length_drop]; omega)
      rw [dec_some hf]
      refine ⟨?_, ?_, ?_, ?_⟩
      · show encs (r :: (dec (b.drop (8 + r.length))).1) = _
        rw [encs_cons, i1, h1, ← List.take_add]
      · show 8 + r.length + _ ≤ _
        rw [List.length_drop] at i2; omega
      · intro x hx
        rcases List.mem_cons.1 hx with rfl | hx
        · exact h2
        · exact i3 x hx
      · show ((dec (b.drop (8 + r.length))).1.length + 1) ≤ _
        omega

/-- Where the law's records may lie. -/
def NF (B : DB) (fb lb wb b : Nat) : Prop := ¬ LT B fb lb b ∧ b ≠ wb

/-- The world of law 37 in memory. -/
structure LN (W w : World) (wb : Nat) (B : DB) (fb lb : Nat) (g : LG) (f : PF) (d : DK) (R : List (List UInt8)) (mv : Value) (maybe down : Bool) : Prop where
  bel : Below W.heap.size W w
  ge : ∀ b, LT B fb lb b ∨ b = wb → W.heap.size ≤ b
  nw : ¬ LT B fb lb wb
  c0 : w.cell? ⟨wb, 0, none⟩ = some (.pointer (some ⟨B.db, 0, none⟩))
  c1 : w.cell? ⟨wb, 1, none⟩ = some (pfPtr fb)
  c2 : w.cell? ⟨wb, 2, none⟩ = some (lgPtr lb)
  c3 : ∃ v, w.cell? ⟨wb, 3, none⟩ = some v ∧ rRs.rd w (NF B fb lb wb) [v] R
  c4 : w.cell? ⟨wb, 4, none⟩ = some mv
  c5 : w.cell? ⟨wb, 5, none⟩ = some (.bool maybe)
  c6 : w.cell? ⟨wb, 6, none⟩ = some (.bool down)
  fr : ∀ j, w.frozen? ⟨wb, j, none⟩ = false
  log : IsLog (fun b => b = wb) w lb fb B g
  file : IsFile w fb B f
  disk : IsDisk w B d

section
variable {W w w' : World} {wb fb lb : Nat} {B : DB} {g g' : LG} {f f' : PF} {d d' : DK} {R : List (List UInt8)} {mv : Value} {maybe down : Bool}

theorem LN.wl (h : LN W w wb B fb lb g f d R mv maybe down) : wb < w.heap.size := cell_lt h.c0
theorem LN.lt (h : LN W w wb B fb lb g f d R mv maybe down) : ∀ b, LT B fb lb b ∨ b = wb → b < w.heap.size := fun b hb => by
  have h1 := h.disk.lt
  have h2 := h.file.lt
  have h3 := h.log.lt
  have h4 := h.wl
  rcases hb with ((e | e | e) | e | e) | e <;> (subst e; omega)

/-- The log, its file and its disk have turned. -/
theorem LN.turns (h : LN W w wb B fb lb g f d R mv maybe down) (ht : LTurns (fun b => b = wb) lb fb B w w' g' f' d') : LN W w' wb B fb lb g' f' d' R mv maybe down := by
  have c : ∀ j, w'.cell? ⟨wb, j, none⟩ = w.cell? ⟨wb, j, none⟩ := fun j => ht.2.2.2.cell (a := ⟨wb, j, none⟩) h.nw h.wl
  obtain ⟨v3, e3, r3⟩ := h.c3
  exact ⟨h.bel.trans (ht.2.2.2.below h.bel.size (fun b hb => h.ge b (.inl hb))), h.ge, h.nw, (c 0).trans h.c0, (c 1).trans h.c1, (c 2).trans h.c2, ⟨v3, (c 3).trans e3, rRs.keep (fun b hb hl => ht.2.2.2.block b hl hb.1) ht.2.2.2.size r3⟩, (c 4).trans h.c4, (c 5).trans h.c5, (c 6).trans h.c6, fun j => (ht.2.2.2.frozen (a := ⟨wb, j, none⟩) h.nw h.wl).trans (h.fr j), ht.1, ht.2.1, ht.2.2.1⟩

theorem LN.below (h : LN W w wb B fb lb g f d R mv maybe down) (hb : Below w.heap.size w w') : LN W w' wb B fb lb g f d R mv maybe down :=
  h.turns ⟨h.log.below hb, h.file.keep (Chg.of_below hb (F := fun _ => False)) (fun h => h), h.disk.below hb, Chg.of_below hb⟩

theorem LN.pturns (h : LN W w wb B fb lb g f d R mv maybe down) (ht : PTurns fb B w w' f' d') : LN W w' wb B fb lb g f' d' R mv maybe down :=
  h.turns ⟨h.log.turns ht, ht.1, ht.2.1, ht.2.2.more (fun b _ e => e.elim .inl (fun e => .inr (.inl e)))⟩

/-- What a store to the world's block keeps. -/
theorem LN.sets (h : LN W w wb B fb lb g f d R mv maybe down) (k : Nat) (u : Value) : Below W.heap.size W (w.setCell ⟨wb, k, none⟩ u) ∧ (∀ j, (w.setCell ⟨wb, k, none⟩ u).frozen? ⟨wb, j, none⟩ = false) ∧ IsLog (fun b => b = wb) (w.setCell ⟨wb, k, none⟩ u) lb fb B g ∧ IsFile (w.setCell ⟨wb, k, none⟩ u) fb B f ∧ IsDisk (w.setCell ⟨wb, k, none⟩ u) B d ∧ (∀ v L, rRs.rd w (NF B fb lb wb) [v] L → rRs.rd (w.setCell ⟨wb, k, none⟩ u) (NF B fb lb wb) [v] L) := by
  have g1 : Chg (fun b => b = wb) w (w.setCell ⟨wb, k, none⟩ u) := Chg.setCell _ _ rfl
  have hlg : IsLog (fun b => b = wb) (w.setCell ⟨wb, k, none⟩ u) lb fb B g := by
    exact h.log.keep g1 (fun e => h.nw (.inr (.inr e.symm))) (fun b hb _ e => hb.2.2.2 e)
  exact ⟨h.bel.setCell (h.ge wb (.inr rfl)) _, fun j => by rw [World.frozen?_setCell]; exact h.fr j, hlg, h.file.keep g1 (fun e => h.nw (.inr (.inl e.symm))), h.disk.keep g1 (fun b hb e => h.nw (.inl (e ▸ hb))), fun v L hL => rRs.keep (fun b hb hl => g1.block b hl hb.2) g1.size hL⟩
end

set_option maxRecDepth 100000 in
theorem room37 {w : World} {wb fb : Nat} {B : DB} {f : PF} (hf : IsFile w fb B f) (k1 : w.cell? ⟨wb, 1, none⟩ = some (pfPtr fb)) : Calls Tryz.prog 32 #[.pointer (some ⟨wb, 0, none⟩)] w fun e w' => e = .returned (.int .i64 ((100 * f.n : Nat) : Int)) ∧ w' = w := by
  have HC := Lib.hid (pf_cap hf)
  have hn : 0 ≤ (f.n : Int) ∧ (f.n : Int) ≤ 4096 := by have := hf.few; omega
  have e1 : ((100 * f.n : Nat) : Int) = (f.n : Int) * 100 := by omega
  rw [e1]
  clear hf
  unfold pfPtr at *
  go_enter Tryz.func32, Tryz.ntmps32
  go_wp2_with fail
  refine HC.out.mono ?_
  rintro e w1 ⟨rfl, rfl⟩
  go_wp2
  go_ret
  exact ⟨rfl, rfl⟩
end Go.Proofs.YtngddhoolijimaaGreatDoor
namespace Go.Proofs.YtngddhoolijimaaGreatDoor
open Go.RowKit
set_option linter.unusedVariables false
set_option linter.unusedSimpArgs false

section
variable {w : World} {F : Nat → Prop} {L : List (List UInt8)}

set_option maxRecDepth 100000 in
set_option maxHeartbeats 4000000 in
theorem rl_IndexFunc (v : Value) (h : rRs.rd w F [v] L) (hs : ∀ r ∈ L, r.length ≤ 1048576) :
    Calls Tryz.prog 74 #[v, .func (.func 34) #[] #[]] w fun e w' => e = .returned (.int .i64 (-1)) ∧ w' = w := by
  obtain ⟨a, c, rfl, _, hlm, hget⟩ := rs_get h
  have HGET := Lib.hid hget
  have HS := Lib.hid hs
  have hll : 0 ≤ (L.length : Int) ∧ (L.length : Int) ≤ 9223372036854775807 := by unfold maxLen at hlm; omega
  clear h hs hget hlm
  go_enter Tryz.func74, Tryz.ntmps74
  go_wp2
  go_loopg [8] (L.length) (fun gk t8 wr => ∃ k : Nat, k ≤ L.length ∧ gk + k = L.length ∧ t8 = .int .i64 (k : Int) ∧ w = wr)
  case atStart => exact ⟨0, by omega, by omega, rfl, rfl⟩
  case round =>
    obtain ⟨k, hk, hgk, rfl, rfl⟩ := hrel
    have HGK := Lib.hid hgk
    clear hgk
    by_cases hin : k < L.length
    · have hd1 : decide ((k : Int) < (L.length : Int)) = true := by simp; omega
      have i0 : (0 : Int) ≤ (k : Int) := by omega
      have i1 : (k : Int) < (L.length : Int) := by omega
      obtain ⟨x, hx⟩ : ∃ x, L[k]? = some x := ⟨_, List.getElem?_eq_getElem hin⟩
      obtain ⟨rg, off, u, rfl, _, hgl, hc, hu⟩ := HGET.out k x hx
      have hxl := HS.out x (mem_of_get hx)
      have hlg := rl_long u x w (Dat.of_rd hu)
      rw [decide_eq_false (by omega)] at hlg
      obtain ⟨ua, uc, rfl⟩ := (Dat.of_rd hu).len
      have HLG := Lib.hid hlg
      clear hu hx hxl hlg
      go_wp2_with fail
      refine HLG.out.mono ?_
      rintro e w1 ⟨rfl, rfl⟩
      go_wp2
      go_roundg (gk - 1)
      case rel => exact ⟨k + 1, by omega, by have := HGK.out; omega, by go_num, rfl⟩
      case measure => have := HGK.out; omega
    · have hd1 : decide ((k : Int) < (L.length : Int)) = false := by simp; omega
      go_wp2
      go_ret
      exact ⟨rfl, rfl⟩

set_option maxRecDepth 100000 in
theorem rl_ContainsFunc (v : Value) (h : rRs.rd w F [v] L) (hs : ∀ r ∈ L, r.length ≤ 1048576) :
    Calls Tryz.prog 55 #[v, .func (.func 34) #[] #[]] w fun e w' => e = .returned (.bool false) ∧ w' = w := by
  have HI := Lib.hid (rl_IndexFunc v h hs)
  obtain ⟨a, c, rfl, _, hlm, hget⟩ := rs_get h
  clear h hs hget hlm
  go_enter Tryz.func55, Tryz.ntmps55
  go_wp2_with fail
  refine HI.out.mono ?_
  rintro e w1 ⟨rfl, rfl⟩
  go_wp2
  go_ret
  exact ⟨rfl, rfl⟩
end

/-- What Replace makes of a log, of records that aren't too long. -/
def lgReplace (g : LG) (f : PF) (d : DK) (L : List (List UInt8)) : LG × PF × DK × Int :=
  if g.failed then (g, f, d, 13) else lgStore g f d L

section
variable {X : Nat → Prop} {w w' : World} {lb fb : Nat} {B : DB} {g : LG} {f : PF} {d : DK}

set_option maxRecDepth 100000 in
set_option maxHeartbeats 8000000 in
theorem rl_Replace (hX : ∀ b, X b → b < w.heap.size) (h : IsLog X w lb fb B g) (hf : IsFile w fb B f) (hd : IsDisk w B d) {F : Nat → Prop} (lv : Value) (L : List (List UInt8)) (hL : rRs.rd w F [lv] L) (hi : g.img.length = 100 * f.n) (hs : ∀ r ∈ L, r.length ≤ 1048576) (hll : L.length ≤ 1000000) :
    Calls Tryz.prog 31 #[lgPtr lb, lv] w fun e w' => e = .returned (.int .i64 (lgReplace g f d L).2.2.2) ∧ LTurns X lb fb B w w' (lgReplace g f d L).1 (lgReplace g f d L).2.1 (lgReplace g f d L).2.2.1 := by
  obtain ⟨la, lc, rfl, _, _, hget⟩ := rs_get hL
  have HCK := Lib.hid (rl_check h)
  have HCF := Lib.hid (rl_ContainsFunc _ hL hs)
  have HXX := Lib.hid hX
  have HLG := Lib.hid (And.intro h (And.intro hf hd))
  have HI := Lib.hid hi
  have HS := Lib.hid hs
  have HGET := Lib.hid hget
  have hl0 : 0 ≤ (L.length : Int) ∧ (L.length : Int) ≤ 1000000 := by omega
  obtain ⟨R, hR⟩ : ∃ R, R = lgReplace g f d L := ⟨_, rfl⟩
  rw [← hR]
  have HR := Lib.hid (show R = if g.failed then (g, f, d, 13) else lgStore g f d L from by rw [hR]; rfl)
  clear h hf hd hL hi hs hll hget hR hX
  unfold lgPtr at *
  obtain ⟨q, hq⟩ : ∃ q, q = g.failed := ⟨_, rfl⟩
  rw [← hq] at HR HCK
  clear hq
  cases q with
  | true =>
    have HR2 := Lib.hid (show R = (g, f, d, 13) from HR.out)
    go_enter Tryz.func31, Tryz.ntmps31
    go_wp2_with fail
    refine HCK.out.mono ?_
    rintro e w1 ⟨rfl, rfl⟩
    go_wp2
    go_ret
    exact ⟨by rw [HR2.out]; rfl, by rw [HR2.out]; exact LTurns.refl HLG.out.1 HLG.out.2.1 HLG.out.2.2⟩
  | false =>
    have HR3 := Lib.hid (show R = lgStore g f d L from HR.out)
    clear HR
    go_enter Tryz.func31, Tryz.ntmps31
    go_wp2_with fail
    refine HCK.out.mono ?_
    rintro e w1 ⟨rfl, rfl⟩
    go_wp2_with fail
    refine HCF.out.mono ?_
    rintro e w2 ⟨rfl, rfl⟩
    go_wp2
    go_loopg [6, 18] (L.length) (fun gk t6 t18 wr => ∃ (k : Nat) (u : Value), u = t6 ∧ k ≤ L.length ∧ gk + k = L.length ∧ t18 = .int .i64 (k : Int) ∧ Recs wr w2.heap.size u (L.take k) ∧ Below w2.heap.size w2 wr)
    case atStart => exact ⟨0, _, rfl, by omega, by omega, rfl, Recs.nil _ _, Below.refl _ _⟩
    case round =>
      obtain ⟨k, u, rfl, hk, hgk, rfl, hRec, hB⟩ := hrel
      have HGK := Lib.hid hgk
      have HREC := Lib.hid hRec
      have HB := Lib.hid hB
      clear hgk hRec hB
      by_cases hin : k < L.length
      · have hd1 : decide ((k : Int) < (L.length : Int)) = true := by simp; omega
        have i0 : (0 : Int) ≤ (k : Int) := by omega
        have i1 : (k : Int) < (L.length : Int) := by omega
        obtain ⟨x, hx⟩ : ∃ x, L[k]? = some x := ⟨_, List.getElem?_eq_getElem hin⟩
        obtain ⟨rg, off, y, rfl, _, hgl, hc, hy⟩ := HGET.out k x hx
        obtain ⟨ya, yc, rfl⟩ := (Dat.of_rd hy).len
        have HY := Lib.hid ((Dat.of_rd hy).keep HB.out)
        have HXL := Lib.hid (HS.out x (mem_of_get hx))
        have hcc := (HB.out.cell (p := ⟨rg, off + k, none⟩) hgl).trans hc
        have HTK := Lib.hid (show L.take (k + 1) = L.take k ++ [x] from by rw [List.take_add_one, hx]; rfl)
        clear hy hx hc hgl
        go_wp2_with fail
        refine (by_Clone _ x _ HY.out (by have := HXL.out; omega)).mono ?_
        rintro e w4 ⟨v4, rfl, hr4, hb4⟩
        obtain ⟨xa, xc, rfl⟩ := hr4.dat.len
        have H4 := Lib.hid (hr4.low HB.out.size)
        have HB4 := Lib.hid (HB.out.trans (hb4.mono HB.out.size))
        have HO4 := Lib.hid (HREC.out.keep hb4)
        have HBA := Lib.hid (show Below w4.heap.size w4 (w4.alloc (.cells #[.slice xa x.length xc] 51)) from (Below.refl _ _).alloc (Nat.le_refl _) _)
        clear hr4 hb4 hcc
        go_wp2_with (at_builtin; refine wpList_rec rfl _ _ rfl rfl (HO4.out.keep HBA.out) (.slice xa x.length xc) x w4.heap.size rfl 51 (0, 0) (heap_alloc_new w4 _) (H4.out.keep HBA.out) (by rw [List.length_take]; omega) (by have := HB4.out.size; have := HBA.out.size; omega) ?_)
        intro v5 w5 hown5 hb5
        rw [← HTK.out] at hown5
        have H5 := Lib.hid hown5
        have HB5 := Lib.hid ((HB4.out.trans (HBA.out.mono HB4.out.size)).trans hb5)
        clear hown5 hb5
        go_wp2
        go_roundg (gk - 1)
        case rel => exact ⟨k + 1, _, rfl, by omega, by have := HGK.out; omega, by go_num, H5.out, HB5.out⟩
        case measure => have := HGK.out; omega
      · have hd1 : decide ((k : Int) < (L.length : Int)) = false := by simp; omega
        obtain rfl : k = L.length := by omega
        rw [List.take_length] at HREC
        have HFR := Lib.hid (show ∀ b, w2.heap.size ≤ b → LFree X B fb lb b from fun b hb => by
          have h1 := HLG.out.2.2.lt
          have h2 := HLG.out.2.1.lt
          have h3 := HLG.out.1.lt
          refine ⟨fun e => ?_, by omega, by omega, fun e => by have := HXX.out b e; omega⟩
          rcases e with e | e | e <;> (subst e; omega))
        have HRD := Lib.hid (show rRs.rd wr (LFree X B fb lb) [u] L from HREC.out.rd (fun b hb _ => HFR.out b hb))
        have HF5 := Lib.hid (HLG.out.2.1.keep (Chg.of_below HB.out (F := fun _ => False)) (fun h => h))
        clear hin
        go_wp2_with fail
        refine (rl_store (fun b hb => Nat.lt_of_lt_of_le (HXX.out b hb) HB.out.size) (HLG.out.1.below HB.out) HF5.out (HLG.out.2.2.below HB.out) u L HRD.out HI.out HS.out).mono ?_
        rintro e w6 ⟨rfl, hT⟩
        have HT := Lib.hid (LTurns.after HB.out hT)
        rw [← HR3.out] at HT ⊢
        clear hT
        go_wp2
        go_ret
        exact ⟨rfl, HT.out⟩
end
end Go.Proofs.YtngddhoolijimaaGreatDoor
namespace Go.Proofs.YtngddhoolijimaaGreatDoor
open Go.RowKit
set_option linter.unusedVariables false
set_option linter.unusedSimpArgs false

theorem txt_ne {x y : List UInt8} (h : x ≠ y) : (⟨x.toArray⟩ : ByteArray).toList ≠ (⟨y.toArray⟩ : ByteArray).toList := fun e => h (by rw [ByteArray.toList_eq, ByteArray.toList_eq] at e; simpa using e)

section
variable {X : Nat → Prop} {w : World} {lb fb wb n N : Nat} {B : DB} {g : LG} {d : DK} {P L : List (List UInt8)} {G : Nat → Prop}

set_option maxRecDepth 100000 in
set_option maxHeartbeats 8000000 in
theorem same37n (hlog : IsLog X w lb fb B g) (hf : IsFile w fb B ⟨n, false⟩) (hd : IsDisk w B d) (hw : ¬ (B.has wb ∨ wb = fb)) (hwl : wb < w.heap.size) (k1 : w.cell? ⟨wb, 1, none⟩ = some (pfPtr fb)) (k2 : w.cell? ⟨wb, 2, none⟩ = some (lgPtr lb))
    (rv : Value) (hL : rRs.rd w G [rv] L) (hG : ∀ b, G b → ¬ (B.has b ∨ b = fb)) (hr : g.recs ≠ L) (hsm : Small L) (hsg : ∀ r ∈ g.recs, r.length ≤ 1048576) (hLm : L.length ≤ 1000000) (hgm : g.recs.length ≤ 1000000) :
    Calls Tryz.prog 14 #[.pointer (some ⟨wb, 0, none⟩), rv, .bool false] w fun e w' => e = .returned (.bool false) ∧ SameOf fb B n d w w' := by
  obtain ⟨ra, rc, rfl, _, _, hget⟩ := rs_get hL
  have HLOG := Lib.hid hlog
  have HFD := Lib.hid (And.intro hf hd)
  have HW := Lib.hid (And.intro hw hwl)
  have HK := Lib.hid (And.intro k1 k2)
  have HL := Lib.hid hL
  have HG := Lib.hid hG
  have HGET := Lib.hid hget
  have HRS := Lib.hid hr
  have HSM := Lib.hid hsm
  have HSG := Lib.hid hsg
  have hll : 0 ≤ (L.length : Int) ∧ (L.length : Int) ≤ 1000000 := by omega
  have hgl0 : 0 ≤ (g.recs.length : Int) ∧ (g.recs.length : Int) ≤ 1000000 := by omega
  have HLEN := Lib.hid (rl_Len hlog)
  obtain ⟨GR, hGR⟩ : ∃ GR, GR = g.recs := ⟨_, rfl⟩
  rw [← hGR] at HLEN HRS HSG hgl0
  have HGR := Lib.hid hGR
  have HFN := Lib.hid (show ∀ wr, Below w.heap.size w wr → SameOf fb B n d w wr from fun wr hb => ⟨hf.keep (Chg.of_below hb (F := fun _ => False)) (fun h => h), hd.below hb, Chg.of_below hb⟩)
  clear hlog hf hd hw hwl hL hG hget hr hsm hLm hgm hsg hGR
  unfold lgPtr at *
  unfold pfPtr at *
  by_cases hlen : GR.length = L.length
  · have hle : ((GR.length : Int) == (L.length : Int)) = true := by rw [hlen]; simp
    have hle2 : (GR.length : Int) = (L.length : Int) := by omega
    have HLE := Lib.hid hlen
    rw [hlen] at HLEN
    clear hlen hle hle2 hgl0
    go_enter Tryz.func14, Tryz.ntmps14
    go_wp2_with fail
    refine HLEN.out.mono ?_
    rintro e w1 ⟨rfl, rfl⟩
    clear k1 k2
    go_wp2
    go_loopg [26] (L.length) (fun gk t26 wr => ∃ k : Nat, k ≤ L.length ∧ gk + k = L.length ∧ t26 = .int .i64 (k : Int) ∧ (∀ j, j < k → GR[j]? = L[j]?) ∧ Below w1.heap.size w1 wr)
    case atStart => exact ⟨0, by omega, by omega, rfl, fun j hj => by omega, Below.refl _ _⟩
    case round =>
      obtain ⟨k, hk, hgk, rfl, hpre, hB⟩ := hrel
      have HGK := Lib.hid hgk
      have HPRE := Lib.hid hpre
      have HBW := Lib.hid hB
      have k2 := (hB.cell (p := ⟨wb, 2, none⟩) HW.out.2).trans HK.out.2
      clear hgk hB hpre
      by_cases hin : k < L.length
      · have hd1 : decide ((k : Int) < (L.length : Int)) = true := by simp; omega
        have i0 : (0 : Int) ≤ (k : Int) := by omega
        have i1 : (k : Int) < (L.length : Int) := by omega
        obtain ⟨x, hx⟩ : ∃ x, L[k]? = some x := ⟨_, List.getElem?_eq_getElem hin⟩
        obtain ⟨y, hy⟩ : ∃ y, GR[k]? = some y := ⟨_, List.getElem?_eq_getElem (by have := HLE.out; omega)⟩
        obtain ⟨rg, off, u, rfl, _, hgl, hc, hu⟩ := HGET.out k x hx
        obtain ⟨ua, uc, rfl⟩ := (Dat.of_rd hu).len
        have HU := Lib.hid (Dat.of_rd hu)
        have HXL := Lib.hid (HSM.out.1 x (List.mem_of_getElem? hx))
        have hxl0 : 0 ≤ (x.length : Int) ∧ (x.length : Int) ≤ 1048576 := by have := HXL.out; omega
        have HYL := Lib.hid (HSG.out y (List.mem_of_getElem? hy))
        have hyl0 : 0 ≤ (y.length : Int) ∧ (y.length : Int) ≤ 1048576 := by have := HYL.out; omega
        have HC := Lib.hid (And.intro hgl hc)
        have HXY := Lib.hid (And.intro hx hy)
        have HRD := Lib.hid (rl_Read (HLOG.out.below HBW.out) k y (by rw [← HGR.out]; exact hy) (by have := HYL.out; omega))
        clear hu hx hc hgl hy
        unfold lgPtr at HRD
        go_wp2_with fail
        refine HRD.out.mono ?_
        rintro e w2 ⟨v, rfl, hrow, hb2⟩
        obtain ⟨va, vc, rfl⟩ := hrow.dat.len
        have HROW := Lib.hid hrow
        have HB2 := Lib.hid (HBW.out.trans (hb2.mono HBW.out.size))
        have HGE := Lib.hid (show ∀ b, va = some b → w1.heap.size ≤ b.block from fun b e => by
          rcases hrow.2 with ⟨e1, _⟩ | ⟨g', cap, cur, e1, hB', _⟩
          · simp only [Value.slice.injEq] at e1
            rw [e1.1] at e; cases e
          · simp only [Value.slice.injEq] at e1
            rw [e1.1] at e; cases e; have := HBW.out.size; exact Nat.le_trans this hB')
        clear hrow hb2 k2
        by_cases hxy : y = x
        · subst hxy
          have HNX := Lib.hid (show ∀ j, j < k + 1 → GR[j]? = L[j]? from fun j hj => by
            by_cases hjk : j < k
            · exact HPRE.out j hjk
            · obtain rfl : j = k := by omega
              rw [HXY.out.1, HXY.out.2])
          go_wp2_with fail
          refine region_all (by kernel_rfl) (by kernel_rfl) ?_
          intro wD hWD
          have hbD : Below w2.heap.size w2 wD := by rw [hWD]; exact (Below.refl _ _).drew
          have HBD := Lib.hid (HB2.out.trans (hbD.mono HB2.out.size))
          have cc := (HBD.out.cell (p := ⟨rg, off + k, none⟩) HC.out.1).trans HC.out.2
          have cv1 := convert_data (HROW.out.dat.keep hbD).1
          have cv2 := convert_data (HU.out.keep HBD.out).1
          have HSC := Lib.hid (HROW.out.keep hbD).scr
          unfold txt at cv1 cv2
          clear hWD hbD
          generalize (⟨y.toArray⟩ : ByteArray) = sx at *
          iterate 12 (refine stillH_want (by kernel_rfl) (fun K hK => ?_); go_simp; refine hK _ ?_; clear hK K)
          refine stillH_nil ?_
          clear cv1 cv2 cc
          go_wp2
          generalize gk = GK at *
          go_loopg [52] (y.length) (fun gk t52 wr => ∃ j : Nat, j ≤ y.length ∧ gk + j = y.length ∧ t52 = .int .i64 (j : Int) ∧ ScrN wr va y.length ∧ Below w1.heap.size w1 wr)
          case atStart => exact ⟨0, by omega, by omega, rfl, HSC.out, HBD.out⟩
          case round =>
            obtain ⟨j, hj, hgj, rfl, hscr, hB⟩ := hrel
            have HGJ := Lib.hid hgj
            have HBJ := Lib.hid hB
            have HSJ := Lib.hid hscr
            clear hgj hB hscr
            by_cases hjn : j < y.length
            · have hd2 : decide ((j : Int) < (y.length : Int)) = true := by simp; omega
              have j0 : (0 : Int) ≤ (j : Int) := by omega
              have j1 : (j : Int) < (y.length : Int) := by omega
              rcases HSJ.out with h0 | ⟨vg, rfl, hs⟩
              · omega
              obtain ⟨⟨z, hz⟩, hfz⟩ := hs j hjn
              have HST := Lib.hid (scr_set hs hjn (bits .xor .u8 z 255))
              have HBS := Lib.hid (show Below w1.heap.size w1 (wr.setCell ⟨vg, j, none⟩ (.int .u8 (bits .xor .u8 z 255))) from HBJ.out.setCell (show w1.heap.size ≤ vg from HGE.out ⟨vg, 0, none⟩ rfl) _)
              clear hs
              go_wp2
              go_roundg (gk - 1)
              case rel => exact ⟨j + 1, by omega, by have := HGJ.out; omega, by go_num, .inr ⟨vg, rfl, HST.out⟩, HBS.out⟩
              case measure => have := HGJ.out; omega
            · have hd2 : decide ((j : Int) < (y.length : Int)) = false := by simp; omega
              have hd2' : ¬ (j : Int) < (y.length : Int) := by omega
              go_wp2
              go_roundg (GK - 1)
              case rel => exact ⟨k + 1, by omega, by have := HGK.out; omega, by go_num, HNX.out, HBJ.out⟩
              case measure => have := HGK.out; omega
        · have hne := txt_ne hxy
          go_wp2_with fail
          refine region_all (by kernel_rfl) (by kernel_rfl) ?_
          intro wD hWD
          have hbD : Below w2.heap.size w2 wD := by rw [hWD]; exact (Below.refl _ _).drew
          have HBD := Lib.hid (HB2.out.trans (hbD.mono HB2.out.size))
          have cc := (HBD.out.cell (p := ⟨rg, off + k, none⟩) HC.out.1).trans HC.out.2
          have cv1 := convert_data (HROW.out.dat.keep hbD).1
          have cv2 := convert_data (HU.out.keep HBD.out).1
          unfold txt at cv1 cv2
          clear hWD hbD
          generalize (⟨y.toArray⟩ : ByteArray) = sy at *
          generalize (⟨x.toArray⟩ : ByteArray) = sx at *
          have hne2 : (sy.toList == sx.toList) = false := by simpa using hne
          iterate 12 (refine stillH_want (by kernel_rfl) (fun K hK => ?_); go_simp; refine hK _ ?_; clear hK K)
          refine stillH_nil ?_
          clear cv1 cv2 cc
          have HFIN := Lib.hid (HFN.out _ HBD.out)
          go_wp2
          go_ret
          exact ⟨rfl, HFIN.out⟩
      · exact absurd (show GR = L from List.ext_getElem? fun j => by
          by_cases hj : j < k
          · exact HPRE.out j hj
          · rw [List.getElem?_eq_none (by have := HLE.out; omega), List.getElem?_eq_none (by omega)]) HRS.out
  · have hle : ((GR.length : Int) == (L.length : Int)) = false := by simpa using (show ¬ (GR.length : Int) = (L.length : Int) by omega)
    have hle2 : ¬ (GR.length : Int) = (L.length : Int) := by omega
    have HFIN := Lib.hid (HFN.out _ (Below.refl _ _))
    clear hlen
    go_enter Tryz.func14, Tryz.ntmps14
    go_wp2_with fail
    refine HLEN.out.mono ?_
    rintro e w1 ⟨rfl, rfl⟩
    clear k1 k2
    go_wp2
    go_ret
    exact ⟨rfl, HFIN.out⟩
end
end Go.Proofs.YtngddhoolijimaaGreatDoor
namespace Go.Proofs.YtngddhoolijimaaGreatDoor
open Go.RowKit
set_option linter.unusedVariables false
set_option linter.unusedSimpArgs false

/-- Records that fit into a log of n pages. -/
def Fits (n : Nat) (R : List (List UInt8)) : Prop := (∀ r ∈ R, r.length ≤ 500) ∧ (encs R).length ≤ 100 * n

/-- A disk that holds the pages of a log with these records. -/
def Hold (n : Nat) (R : List (List UInt8)) (st : List Page) : Prop := ∃ P, Rec n P st ∧ P.flatten = padTo (100 * n) (encs R)

theorem encs_many : ∀ (L : List (List UInt8)), 8 * L.length ≤ (encs L).length
  | [] => by simp
  | r :: L => by have := encs_many L; rw [encs_cons, List.length_append, recB_len, List.length_cons]; omega

section
variable {n N : Nat} {R Q P : List (List UInt8)} {d : DK}
theorem Fits.long (h : Fits n R) : ∀ r ∈ R, r.length ≤ 1048576 := fun r hr => by have := h.1 r hr; omega
theorem Fits.small (h : Fits n R) (hn : n ≤ 4096) : Small R := ⟨h.long, by have := h.2; omega⟩
theorem Fits.many (h : Fits n R) (hn : n ≤ 4096) : R.length ≤ 60000 := by have := encs_many R; have := h.2; omega
theorem Fits.decs (h : Fits n R) (hP : P.flatten = padTo (100 * n) (encs R)) : (dec P.flatten).1 = R := by rw [hP, dec_pad h.long]
theorem fits_nil (n : Nat) : Fits n [] := And.intro (fun r hr => by cases hr) (by rw [encs_nil]; exact Nat.zero_le _)
theorem zeroP_none (n : Nat) : (zeroP n).flatten = padTo (100 * n) (encs []) := by rw [zeroP_flat, encs_nil]; unfold padTo; simp
theorem flat_len' (h : Pays n P) : P.flatten.length = 100 * n := flat_len h
end

/-- The world's block and its disk, and what has been kept besides. -/
structure LO (W w0 w : World) (wb : Nat) (B : DB) (d : DK) (v1 v2 v3 mv : Value) (maybe down : Bool) : Prop where
  low : W.heap.size ≤ w0.heap.size
  bel : Below W.heap.size W w
  ge : ∀ b, B.has b ∨ b = wb → W.heap.size ≤ b
  lt0 : ∀ b, B.has b ∨ b = wb → b < w0.heap.size
  nw : ¬ B.has wb
  c0 : w.cell? ⟨wb, 0, none⟩ = some (.pointer (some ⟨B.db, 0, none⟩))
  c1 : w.cell? ⟨wb, 1, none⟩ = some v1
  c2 : w.cell? ⟨wb, 2, none⟩ = some v2
  c3 : w.cell? ⟨wb, 3, none⟩ = some v3
  c4 : w.cell? ⟨wb, 4, none⟩ = some mv
  c5 : w.cell? ⟨wb, 5, none⟩ = some (.bool maybe)
  c6 : w.cell? ⟨wb, 6, none⟩ = some (.bool down)
  fr : ∀ j, w.frozen? ⟨wb, j, none⟩ = false
  disk : IsDisk w B d
  chg : Chg (fun b => B.has b ∨ b = wb) w0 w

section
variable {W w0 w w' : World} {wb fb lb : Nat} {B : DB} {d d' : DK} {v1 v2 v3 mv u : Value} {maybe down : Bool} {R : List (List UInt8)} {g : LG} {f : PF}

theorem LO.wl (h : LO W w0 w wb B d v1 v2 v3 mv maybe down) : wb < w.heap.size := cell_lt h.c0

/-- The disk has turned, and blocks that are new. -/
theorem LO.go (h : LO W w0 w wb B d v1 v2 v3 mv maybe down) (hd : IsDisk w' B d') (hc : Chg (fun b => B.has b ∨ w0.heap.size ≤ b) w w') : LO W w0 w' wb B d' v1 v2 v3 mv maybe down := by
  have no : ¬ (B.has wb ∨ w0.heap.size ≤ wb) := fun e => e.elim h.nw (fun e => by have := h.lt0 wb (.inr rfl); omega)
  have c : ∀ j, w'.cell? ⟨wb, j, none⟩ = w.cell? ⟨wb, j, none⟩ := fun j => hc.cell (a := ⟨wb, j, none⟩) no h.wl
  exact ⟨h.low, h.bel.trans (hc.below h.bel.size (fun b hb => hb.elim (fun e => h.ge b (.inl e)) (fun e => by have := h.low; omega))), h.ge, h.lt0, h.nw, (c 0).trans h.c0, (c 1).trans h.c1, (c 2).trans h.c2, (c 3).trans h.c3, (c 4).trans h.c4, (c 5).trans h.c5, (c 6).trans h.c6, fun j => (hc.frozen (a := ⟨wb, j, none⟩) no h.wl).trans (h.fr j), hd,
    ⟨hc.os.trans h.chg.os, hc.tape.trans h.chg.tape, hc.output.trans h.chg.output, Nat.le_trans h.chg.size hc.size, fun b hb hn => (hc.block b (Nat.lt_of_lt_of_le hb h.chg.size) (fun e => e.elim (fun e => hn (.inl e)) (fun e => by omega))).trans (h.chg.block b hb hn)⟩⟩

theorem LO.turns (h : LO W w0 w wb B d v1 v2 v3 mv maybe down) (ht : Turns B w w' d') : LO W w0 w' wb B d' v1 v2 v3 mv maybe down := h.go ht.1 (ht.2.more (fun b _ e => .inl e))

theorem LO.set (h : LO W w0 w wb B d v1 v2 v3 mv maybe down) (k : Nat) (u : Value) : Below W.heap.size W (w.setCell ⟨wb, k, none⟩ u) ∧ (∀ j, (w.setCell ⟨wb, k, none⟩ u).frozen? ⟨wb, j, none⟩ = false) ∧ IsDisk (w.setCell ⟨wb, k, none⟩ u) B d ∧ Chg (fun b => B.has b ∨ b = wb) w0 (w.setCell ⟨wb, k, none⟩ u) := by
  have g1 : Chg (fun b => b = wb) w (w.setCell ⟨wb, k, none⟩ u) := Chg.setCell _ _ rfl
  exact ⟨h.bel.setCell (h.ge wb (.inr rfl)) _, fun j => by rw [World.frozen?_setCell]; exact h.fr j, h.disk.keep g1 (fun b hb e => h.nw (e ▸ hb)), h.chg.trans (g1.more (fun b _ e => .inr e))⟩

theorem LO.set1 (h : LO W w0 w wb B d v1 v2 v3 mv maybe down) (u : Value) : LO W w0 (w.setCell ⟨wb, 1, none⟩ u) wb B d u v2 v3 mv maybe down := by
  obtain ⟨k1, k2, k3, k4⟩ := h.set 1 u
  exact ⟨h.low, k1, h.ge, h.lt0, h.nw, (lset_ne (by decide)).trans h.c0, World.cell?_setCell_same _ _ _ h.c1, (lset_ne (by decide)).trans h.c2, (lset_ne (by decide)).trans h.c3, (lset_ne (by decide)).trans h.c4, (lset_ne (by decide)).trans h.c5, (lset_ne (by decide)).trans h.c6, k2, k3, k4⟩
theorem LO.set2 (h : LO W w0 w wb B d v1 v2 v3 mv maybe down) (u : Value) : LO W w0 (w.setCell ⟨wb, 2, none⟩ u) wb B d v1 u v3 mv maybe down := by
  obtain ⟨k1, k2, k3, k4⟩ := h.set 2 u
  exact ⟨h.low, k1, h.ge, h.lt0, h.nw, (lset_ne (by decide)).trans h.c0, (lset_ne (by decide)).trans h.c1, World.cell?_setCell_same _ _ _ h.c2, (lset_ne (by decide)).trans h.c3, (lset_ne (by decide)).trans h.c4, (lset_ne (by decide)).trans h.c5, (lset_ne (by decide)).trans h.c6, k2, k3, k4⟩
theorem LO.set6 (h : LO W w0 w wb B d v1 v2 v3 mv maybe down) (b : Bool) : LO W w0 (w.setCell ⟨wb, 6, none⟩ (.bool b)) wb B d v1 v2 v3 mv maybe b := by
  obtain ⟨k1, k2, k3, k4⟩ := h.set 6 (.bool b)
  exact ⟨h.low, k1, h.ge, h.lt0, h.nw, (lset_ne (by decide)).trans h.c0, (lset_ne (by decide)).trans h.c1, (lset_ne (by decide)).trans h.c2, (lset_ne (by decide)).trans h.c3, (lset_ne (by decide)).trans h.c4, (lset_ne (by decide)).trans h.c5, World.cell?_setCell_same _ _ _ h.c6, k2, k3, k4⟩

/-- Records that lay there when the opening began lie there. -/
theorem LO.recs (h : LO W w0 w wb B d v1 v2 v3 mv maybe down) (hfb : w0.heap.size ≤ fb) (hlb : w0.heap.size ≤ lb) (hr : rRs.rd w0 (fun b => ¬ B.has b ∧ b ≠ wb) [u] R) : rRs.rd w (NF B fb lb wb) [u] R := by
  refine rs_shrink (F := fun b => (¬ B.has b ∧ b ≠ wb) ∧ b < w0.heap.size) (fun b hb _ => ⟨fun e => ?_, hb.1.2⟩) (rRs.keep (fun b hb hl => h.chg.block b hb.2 (fun e => e.elim hb.1.1 hb.1.2)) h.chg.size (rs_shrink (G := fun b => (¬ B.has b ∧ b ≠ wb) ∧ b < w0.heap.size) (fun b hb hl => ⟨hb, hl⟩) hr))
  rcases e with e | e | e
  · exact hb.1.1 e
  · omega
  · omega

theorem LO.ln (h : LO W w0 w wb B d (pfPtr fb) (lgPtr lb) v3 mv maybe down) (hf : IsFile w fb B f) (hl : IsLog (fun b => b = wb) w lb fb B g) (hfb : w0.heap.size ≤ fb) (hlb : w0.heap.size ≤ lb) (hr : rRs.rd w0 (fun b => ¬ B.has b ∧ b ≠ wb) [v3] R) : LN W w wb B fb lb g f d R mv maybe down :=
  ⟨h.bel, fun b hb => by
      have := h.low
      rcases hb with (e | e | e) | e
      · exact h.ge b (.inl e)
      · omega
      · omega
      · exact h.ge b (.inr e), fun e => by
      have := h.lt0 wb (.inr rfl)
      rcases e with e | e | e
      · exact h.nw e
      · omega
      · omega, h.c0, h.c1, h.c2, ⟨_, h.c3, h.recs hfb hlb hr⟩, h.c4, h.c5, h.c6, h.fr, hl, hf, h.disk⟩

/-- From what stands between calls. -/
theorem LN.lo (h : LN W w wb B fb lb g f d R mv maybe down) : ∃ v3, LO W w w wb B d (pfPtr fb) (lgPtr lb) v3 mv maybe down ∧ rRs.rd w (fun b => ¬ B.has b ∧ b ≠ wb) [v3] R := by
  obtain ⟨v3, e3, r3⟩ := h.c3
  exact ⟨v3, ⟨h.bel.size, h.bel, fun b hb => h.ge b (hb.elim (fun e => .inl (.inl e)) .inr), fun b hb => h.lt b (hb.elim (fun e => .inl (.inl e)) .inr), fun e => h.nw (.inl e), h.c0, h.c1, h.c2, e3, h.c4, h.c5, h.c6, h.fr, h.disk, Chg.refl _ _⟩, rs_shrink (fun b hb _ => ⟨fun e => hb.1 (.inl e), hb.2⟩) r3⟩

theorem LN.setR {v : Value} {L : List (List UInt8)} (h : LN W w wb B fb lb g f d R mv maybe down) (hL : rRs.rd w (NF B fb lb wb) [v] L) : LN W (w.setCell ⟨wb, 3, none⟩ v) wb B fb lb g f d L mv maybe down := by
  obtain ⟨k1, k2, k3, k4, k5, k6⟩ := h.sets 3 v
  obtain ⟨v3, e3, _⟩ := h.c3
  exact ⟨k1, h.ge, h.nw, (lset_ne (by decide)).trans h.c0, (lset_ne (by decide)).trans h.c1, (lset_ne (by decide)).trans h.c2, ⟨v, World.cell?_setCell_same _ _ _ e3, k6 _ _ hL⟩, (lset_ne (by decide)).trans h.c4, (lset_ne (by decide)).trans h.c5, (lset_ne (by decide)).trans h.c6, k2, k3, k4, k5⟩
theorem LN.setMight (h : LN W w wb B fb lb g f d R mv maybe down) (v : Value) : LN W (w.setCell ⟨wb, 4, none⟩ v) wb B fb lb g f d R v maybe down := by
  obtain ⟨k1, k2, k3, k4, k5, k6⟩ := h.sets 4 v
  obtain ⟨v3, e3, r3⟩ := h.c3
  exact ⟨k1, h.ge, h.nw, (lset_ne (by decide)).trans h.c0, (lset_ne (by decide)).trans h.c1, (lset_ne (by decide)).trans h.c2, ⟨v3, (lset_ne (by decide)).trans e3, k6 _ _ r3⟩, World.cell?_setCell_same _ _ _ h.c4, (lset_ne (by decide)).trans h.c5, (lset_ne (by decide)).trans h.c6, k2, k3, k4, k5⟩
theorem LN.setMaybe (h : LN W w wb B fb lb g f d R mv maybe down) (b : Bool) : LN W (w.setCell ⟨wb, 5, none⟩ (.bool b)) wb B fb lb g f d R mv b down := by
  obtain ⟨k1, k2, k3, k4, k5, k6⟩ := h.sets 5 (.bool b)
  obtain ⟨v3, e3, r3⟩ := h.c3
  exact ⟨k1, h.ge, h.nw, (lset_ne (by decide)).trans h.c0, (lset_ne (by decide)).trans h.c1, (lset_ne (by decide)).trans h.c2, ⟨v3, (lset_ne (by decide)).trans e3, k6 _ _ r3⟩, (lset_ne (by decide)).trans h.c4, World.cell?_setCell_same _ _ _ h.c5, (lset_ne (by decide)).trans h.c6, k2, k3, k4, k5⟩
theorem LN.setDown (h : LN W w wb B fb lb g f d R mv maybe down) (b : Bool) : LN W (w.setCell ⟨wb, 6, none⟩ (.bool b)) wb B fb lb g f d R mv maybe b := by
  obtain ⟨k1, k2, k3, k4, k5, k6⟩ := h.sets 6 (.bool b)
  obtain ⟨v3, e3, r3⟩ := h.c3
  exact ⟨k1, h.ge, h.nw, (lset_ne (by decide)).trans h.c0, (lset_ne (by decide)).trans h.c1, (lset_ne (by decide)).trans h.c2, ⟨v3, (lset_ne (by decide)).trans e3, k6 _ _ r3⟩, (lset_ne (by decide)).trans h.c4, (lset_ne (by decide)).trans h.c5, World.cell?_setCell_same _ _ _ h.c6, k2, k3, k4, k5⟩

/-- The disk has turned. -/
theorem LN.dturns (h : LN W w wb B fb lb g f d R mv maybe down) (ht : Turns B w w' d') : LN W w' wb B fb lb g f d' R mv maybe down := h.pturns ((PTurns.refl h.file h.disk).of_turns ht)
end

/-- The law's world between calls. -/
structure LQ (W w : World) (wb : Nat) (B : DB) (n N fb lb : Nat) (g : LG) (f : PF) (d : DK) (R : List (List UInt8)) (mv : Value) (down : Bool) : Prop where
  ln : LN W w wb B fb lb g f d R mv down down
  fn : f.n = n
  cap : capN N = n
  big : 7 ≤ N
  recs : g.recs = R
  img : g.img.length = 100 * n
  fit : Fits n R
  up : down = false → f.failed = false ∧ g.failed = false ∧ ∃ P, Clean n N P d ∧ g.img = P.flatten ∧ P.flatten = padTo (100 * n) (encs R)
  dn : down = true → g.failed = true ∧ ∃ Q, rRs.rd w (NF B fb lb wb) [mv] Q ∧ Fits n Q ∧ Ready N (fun st => Hold n R st ∨ Hold n Q st) d

/-- Some world of the law. -/
def Stays (W w : World) (wb : Nat) (B : DB) (n N : Nat) : Prop := ∃ fb lb g f d R mv down, LQ W w wb B n N fb lb g f d R mv down

section
variable {W w w' : World} {wb fb lb n N : Nat} {B : DB} {d d' : DK} {mv : Value} {down : Bool} {R : List (List UInt8)} {g : LG} {f : PF}
theorem LQ.few (h : LQ W w wb B n N fb lb g f d R mv down) : n ≤ 4096 := by rw [← h.fn]; exact h.ln.file.few
theorem LQ.below (h : LQ W w wb B n N fb lb g f d R mv down) (hb : Below w.heap.size w w') : LQ W w' wb B n N fb lb g f d R mv down :=
  ⟨h.ln.below hb, h.fn, h.cap, h.big, h.recs, h.img, h.fit, h.up, fun e => by
    obtain ⟨h1, Q, h2, h3⟩ := h.dn e
    exact ⟨h1, Q, rRs.keep (fun b _ hl => hb.block b hl) hb.size h2, h3⟩⟩

/-- Ready to be opened, up or down. -/
theorem LQ.ready (h : LQ W w wb B n N fb lb g f d R mv down) : ∃ Q, Ready N (fun st => Hold n R st ∨ (down = true ∧ Hold n Q st)) d ∧ (down = true → rRs.rd w (fun b => ¬ B.has b ∧ b ≠ wb) [mv] Q ∧ Fits n Q) := by
  cases down with
  | false =>
    obtain ⟨_, _, P, hc, _, hp⟩ := h.up rfl
    exact ⟨[], hc.ready.more (fun st hs => .inl ⟨P, hs, hp⟩), fun e => by cases e⟩
  | true =>
    obtain ⟨_, Q, hq, hfq, hr⟩ := h.dn rfl
    exact ⟨Q, hr.more (fun st hs => hs.imp id (fun hs => ⟨rfl, hs⟩)), fun _ => ⟨rs_shrink (fun b hb _ => ⟨fun e => hb.1 (.inl e), hb.2⟩) hq, hfq⟩⟩

theorem LQ.arm (h : LQ W w wb B n N fb lb g f d R mv down) (k : Int) (ht : Turns B w w' (d.arm k)) : LQ W w' wb B n N fb lb g f (d.arm k) R mv down :=
  ⟨h.ln.dturns ht, h.fn, h.cap, h.big, h.recs, h.img, h.fit, fun e => by
    obtain ⟨h1, h2, P, h3, h4⟩ := h.up e
    exact ⟨h1, h2, P, h3.arm k, h4⟩, fun e => by
    obtain ⟨h1, Q, h2, h3, h4⟩ := h.dn e
    exact ⟨h1, Q, rRs.keep (fun b hb hl => ht.2.block b hl (fun e => hb.1 (.inl e))) ht.2.size h2, h3, h4.arm k⟩⟩
end
end Go.Proofs.YtngddhoolijimaaGreatDoor
namespace Go.Proofs.YtngddhoolijimaaGreatDoor
open Go.RowKit
set_option linter.unusedVariables false
set_option linter.unusedSimpArgs false

section
variable {W w wa w' : World} {wb n N : Nat} {B : DB} {d da : DK} {v1 v2 v3 mv : Value} {maybe down : Bool} {R Q P' : List (List UInt8)}

/-- Opened in vain. -/
def PpA (W w : World) (wb : Nat) (B : DB) (n N : Nat) (P' : List (List UInt8)) (v1 v2 v3 mv : Value) (maybe down : Bool) (a b : Value) (wr : World) : Prop :=
  ∃ dr, a = .pointer none ∧ b = .int .i64 13 ∧ Ready N (Rec n P') dr ∧ LO W w wr wb B dr v1 v2 v3 mv maybe down

/-- Opened. -/
def PpB (W w : World) (wb : Nat) (B : DB) (n N : Nat) (P' : List (List UInt8)) (v1 v2 v3 mv : Value) (maybe down : Bool) (a b : Value) (wr : World) : Prop :=
  ∃ fb' dr, a = .pointer (some ⟨fb', 0, none⟩) ∧ b = .int .i64 0 ∧ w.heap.size ≤ fb' ∧ IsFile wr fb' B ⟨n, false⟩ ∧ Clean n N P' dr ∧ LO W w wr wb B dr v1 v2 v3 mv maybe down

theorem ropen_any (h : LO W w wa wb B da v1 v2 v3 mv maybe down) (hcap : capN N = n) (hbig : 7 ≤ N) (hup : da.down = false) (hbuf : da.buf = noBuf) (hl : da.st.length = N) (hr : Rec n P' da.st) :
    Calls Tryz.prog 11 #[.pointer (some ⟨B.db, 0, none⟩)] wa fun e w' => ∃ a b, e = .returned (.tuple #[a, b]) ∧ ((PpA W w wb B n N P' v1 v2 v3 mv maybe down a b w' ∧ da.fuse ≠ 0) ∨ PpB W w wb B n N P' v1 v2 v3 mv maybe down a b w') := by
  refine (fd_open (W := W) h.disk hup hbuf hl hcap hbig hr h.bel (fun b hb => h.ge b (.inl hb))).mono ?_
  rintro e w' (⟨fb', d', rfl, hfb, hfd, hc, _, hch⟩ | ⟨d', rfl, hfu, hd, hdn, hrd, hch⟩)
  · exact ⟨_, _, rfl, .inr ⟨fb', d', rfl, rfl, Nat.le_trans h.chg.size hfb, hfd.file, hc, h.turns ⟨hfd.disk, hch⟩⟩⟩
  · exact ⟨_, _, rfl, .inl ⟨⟨d', rfl, rfl, hrd, h.turns ⟨hd, hch⟩⟩, hfu⟩⟩

/-- What open leaves. -/
def Opened37 (W w' : World) (wb : Nat) (B : DB) (n N : Nat) : Prop := ∃ fb lb g d T mv, LQ W w' wb B n N fb lb g ⟨n, false⟩ d T mv false

set_option maxRecDepth 100000 in
set_option maxHeartbeats 8000000 in
theorem open37 (h : LO W w w wb B d v1 v2 v3 mv maybe down) (hcap : capN N = n) (hbig : 7 ≤ N) (hn4 : n ≤ 4096) (hr : Ready N (fun st => Hold n R st ∨ (maybe = true ∧ Hold n Q st)) d)
    (r3 : rRs.rd w (fun b => ¬ B.has b ∧ b ≠ wb) [v3] R) (r4 : maybe = true → rRs.rd w (fun b => ¬ B.has b ∧ b ≠ wb) [mv] Q ∧ Fits n Q) (hfR : Fits n R)
    (arm : Int) (harm : (Lit.int .i64 arm).wf = true) (kv : Value) (keep : List Int) (hk : (rSlice (rInt .i64)).rd W (· < W.heap.size) [kv] keep) (hkm : keep.length ≤ 1000000) :
    Calls Tryz.prog 5 #[.pointer (some ⟨wb, 0, none⟩), .int .i64 arm, kv] w fun e w' => e = .returned (.bool true) ∧ Opened37 W w' wb B n N := by
  obtain ⟨h1, h2, h3, h4, h5⟩ := hr.restart
  obtain ⟨T, P', hrec, hPT, hT⟩ : ∃ T P', Rec n P' d.restart.st ∧ P'.flatten = padTo (100 * n) (encs T) ∧ (T = R ∨ (maybe = true ∧ T = Q)) := by
    rcases h3 with ⟨P, h3, h6⟩ | ⟨e, P, h3, h6⟩
    · exact ⟨R, P, h3, h6, .inl rfl⟩
    · exact ⟨Q, P, h3, h6, .inr ⟨e, rfl⟩⟩
  have HFT := Lib.hid (show Fits n T from by
    rcases hT with e | ⟨e, e2⟩
    · rw [e]; exact hfR
    · rw [e2]; exact (r4 e).2)
  obtain ⟨D, hD⟩ : ∃ D, D = d.restart.arm arm := ⟨_, rfl⟩
  have HD := Lib.hid (show D.down = false ∧ D.buf = noBuf ∧ D.st.length = N ∧ Rec n P' D.st from by rw [hD]; exact ⟨h1, h2, h4, hrec⟩)
  have HDE := Lib.hid hD
  have HPT := Lib.hid hPT
  have HT := Lib.hid hT
  have HR3 := Lib.hid r3
  have HR4 := Lib.hid r4
  have HNB := Lib.hid (And.intro hcap (And.intro hbig hn4))
  have HFR := Lib.hid hfR
  have HK := Lib.hid hk
  have HL := Lib.hid h
  have c0 := h.c0
  obtain ⟨ra, rc, hv3, _⟩ := rs_get r3
  have HV3 := Lib.hid hv3
  clear hv3
  clear h hr h1 h2 h3 h4 h5 hrec hD hPT hT hk r3 r4 hfR hcap hbig hn4
  go_enter Tryz.func5, Tryz.ntmps5
  go_wp2_with fail
  refine (dk_restart HL.out.disk).mono ?_
  rintro e w1 ⟨rfl, hT⟩
  have HL1 := Lib.hid (HL.out.turns hT)
  have c1 := HL1.out.c0
  clear hT c0
  go_wp2_with fail
  refine (dk_failAfter HL1.out.disk arm harm).mono ?_
  rintro e w2 ⟨rfl, hT⟩
  rw [← HDE.out] at hT
  have HL2 := Lib.hid (HL1.out.turns hT)
  have c0 := HL2.out.c0
  clear hT c1
  go_wp2_with fail
  refine (ropen_any HL2.out HNB.out.1 HNB.out.2.1 HD.out.1 HD.out.2.1 HD.out.2.2.1 HD.out.2.2.2).mono ?_
  rintro e w3 ⟨a, b, rfl, hst⟩
  have HST := Lib.hid hst
  clear hst c0
  go_wp2
  go_loopg [7, 8, 9] 1 (fun gk t7 t8 t9 wr => ∃ k : Nat, t9 = .int .i64 (k : Int) ∧ ((gk = 1 ∧ k = 0 ∧ PpA W w wb B n N P' v1 v2 v3 mv maybe down t7 t8 wr) ∨ (k ≤ 1 ∧ PpB W w wb B n N P' v1 v2 v3 mv maybe down t7 t8 wr)))
  case atStart => exact ⟨0, rfl, HST.out.elim (fun h => .inl ⟨rfl, rfl, h.1⟩) (fun h => .inr ⟨by omega, h⟩)⟩
  case round =>
    obtain ⟨k, rfl, ⟨hgk, rfl, dr, rfl, rfl, hrd, hlm⟩ | ⟨hk1, fb', dr, rfl, rfl, hfb, hf, hcl, hlm⟩⟩ := hrel
    · have HLR := Lib.hid hlm
      have HRD := Lib.hid hrd
      have c0 := hlm.c0
      clear hrd hlm HST
      go_wp2_with fail
      refine (dk_crash HLR.out.disk kv keep (keep_of HK.out (fun b hb => ⟨hb, fun e => by have := HLR.out.ge b (.inl (.inr (.inl e))); omega⟩) HLR.out.bel) hkm).mono ?_
      rintro e w4 ⟨rfl, hT⟩
      have HL4 := Lib.hid (HLR.out.turns hT)
      have c1 := HL4.out.c0
      clear hT c0
      go_wp2_with fail
      refine (dk_restart HL4.out.disk).mono ?_
      rintro e w5 ⟨rfl, hT⟩
      have HL5 := Lib.hid (HL4.out.turns hT)
      have c0 := HL5.out.c0
      clear hT c1
      obtain ⟨h1, h2, h3, h4, h5⟩ := (HRD.out.crash keep).restart
      go_wp2_with fail
      refine (ropen_any HL5.out HNB.out.1 HNB.out.2.1 h1 h2 h4 h3).mono ?_
      rintro e w6 ⟨a, b, rfl, hst⟩
      have HST := Lib.hid (hst.resolve_left (fun h => h.2 h5))
      clear hst c0 h1 h2 h3 h4 h5
      go_wp2_with fail
      go_roundg (gk - 1)
      case measure => omega
      case rel => exact ⟨1, rfl, .inr ⟨by omega, HST.out⟩⟩
    · have HLR := Lib.hid hlm
      have HCL := Lib.hid hcl
      have HF := Lib.hid hf
      have c0 := hlm.c0
      have hkb : 0 ≤ (k : Int) ∧ (k : Int) ≤ 1 := by omega
      have HFBW := Lib.hid hfb
      clear hcl hlm hf HST hfb
      go_wp2_with fail
      refine (dk_failAfter HLR.out.disk 0 (by rfl)).mono ?_
      rintro e w4 ⟨rfl, hT⟩
      have HF4 := Lib.hid (HF.out.turns hT)
      have HCL4 := Lib.hid (HCL.out.arm 0)
      obtain ⟨D4, hD4⟩ : ∃ D4, D4 = dr.arm 0 := ⟨_, rfl⟩
      rw [← hD4] at hT HCL4
      have HL4 := Lib.hid (HLR.out.turns hT)
      have HOP := Lib.hid (rl_Open (X := fun b => b = wb) HF4.out HL4.out.disk HCL4.out (fun b hb => by rw [hb]; exact HL4.out.wl))
      clear hT hD4 c0
      unfold pfPtr lgPtr at HOP
      go_wp2_with fail
      refine HOP.out.mono ?_
      rintro e w5 ⟨rfl, hlog, hfil, hdsk, hch⟩
      rw [HFT.out.decs HPT.out] at hlog
      have HLB := Lib.hid (show w.heap.size ≤ w4.heap.size from HL4.out.chg.size)
      have HL5 := Lib.hid (HL4.out.go hdsk (hch.more (fun b _ e => e.imp id (fun e => by rw [e]; exact HFBW.out))))
      obtain ⟨lb', hlb⟩ : ∃ lb', lb' = w4.heap.size := ⟨_, rfl⟩
      rw [← hlb] at hlog HLB ⊢
      have HLG := Lib.hid hlog
      have HFI := Lib.hid hfil
      have k1 := HL5.out.c1
      have k2 := HL5.out.c2
      have k6 := HL5.out.c6
      have f1 := HL5.out.fr 1
      have f2 := HL5.out.fr 2
      have f3 := HL5.out.fr 3
      have f5 := HL5.out.fr 5
      have f6 := HL5.out.fr 6
      have k5 := HL5.out.c5
      have k3 := HL5.out.c3.trans (congrArg some HV3.out)
      clear hlog hfil hdsk hch hlb HOP
      obtain ⟨W2, hW2⟩ : ∃ W2, W2 = (((w5.setCell ⟨wb, 1, none⟩ (.pointer (some ⟨fb', 0, none⟩))).setCell ⟨wb, 2, none⟩ (.pointer (some ⟨lb', 0, none⟩))).setCell ⟨wb, 6, none⟩ (.bool false)) := ⟨_, rfl⟩
      have HLO := Lib.hid (show LO W w W2 wb B D4 (pfPtr fb') (lgPtr lb') v3 mv maybe false from by
        rw [hW2]
        exact ((HL5.out.set1 _).set2 _).set6 false)
      have HLN := Lib.hid (show LN W W2 wb B fb' lb' ⟨T, P'.flatten, false⟩ ⟨n, false⟩ D4 R mv maybe false from by
        have hc : Chg (fun b => b = wb) w5 W2 := by
          have g : ∀ (u : World) (k : Nat) (v : Value), Chg (fun b => b = wb) u (u.setCell ⟨wb, k, none⟩ v) := fun u k v => Chg.setCell _ _ rfl
          rw [hW2]
          exact ((g _ _ _).trans (g _ _ _)).trans (g _ _ _)
        have hwl := HL.out.wl
        have hfb := HFBW.out
        have hlb := HLB.out
        exact HLO.out.ln (HFI.out.keep hc (fun e => by omega)) (HLG.out.keep hc (fun e => by omega) (fun b hb _ e => hb.2.2.2 e)) HFBW.out HLB.out HR3.out)
      have HNW := Lib.hid (show ¬ (B.has wb ∨ wb = fb') from fun e => HLN.out.nw (e.elim .inl (fun e => .inr (.inl e))))
      have HG := Lib.hid (show ∀ b, NF B fb' lb' wb b → ¬ (B.has b ∨ b = fb') from fun b hb e => hb.1 (e.elim .inl (fun e => .inr (.inl e))))
      cases maybe with
      | false =>
        have hTR : T = R := HT.out.resolve_right (fun e => by cases e.1)
        subst hTR
        go_wp2_with fail
        rw [← hW2]
        obtain ⟨W3, hW3⟩ : ∃ W3, W3 = W2.setCell ⟨wb, 5, none⟩ (.bool false) := ⟨_, rfl⟩
        have HL6 := Lib.hid (show LN W W3 wb B fb' lb' ⟨T, P'.flatten, false⟩ ⟨n, false⟩ D4 T mv false false from by rw [hW3]; exact HLN.out.setMaybe false)
        have HQ3 := Lib.hid (show rRs.rd W3 (NF B fb' lb' wb) [.slice ra T.length rc] T from by
          rw [hW3]
          rw [← HV3.out]
          exact (HLN.out.sets 5 (.bool false)).2.2.2.2.2 _ _ (HLO.out.recs HFBW.out HLB.out HR3.out))
        rw [← hW3]
        clear hW3 hW2
        refine (same37 HL6.out.log HL6.out.file HL6.out.disk HNW.out HL6.out.wl HL6.out.c1 HL6.out.c2 _ HQ3.out HG.out rfl (HFT.out.small HNB.out.2.2) (by have := HFT.out.many HNB.out.2.2; omega) true (fun _ => ⟨HCL4.out, HPT.out, HFT.out.2⟩)).mono ?_
        rintro e w6 ⟨rfl, hS⟩
        have HFIN := Lib.hid (show Opened37 W w6 wb B n N from ⟨fb', lb', _, D4, T, mv, HL6.out.pturns hS, rfl, HNB.out.1, HNB.out.2.1, rfl, flat_len HCL4.out.pays, HFT.out, fun _ => ⟨rfl, rfl, P', HCL4.out, rfl, HPT.out⟩, fun e => by cases e⟩)
        clear hS
        go_wp2
        go_ret
        exact ⟨rfl, HFIN.out⟩
      | true =>
        have HRM := Lib.hid (HLO.out.recs HFBW.out HLB.out (HR4.out rfl).1)
        obtain ⟨ma, mc, rfl, _⟩ := rs_get HRM.out
        have k4 := HL5.out.c4
        have HFQ := Lib.hid (HR4.out rfl).2
        by_cases hTQ : T = Q
        · subst hTQ
          go_wp2_with fail
          rw [← hW2]
          clear hW2
          refine (same37 (P := P') (N := N) HLN.out.log HLN.out.file HLN.out.disk HNW.out HLN.out.wl HLN.out.c1 HLN.out.c2 _ HRM.out HG.out rfl (HFT.out.small HNB.out.2.2) (by have := HFT.out.many HNB.out.2.2; omega) false (fun e => by cases e)).mono ?_
          rintro e w6 ⟨rfl, hS⟩
          have HL6 := Lib.hid (HLN.out.pturns hS)
          have HR6 := Lib.hid (rRs.keep (fun b hb hl => hS.2.2.block b hl (HG.out b hb)) hS.2.2.size HRM.out)
          clear hS k1 k2 k3 k4 k5 k6 f1 f2 f3 f5 f6
          have k3 := HL6.out.c3
          have k4 := HL6.out.c4
          have k5 := HL6.out.c5
          have f3 := HL6.out.fr 3
          have f5 := HL6.out.fr 5
          obtain ⟨v3', k3, _⟩ := k3
          go_wp2_with fail
          obtain ⟨W3, hW3⟩ : ∃ W3, W3 = (w6.setCell ⟨wb, 3, none⟩ (.slice ma T.length mc)).setCell ⟨wb, 5, none⟩ (.bool false) := ⟨_, rfl⟩
          have HL7 := Lib.hid (show LN W W3 wb B fb' lb' ⟨T, P'.flatten, false⟩ ⟨n, false⟩ D4 T (.slice ma T.length mc) false false from by rw [hW3]; exact (HL6.out.setR HR6.out).setMaybe false)
          rw [← hW3]
          have HQ3 := Lib.hid (show rRs.rd W3 (NF B fb' lb' wb) [.slice ma T.length mc] T from by
            rw [hW3]
            exact ((HL6.out.setR HR6.out).sets 5 (.bool false)).2.2.2.2.2 _ _ ((HL6.out.sets 3 _).2.2.2.2.2 _ _ HR6.out))
          clear hW3
          refine (same37 HL7.out.log HL7.out.file HL7.out.disk HNW.out HL7.out.wl HL7.out.c1 HL7.out.c2 _ HQ3.out HG.out rfl (HFT.out.small HNB.out.2.2) (by have := HFT.out.many HNB.out.2.2; omega) true (fun _ => ⟨HCL4.out, HPT.out, HFT.out.2⟩)).mono ?_
          rintro e w7 ⟨rfl, hS⟩
          have HFIN := Lib.hid (show Opened37 W w7 wb B n N from ⟨fb', lb', _, D4, T, _, HL7.out.pturns hS, rfl, HNB.out.1, HNB.out.2.1, rfl, flat_len HCL4.out.pays, HFT.out, fun _ => ⟨rfl, rfl, P', HCL4.out, rfl, HPT.out⟩, fun e => by cases e⟩)
          clear hS
          go_wp2
          go_ret
          exact ⟨rfl, HFIN.out⟩
        · have hTR : T = R := HT.out.resolve_right (fun e => hTQ e.2)
          subst hTR
          go_wp2_with fail
          rw [← hW2]
          clear hW2
          refine (same37n HLN.out.log HLN.out.file HLN.out.disk HNW.out HLN.out.wl HLN.out.c1 HLN.out.c2 _ HRM.out HG.out hTQ (HFQ.out.small HNB.out.2.2) HFT.out.long (by have := HFQ.out.many HNB.out.2.2; omega) (by have := HFT.out.many HNB.out.2.2; show T.length ≤ _; omega)).mono ?_
          rintro e w6 ⟨rfl, hS⟩
          have HL6 := Lib.hid (HLN.out.pturns hS)
          clear hS k1 k2 k3 k4 k5 k6 f1 f2 f3 f5 f6
          have k5 := HL6.out.c5
          have f5 := HL6.out.fr 5
          have f3 := HL6.out.fr 3
          obtain ⟨v, k3, q3⟩ := HL6.out.c3
          obtain ⟨qa, qc, rfl, _⟩ := rs_get q3
          have HQ6 := Lib.hid q3
          clear q3
          go_wp2_with fail
          obtain ⟨W3, hW3⟩ : ∃ W3, W3 = w6.setCell ⟨wb, 5, none⟩ (.bool false) := ⟨_, rfl⟩
          have HL7 := Lib.hid (show LN W W3 wb B fb' lb' ⟨T, P'.flatten, false⟩ ⟨n, false⟩ D4 T (.slice ma Q.length mc) false false from by rw [hW3]; exact HL6.out.setMaybe false)
          have HQ3 := Lib.hid (show rRs.rd W3 (NF B fb' lb' wb) [.slice qa T.length qc] T from by
            rw [hW3]
            exact (HL6.out.sets 5 (.bool false)).2.2.2.2.2 _ _ HQ6.out)
          rw [← hW3]
          clear hW3
          refine (same37 HL7.out.log HL7.out.file HL7.out.disk HNW.out HL7.out.wl HL7.out.c1 HL7.out.c2 _ HQ3.out HG.out rfl (HFT.out.small HNB.out.2.2) (by have := HFT.out.many HNB.out.2.2; omega) true (fun _ => ⟨HCL4.out, HPT.out, HFT.out.2⟩)).mono ?_
          rintro e w7 ⟨rfl, hS⟩
          have HFIN := Lib.hid (show Opened37 W w7 wb B n N from ⟨fb', lb', _, D4, T, _, HL7.out.pturns hS, rfl, HNB.out.1, HNB.out.2.1, rfl, flat_len HCL4.out.pays, HFT.out, fun _ => ⟨rfl, rfl, P', HCL4.out, rfl, HPT.out⟩, fun e => by cases e⟩)
          clear hS
          go_wp2
          go_ret
          exact ⟨rfl, HFIN.out⟩
end
end Go.Proofs.YtngddhoolijimaaGreatDoor
namespace Go.Proofs.YtngddhoolijimaaGreatDoor
open Go.RowKit
set_option linter.unusedVariables false
set_option linter.unusedSimpArgs false

theorem LQ.same {W w w' : World} {wb fb lb n N : Nat} {B : DB} {d : DK} {mv : Value} {down : Bool} {R : List (List UInt8)} {g : LG} {f : PF} (h : LQ W w wb B n N fb lb g f d R mv down) (ht : LTurns (fun b => b = wb) lb fb B w w' g f d) : LQ W w' wb B n N fb lb g f d R mv down :=
  ⟨h.ln.turns ht, h.fn, h.cap, h.big, h.recs, h.img, h.fit, h.up, fun e => by
    obtain ⟨h1, Q, h2, h3⟩ := h.dn e
    exact ⟨h1, Q, rRs.keep (fun b hb hl => ht.2.2.2.block b hl hb.1) ht.2.2.2.size h2, h3⟩⟩
theorem LQ.psame {W w w' : World} {wb fb lb n N : Nat} {B : DB} {d : DK} {mv : Value} {down : Bool} {R : List (List UInt8)} {g : LG} {f : PF} (h : LQ W w wb B n N fb lb g f d R mv down) (ht : PTurns fb B w w' f d) : LQ W w' wb B n N fb lb g f d R mv down :=
  h.same ⟨h.ln.log.turns ht, ht.1, ht.2.1, ht.2.2.more (fun b _ e => e.elim .inl (fun e => .inr (.inl e)))⟩

/-- An argument's records. -/
theorem LQ.arg {W w : World} {wb fb lb n N : Nat} {B : DB} {d : DK} {mv rv : Value} {down : Bool} {R rs : List (List UInt8)} {g : LG} {f : PF} (h : LQ W w wb B n N fb lb g f d R mv down) (hr : rRs.rd W (· < W.heap.size) [rv] rs) : rRs.rd w (NF B fb lb wb) [rv] rs :=
  rs_shrink (fun b hb _ => ⟨fun e => by have := h.ln.ge b (.inl e); have hb' : b < W.heap.size := hb; omega, fun e => by have := h.ln.ge b (.inr e); have hb' : b < W.heap.size := hb; omega⟩) (rRs.keep (fun b hb hl => h.ln.bel.block b hb) h.ln.bel.size hr)

theorem some_eq {f : PF} {n : Nat} (h1 : f.n = n) (h2 : f.failed = false) : f = ⟨n, false⟩ := by cases f; simp_all

section
variable {W w : World} {wb fb lb n N : Nat} {B : DB} {d : DK} {mv : Value} {down : Bool} {R : List (List UInt8)} {g : LG} {f : PF}

set_option maxRecDepth 100000 in
set_option maxHeartbeats 8000000 in
theorem change37_rep (h : LQ W w wb B n N fb lb g f d R mv down) (rv : Value) (NX : List (List UInt8)) (hrv : rRs.rd W (· < W.heap.size) [rv] NX) (hfew : NX.length ≤ 20 ∧ ∀ x ∈ NX, x.length ≤ 500) :
    Calls Tryz.prog 15 #[.pointer (some ⟨wb, 0, none⟩), rv, .bool true] w fun e w' => e = .returned (.bool true) ∧ Stays W w' wb B n N := by
  have hrn := h.arg hrv
  obtain ⟨xa, xc, rfl, _⟩ := rs_get hrn
  have hlong : ∀ r ∈ NX, r.length ≤ 1048576 := fun r hr => by have := hfew.2 r hr; omega
  have HSN := Lib.hid (show Small NX from ⟨hlong, by have := encs_len_le hfew.1 hfew.2; omega⟩)
  have HE := Lib.hid hfew.2
  obtain ⟨rm, hrm⟩ : ∃ rm, rm = 100 * n := ⟨_, rfl⟩
  have hn4 := h.few
  have hrm0 : 0 ≤ (rm : Int) ∧ (rm : Int) ≤ 409600 := by omega
  obtain ⟨EL, hEL⟩ : ∃ EL, EL = (encs NX).length := ⟨_, rfl⟩
  have HRM := Lib.hid hrm
  have HEL := Lib.hid hEL
  have hen0 : 0 ≤ (EL : Int) ∧ (EL : Int) ≤ 50000000 := by have := HSN.out.2; omega
  have HQD := Lib.hid h
  have HXD := Lib.hid hrn
  have c2 := h.ln.c2
  have hap := rl_Replace (fun b hb => by rw [hb]; exact h.ln.wl) h.ln.log h.ln.file h.ln.disk _ NX hrn (by rw [h.img, h.fn]) hlong (by omega)
  unfold lgPtr at hap
  cases down with
  | true =>
    have hla : lgReplace g f d NX = (g, f, d, 13) := by unfold lgReplace; rw [(h.dn rfl).1]; rfl
    rw [hla] at hap
    clear h hrv hfew hrn hlong hrm hEL hn4
    have HAP := Lib.hid hap
    clear hap hla
    go_enter Tryz.func15, Tryz.ntmps15
    go_wp2_with fail
    refine HAP.out.mono ?_
    rintro e w3 ⟨rfl, hT⟩
    have HFIN := Lib.hid (HQD.out.same hT)
    have c6 := HFIN.out.ln.c6
    clear hT
    go_wp2
    go_ret
    exact ⟨rfl, _, _, _, _, _, _, _, _, HFIN.out⟩
  | false =>
    obtain ⟨hff, hgf, P, hc, hI, hPT⟩ := h.up rfl
    obtain rfl := some_eq h.fn hff
    have hla : lgReplace g ⟨n, false⟩ d NX = lgStore g ⟨n, false⟩ d NX := by unfold lgReplace; rw [hgf]; rfl
    rw [hla] at hap
    have hst := lgStore_any (g := g) (L := NX) hc (f := ⟨n, false⟩) rfl hI
    have HC := Lib.hid (And.intro hc hPT)
    have HGF := Lib.hid hgf
    clear h hrv hfew hrn hlong hrm hEL hn4 hff hgf hc hI hPT
    rcases hst with ⟨h1, h2⟩ | ⟨h1, d', h2, h3, h4⟩ | ⟨h1, d', h2, h5, h3, h4⟩
    · rw [h2] at hap
      have HAP := Lib.hid hap
      have hgt : decide ((rm : Int) < (EL : Int)) = true := by have := HRM.out; have := HEL.out; simp; omega
      have hgt' : (rm : Int) < (EL : Int) := by have := HRM.out; have := HEL.out; omega
      clear hap hla h1 h2
      go_enter Tryz.func15, Tryz.ntmps15
      go_wp2_with fail
      refine HAP.out.mono ?_
      rintro e w3 ⟨rfl, hT⟩
      have HQ3 := Lib.hid (HQD.out.same hT)
      have HX3 := Lib.hid (rRs.keep (fun b hb hl => hT.2.2.2.block b hl hb.1) hT.2.2.2.size HXD.out)
      have c6 := HQ3.out.ln.c6
      clear hT
      go_wp2_with fail
      refine (rf_EncodeRecords _ NX w3 HX3.out HSN.out).mono ?_
      rintro e w4 ⟨v4, rfl, hr4, hb4⟩
      obtain ⟨ea, ec, rfl⟩ : ∃ ea ec, v4 = .slice ea EL ec := by
        obtain ⟨a, c, e⟩ := hr4.dat.len
        exact ⟨a, c, by rw [HEL.out]; exact e⟩
      have HQ4 := Lib.hid (HQ3.out.below hb4)
      have HN4 := Lib.hid HQ4.out.ln
      obtain ⟨v3, c3, r3⟩ := HN4.out.c3
      obtain ⟨a3, k3, rfl, _⟩ := rs_get r3
      have HR3 := Lib.hid r3
      have f3 := HN4.out.fr 3
      clear hr4 hb4 c6 r3
      go_wp2_with fail
      refine (room37 HN4.out.file HN4.out.c1).mono ?_
      rintro e w5 ⟨rfl, rfl⟩
      rw [show ((100 * PF.n ⟨n, false⟩ : Nat) : Int) = (rm : Int) from by rw [HRM.out]]
      have HG := Lib.hid (show ∀ b, NF B fb lb wb b → ¬ (B.has b ∨ b = fb) from fun b hb e => hb.1 (e.elim .inl (fun e => .inr (.inl e))))
      have HNW := Lib.hid (show ¬ (B.has wb ∨ wb = fb) from fun e => HN4.out.nw (e.elim .inl (fun e => .inr (.inl e))))
      go_wp2_with fail
      refine (same37 HN4.out.log HN4.out.file HN4.out.disk HNW.out HN4.out.wl HN4.out.c1 HN4.out.c2 _ HR3.out HG.out HQ4.out.recs (HQ4.out.fit.small HQ4.out.few) (by have := HQ4.out.fit.many HQ4.out.few; omega) true (fun _ => ⟨HC.out.1, HC.out.2, HQ4.out.fit.2⟩)).mono ?_
      rintro e w6 ⟨rfl, hS⟩
      have HFIN := Lib.hid (HQ4.out.psame hS)
      clear hS
      go_wp2
      go_ret
      exact ⟨rfl, _, _, _, _, _, _, _, _, HFIN.out⟩
    · rw [h2] at hap
      have HAP := Lib.hid hap
      have HC3 := Lib.hid (show Fits n NX ∧ Clean n N (pgs n (padTo (100 * n) (encs NX))) d' from ⟨⟨HE.out, h1⟩, h3⟩)
      have hgt : decide ((rm : Int) < (EL : Int)) = false := by have := HRM.out; have := HEL.out; simp; omega
      have hgt' : ¬ (rm : Int) < (EL : Int) := by have := HRM.out; have := HEL.out; omega
      clear hap hla h1 h2 h3 h4
      go_enter Tryz.func15, Tryz.ntmps15
      go_wp2_with fail
      refine HAP.out.mono ?_
      rintro e w3 ⟨rfl, hT⟩
      have HN3 := Lib.hid (HQD.out.ln.turns hT)
      have HX3 := Lib.hid (rRs.keep (fun b hb hl => hT.2.2.2.block b hl hb.1) hT.2.2.2.size HXD.out)
      have c6 := HN3.out.c6
      clear hT
      go_wp2_with fail
      refine (rf_EncodeRecords _ NX w3 HX3.out HSN.out).mono ?_
      rintro e w4 ⟨v4, rfl, hr4, hb4⟩
      obtain ⟨ea, ec, rfl⟩ : ∃ ea ec, v4 = .slice ea EL ec := by
        obtain ⟨a, c, e⟩ := hr4.dat.len
        exact ⟨a, c, by rw [HEL.out]; exact e⟩
      have HN4 := Lib.hid (HN3.out.below hb4)
      have HX4 := Lib.hid (rRs.keep (fun b _ hl => hb4.block b hl) hb4.size HX3.out)
      obtain ⟨v3, c3, r3⟩ := HN4.out.c3
      have f3 := HN4.out.fr 3
      clear hr4 hb4 c6 r3
      go_wp2_with fail
      refine (room37 HN4.out.file HN4.out.c1).mono ?_
      rintro e w5 ⟨rfl, rfl⟩
      rw [show ((100 * PF.n ⟨n, false⟩ : Nat) : Int) = (rm : Int) from by rw [HRM.out]]
      have HG := Lib.hid (show ∀ b, NF B fb lb wb b → ¬ (B.has b ∨ b = fb) from fun b hb e => hb.1 (e.elim .inl (fun e => .inr (.inl e))))
      have HNW := Lib.hid (show ¬ (B.has wb ∨ wb = fb) from fun e => HN4.out.nw (e.elim .inl (fun e => .inr (.inl e))))
      go_wp2_with fail
      have HN6 := Lib.hid (HN4.out.setR HX4.out)
      have HX6 := Lib.hid ((HN4.out.sets 3 (.slice xa NX.length xc)).2.2.2.2.2 _ _ HX4.out)
      obtain ⟨w6, hw6⟩ : ∃ w6, w6 = w5.setCell ⟨wb, 3, none⟩ (.slice xa NX.length xc) := ⟨_, rfl⟩
      rw [← hw6] at HN6 HX6 ⊢
      clear hw6
      refine (same37 HN6.out.log HN6.out.file HN6.out.disk HNW.out HN6.out.wl HN6.out.c1 HN6.out.c2 _ HX6.out HG.out rfl HSN.out (by have := HC3.out.1.many HQD.out.few; omega) true (fun _ => ⟨HC3.out.2, pgs_flat (padTo_len HC3.out.1.2), HC3.out.1.2⟩)).mono ?_
      rintro e w7 ⟨rfl, hS⟩
      have HFIN := Lib.hid (show Stays W w7 wb B n N from ⟨fb, lb, _, _, _, NX, mv, false, HN6.out.pturns hS, rfl, HQD.out.cap, HQD.out.big, rfl, padTo_len HC3.out.1.2, HC3.out.1, fun _ => ⟨rfl, HGF.out, _, HC3.out.2, (pgs_flat (padTo_len HC3.out.1.2)).symm, pgs_flat (padTo_len HC3.out.1.2)⟩, fun e => by cases e⟩)
      clear hS
      go_wp2
      go_ret
      exact ⟨rfl, HFIN.out⟩
    · rw [h2] at hap
      have HAP := Lib.hid hap
      have HC3 := Lib.hid (show Fits n NX ∧ Ready N (fun st => Rec n P st ∨ Rec n (pgs n (padTo (100 * n) (encs NX))) st) d' from ⟨⟨HE.out, h1⟩, h4⟩)
      have HDN := Lib.hid h3
      have hgt : decide ((rm : Int) < (EL : Int)) = false := by have := HRM.out; have := HEL.out; simp; omega
      have hgt' : ¬ (rm : Int) < (EL : Int) := by have := HRM.out; have := HEL.out; omega
      clear hap hla h1 h2 h3 h4 h5
      go_enter Tryz.func15, Tryz.ntmps15
      go_wp2_with fail
      refine HAP.out.mono ?_
      rintro e w3 ⟨rfl, hT⟩
      have HN3 := Lib.hid (HQD.out.ln.turns hT)
      have HX3 := Lib.hid (rRs.keep (fun b hb hl => hT.2.2.2.block b hl hb.1) hT.2.2.2.size HXD.out)
      have c6 := HN3.out.c6
      clear hT
      go_wp2_with fail
      refine (rf_EncodeRecords _ NX w3 HX3.out HSN.out).mono ?_
      rintro e w4 ⟨v4, rfl, hr4, hb4⟩
      obtain ⟨ea, ec, rfl⟩ : ∃ ea ec, v4 = .slice ea EL ec := by
        obtain ⟨a, c, e⟩ := hr4.dat.len
        exact ⟨a, c, by rw [HEL.out]; exact e⟩
      have HN4 := Lib.hid (HN3.out.below hb4)
      have HX4 := Lib.hid (rRs.keep (fun b _ hl => hb4.block b hl) hb4.size HX3.out)
      have c0 := HN4.out.c0
      have c4 := HN4.out.c4
      have c5 := HN4.out.c5
      have k6 := HN4.out.c6
      have f4 := HN4.out.fr 4
      have f5 := HN4.out.fr 5
      have f6 := HN4.out.fr 6
      clear hr4 hb4 c6
      go_wp2_with fail
      refine (room37 HN4.out.file HN4.out.c1).mono ?_
      rintro e w5 ⟨rfl, rfl⟩
      rw [show ((100 * PF.n ⟨n, true⟩ : Nat) : Int) = (rm : Int) from by rw [HRM.out]]
      go_wp2_with fail
      have HN6 := Lib.hid (((HN4.out.setDown true).setMaybe true).setMight (.slice xa NX.length xc))
      have HX6 := Lib.hid (((HN4.out.setDown true).setMaybe true).sets 4 (.slice xa NX.length xc) |>.2.2.2.2.2 _ _ ((HN4.out.setDown true).sets 5 (.bool true) |>.2.2.2.2.2 _ _ ((HN4.out.sets 6 (.bool true)).2.2.2.2.2 _ _ HX4.out)))
      obtain ⟨w6, hw6⟩ : ∃ w6, w6 = ((w5.setCell ⟨wb, 6, none⟩ (.bool true)).setCell ⟨wb, 5, none⟩ (.bool true)).setCell ⟨wb, 4, none⟩ (.slice xa NX.length xc) := ⟨_, rfl⟩
      rw [← hw6] at HN6 HX6 ⊢
      clear hw6
      refine (dk_down HN6.out.disk).mono ?_
      rintro e w7 ⟨rfl, rfl⟩
      rw [HDN.out]
      have HFIN := Lib.hid (show Stays W w7 wb B n N from ⟨fb, lb, _, _, _, R, (.slice xa NX.length xc), true, HN6.out, rfl, HQD.out.cap, HQD.out.big, HQD.out.recs, HQD.out.img, HQD.out.fit, (fun e => by cases e), fun _ => ⟨rfl, NX, HX6.out, HC3.out.1, HC3.out.2.more (fun st hs => hs.imp (fun h => ⟨_, h, HC.out.2⟩) (fun h => ⟨_, h, pgs_flat (padTo_len HC3.out.1.2)⟩))⟩⟩)
      go_wp2
      go_ret
      exact ⟨rfl, HFIN.out⟩
end
end Go.Proofs.YtngddhoolijimaaGreatDoor
namespace Go.Proofs.YtngddhoolijimaaGreatDoor
open Go.RowKit
set_option linter.unusedVariables false
set_option linter.unusedSimpArgs false

section
variable {W w : World} {wb fb lb n N : Nat} {B : DB} {d : DK} {mv : Value} {down : Bool} {R : List (List UInt8)} {g : LG} {f : PF}

set_option maxRecDepth 100000 in
set_option maxHeartbeats 8000000 in
theorem change37_add (h : LQ W w wb B n N fb lb g f d R mv down) (rv : Value) (rs : List (List UInt8)) (hrv0 : rRs.rd W (· < W.heap.size) [rv] rs) (data : List UInt8) (h0 : rs[0]? = some data) (hdl : data.length ≤ 500) :
    Calls Tryz.prog 15 #[.pointer (some ⟨wb, 0, none⟩), rv, .bool false] w fun e w' => e = .returned (.bool true) ∧ Stays W w' wb B n N := by
  have hrv := h.arg hrv0
  obtain ⟨va, vc, rfl, _, _, hget⟩ := rs_get hrv
  obtain ⟨rg, ro, u, rfl, hrgN, hrgl, hrgc, hu⟩ := hget 0 data h0
  obtain ⟨ua, uc, rfl⟩ := (Dat.of_rd hu).len
  rw [Nat.add_zero] at hrgc
  obtain ⟨wv, c3, r3⟩ := h.ln.c3
  obtain ⟨wa, wc, rfl, _, _, _⟩ := rs_get r3
  obtain ⟨xs, hsl, hone, hget3⟩ := rs_open (rs_shrink (G := fun b => NF B fb lb wb b ∧ b < w.heap.size) (fun b hb hl => ⟨hb, hl⟩) r3)
  have HSL := Lib.hid (And.intro hsl (And.intro hone (And.intro hget3 (rs_nil r3))))
  have HU := Lib.hid (by_shrink (G := fun b => NF B fb lb wb b ∧ b < w.heap.size) (fun b hb hl => ⟨hb, hl⟩) hu)
  have HQ := Lib.hid h
  have HLN := Lib.hid h.ln
  have HRG := Lib.hid (And.intro hrgN (And.intro hrgl hrgc))
  obtain ⟨NX, hNX⟩ : ∃ NX, NX = R ++ [data] := ⟨_, rfl⟩
  have hRl := h.fit.many h.few
  have hNe : (encs NX).length = (encs R).length + (8 + data.length) := by rw [hNX, encs_append, List.length_append, encs_cons, encs_nil, List.append_nil, recB_len]
  have hE : ∀ r ∈ NX, r.length ≤ 500 := fun r hr => by
    rw [hNX] at hr
    rcases List.mem_append.1 hr with hr | hr
    · exact h.fit.1 r hr
    · rw [List.mem_singleton.1 hr]; exact hdl
  have HE := Lib.hid hE
  have HSN := Lib.hid (show Small NX from ⟨fun r hr => by have := hE r hr; omega, by have := h.fit.2; have := h.few; omega⟩)
  have HNX := Lib.hid hNX
  have i1 : (0 : Int) < (rs.length : Int) := by have := (List.getElem?_eq_some_iff.1 h0).1; omega
  obtain ⟨ql, hql⟩ : ∃ ql, ql = rs.length := ⟨_, rfl⟩
  rw [← hql] at i1 ⊢
  have j1 : 0 < ql := by omega
  have HDL := Lib.hid hdl
  have HRL := Lib.hid hRl
  obtain ⟨i0, hi0, hz0, hz1, hz2⟩ := info_parts bs_info
  obtain ⟨rm, hrm⟩ : ∃ rm, rm = 100 * n := ⟨_, rfl⟩
  have hn4 := h.few
  have hrm0 : 0 ≤ (rm : Int) ∧ (rm : Int) ≤ 409600 := by omega
  obtain ⟨EL, hEL⟩ : ∃ EL, EL = (encs NX).length := ⟨_, rfl⟩
  have HRM := Lib.hid hrm
  have HEL := Lib.hid hEL
  have hen0 : 0 ≤ (EL : Int) ∧ (EL : Int) ≤ 50000000 := by have := HSN.out.2; omega
  have INIT := Lib.hid (show w.drew.cell? ⟨wb, 3, none⟩ = some (.slice wa R.length wc) ∧ w.drew.cell? ⟨rg, ro, none⟩ = some (.slice ua data.length uc) from ⟨c3, hrgc⟩)
  have KEEP := Lib.hid (show ∀ w', Below w.heap.size w w' → (w'.cell? ⟨wb, 3, none⟩ = some (.slice wa R.length wc) ∧ w'.cell? ⟨rg, ro, none⟩ = some (.slice ua data.length uc)) from fun w' hb => ⟨(hb.cell (p := ⟨wb, 3, none⟩) h.ln.wl).trans c3, (hb.cell (p := ⟨rg, ro, none⟩) hrgl).trans hrgc⟩)
  clear h hrv hrv0 h0 hdl hRl hget hrgN hrgl hrgc hu c3 r3 hsl hone hget3 hNX hNe hn4 hrm hEL hql hE
  go_enter Tryz.func15, Tryz.ntmps15
  go_wp2_with fail
  go_region_held3 (fun W' => W'.cell? ⟨wb, 3, none⟩ = some (.slice wa R.length wc) ∧ W'.cell? ⟨rg, ro, none⟩ = some (.slice ua data.length uc))
    (first | assumption | exact INIT.out | exact KEEP.out _ ((Below.refl _ _).drew.alloc (Nat.le_refl _) _) | exact KEEP.out _ hb2 | exact KEEP.out _ (hb1.alloc hb1.size _) | exact KEEP.out _ hb1)
    (first | (refine step_append_sl (by rfl) (.const (.slice none 0 0)) (.tmp 15) 28 (by rfl) w.heap.size 51 i0 (.slice none 0 0) 1 24 Tryz.underlying28 hi0 hz0 hz1 hz2 rfl (by decide) (.slice none 0 0) 0 [] (by simp [Act.eval]) (World.ownsRow_nil _ _ _ _) (.slice wa R.length wc) R.length xs (by simp [Act.eval, Act.put]) (by first | exact HSL.out.1.keep (Below.refl _ _).drew | exact HSL.out.1.keep ((Below.refl _ _).drew.alloc (Nat.le_refl _) _)) (fun c h => HSL.out.2.2.2 _ c h) HSL.out.2.1 (by unfold maxLen; have := HRL.out; omega) (by have := HRL.out; omega) (by simp) w (by first | exact (Below.refl _ _).drew | exact (Below.refl _ _).drew.alloc (Nat.le_refl _) _) ?_; intro v1 w1 hown1 hg1 hb1; rw [Nat.zero_add, List.nil_append] at hown1) | (refine step_append_sl (by rfl) (.tmp 16) (.tmp 20) 28 (by rfl) w.heap.size 51 i0 (.slice none 0 0) 1 24 Tryz.underlying28 hi0 hz0 hz1 hz2 rfl (by decide) v1 R.length xs (by simp [Act.eval, Act.put]) (by first | exact hown1 | exact own_at hown1 ((Below.refl _ _).alloc (Nat.le_refl _) _)) _ 1 [.slice ua data.length uc] (by first | (simp [Act.eval, Act.put]; done) | (simp [Act.eval, Act.put]; rfl)) (by first | exact sl_at rfl | exact sl_at (by simp) | exact sl_grown (sl_keep3 (Below.refl _ _).drew (sl_at rfl)) hg1 (by simp [Value.ownBlock])) (fun c h => by cases h) (one_val _ rfl) (by unfold maxLen; have := HRL.out; omega) (by have := HRL.out; omega) (by first | exact hb1.size | (have := hb1.size; simp; omega)) w (by first | exact hb1 | exact hb1.alloc hb1.size _) ?_; intro v2 w2 hown2 hg2 hb2) | fail)
  all_goals
    have HB2 := Lib.hid hb2
    have HFR := Lib.hid (show ∀ b, w.heap.size ≤ b → NF B fb lb wb b from fun b hb => ⟨fun e => by have := HLN.out.lt b (.inl e); omega, fun e => by have := HLN.out.lt b (.inr e); omega⟩)
    have HX2 := Lib.hid (show rRs.rd w2 (NF B fb lb wb) [v2] NX from by
      rw [HNX.out]
      refine refs_rd (base := w.heap.size) (xs := xs ++ [.slice ua data.length uc]) (by rw [List.length_append]; exact hown2) (fun j p hp => ?_) (fun b hb _ => HFR.out b hb)
      have hxl : xs.length = R.length := by have := HSL.out.1.1; omega
      by_cases hj : j < R.length
      · rw [List.getElem?_append_left hj] at hp
        obtain ⟨y, e, hy⟩ := HSL.out.2.2.1 j p hp
        exact ⟨y, by rw [List.getElem?_append_left (by omega)]; exact e, rBy.more (fun b hb => hb.1) (rBy.keep (fun b hb _ => HB2.out.block b hb.2) HB2.out.size hy)⟩
      · have hjl := (List.getElem?_eq_some_iff.1 hp).1
        rw [List.length_append, List.length_singleton] at hjl
        obtain rfl : j = R.length := by omega
        rw [List.getElem?_append_right (Nat.le_refl _), Nat.sub_self] at hp
        obtain rfl : data = p := by simpa using hp
        exact ⟨_, by rw [List.getElem?_append_right (by omega), hxl, Nat.sub_self]; rfl, rBy.more (fun b hb => hb.1) (rBy.keep (fun b hb _ => HB2.out.block b hb.2) HB2.out.size HU.out)⟩)
    obtain ⟨xa, xc, rfl⟩ : ∃ xa xc, v2 = .slice xa NX.length xc := by obtain ⟨a, c, e, _⟩ := rs_get HX2.out; exact ⟨a, c, e⟩
    have HQD := Lib.hid ((HQ.out.below (hb2.mono (Nat.le_refl _))).below (Below.refl _ _).drew)
    have HXD := Lib.hid (rRs.keep (w' := w2.drew) (fun b _ hl => (Below.refl w2.heap.size w2).drew.block b hl) (Nat.le_refl _) HX2.out)
    have HUD := Lib.hid (show Dat w2.drew (.slice ua data.length uc) data from Dat.keep (Dat.of_rd (rBy.keep (fun b hb _ => HB2.out.block b hb.2) HB2.out.size HU.out)) (Below.refl _ _).drew)
    have hap := rl_Append (fun b hb => by rw [hb]; exact HQD.out.ln.wl) HQD.out.ln.log HQD.out.ln.file HQD.out.ln.disk (.slice ua data.length uc) data HUD.out (by rw [HQD.out.img, HQD.out.fn]) (by rw [HQD.out.recs]; exact HQD.out.fit.long) (by rw [HQD.out.recs]; have := HRL.out; omega) (by have := HDL.out; omega)
    have INIT2 := Lib.hid (show w2.drew.cell? ⟨wb, 2, none⟩ = some (lgPtr lb) ∧ w2.drew.cell? ⟨rg, ro, none⟩ = some (.slice ua data.length uc) from ⟨HQD.out.ln.c2, (KEEP.out w2.drew hb2.drew).2⟩)
    have KEEP2 := Lib.hid (show ∀ w' g' f' d', LTurns (fun b => b = wb) lb fb B w2.drew w' g' f' d' → (w'.cell? ⟨wb, 2, none⟩ = some (.pointer (some ⟨lb, 0, none⟩)) ∧ w'.cell? ⟨rg, ro, none⟩ = some (.slice ua data.length uc)) from fun w' g' f' d' ht => ⟨(HQD.out.ln.turns ht).c2, (ht.2.2.2.cell (a := ⟨rg, ro, none⟩) HRG.out.1.1 (Nat.lt_of_lt_of_le HRG.out.2.1 HB2.out.size)).trans INIT2.out.2⟩)
    clear hown1 hg1 hb1 hown2 hg2 hb2
    cases down with
    | true =>
      have hla : lgAppend g f d data = (g, f, d, 13) := by unfold lgAppend; rw [(HQD.out.dn rfl).1]; rfl
      rw [hla] at hap
      have HAP := Lib.hid hap
      clear hap hla
      unfold lgPtr at INIT2 HAP
      go_wp2_with fail
      go_region_held3 (fun W' => W'.cell? ⟨wb, 2, none⟩ = some (.pointer (some ⟨lb, 0, none⟩)) ∧ W'.cell? ⟨rg, ro, none⟩ = some (.slice ua data.length uc))
        (first | assumption | exact INIT2.out | exact KEEP2.out _ _ _ _ hT)
        (first | (go_at_call 16; refine HAP.out.mono ?_; rintro e w3 ⟨rfl, hT⟩) | fail)
      all_goals
        have HFIN := Lib.hid (HQD.out.same hT)
        have c6 := HFIN.out.ln.c6
        clear hT
        go_wp2
        go_ret
        exact ⟨rfl, _, _, _, _, _, _, _, _, HFIN.out⟩
    | false =>
      obtain ⟨hff, hgf, P, hc, hI, hPT⟩ := HQD.out.up rfl
      obtain rfl := some_eq HQD.out.fn hff
      have hla : lgAppend g ⟨n, false⟩ d data = lgStore g ⟨n, false⟩ d NX := by
        unfold lgAppend
        rw [if_neg (by rw [hgf]; simp), if_neg (by have := HDL.out; omega), HQD.out.recs, HNX.out]
      rw [hla] at hap
      have hst := lgStore_any (g := g) (L := NX) hc (f := ⟨n, false⟩) rfl hI
      have HC := Lib.hid (And.intro hc hPT)
      have HGF := Lib.hid hgf
      clear hff hgf hc hI hPT
      rcases hst with ⟨h1, h2⟩ | ⟨h1, d', h2, h3, h4⟩ | ⟨h1, d', h2, h5, h3, h4⟩
      · rw [h2] at hap
        have HAP := Lib.hid hap
        have hgt : decide ((rm : Int) < (EL : Int)) = true := by have := HRM.out; have := HEL.out; simp; omega
        have hgt' : (rm : Int) < (EL : Int) := by have := HRM.out; have := HEL.out; omega
        clear hap hla h1 h2
        unfold lgPtr at INIT2 HAP
        go_wp2_with fail
        go_region_held3 (fun W' => W'.cell? ⟨wb, 2, none⟩ = some (.pointer (some ⟨lb, 0, none⟩)) ∧ W'.cell? ⟨rg, ro, none⟩ = some (.slice ua data.length uc))
          (first | assumption | exact INIT2.out | exact KEEP2.out _ _ _ _ hT)
          (first | (go_at_call 16; refine HAP.out.mono ?_; rintro e w3 ⟨rfl, hT⟩) | fail)
        all_goals
          have HQ3 := Lib.hid (HQD.out.same hT)
          have HX3 := Lib.hid (rRs.keep (fun b hb hl => hT.2.2.2.block b hl hb.1) hT.2.2.2.size HXD.out)
          have c6 := HQ3.out.ln.c6
          clear hT
          go_wp2_with fail
          refine (rf_EncodeRecords _ NX w3 HX3.out HSN.out).mono ?_
          rintro e w4 ⟨v4, rfl, hr4, hb4⟩
          obtain ⟨ea, ec, rfl⟩ : ∃ ea ec, v4 = .slice ea EL ec := by
            obtain ⟨a, c, e⟩ := hr4.dat.len
            exact ⟨a, c, by rw [HEL.out]; exact e⟩
          have HQ4 := Lib.hid (HQ3.out.below hb4)
          have HN4 := Lib.hid HQ4.out.ln
          obtain ⟨v3, c3, r3⟩ := HN4.out.c3
          obtain ⟨a3, k3, rfl, _⟩ := rs_get r3
          have HR3 := Lib.hid r3
          have f3 := HN4.out.fr 3
          clear hr4 hb4 c6 r3
          go_wp2_with fail
          refine (room37 HN4.out.file HN4.out.c1).mono ?_
          rintro e w5 ⟨rfl, rfl⟩
          rw [show ((100 * PF.n ⟨n, false⟩ : Nat) : Int) = (rm : Int) from by rw [HRM.out]]
          have HG := Lib.hid (show ∀ b, NF B fb lb wb b → ¬ (B.has b ∨ b = fb) from fun b hb e => hb.1 (e.elim .inl (fun e => .inr (.inl e))))
          have HNW := Lib.hid (show ¬ (B.has wb ∨ wb = fb) from fun e => HN4.out.nw (e.elim .inl (fun e => .inr (.inl e))))
          go_wp2_with fail
          refine (same37 HN4.out.log HN4.out.file HN4.out.disk HNW.out HN4.out.wl HN4.out.c1 HN4.out.c2 _ HR3.out HG.out HQ4.out.recs (HQ4.out.fit.small HQ4.out.few) (by have := HQ4.out.fit.many HQ4.out.few; omega) true (fun _ => ⟨HC.out.1, HC.out.2, HQ4.out.fit.2⟩)).mono ?_
          rintro e w6 ⟨rfl, hS⟩
          have HFIN := Lib.hid (HQ4.out.psame hS)
          clear hS
          go_wp2
          go_ret
          exact ⟨rfl, _, _, _, _, _, _, _, _, HFIN.out⟩
      · rw [h2] at hap
        have HAP := Lib.hid hap
        have HC3 := Lib.hid (show Fits n NX ∧ Clean n N (pgs n (padTo (100 * n) (encs NX))) d' from ⟨⟨HE.out, h1⟩, h3⟩)
        have hgt : decide ((rm : Int) < (EL : Int)) = false := by have := HRM.out; have := HEL.out; simp; omega
        have hgt' : ¬ (rm : Int) < (EL : Int) := by have := HRM.out; have := HEL.out; omega
        clear hap hla h1 h2 h3 h4
        unfold lgPtr at INIT2 HAP
        go_wp2_with fail
        go_region_held3 (fun W' => W'.cell? ⟨wb, 2, none⟩ = some (.pointer (some ⟨lb, 0, none⟩)) ∧ W'.cell? ⟨rg, ro, none⟩ = some (.slice ua data.length uc))
          (first | assumption | exact INIT2.out | exact KEEP2.out _ _ _ _ hT)
          (first | (go_at_call 16; refine HAP.out.mono ?_; rintro e w3 ⟨rfl, hT⟩) | fail)
        all_goals
          have HN3 := Lib.hid (HQD.out.ln.turns hT)
          have HX3 := Lib.hid (rRs.keep (fun b hb hl => hT.2.2.2.block b hl hb.1) hT.2.2.2.size HXD.out)
          have c6 := HN3.out.c6
          clear hT
          go_wp2_with fail
          refine (rf_EncodeRecords _ NX w3 HX3.out HSN.out).mono ?_
          rintro e w4 ⟨v4, rfl, hr4, hb4⟩
          obtain ⟨ea, ec, rfl⟩ : ∃ ea ec, v4 = .slice ea EL ec := by
            obtain ⟨a, c, e⟩ := hr4.dat.len
            exact ⟨a, c, by rw [HEL.out]; exact e⟩
          have HN4 := Lib.hid (HN3.out.below hb4)
          have HX4 := Lib.hid (rRs.keep (fun b _ hl => hb4.block b hl) hb4.size HX3.out)
          obtain ⟨v3, c3, r3⟩ := HN4.out.c3
          have f3 := HN4.out.fr 3
          clear hr4 hb4 c6 r3
          go_wp2_with fail
          refine (room37 HN4.out.file HN4.out.c1).mono ?_
          rintro e w5 ⟨rfl, rfl⟩
          rw [show ((100 * PF.n ⟨n, false⟩ : Nat) : Int) = (rm : Int) from by rw [HRM.out]]
          have HG := Lib.hid (show ∀ b, NF B fb lb wb b → ¬ (B.has b ∨ b = fb) from fun b hb e => hb.1 (e.elim .inl (fun e => .inr (.inl e))))
          have HNW := Lib.hid (show ¬ (B.has wb ∨ wb = fb) from fun e => HN4.out.nw (e.elim .inl (fun e => .inr (.inl e))))
          go_wp2_with fail
          have HN6 := Lib.hid (HN4.out.setR HX4.out)
          have HX6 := Lib.hid ((HN4.out.sets 3 (.slice xa NX.length xc)).2.2.2.2.2 _ _ HX4.out)
          obtain ⟨w6, hw6⟩ : ∃ w6, w6 = w5.setCell ⟨wb, 3, none⟩ (.slice xa NX.length xc) := ⟨_, rfl⟩
          rw [← hw6] at HN6 HX6 ⊢
          clear hw6
          refine (same37 HN6.out.log HN6.out.file HN6.out.disk HNW.out HN6.out.wl HN6.out.c1 HN6.out.c2 _ HX6.out HG.out rfl HSN.out (by have := HC3.out.1.many HQD.out.few; omega) true (fun _ => ⟨HC3.out.2, pgs_flat (padTo_len HC3.out.1.2), HC3.out.1.2⟩)).mono ?_
          rintro e w7 ⟨rfl, hS⟩
          have HFIN := Lib.hid (show Stays W w7 wb B n N from ⟨fb, lb, _, _, _, NX, mv, false, HN6.out.pturns hS, rfl, HQD.out.cap, HQD.out.big, rfl, padTo_len HC3.out.1.2, HC3.out.1, fun _ => ⟨rfl, HGF.out, _, HC3.out.2, (pgs_flat (padTo_len HC3.out.1.2)).symm, pgs_flat (padTo_len HC3.out.1.2)⟩, fun e => by cases e⟩)
          clear hS
          go_wp2
          go_ret
          exact ⟨rfl, HFIN.out⟩
      · rw [h2] at hap
        have HAP := Lib.hid hap
        have HC3 := Lib.hid (show Fits n NX ∧ Ready N (fun st => Rec n P st ∨ Rec n (pgs n (padTo (100 * n) (encs NX))) st) d' from ⟨⟨HE.out, h1⟩, h4⟩)
        have HDN := Lib.hid h3
        have hgt : decide ((rm : Int) < (EL : Int)) = false := by have := HRM.out; have := HEL.out; simp; omega
        have hgt' : ¬ (rm : Int) < (EL : Int) := by have := HRM.out; have := HEL.out; omega
        clear hap hla h1 h2 h3 h4 h5
        unfold lgPtr at INIT2 HAP
        go_wp2_with fail
        go_region_held3 (fun W' => W'.cell? ⟨wb, 2, none⟩ = some (.pointer (some ⟨lb, 0, none⟩)) ∧ W'.cell? ⟨rg, ro, none⟩ = some (.slice ua data.length uc))
          (first | assumption | exact INIT2.out | exact KEEP2.out _ _ _ _ hT)
          (first | (go_at_call 16; refine HAP.out.mono ?_; rintro e w3 ⟨rfl, hT⟩) | fail)
        all_goals
          have HN3 := Lib.hid (HQD.out.ln.turns hT)
          have HX3 := Lib.hid (rRs.keep (fun b hb hl => hT.2.2.2.block b hl hb.1) hT.2.2.2.size HXD.out)
          have c6 := HN3.out.c6
          clear hT
          go_wp2_with fail
          refine (rf_EncodeRecords _ NX w3 HX3.out HSN.out).mono ?_
          rintro e w4 ⟨v4, rfl, hr4, hb4⟩
          obtain ⟨ea, ec, rfl⟩ : ∃ ea ec, v4 = .slice ea EL ec := by
            obtain ⟨a, c, e⟩ := hr4.dat.len
            exact ⟨a, c, by rw [HEL.out]; exact e⟩
          have HN4 := Lib.hid (HN3.out.below hb4)
          have HX4 := Lib.hid (rRs.keep (fun b _ hl => hb4.block b hl) hb4.size HX3.out)
          have c0 := HN4.out.c0
          have c4 := HN4.out.c4
          have c5 := HN4.out.c5
          have k6 := HN4.out.c6
          have f4 := HN4.out.fr 4
          have f5 := HN4.out.fr 5
          have f6 := HN4.out.fr 6
          clear hr4 hb4 c6
          go_wp2_with fail
          refine (room37 HN4.out.file HN4.out.c1).mono ?_
          rintro e w5 ⟨rfl, rfl⟩
          rw [show ((100 * PF.n ⟨n, true⟩ : Nat) : Int) = (rm : Int) from by rw [HRM.out]]
          go_wp2_with fail
          have HN6 := Lib.hid (((HN4.out.setDown true).setMaybe true).setMight (.slice xa NX.length xc))
          have HX6 := Lib.hid (((HN4.out.setDown true).setMaybe true).sets 4 (.slice xa NX.length xc) |>.2.2.2.2.2 _ _ ((HN4.out.setDown true).sets 5 (.bool true) |>.2.2.2.2.2 _ _ ((HN4.out.sets 6 (.bool true)).2.2.2.2.2 _ _ HX4.out)))
          obtain ⟨w6, hw6⟩ : ∃ w6, w6 = ((w5.setCell ⟨wb, 6, none⟩ (.bool true)).setCell ⟨wb, 5, none⟩ (.bool true)).setCell ⟨wb, 4, none⟩ (.slice xa NX.length xc) := ⟨_, rfl⟩
          rw [← hw6] at HN6 HX6 ⊢
          clear hw6
          refine (dk_down HN6.out.disk).mono ?_
          rintro e w7 ⟨rfl, rfl⟩
          rw [HDN.out]
          have HFIN := Lib.hid (show Stays W w7 wb B n N from ⟨fb, lb, _, _, _, R, (.slice xa NX.length xc), true, HN6.out, rfl, HQD.out.cap, HQD.out.big, HQD.out.recs, HQD.out.img, HQD.out.fit, (fun e => by cases e), fun _ => ⟨rfl, NX, HX6.out, HC3.out.1, HC3.out.2.more (fun st hs => hs.imp (fun h => ⟨_, h, HC.out.2⟩) (fun h => ⟨_, h, pgs_flat (padTo_len HC3.out.1.2)⟩))⟩⟩)
          go_wp2
          go_ret
          exact ⟨rfl, HFIN.out⟩
end
end Go.Proofs.YtngddhoolijimaaGreatDoor
namespace Go.Proofs.YtngddhoolijimaaGreatDoor
open Go.RowKit Go.Maps Go.ChangeShapes Go.WideShapes
set_option linter.unusedVariables false
set_option linter.unusedSimpArgs false

abbrev rOp37 := rPair (rInt .i64) (rPair (rInt .i64) (rPair rRs (rSlice (rInt .i64))))

theorem op_at37 {W w : World} {b off i : Nat} {x : Int × Int × List (List UInt8) × List Int} (hb : b < W.heap.size) (hB : Below W.heap.size W w) (h : ∃ ys, At W b (off + i * rOp37.size) ys ∧ rOp37.rd W (· < W.heap.size) ys x) :
    ∃ dv kv, w.cell? ⟨b, off + i * 4, none⟩ = some (.int .i64 x.1) ∧ w.cell? ⟨b, off + i * 4 + 1, none⟩ = some (.int .i64 x.2.1) ∧ w.cell? ⟨b, off + i * 4 + 2, none⟩ = some dv ∧ w.cell? ⟨b, off + i * 4 + 3, none⟩ = some kv ∧
      (Lit.int .i64 x.2.1).wf = true ∧ rRs.rd W (· < W.heap.size) [dv] x.2.2.1 ∧ (rSlice (rInt .i64)).rd W (· < W.heap.size) [kv] x.2.2.2 := by
  obtain ⟨ys, hA, u1, v1, rfl, ⟨rfl, _⟩, u2, v2, rfl, ⟨rfl, hw⟩, u3, v3, rfl, hd, hk⟩ := h
  have l3 : u3.length = 1 := rRs.len hd
  have l4 : v3.length = 1 := (rSlice (rInt .i64)).len hk
  obtain ⟨dv, rfl⟩ : ∃ dv, u3 = [dv] := by match u3, l3 with | [a], _ => exact ⟨a, rfl⟩
  obtain ⟨kv, rfl⟩ : ∃ kv, v3 = [kv] := by match v3, l4 with | [a], _ => exact ⟨a, rfl⟩
  have c : ∀ j u, ([.int .i64 x.1, .int .i64 x.2.1, dv, kv] : List Value)[j]? = some u → w.cell? ⟨b, off + i * 4 + j, none⟩ = some u := fun j u hu => (hB.cell (p := ⟨b, off + i * 4 + j, none⟩) hb).trans (hA j u hu)
  exact ⟨dv, kv, c 0 _ rfl, c 1 _ rfl, c 2 _ rfl, c 3 _ rfl, hw, hd, hk⟩

theorem elem_rz : Tryz.prog.elem 28 = 51 := by kernel_rfl
theorem under_rz : Tryz.prog.underlying 28 = some (.slice (Tryz.prog.elem 28)) := by kernel_rfl
theorem size_rz (W : World) : (Go.sizeOf (Tryz.prog.elem 28)).run Tryz.prog W = .ok 1 W := by rw [elem_rz]; exact Tryz.sizeOf51 W

/-- The first records. -/
theorem cutz_rz {a : Option Addr} {n c K : Nat} {z : Int} (hz : z = (K : Int)) (hK : K ≤ n) (hn : n ≤ c) :
    (∀ W, Sem.run Tryz.prog (Instr.sliceAt 28 (.slice a n c) none (some (.int .i64 z)) none) W = .ok (.slice a K c) W) ∧ (∀ W, Sem.run Tryz.prog (Instr.slice 28 (.slice a n c) none (some (.int .i64 z)) none) W = .ok (.slice a K c) W) := by
  subst hz
  have h2 : ∀ W, Sem.run Tryz.prog (Instr.slice 28 (.slice a n c) none (some (.int .i64 (K : Int))) none) W = .ok (.slice a K c) W := by
    intro W
    rw [run_slice_h W 28 a n c under_rz .i64 (K : Int) (by omega) (by omega), size_rz]
    cases a with
    | none => simp [Result.andThen, sliced]
    | some ad => simp [Result.andThen, sliced, Addr.add]
  exact ⟨fun W => (run_sliceAt_slice W 28 _ _ _ _ under_rz).trans (h2 W), h2⟩

theorem rz_take {w : World} {F : Nat → Prop} {a : Option Addr} {n c K : Nat} {L : List (List UInt8)} (h : rRs.rd w F [.slice a n c] L) (hK : K ≤ n) : rRs.rd w F [.slice a K c] (L.take K) := by
  obtain ⟨⟨a', n', c', e, h1, h2, h3, h4⟩, h5⟩ := h
  simp only [List.cons.injEq, Value.slice.injEq, and_true] at e
  obtain ⟨rfl, rfl, rfl⟩ := e
  refine ⟨⟨_, K, _, rfl, by rw [List.length_take]; omega, by omega, h3, ?_⟩, fun m c e => ?_⟩
  · rcases h4 with h4 | ⟨b, off, ea, hF, hl, hx⟩
    · exact .inl (by omega)
    · refine .inr ⟨b, off, ea, hF, hl, fun i x hi => hx i x ?_⟩
      rw [List.getElem?_take] at hi
      split at hi
      · exact hi
      · cases hi
  · simp only [List.cons.injEq, Value.slice.injEq, and_true] at e
    obtain ⟨rfl, _, rfl⟩ := e
    exact h5 n _ rfl

section
variable {W w w0 w' : World} {wb fb lb n N : Nat} {B : DB} {g : LG} {f : PF} {d : DK} {R Q : List (List UInt8)} {v1 v2 v3 mv : Value} {maybe down : Bool}

theorem LO.same (h : LO W w0 w wb B d v1 v2 v3 mv maybe down) : LO W w w wb B d v1 v2 v3 mv maybe down :=
  ⟨h.bel.size, h.bel, h.ge, fun b hb => Nat.lt_of_lt_of_le (h.lt0 b hb) h.chg.size, h.nw, h.c0, h.c1, h.c2, h.c3, h.c4, h.c5, h.c6, h.fr, h.disk, Chg.refl _ _⟩

/-- The log is opened. -/
theorem LQ.opens (h : LQ W w wb B n N fb lb g f d R mv down) (arm : Int) (harm : (Lit.int .i64 arm).wf = true) (kv : Value) (keep : List Int) (hk : (rSlice (rInt .i64)).rd W (· < W.heap.size) [kv] keep) (hkm : keep.length ≤ 1000000) :
    Calls Tryz.prog 5 #[.pointer (some ⟨wb, 0, none⟩), .int .i64 arm, kv] w fun e w' => e = .returned (.bool true) ∧ Stays W w' wb B n N := by
  obtain ⟨v3, hlo, r3⟩ := h.ln.lo
  obtain ⟨Q, hr, hq⟩ := h.ready
  refine (open37 hlo h.cap h.big h.few hr r3 hq h.fit arm harm kv keep hk hkm).mono ?_
  rintro e w' ⟨rfl, fb', lb', g', d', T, mv', hQ⟩
  exact ⟨rfl, fb', lb', g', _, d', T, mv', false, hQ⟩

/-- It is opened behind a crash. -/
theorem LQ.opens_crash (h : LQ W w wb B n N fb lb g f d R mv down) (keep0 : List Int) (ht : Turns B w w' (d.crash keep0)) (arm : Int) (harm : (Lit.int .i64 arm).wf = true) (kv : Value) (keep : List Int) (hk : (rSlice (rInt .i64)).rd W (· < W.heap.size) [kv] keep) (hkm : keep.length ≤ 1000000) :
    Calls Tryz.prog 5 #[.pointer (some ⟨wb, 0, none⟩), .int .i64 arm, kv] w' fun e w' => e = .returned (.bool true) ∧ Stays W w' wb B n N := by
  obtain ⟨v3, hlo, r3⟩ := h.ln.lo
  obtain ⟨Q, hr, hq⟩ := h.ready
  refine (open37 (hlo.turns ht).same h.cap h.big h.few (hr.crash keep0) (rRs.keep (fun b hb hl => ht.2.block b hl hb.1) ht.2.size r3) (fun e => ⟨rRs.keep (fun b hb hl => ht.2.block b hl hb.1) ht.2.size (hq e).1, (hq e).2⟩) h.fit arm harm kv keep hk hkm).mono ?_
  rintro e w' ⟨rfl, fb', lb', g', d', T, mv', hQ⟩
  exact ⟨rfl, fb', lb', g', _, d', T, mv', false, hQ⟩

set_option maxRecDepth 100000 in
set_option maxHeartbeats 8000000 in
theorem step37 (h : LQ W w wb B n N fb lb g f d R mv down) (k nn : Int) (hnn : (Lit.int .i64 nn).wf = true) (dv kv : Value) (l : List (List UInt8)) (keep : List Int)
    (hd : rRs.rd W (· < W.heap.size) [dv] l) (hk : (rSlice (rInt .i64)).rd W (· < W.heap.size) [kv] keep) (hl : l.length ≤ 20 ∧ ∀ x ∈ l, x.length ≤ 500) (hkl : keep.length ≤ 100) :
    Calls Tryz.prog 7 #[.pointer (some ⟨wb, 0, none⟩), .agg #[.int .i64 k, .int .i64 nn, dv, kv]] w fun e w' => e = .returned (.bool true) ∧ Stays W w' wb B n N := by
  obtain ⟨wa, wc, rfl, hwc, hwm, _⟩ := rs_get hd
  obtain ⟨ka, kl, kc, e, rfl, _, _, _⟩ := id hk
  obtain rfl : kv = .slice ka keep.length kc := by simpa using e
  have hll : 0 ≤ (l.length : Int) := by omega
  have HD := Lib.hid hd
  have HK := Lib.hid hk
  have HLL := Lib.hid (And.intro hl hkl)
  have HWC := Lib.hid hwc
  have HL := Lib.hid h
  clear hd hk hl hkl h e hwc hwm
  go_enter Tryz.func7, Tryz.ntmps7
  obtain ⟨W0, hW0⟩ : ∃ W0, W0 = w.alloc (.cells #[.int .i64 k, .int .i64 nn, .slice wa l.length wc, .slice ka keep.length kc] 35) := ⟨_, rfl⟩
  have HB0 := Lib.hid (show Below w.heap.size w W0 from by rw [hW0]; exact (Below.refl _ _).alloc (Nat.le_refl _) _)
  have hcs : ∀ j u, ([.int .i64 k, .int .i64 nn, .slice wa l.length wc, .slice ka keep.length kc] : List Value)[j]? = some u → W0.cell? ⟨w.heap.size, j, none⟩ = some u := fun j u hu => by
    rw [hW0]
    have := new_cells w [.int .i64 k, .int .i64 nn, .slice wa l.length wc, .slice ka keep.length kc] 35 j u hu
    rw [Addr.add_mid, Nat.zero_add] at this; exact this
  have HZ0 := Lib.hid (show w.heap.size < W0.heap.size by rw [hW0]; simp)
  have HCS := Lib.hid hcs
  have HW0 := Lib.hid hW0
  have HL0 := Lib.hid (HL.out.below HB0.out)
  have HNB := Lib.hid (show ¬ B.has w.heap.size from fun e => by
    obtain ⟨_, hlo, _⟩ := HL.out.ln.lo
    have := hlo.lt0 _ (.inl e); omega)
  clear hW0 hcs
  by_cases k0 : k = 0
  · subst k0
    have HLD := Lib.hid (HL0.out.below (Below.refl _ _).drew)
    have HFA := Lib.hid (dk_failAfter HLD.out.ln.disk nn hnn)
    have INIT := Lib.hid (show W0.drew.cell? ⟨wb, 0, none⟩ = some (.pointer (some ⟨B.db, 0, none⟩)) ∧ W0.drew.cell? ⟨w.heap.size, 1, none⟩ = some (.int .i64 nn) from ⟨HL0.out.ln.c0, HCS.out 1 _ rfl⟩)
    have KEEP := Lib.hid (show ∀ w', Turns B W0.drew w' (d.arm nn) → (w'.cell? ⟨wb, 0, none⟩ = some (.pointer (some ⟨B.db, 0, none⟩)) ∧ w'.cell? ⟨w.heap.size, 1, none⟩ = some (.int .i64 nn)) from fun w' ht => ⟨(HLD.out.arm nn ht).ln.c0, (ht.2.cell (a := ⟨w.heap.size, 1, none⟩) HNB.out HZ0.out).trans INIT.out.2⟩)
    go_wp2_with fail
    rw [← HW0.out]
    go_region_held3 (fun W => W.cell? ⟨wb, 0, none⟩ = some (.pointer (some ⟨B.db, 0, none⟩)) ∧ W.cell? ⟨w.heap.size, 1, none⟩ = some (.int .i64 nn)) (first | assumption | exact INIT.out | exact KEEP.out _ hT)
      (first | (go_at_call 10; refine HFA.out.mono ?_; rintro e wJ ⟨rfl, hT⟩) | fail)
    all_goals
      have HFIN := Lib.hid (HLD.out.arm nn hT)
      clear hT
      go_wp2
      go_ret
      exact ⟨rfl, _, _, _, _, _, _, _, _, HFIN.out⟩
  · have g0 : (k == 0) = false := by simpa using k0
    by_cases k1 : k = 1
    · subst k1
      have HLD := Lib.hid (HL0.out.below (Below.refl _ _).drew)
      have HFA := Lib.hid (dk_crash HLD.out.ln.disk (.slice ka keep.length kc) keep (keep_of HK.out (fun b hb => ⟨hb, fun e => by
        obtain ⟨_, hlo, _⟩ := HL.out.ln.lo
        have := hlo.ge b (.inl (.inr (.inl e))); omega⟩) HLD.out.ln.bel) (by have := HLL.out.2; omega))
      have INIT := Lib.hid (show W0.drew.cell? ⟨wb, 0, none⟩ = some (.pointer (some ⟨B.db, 0, none⟩)) ∧ W0.drew.cell? ⟨w.heap.size, 3, none⟩ = some (.slice ka keep.length kc) from ⟨HL0.out.ln.c0, HCS.out 3 _ rfl⟩)
      have KEEP := Lib.hid (show ∀ w', Turns B W0.drew w' (d.crash keep) → (w'.cell? ⟨wb, 0, none⟩ = some (.pointer (some ⟨B.db, 0, none⟩)) ∧ w'.cell? ⟨w.heap.size, 3, none⟩ = some (.slice ka keep.length kc)) from fun w' ht => ⟨(HLD.out.ln.dturns ht).c0, (ht.2.cell (a := ⟨w.heap.size, 3, none⟩) HNB.out HZ0.out).trans INIT.out.2⟩)
      have KEEP1 := Lib.hid (show ∀ w', Turns B W0.drew w' (d.crash keep) → w'.cell? ⟨w.heap.size, 1, none⟩ = some (.int .i64 nn) from fun w' ht => (ht.2.cell (a := ⟨w.heap.size, 1, none⟩) HNB.out HZ0.out).trans (HCS.out 1 _ rfl))
      go_wp2_with fail
      rw [← HW0.out]
      go_region_held3 (fun W => W.cell? ⟨wb, 0, none⟩ = some (.pointer (some ⟨B.db, 0, none⟩)) ∧ W.cell? ⟨w.heap.size, 3, none⟩ = some (.slice ka keep.length kc)) (first | assumption | exact INIT.out | exact KEEP.out _ hT)
        (first | (go_at_call 12; refine HFA.out.mono ?_; rintro e wJ ⟨rfl, hT⟩) | fail)
      all_goals
        have hj1 := KEEP1.out _ hT
        have hj3 := (KEEP.out _ hT).2
        have HOP := Lib.hid (HLD.out.opens_crash keep hT nn hnn (.slice ka keep.length kc) keep HK.out (by have := HLL.out.2; omega))
        clear hT
        go_wp2_with fail
        refine HOP.out.mono ?_
        rintro e w5 ⟨rfl, hS⟩
        have HFIN := Lib.hid hS
        clear hS
        go_wp2
        go_ret
        exact ⟨rfl, HFIN.out⟩
    · have g1 : (k == 1) = false := by simpa using k1
      by_cases k2 : k = 2
      · subst k2
        go_wp2_with fail
        rw [← HW0.out]
        refine (HL0.out.opens nn hnn (.slice ka keep.length kc) keep HK.out (by have := HLL.out.2; omega)).mono ?_
        rintro e w5 ⟨rfl, hS⟩
        have HFIN := Lib.hid hS
        clear hS
        go_wp2
        go_ret
        exact ⟨rfl, HFIN.out⟩
      · have g2 : (k == 2) = false := by simpa using k2
        by_cases k3 : k = 3
        · subst k3
          go_wp2_with fail
          rw [← HW0.out]
          refine (change37_rep HL0.out _ l HD.out HLL.out.1).mono ?_
          rintro e w5 ⟨rfl, hS⟩
          have HFIN := Lib.hid hS
          clear hS
          go_wp2
          go_ret
          exact ⟨rfl, HFIN.out⟩
        · have g3 : (k == 3) = false := by simpa using k3
          by_cases hl0 : l.length = 0
          · have e0 : ((l.length : Int) == 0) = true := by rw [hl0]; rfl
            have HFIN := Lib.hid (show Stays W W0 wb B n N from ⟨_, _, _, _, _, _, _, _, HL0.out⟩)
            have HE0 := Lib.hid hl0
            clear hl0
            go_wp2_with fail
            rw [← HW0.out]
            go_wp2
            go_ret
            exact ⟨rfl, HFIN.out⟩
          · have e0 : ((l.length : Int) == 0) = false := beq_eq_false_iff_ne.2 (by omega)
            obtain ⟨x, hx⟩ : ∃ x, l[0]? = some x := ⟨_, List.getElem?_eq_getElem (by omega)⟩
            have HX := Lib.hid (And.intro (show (l.take 1)[0]? = some x by rw [List.getElem?_take]; simpa using hx) (HLL.out.1.2 x (List.mem_of_getElem? hx)))
            have hrun := (cutz_rz (a := wa) (n := l.length) (c := wc) (K := 1) (z := 1) rfl (by omega) HWC.out)
            have HTK := Lib.hid (rz_take (K := 1) HD.out (by omega))
            have hr1 := hrun.1
            have hr2 := hrun.2
            clear hl0 hx hrun
            go_wp2_with fail
            rw [← HW0.out]
            go_wp2_with fail
            refine (change37_add HL0.out _ _ HTK.out x HX.out.1 HX.out.2).mono ?_
            rintro e w5 ⟨rfl, hS⟩
            have HFIN := Lib.hid hS
            clear hS
            go_wp2
            go_ret
            exact ⟨rfl, HFIN.out⟩
end
end Go.Proofs.YtngddhoolijimaaGreatDoor
namespace Go.Proofs.YtngddhoolijimaaGreatDoor
open Go.RowKit Go.Maps Go.ChangeShapes Go.WideShapes
set_option linter.unusedVariables false
set_option linter.unusedSimpArgs false

theorem opensOp37 : Opens Tryz.prog 35 rOp37 :=
  opens_struct Tryz.underlying35 (by kernel_rfl) (opensF_cons rfl (opens_int Tryz.underlying3 (by kernel_rfl)) (opensF_cons rfl (opens_int Tryz.underlying3 (by kernel_rfl)) (opensF_cons rfl opensRs (opensF_one rfl opensInts))))
theorem opensOps37 : Opens Tryz.prog 22 (rSlice rOp37) := opens_slice Tryz.underlying22 (by kernel_rfl) (by decide) opensOp37

theorem wf_u8p {p : Int} (h : (Lit.int .u8 p).wf = true) : ∃ n : Nat, n < 256 ∧ p = (n : Int) := by
  have h : 0 ≤ p ∧ p ≤ 255 := by simpa [Lit.wf, IntKind.min, IntKind.max, IntKind.bits, IntKind.signed] using h
  exact ⟨p.toNat, by omega, by omega⟩

theorem keep_none (w : World) (F : Nat → Prop) : (rSlice (rInt .i64)).rd w F [.slice none 0 0] ([] : List Int) := ⟨none, 0, 0, rfl, rfl, Nat.le_refl _, Nat.zero_le _, .inl rfl⟩

theorem rs_none (w : World) (F : Nat → Prop) : rRs.rd w F [.slice none 0 0] ([] : List (List UInt8)) := by
  refine ⟨⟨none, 0, 0, rfl, rfl, Nat.le_refl _, Nat.zero_le _, .inl rfl⟩, fun m c e => ?_⟩
  simp only [List.cons.injEq, Value.slice.injEq, and_true] at e
  exact e.2.2.symm

set_option maxRecDepth 100000 in
set_option maxHeartbeats 8000000 in
theorem plays37_walk (pp : Int) (v : Value) (L : List (Int × Int × List (List UInt8) × List Int)) (hpw : (Lit.int .u8 pp).wf = true) (W : World) (hL : (rSlice rOp37).rd W (· < W.heap.size) [v] L) :
    Calls Tryz.prog 3 #[.int .u8 pp, v] W (Holds W) := by
  obtain ⟨pn, hp, rfl⟩ := wf_u8p hpw
  obtain ⟨va, vn, vc, ev, rfl, hvc, hvm, hx⟩ := hL
  obtain rfl : v = .slice va L.length vc := by simpa using ev
  have HX := Lib.hid hx
  have hll : 0 ≤ (L.length : Int) := by omega
  have hlm : (L.length : Int) ≤ 9223372036854775807 := by unfold maxLen at hvm; omega
  obtain ⟨m, hm⟩ : ∃ m, m = pn % 40 := ⟨_, rfl⟩
  have hmr : Int.tmod (pn : Int) 40 = (m : Int) := by subst hm; rw [Int.tmod_eq_emod_of_nonneg (by omega)]; rfl
  have hm25 : m < 40 := by omega
  obtain ⟨N, hN⟩ : ∃ N, N = 7 + m := ⟨_, rfl⟩
  have hNI : (7 : Int) + (m : Int) = (N : Int) := by omega
  have hmb : 0 ≤ (m : Int) ∧ (m : Int) < 40 := by omega
  have hcl := new_clean (N := N) (by omega)
  obtain ⟨n, hn⟩ : ∃ n, n = capN N := ⟨_, rfl⟩
  rw [← hn] at hcl
  have HCL := Lib.hid hcl
  have HN := Lib.hid hN
  have HCN := Lib.hid hn
  have hNb : 0 ≤ (N : Int) ∧ (N : Int) ≤ 46 := by omega
  clear hx ev hpw hm hcl hn hN
  go_enter Tryz.func3, Tryz.ntmps3
  go_wp2_with fail
  refine (dk_new (N : Int) N (by have := HN.out; omega) _).mono ?_
  rintro e w1 ⟨B, rfl, hM⟩
  have HM := Lib.hid hM
  clear hM
  unfold DB.ptr
  go_wp2_with fail
  obtain ⟨W1, hW1⟩ : ∃ W1, W1 = w1.alloc (.cells #[.pointer (some ⟨B.db, 0, none⟩), .pointer none, .pointer none, .slice none 0 0, .slice none 0 0, .bool false, .bool false] 30) := ⟨_, rfl⟩
  obtain ⟨wb, hwb⟩ : ∃ wb, wb = w1.heap.size := ⟨_, rfl⟩
  have HLO := Lib.hid (show LO W W1 W1 wb B (DK.new N) (.pointer none) (.pointer none) (.slice none 0 0) (.slice none 0 0) false false from by
    have hbW : Below w1.heap.size w1 W1 := by rw [hW1]; exact (Below.refl _ _).alloc (Nat.le_refl _) _
    have hcs : ∀ j u, ([.pointer (some ⟨B.db, 0, none⟩), .pointer none, .pointer none, .slice none 0 0, .slice none 0 0, .bool false, .bool false] : List Value)[j]? = some u → W1.cell? ⟨wb, j, none⟩ = some u := fun j u hu => by
      rw [hW1, hwb]
      have := new_cells w1 [.pointer (some ⟨B.db, 0, none⟩), .pointer none, .pointer none, .slice none 0 0, .slice none 0 0, .bool false, .bool false] 30 j u hu
      rw [Addr.add_mid, Nat.zero_add] at this; exact this
    have hfr : ∀ j, W1.frozen? ⟨wb, j, none⟩ = false := fun j => by rw [hW1, hwb]; go_simp
    have hzW : W1.heap.size = w1.heap.size + 1 := by rw [hW1]; simp
    have hBl : ∀ b, B.has b → b < w1.heap.size := fun b hb => by
      have := HM.out.1.lt
      rcases hb with rfl | rfl | rfl <;> omega
    have hbg : ∀ b, B.has b → W.heap.size ≤ b := fun b hb => by
      have := HM.out.2.2
      rcases hb with rfl | rfl | rfl <;> omega
    have hB1 := HM.out.2.1
    have hs1 := hB1.size
    exact ⟨by omega, hB1.trans (hbW.mono hs1), fun b hb => hb.elim (hbg b) (fun e => by omega), fun b hb => hb.elim (fun e => by have := hBl b e; omega) (fun e => by omega), fun e => by have := hBl _ e; omega,
      hcs 0 _ rfl, hcs 1 _ rfl, hcs 2 _ rfl, hcs 3 _ rfl, hcs 4 _ rfl, hcs 5 _ rfl, hcs 6 _ rfl, hfr, HM.out.1.below hbW, Chg.refl _ _⟩)
  rw [← hW1, ← hwb]
  clear hW1 hwb
  have HN4 := Lib.hid (show n ≤ 4096 from by rw [HCN.out]; unfold capN; split <;> omega)
  refine (open37 (Q := []) HLO.out HCN.out.symm (by have := HN.out; omega) HN4.out (HCL.out.ready.more (fun st hs => .inl ⟨_, hs, zeroP_none n⟩)) (rs_none _ _) (fun e => by cases e) (fits_nil n) 0 (by rfl) (.slice none 0 0) [] (keep_none _ _) (by simp)).mono ?_
  rintro e w2 ⟨rfl, fb, lb, g, d, T, mv, hQ⟩
  have HS2 := Lib.hid (show Stays W w2 wb B n N from ⟨fb, lb, g, _, d, T, mv, false, hQ⟩)
  clear hQ
  go_wp2
  go_loopg [6] (L.length) (fun gk t6 wr => ∃ i : Nat, i ≤ L.length ∧ gk + i = L.length ∧ t6 = .int .i64 (i : Int) ∧ Stays W wr wb B n N)
  case atStart => exact ⟨0, by omega, by omega, rfl, HS2.out⟩
  case round =>
    obtain ⟨i, hi, hgk, rfl, hS⟩ := hrel
    have HGK := Lib.hid hgk
    obtain ⟨fb1, lb1, g1, f1, d1, R1, mv1, down1, hl1⟩ := hS
    have HL1 := Lib.hid hl1
    clear hgk hl1
    have hi0 : 0 ≤ (i : Int) := by omega
    by_cases hin : i < L.length ∧ i < 30
    · have hd1 : decide ((i : Int) < (L.length : Int)) = true := by simp; omega
      have hd2 : decide ((i : Int) < 30) = true := by simp; omega
      have hi1 : (i : Int) < (L.length : Int) := by omega
      have hi2 : (i : Int) < 30 := by omega
      obtain ⟨x, hx⟩ : ∃ x, L[i]? = some x := ⟨_, List.getElem?_eq_getElem hin.1⟩
      rcases HX.out with h0 | ⟨b, off, rfl, hbF, hbl, hget⟩
      · omega
      obtain ⟨dv, kv, q0, q1, q2, q3, hwn, hdd, hkk⟩ := op_at37 (off := off) (i := i) (x := x) hbl HL1.out.ln.bel (hget i x hx)
      obtain ⟨da, dc, rfl, _, _⟩ := rs_get hdd
      obtain ⟨ka, kl, kc, e, rfl, _, _, _⟩ := id hkk
      obtain rfl : kv = .slice ka x.2.2.2.length kc := by simpa using e
      have hk0 : 0 ≤ (x.2.2.2.length : Int) := by omega
      have HDD := Lib.hid hdd
      have HKK := Lib.hid hkk
      have HDR := Lib.hid (HL1.out.arg hdd)
      clear hdd hkk hget e hx
      go_wp2_with fail
      refine (few37 _ _ _ HDR.out).mono ?_
      rintro e w3 ⟨r, rfl, rfl, hr⟩
      have HR := Lib.hid hr
      clear hr
      cases r with
      | false =>
        go_wp2
        go_roundg (gk - 1)
        case rel => exact ⟨i + 1, by omega, by have := HGK.out; omega, by go_num, _, _, _, _, _, _, _, _, HL1.out⟩
        case measure => have := HGK.out; omega
      | true =>
        by_cases hkl : x.2.2.2.length ≤ 100
        · have g5 : decide ((x.2.2.2.length : Int) ≤ 100) = true := by simp; omega
          have g5' : (x.2.2.2.length : Int) ≤ 100 := by omega
          have HKS := Lib.hid hkl
          clear hkl
          go_wp2_with fail
          refine (step37 HL1.out x.1 x.2.1 hwn _ _ _ _ HDD.out HKK.out (HR.out (by first | rfl | trivial)) HKS.out).mono ?_
          rintro e w4 ⟨rfl, hS⟩
          have HS := Lib.hid hS
          clear hS q0 q1 q2 q3
          go_wp2
          go_roundg (gk - 1)
          case rel => exact ⟨i + 1, by omega, by have := HGK.out; omega, by go_num, HS.out⟩
          case measure => have := HGK.out; omega
        · have g5 : decide ((x.2.2.2.length : Int) ≤ 100) = false := by simp; omega
          have g5' : ¬ (x.2.2.2.length : Int) ≤ 100 := by omega
          clear hkl
          go_wp2
          go_roundg (gk - 1)
          case rel => exact ⟨i + 1, by omega, by have := HGK.out; omega, by go_num, _, _, _, _, _, _, _, _, HL1.out⟩
          case measure => have := HGK.out; omega
    · by_cases hil : i = L.length
      · subst hil
        have hd1 : decide ((L.length : Int) < (L.length : Int)) = false := by simp
        clear hin
        go_wp2_with fail
        refine (awake37_any _).mono ?_
        rintro e w5 ⟨rfl, hb⟩
        have HL2 := Lib.hid (HL1.out.below hb)
        clear hb
        go_wp2_with fail
        refine (HL2.out.opens 0 (by rfl) (.slice none 0 0) [] (keep_none _ _) (by simp)).mono ?_
        rintro e w6 ⟨rfl, _, _, _, _, _, _, _, _, hQ⟩
        have HFIN := Lib.hid hQ.ln.bel
        clear hQ
        go_wp2
        go_ret
        exact ⟨rfl, HFIN.out⟩
      · have hd1 : decide ((i : Int) < (L.length : Int)) = true := by simp; omega
        have hi1 : (i : Int) < (L.length : Int) := by omega
        have hd2 : decide ((i : Int) < 30) = false := by simp; omega
        have hi2 : ¬ (i : Int) < 30 := by omega
        clear hin
        go_wp2_with fail
        refine (awake37_any _).mono ?_
        rintro e w5 ⟨rfl, hb⟩
        have HL2 := Lib.hid (HL1.out.below hb)
        clear hb
        go_wp2_with fail
        refine (HL2.out.opens 0 (by rfl) (.slice none 0 0) [] (keep_none _ _) (by simp)).mono ?_
        rintro e w6 ⟨rfl, _, _, _, _, _, _, _, _, hQ⟩
        have HFIN := Lib.hid hQ.ln.bel
        clear hQ
        go_wp2
        go_ret
        exact ⟨rfl, HFIN.out⟩
end Go.Proofs.YtngddhoolijimaaGreatDoor
