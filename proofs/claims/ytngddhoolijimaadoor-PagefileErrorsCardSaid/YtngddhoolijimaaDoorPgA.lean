/-
  The law's payloads in memory; reads.
-/
import Derived.Test.YtngddhoolijimaaDoorPfO
import Derived.Deep.QuietTactic
import Derived.BigQuiet
namespace Go.Proofs.YtngddhoolijimaaDoor
open Go.RowKit
set_option linter.unusedVariables false

/-- The reference's payloads, in memory. -/
structure IsPages (w : World) (F : Nat → Prop) (pb : Nat) (P : List (List UInt8)) : Prop where
  mem : F pb
  lt : pb < w.heap.size
  at_ : ∃ sv, w.cell? ⟨pb, 0, none⟩ = some sv ∧ rBs.rd w F [sv] P

theorem IsPages.keep {w w' : World} {F : Nat → Prop} {pb : Nat} {P : List (List UInt8)} (h : IsPages w F pb P) (hk : Kept F w w') (hs : w.heap.size ≤ w'.heap.size) : IsPages w' F pb P := by
  obtain ⟨sv, h1, h2⟩ := h.at_
  exact ⟨h.mem, Nat.lt_of_lt_of_le h.lt hs, sv, (World.cell?_of_block (a := ⟨pb, 0, none⟩) (hk pb h.mem h.lt)).trans h1, rBs.keep hk hs h2⟩

/-- A block of 100 bytes that may be written. -/
def Scr (w : World) (g : Nat) : Prop := ∀ j, j < 100 → (∃ z : Int, w.cell? ⟨g, j, none⟩ = some (.int .u8 z)) ∧ w.frozen? ⟨g, j, none⟩ = false

theorem PayAt.scr {B : Nat} {w : World} {g : Nat} {l : List UInt8} (h : PayAt B w g l) : Scr w g := fun j hj => by
  have hl := h.len
  obtain ⟨x, hx⟩ : ∃ x, l[j]? = some x := ⟨_, List.getElem?_eq_getElem (by omega)⟩
  have h1 := h.cells j _ (pc_get hx)
  have h2 := (h.there j hj).2
  rw [Nat.zero_add] at h1 h2
  exact ⟨⟨_, h1⟩, h2⟩

theorem Scr.set {w : World} {g k : Nat} (h : Scr w g) (hk : k < 100) (u : Int) : Scr (w.setCell ⟨g, k, none⟩ (.int .u8 u)) g := fun j hj => by
  refine ⟨?_, by rw [World.frozen?_setCell]; exact (h j hj).2⟩
  by_cases e : j = k
  · subst e
    obtain ⟨z, hz⟩ := (h j hj).1
    exact ⟨u, World.cell?_setCell_same _ _ _ hz⟩
  · obtain ⟨z, hz⟩ := (h j hj).1
    exact ⟨z, by rw [World.cell?_setCell_other _ _ _ _ (fun h => e (congrArg Addr.off h).symm)]; exact hz⟩

theorem Scr.below {w w' : World} {g : Nat} (h : Scr w g) (hg : g < w.heap.size) (hb : Below w.heap.size w w') : Scr w' g := fun j hj => by
  obtain ⟨⟨z, hz⟩, hf⟩ := h j hj
  refine ⟨⟨z, (hb.cell (p := ⟨g, j, none⟩) hg).trans hz⟩, ?_⟩
  unfold World.frozen? at hf ⊢
  rw [hb.block g hg]; exact hf

section
variable {w : World} {fb pb : Nat} {B : DB} {n N : Nat} {P Q : List (List UInt8)} {d : DK} {F : Nat → Prop}

theorem IsFile.drewN {f : PF} (h : IsFile w fb B f) (m : Nat) : IsFile (w.drewN m) fb B f := h.keep (F := fun _ => False) ((Chg.refl _ _).drewN m) (fun h => h)

theorem chg_fresh {G : Nat → Prop} {w1 w2 : World} (h : Chg G w w1) (k : Chg (fun b => w.heap.size ≤ b) w1 w2) : Chg G w w2 :=
  ⟨k.os.trans h.os, k.tape.trans h.tape, k.output.trans h.output, Nat.le_trans h.size k.size, fun b hb hF => (k.block b (Nat.lt_of_lt_of_le hb h.size) (by omega)).trans (h.block b hb hF)⟩

theorem PTurns.store {w' : World} {f : PF} {g k : Nat} (h : PTurns fb B w w' f d) (hd : IsDisk w B d) (hw : w.heap.size ≤ g) (hfb : fb < w.heap.size) (u : Value) : PTurns fb B w (w'.setCell ⟨g, k, none⟩ u) f d := by
  have hc : Chg (fun b => b = g) w' (w'.setCell ⟨g, k, none⟩ u) := Chg.setCell _ _ rfl
  refine ⟨h.1.keep hc (by omega), h.2.1.keep hc (fun b hb e => ?_), chg_fresh h.2.2 (Chg.setCell _ _ hw)⟩
  have := hd.lt
  rcases hb with rfl | rfl | rfl <;> omega

/-- Payloads, one by one. -/
theorem pays_ext (hP : Pays n P) (hQ : Pays n Q) (h : ∀ j, j < n → Q.getD j [] = P.getD j []) : Q = P := by
  apply List.ext_getElem?
  intro j
  have h1 := hP.len
  have h2 := hQ.len
  by_cases hj : j < n
  · have := h j hj
    rw [List.getD_eq_getElem?_getD, List.getD_eq_getElem?_getD, List.getElem?_eq_getElem (by omega), List.getElem?_eq_getElem (by omega)] at this
    rw [List.getElem?_eq_getElem (by omega), List.getElem?_eq_getElem (by omega)]
    exact congrArg some this
  · rw [List.getElem?_eq_none (by omega), List.getElem?_eq_none (by omega)]

set_option maxRecDepth 100000 in
set_option maxHeartbeats 4000000 in
theorem reads36 (hf : IsFile w fb B ⟨n, false⟩) (hd : IsDisk w B d) (hc : Clean n N Q d) (hp : IsPages w F pb P) (hP : Pays n P) (hF : ∀ b, F b → ¬ (B.has b ∨ b = fb)) :
    Calls Tryd.prog 24 #[pfPtr fb, .pointer (some ⟨pb, 0, none⟩)] w fun e w' => e = .returned (.bool (decide (Q = P))) ∧ PTurns fb B w w' ⟨n, false⟩ d := by
  obtain ⟨sv, c0, hsv⟩ := hp.at_
  obtain ⟨sa, sc, rfl, _⟩ := bs_get hsv
  have hpos := hc.pos
  have hPl := hP.len
  have hfl := hf.lt
  have hpl := hp.lt
  have HP := Lib.hid hp
  have HPP := Lib.hid hP
  have HC := Lib.hid hc
  have HD := Lib.hid hd
  have HFF := Lib.hid hF
  have HT0 := Lib.hid (PTurns.refl hf hd)
  have HSV := Lib.hid hsv
  have hnn : 0 ≤ (n : Int) ∧ (n : Int) ≤ 4096 := by omega
  rw [hPl] at c0
  generalize hq : decide (Q = P) = q at *
  have HQ := Lib.hid hq
  clear hq hp hP hc hd hF hsv hf
  unfold pfPtr at *
  go_enter Tryd.func24, Tryd.ntmps24
  go_wp2_with fail
  have INIT := Lib.hid (show w.drew.cell? ⟨pb, 0, none⟩ = some (.slice sa n sc) ∧ w.heap.size ≤ w.drew.heap.size from ⟨c0, Nat.le_refl _⟩)
  go_region_held3 (fun W => W.cell? ⟨pb, 0, none⟩ = some (.slice sa n sc) ∧ w.heap.size ≤ W.heap.size) (first | assumption | exact INIT.out)
    (first | (go_at_call 23; refine (pf_cap (HT0.out.1.keep (Chg.of_below (Below.refl _ _).drew (F := fun _ => False)) (fun h => h))).mono ?_; rintro e wJ ⟨rfl, rfl⟩) | fail)
  have HB := Lib.hid (show Below w.heap.size w w.drew from (Below.refl _ _).drew)
  clear INIT
  generalize w.drew = wq at HB ⊢
  have HTQ := Lib.hid (HT0.out.of_below HB.out)
  have c1 := (HB.out.cell (p := ⟨pb, 0, none⟩) hpl).trans c0
  clear c0
  go_wp2
  go_loopg [22] n (fun gk t22 wr => ∃ i : Nat, i ≤ n ∧ gk + i = n ∧ t22 = .int .i64 (i : Int) ∧ PTurns fb B w wr ⟨n, false⟩ d ∧ ∀ j, j < i → Q.getD j [] = P.getD j [])
  case atStart => exact ⟨0, by omega, by omega, rfl, HTQ.out, fun j hj => by omega⟩
  case round =>
    obtain ⟨i, hi, hgk, rfl, hT, hE⟩ := hrel
    have HGK := Lib.hid hgk
    have HT := Lib.hid hT
    have HE := Lib.hid hE
    clear hgk hT hE
    by_cases hin : i < n
    · have hd1 : decide ((i : Int) < (n : Int)) = true := by simp; omega
      have i0 : (0 : Int) ≤ (i : Int) := by omega
      have i1 : (i : Int) < (n : Int) := by omega
      have i2 : (i : Int) ≤ 4096 := by omega
      have hdn : PF.down ⟨n, false⟩ d = false := by unfold PF.down; rw [HC.out.up]; rfl
      have he : pfErr ⟨n, false⟩ d i = 0 := by
        unfold pfErr
        rw [hdn, if_neg (by simp), if_neg (by show ¬ ((i : Int) < 0 ∨ (n : Int) ≤ (i : Int)); omega)]
      have HDN := Lib.hid (And.intro hdn he)
      clear hdn he
      go_wp2_with fail
      refine (pf_Read HT.out.1 HT.out.2.1 (i : Int) (wf_small (by omega)) (by rw [HC.out.len]; show n ≤ N; omega)).mono ?_
      rintro e w1 ⟨v, rfl, hG, hT1⟩
      rw [HDN.out.1] at hT1
      obtain ⟨g, rfl, hPA⟩ := hG.1 HDN.out.2
      rw [HDN.out.2]
      rw [Int.toNat_natCast, HC.out.pay hin] at hPA
      have HT1 := Lib.hid (HT.out.trans hT1)
      have HPA := Lib.hid hPA
      have hgw : w.heap.size ≤ g := Nat.le_trans HT.out.2.2.size hPA.ge
      have HP1 := Lib.hid (show IsPages w1 F pb P from HP.out.keep (fun b hb hl => HT1.out.2.2.block b hl (HFF.out b hb)) HT1.out.2.2.size)
      obtain ⟨sv1, d0, hsv1⟩ := HP1.out.at_
      obtain ⟨sa1, sc1, rfl, hget⟩ := bs_get hsv1
      obtain ⟨p, hpi⟩ : ∃ p, P[i]? = some p := ⟨_, List.getElem?_eq_getElem (by omega)⟩
      obtain ⟨gp, op, up, rfl, hgpl, d1, hup⟩ := hget i p hpi
      obtain ⟨ua, uc, rfl⟩ := Sl.len (data_of hup)
      rw [hPl] at d0
      have HUP := Lib.hid (data_of hup)
      have hpD : P.getD i [] = p := by rw [List.getD_eq_getElem?_getD, hpi]; rfl
      have HPD := Lib.hid hpD
      clear hG hT1 hPA hsv1 hget hpi hup hpD
      generalize hqi : Q.getD i [] = qi at *
      have HQI := Lib.hid hqi
      have hpl100 : p.length = 100 := by have := HPP.out.each i hin; rwa [HPD.out] at this
      rw [hpl100] at d1 HUP
      clear hqi
      go_wp2_with fail
      refine region_all (by kernel_rfl) (by kernel_rfl) ?_
      intro wD hWD
      have e0 : wD.cell? ⟨pb, 0, none⟩ = some (.slice (some ⟨gp, op, none⟩) n sc1) := by rw [hWD]; exact d0
      have e1 : wD.cell? ⟨gp, op + i, none⟩ = some (.slice ua 100 uc) := by rw [hWD]; exact d1
      have hBD : Below w1.heap.size w1 wD := by rw [hWD]; exact (Below.refl _ _).drew
      have cA := convert_data (HPA.out.data.keep hBD)
      have cB := convert_data (HUP.out.keep hBD)
      have HTX := Lib.hid (txt_eq qi p)
      have HTD := Lib.hid (HT1.out.of_below hBD)
      have HSC := Lib.hid (HPA.out.scr.below HPA.out.lt hBD)
      have HGL := Lib.hid (show g < wD.heap.size from Nat.lt_of_lt_of_le HPA.out.lt hBD.size)
      unfold txt at cA cB
      clear hWD d0 d1 hBD
      generalize (⟨qi.toArray⟩ : ByteArray) = s1 at *
      generalize (⟨p.toArray⟩ : ByteArray) = s2 at *
      by_cases heq : qi = p
      · have hx : (s1.toList == s2.toList) = true := by rw [HTX.out]; exact decide_eq_true heq
        iterate 15 (refine stillH_want (by kernel_rfl) (fun K hK => ?_); go_simp; refine hK _ ?_; clear hK K)
        refine stillH_nil ?_
        have HE2 := Lib.hid (show ∀ j, j < i + 1 → Q.getD j [] = P.getD j [] from fun j hj => by
          by_cases hji : j = i
          · rw [hji, HQI.out, HPD.out, heq]
          · exact HE.out j (by omega))
        have HW := Lib.hid hgw
        clear e0 e1 cA cB HTX hx heq HUP
        go_wp2
        generalize hgk0 : gk = gk0 at *
        generalize hwr0 : wr = wr0 at *
        clear hgk0 hwr0
        go_loopg [48] 100 (fun gk2 t wr2 => ∃ k : Nat, k ≤ 100 ∧ gk2 + k = 100 ∧ t = .int .i64 (k : Int) ∧ PTurns fb B w wr2 ⟨n, false⟩ d ∧ Scr wr2 g ∧ g < wr2.heap.size)
        case atStart => exact ⟨0, by omega, by omega, rfl, HTD.out, HSC.out, HGL.out⟩
        case round =>
          obtain ⟨k, hk, hgk2, rfl, hT2, hS2, hg2⟩ := hrel
          have HGK2 := Lib.hid hgk2
          have HT2 := Lib.hid hT2
          have HS2 := Lib.hid hS2
          have HG2 := Lib.hid hg2
          clear hgk2 hT2 hS2 hg2
          by_cases hk1 : k < 100
          · have hd3 : decide ((k : Int) < 100) = true := by simp; omega
            obtain ⟨⟨z, hz⟩, hfz⟩ := HS2.out k hk1
            have k0 : (0 : Int) ≤ (k : Int) := by omega
            have k1 : (k : Int) < 100 := by omega
            have HST := Lib.hid (show ∀ u : Int, PTurns fb B w (wr.setCell ⟨g, k, none⟩ (.int .u8 u)) ⟨n, false⟩ d from fun u => HT2.out.store HD.out HW.out hfl _)
            have HSS := Lib.hid (show ∀ u : Int, Scr (wr.setCell ⟨g, k, none⟩ (.int .u8 u)) g from fun u => HS2.out.set hk1 u)
            have HSG := Lib.hid (show ∀ u : Int, g < (wr.setCell ⟨g, k, none⟩ (.int .u8 u)).heap.size from fun u => by simpa using HG2.out)
            go_wp2
            go_roundg (gk - 1)
            case rel => exact ⟨k + 1, by omega, by have := HGK2.out; omega, rfl, HST.out _, HSS.out _, HSG.out _⟩
            case measure => have := HGK2.out; omega
          · have hd3 : decide ((k : Int) < 100) = false := by simp; omega
            go_wp2
            go_roundg (gk0 - 1)
            case rel => exact ⟨i + 1, by omega, by have := HGK.out; omega, by go_num, HT2.out, HE2.out⟩
            case measure => have := HGK.out; omega
      · have hx : (s1.toList == s2.toList) = false := by rw [HTX.out]; exact decide_eq_false heq
        have hqf : q = false := by
          rw [← HQ.out]
          refine decide_eq_false fun e => heq ?_
          rw [← HQI.out, ← HPD.out, e]
        iterate 15 (refine stillH_want (by kernel_rfl) (fun K hK => ?_); go_simp; refine hK _ ?_; clear hK K)
        refine stillH_nil ?_
        have HQF := Lib.hid hqf
        clear e0 e1 cA cB HTX heq HUP hqf
        go_wp2
        go_ret
        exact ⟨by rw [HQF.out]; rfl, HTD.out⟩
    · have hd1 : decide ((i : Int) < (n : Int)) = false := by simp; omega
      obtain rfl : i = n := by omega
      have hqt : q = true := by rw [← HQ.out]; exact decide_eq_true (pays_ext HPP.out HC.out.pays HE.out)
      go_wp2
      go_ret
      exact ⟨by rw [hqt]; rfl, HT.out⟩
end
end Go.Proofs.YtngddhoolijimaaDoor
