/-
  Merged: PgA, PgB, PgC.
-/
import Derived.Test.YtngddhoolijimaaDoorPfO
import Derived.Deep.QuietTactic
import Derived.BigQuiet
import Derived.Deep.RegionLaw
namespace Go.Proofs.YtngddhoolijimaaDoor
open Go.RowKit
set_option linter.unusedVariables false

/-- The reference's payloads, in memory. -/
structure IsPages (w : World) (F : Nat → Prop) (pb : Nat) (P : List (List UInt8)) : Prop where
  mem : F pb
  lt : pb < w.heap.size
  at_ : ∃ sv, w.cell? ⟨pb, 0, none⟩ = some sv ∧ rBs.rd w F [sv] P

theorem IsPages.keep {w w' : World} {F : Nat → Prop} {pb : Nat} {P : List (List UInt8)} (h : IsPages w F pb P) (hk : Kept F w w') (hs : w.heap.size ≤ w'.heap.size) : IsPages w' F pb P := by
  obtain ⟨sv, h1, h2⟩ := h.at_
  exact ⟨h.mem, Nat.lt_of_lt_of_le h.lt hs, sv, (World.cell?_of_block (a := ⟨pb, 0, none⟩) (hk pb h.mem h.lt)).trans h1, rBs.keep hk hs h2⟩

/-- A block of 100 bytes that may be written. -/
def Scr (w : World) (g : Nat) : Prop := ∀ j, j < 100 → (∃ z : Int, w.cell? ⟨g, j, none⟩ = some (.int .u8 z)) ∧ w.frozen? ⟨g, j, none⟩ = false

theorem PayAt.scr {B : Nat} {w : World} {g : Nat} {l : List UInt8} (h : PayAt B w g l) : Scr w g := fun j hj => by
  have hl := h.len
  obtain ⟨x, hx⟩ : ∃ x, l[j]? = some x := ⟨_, List.getElem?_eq_getElem (by omega)⟩
  have h1 := h.cells j _ (pc_get hx)
  have h2 := (h.there j hj).2
  rw [Nat.zero_add] at h1 h2
  exact ⟨⟨_, h1⟩, h2⟩

theorem Scr.set {w : World} {g k : Nat} (h : Scr w g) (hk : k < 100) (u : Int) : Scr (w.setCell ⟨g, k, none⟩ (.int .u8 u)) g := fun j hj => by
  refine ⟨?_, by rw [World.frozen?_setCell]; exact (h j hj).2⟩
  by_cases e : j = k
  · subst e
    obtain ⟨z, hz⟩ := (h j hj).1
    exact ⟨u, World.cell?_setCell_same _ _ _ hz⟩
  · obtain ⟨z, hz⟩ := (h j hj).1
    exact ⟨z, by rw [World.cell?_setCell_other _ _ _ _ (fun h => e (congrArg Addr.off h).symm)]; exact hz⟩

theorem Scr.below {w w' : World} {g : Nat} (h : Scr w g) (hg : g < w.heap.size) (hb : Below w.heap.size w w') : Scr w' g := fun j hj => by
  obtain ⟨⟨z, hz⟩, hf⟩ := h j hj
  refine ⟨⟨z, (hb.cell (p := ⟨g, j, none⟩) hg).trans hz⟩, ?_⟩
  unfold World.frozen? at hf ⊢
  rw [hb.block g hg]; exact hf

section
variable {w : World} {fb pb : Nat} {B : DB} {n N : Nat} {P Q : List (List UInt8)} {d : DK} {F : Nat → Prop}

theorem IsFile.drewN {f : PF} (h : IsFile w fb B f) (m : Nat) : IsFile (w.drewN m) fb B f := h.keep (F := fun _ => False) ((Chg.refl _ _).drewN m) (fun h => h)

theorem chg_fresh {G : Nat → Prop} {w1 w2 : World} (h : Chg G w w1) (k : Chg (fun b => w.heap.size ≤ b) w1 w2) : Chg G w w2 :=
  ⟨k.os.trans h.os, k.tape.trans h.tape, k.output.trans h.output, Nat.le_trans h.size k.size, fun b hb hF => (k.block b (Nat.lt_of_lt_of_le hb h.size) (by omega)).trans (h.block b hb hF)⟩

theorem PTurns.store {w' : World} {f : PF} {g k : Nat} (h : PTurns fb B w w' f d) (hd : IsDisk w B d) (hw : w.heap.size ≤ g) (hfb : fb < w.heap.size) (u : Value) : PTurns fb B w (w'.setCell ⟨g, k, none⟩ u) f d := by
  have hc : Chg (fun b => b = g) w' (w'.setCell ⟨g, k, none⟩ u) := Chg.setCell _ _ rfl
  refine ⟨h.1.keep hc (by omega), h.2.1.keep hc (fun b hb e => ?_), chg_fresh h.2.2 (Chg.setCell _ _ hw)⟩
  have := hd.lt
  rcases hb with rfl | rfl | rfl <;> omega

/-- Payloads, one by one. -/
theorem pays_ext (hP : Pays n P) (hQ : Pays n Q) (h : ∀ j, j < n → Q.getD j [] = P.getD j []) : Q = P := by
  apply List.ext_getElem?
  intro j
  have h1 := hP.len
  have h2 := hQ.len
  by_cases hj : j < n
  · have := h j hj
    rw [List.getD_eq_getElem?_getD, List.getD_eq_getElem?_getD, List.getElem?_eq_getElem (by omega), List.getElem?_eq_getElem (by omega)] at this
    rw [List.getElem?_eq_getElem (by omega), List.getElem?_eq_getElem (by omega)]
    exact congrArg some this
  · rw [List.getElem?_eq_none (by omega), List.getElem?_eq_none (by omega)]

set_option maxRecDepth 100000 in
set_option maxHeartbeats 4000000 in
theorem reads36 (hf : IsFile w fb B ⟨n, false⟩) (hd : IsDisk w B d) (hc : Clean n N Q d) (hp : IsPages w F pb P) (hP : Pays n P) (hF : ∀ b, F b → ¬ (B.has b ∨ b = fb)) :
    Calls Tryd.prog 24 #[pfPtr fb, .pointer (some ⟨pb, 0, none⟩)] w fun e w' => e = .returned (.bool (decide (Q = P))) ∧ PTurns fb B w w' ⟨n, false⟩ d := by
  obtain ⟨sv, c0, hsv⟩ := hp.at_
  obtain ⟨sa, sc, rfl, _⟩ := bs_get hsv
  have hpos := hc.pos
  have hPl := hP.len
  have hfl := hf.lt
  have hpl := hp.lt
  have HP := Lib.hid hp
  have HPP := Lib.hid hP
  have HC := Lib.hid hc
  have HD := Lib.hid hd
  have HFF := Lib.hid hF
  have HT0 := Lib.hid (PTurns.refl hf hd)
  have HSV := Lib.hid hsv
  have hnn : 0 ≤ (n : Int) ∧ (n : Int) ≤ 4096 := by omega
  rw [hPl] at c0
  generalize hq : decide (Q = P) = q at *
  have HQ := Lib.hid hq
  clear hq hp hP hc hd hF hsv hf
  unfold pfPtr at *
  go_enter Tryd.func24, Tryd.ntmps24
  go_wp2_with fail
  have INIT := Lib.hid (show w.drew.cell? ⟨pb, 0, none⟩ = some (.slice sa n sc) ∧ w.heap.size ≤ w.drew.heap.size from ⟨c0, Nat.le_refl _⟩)
  go_region_held3 (fun W => W.cell? ⟨pb, 0, none⟩ = some (.slice sa n sc) ∧ w.heap.size ≤ W.heap.size) (first | assumption | exact INIT.out)
    (first | (go_at_call 23; refine (pf_cap (HT0.out.1.keep (Chg.of_below (Below.refl _ _).drew (F := fun _ => False)) (fun h => h))).mono ?_; rintro e wJ ⟨rfl, rfl⟩) | fail)
  have HB := Lib.hid (show Below w.heap.size w w.drew from (Below.refl _ _).drew)
  clear INIT
  generalize w.drew = wq at HB ⊢
  have HTQ := Lib.hid (HT0.out.of_below HB.out)
  have c1 := (HB.out.cell (p := ⟨pb, 0, none⟩) hpl).trans c0
  clear c0
  go_wp2
  go_loopg [22] n (fun gk t22 wr => ∃ i : Nat, i ≤ n ∧ gk + i = n ∧ t22 = .int .i64 (i : Int) ∧ PTurns fb B w wr ⟨n, false⟩ d ∧ ∀ j, j < i → Q.getD j [] = P.getD j [])
  case atStart => exact ⟨0, by omega, by omega, rfl, HTQ.out, fun j hj => by omega⟩
  case round =>
    obtain ⟨i, hi, hgk, rfl, hT, hE⟩ := hrel
    have HGK := Lib.hid hgk
    have HT := Lib.hid hT
    have HE := Lib.hid hE
    clear hgk hT hE
    by_cases hin : i < n
    · have hd1 : decide ((i : Int) < (n : Int)) = true := by simp; omega
      have i0 : (0 : Int) ≤ (i : Int) := by omega
      have i1 : (i : Int) < (n : Int) := by omega
      have i2 : (i : Int) ≤ 4096 := by omega
      have hdn : PF.down ⟨n, false⟩ d = false := by unfold PF.down; rw [HC.out.up]; rfl
      have he : pfErr ⟨n, false⟩ d i = 0 := by
        unfold pfErr
        rw [hdn, if_neg (by simp), if_neg (by show ¬ ((i : Int) < 0 ∨ (n : Int) ≤ (i : Int)); omega)]
      have HDN := Lib.hid (And.intro hdn he)
      clear hdn he
      go_wp2_with fail
      refine (pf_Read HT.out.1 HT.out.2.1 (i : Int) (wf_small (by omega)) (by rw [HC.out.len]; show n ≤ N; omega)).mono ?_
      rintro e w1 ⟨v, rfl, hG, hT1⟩
      rw [HDN.out.1] at hT1
      obtain ⟨g, rfl, hPA⟩ := hG.1 HDN.out.2
      rw [HDN.out.2]
      rw [Int.toNat_natCast, HC.out.pay hin] at hPA
      have HT1 := Lib.hid (HT.out.trans hT1)
      have HPA := Lib.hid hPA
      have hgw : w.heap.size ≤ g := Nat.le_trans HT.out.2.2.size hPA.ge
      have HP1 := Lib.hid (show IsPages w1 F pb P from HP.out.keep (fun b hb hl => HT1.out.2.2.block b hl (HFF.out b hb)) HT1.out.2.2.size)
      obtain ⟨sv1, d0, hsv1⟩ := HP1.out.at_
      obtain ⟨sa1, sc1, rfl, hget⟩ := bs_get hsv1
      obtain ⟨p, hpi⟩ : ∃ p, P[i]? = some p := ⟨_, List.getElem?_eq_getElem (by omega)⟩
      obtain ⟨gp, op, up, rfl, hgpl, d1, hup⟩ := hget i p hpi
      obtain ⟨ua, uc, rfl⟩ := Sl.len (data_of hup)
      rw [hPl] at d0
      have HUP := Lib.hid (data_of hup)
      have hpD : P.getD i [] = p := by rw [List.getD_eq_getElem?_getD, hpi]; rfl
      have HPD := Lib.hid hpD
      clear hG hT1 hPA hsv1 hget hpi hup hpD
      generalize hqi : Q.getD i [] = qi at *
      have HQI := Lib.hid hqi
      have hpl100 : p.length = 100 := by have := HPP.out.each i hin; rwa [HPD.out] at this
      rw [hpl100] at d1 HUP
      clear hqi
      go_wp2_with fail
      refine region_all (by kernel_rfl) (by kernel_rfl) ?_
      intro wD hWD
      have e0 : wD.cell? ⟨pb, 0, none⟩ = some (.slice (some ⟨gp, op, none⟩) n sc1) := by rw [hWD]; exact d0
      have e1 : wD.cell? ⟨gp, op + i, none⟩ = some (.slice ua 100 uc) := by rw [hWD]; exact d1
      have hBD : Below w1.heap.size w1 wD := by rw [hWD]; exact (Below.refl _ _).drew
      have cA := convert_data (HPA.out.data.keep hBD)
      have cB := convert_data (HUP.out.keep hBD)
      have HTX := Lib.hid (txt_eq qi p)
      have HTD := Lib.hid (HT1.out.of_below hBD)
      have HSC := Lib.hid (HPA.out.scr.below HPA.out.lt hBD)
      have HGL := Lib.hid (show g < wD.heap.size from Nat.lt_of_lt_of_le HPA.out.lt hBD.size)
      unfold txt at cA cB
      clear hWD d0 d1 hBD
      generalize (⟨qi.toArray⟩ : ByteArray) = s1 at *
      generalize (⟨p.toArray⟩ : ByteArray) = s2 at *
      by_cases heq : qi = p
      · have hx : (s1.toList == s2.toList) = true := by rw [HTX.out]; exact decide_eq_true heq
        iterate 15 (refine stillH_want (by kernel_rfl) (fun K hK => ?_); go_simp; refine hK _ ?_; clear hK K)
        refine stillH_nil ?_
        have HE2 := Lib.hid (show ∀ j, j < i + 1 → Q.getD j [] = P.getD j [] from fun j hj => by
          by_cases hji : j = i
          · rw [hji, HQI.out, HPD.out, heq]
          · exact HE.out j (by omega))
        have HW := Lib.hid hgw
        clear e0 e1 cA cB HTX hx heq HUP
        go_wp2
        generalize hgk0 : gk = gk0 at *
        generalize hwr0 : wr = wr0 at *
        clear hgk0 hwr0
        go_loopg [48] 100 (fun gk2 t wr2 => ∃ k : Nat, k ≤ 100 ∧ gk2 + k = 100 ∧ t = .int .i64 (k : Int) ∧ PTurns fb B w wr2 ⟨n, false⟩ d ∧ Scr wr2 g ∧ g < wr2.heap.size)
        case atStart => exact ⟨0, by omega, by omega, rfl, HTD.out, HSC.out, HGL.out⟩
        case round =>
          obtain ⟨k, hk, hgk2, rfl, hT2, hS2, hg2⟩ := hrel
          have HGK2 := Lib.hid hgk2
          have HT2 := Lib.hid hT2
          have HS2 := Lib.hid hS2
          have HG2 := Lib.hid hg2
          clear hgk2 hT2 hS2 hg2
          by_cases hk1 : k < 100
          · have hd3 : decide ((k : Int) < 100) = true := by simp; omega
            obtain ⟨⟨z, hz⟩, hfz⟩ := HS2.out k hk1
            have k0 : (0 : Int) ≤ (k : Int) := by omega
            have k1 : (k : Int) < 100 := by omega
            have HST := Lib.hid (show ∀ u : Int, PTurns fb B w (wr.setCell ⟨g, k, none⟩ (.int .u8 u)) ⟨n, false⟩ d from fun u => HT2.out.store HD.out HW.out hfl _)
            have HSS := Lib.hid (show ∀ u : Int, Scr (wr.setCell ⟨g, k, none⟩ (.int .u8 u)) g from fun u => HS2.out.set hk1 u)
            have HSG := Lib.hid (show ∀ u : Int, g < (wr.setCell ⟨g, k, none⟩ (.int .u8 u)).heap.size from fun u => by simpa using HG2.out)
            go_wp2
            go_roundg (gk - 1)
            case rel => exact ⟨k + 1, by omega, by have := HGK2.out; omega, rfl, HST.out _, HSS.out _, HSG.out _⟩
            case measure => have := HGK2.out; omega
          · have hd3 : decide ((k : Int) < 100) = false := by simp; omega
            go_wp2
            go_roundg (gk0 - 1)
            case rel => exact ⟨i + 1, by omega, by have := HGK.out; omega, by go_num, HT2.out, HE2.out⟩
            case measure => have := HGK.out; omega
      · have hx : (s1.toList == s2.toList) = false := by rw [HTX.out]; exact decide_eq_false heq
        have hqf : q = false := by
          rw [← HQ.out]
          refine decide_eq_false fun e => heq ?_
          rw [← HQI.out, ← HPD.out, e]
        iterate 15 (refine stillH_want (by kernel_rfl) (fun K hK => ?_); go_simp; refine hK _ ?_; clear hK K)
        refine stillH_nil ?_
        have HQF := Lib.hid hqf
        clear e0 e1 cA cB HTX heq HUP hqf
        go_wp2
        go_ret
        exact ⟨by rw [HQF.out]; rfl, HTD.out⟩
    · have hd1 : decide ((i : Int) < (n : Int)) = false := by simp; omega
      obtain rfl : i = n := by omega
      have hqt : q = true := by rw [← HQ.out]; exact decide_eq_true (pays_ext HPP.out HC.out.pays HE.out)
      go_wp2
      go_ret
      exact ⟨by rw [hqt]; rfl, HT.out⟩
end
end Go.Proofs.YtngddhoolijimaaDoor
namespace Go.Proofs.YtngddhoolijimaaDoor
open Go.RowKit
set_option linter.unusedVariables false
set_option linter.unusedSimpArgs false

theorem make100 (W : World) : Sem.run Tryd.prog (Instr.makeSlice 25 (.int .i64 100) (.int .i64 100)) W = .ok (.slice (some ⟨W.heap.size, 0, none⟩) 100 100) (W.alloc (.cells zero100.toArray 5)) := by
  obtain ⟨i0, hi0, hz0, hz1, hz2⟩ := info_parts byte_info2
  have h := run_makeSlice (P := Tryd.prog) W 25 5 i0 (.int .u8 0) Tryd.underlying25 hi0 hz0 .i64 .i64 100 100 (by omega) (by omega) (by rw [hz1]; decide) (by rw [hz2]; decide) (by decide)
  rw [h, hz1]
  have : madeCells (Value.int .u8 0).cells ((100 : Int).toNat * 1) = zero100.toArray := by
    apply Array.toList_inj.1
    rw [show (Value.int .u8 0).cells = #[.int .u8 0] from rfl, made_one]; rfl
  rw [this]; rfl

theorem heap_two (w : World) (o1 o2 : Obj) : ((w.alloc o1).alloc o2).drew.heap[w.heap.size]? = some o1 := by
  show ((w.heap.push o1).push o2)[w.heap.size]? = _
  simp [Array.getElem?_push]

/-- Payloads that are being laid. -/
structure Lays (w wr : World) (k : Nat) (v : Value) (xs : List Value) : Prop where
  bel : Below w.heap.size w wr
  lt : w.heap.size < wr.heap.size
  cell : wr.cell? ⟨w.heap.size, 0, none⟩ = some v
  fr : wr.frozen? ⟨w.heap.size, 0, none⟩ = false
  own : wr.ownsRow (w.heap.size + 1) 25 1 v k xs
  at_ : ∀ (j : Nat) (u : Value), xs[j]? = some u → ∃ g, u = plv g ∧ w.heap.size < g ∧ wr.heap[g]? = some (.cells zero100.toArray 5 (0, 0))

theorem Lays.step {w wr w1 : World} {k : Nat} {v v1 : Value} {xs : List Value} {o2 : Obj} (h : Lays w wr k v xs) (hown : w1.ownsRow (w.heap.size + 1) 25 1 v1 (k + 1) (xs ++ [plv wr.heap.size])) (hg : ((wr.alloc (.cells zero100.toArray 5)).alloc o2).drew.grownBy w1 v.ownBlock) :
    Lays w (w1.setCell ⟨w.heap.size, 0, none⟩ v1) (k + 1) v1 (xs ++ [plv wr.heap.size]) ∧ w1.cell? ⟨w.heap.size, 0, none⟩ = some v ∧ w1.frozen? ⟨w.heap.size, 0, none⟩ = false := by
  have hbase := own_base h.own
  have hlt := h.lt
  have hsz := hg.size
  simp only [show ∀ W : World, W.drew.heap.size = W.heap.size from fun _ => rfl, World.size_alloc] at hsz
  have old : ∀ b, b < wr.heap.size → some b ≠ v.ownBlock → w1.heap[b]? = wr.heap[b]? := fun b hb hne => by
    rw [hg.block b (by show b < ((wr.alloc _).alloc _).heap.size; simp; omega) hne]
    show ((wr.alloc _).alloc _).heap[b]? = _
    rw [heap_alloc_old _ _ (by simp; omega), heap_alloc_old _ _ hb]
  have h0 : some w.heap.size ≠ v.ownBlock := fun e => by have := hbase _ e.symm; omega
  have hb0 := old w.heap.size hlt h0
  have hc1 : w1.cell? ⟨w.heap.size, 0, none⟩ = some v := (World.cell?_of_block (a := ⟨w.heap.size, 0, none⟩) hb0).trans h.cell
  have hf1 : w1.frozen? ⟨w.heap.size, 0, none⟩ = false := by
    have := h.fr
    unfold World.frozen? at this ⊢
    rw [show w1.heap[(⟨w.heap.size, 0, none⟩ : Addr).block]? = _ from hb0]; exact this
  have hch : Chg (fun b => b = w.heap.size) w1 (w1.setCell ⟨w.heap.size, 0, none⟩ v1) := Chg.setCell _ _ rfl
  refine ⟨⟨?_, by simp; omega, World.cell?_setCell_same _ _ _ hc1, by rw [World.frozen?_setCell]; exact hf1, own_chg hown hch (fun b hb e => by have := own_base hown b hb; omega), fun j u hu => ?_⟩, hc1, hf1⟩
  · have hb : Below w.heap.size w w1 := h.bel.trans ⟨hg.os, hg.tape, hg.output, by omega, fun b hb => old b (by omega) (fun e => by have := hbase _ e.symm; omega)⟩
    exact hb.setCell (Nat.le_refl _) _
  · have hl : xs.length = k := by have := h.own.1; omega
    have hset : ∀ g, g ≠ w.heap.size → g < w1.heap.size → (w1.setCell ⟨w.heap.size, 0, none⟩ v1).heap[g]? = w1.heap[g]? := fun g hne hl => hch.block g hl hne
    by_cases hj : j < xs.length
    · rw [List.getElem?_append_left hj] at hu
      obtain ⟨g, e, hgw, hg2⟩ := h.at_ j u hu
      have hgl := (Array.getElem?_eq_some_iff.1 hg2).1
      refine ⟨g, e, hgw, ?_⟩
      rw [hset g (by omega) (by omega), old g hgl (row_block h.own (by decide) hg2)]
      exact hg2
    · rw [List.getElem?_append_right (by omega)] at hu
      have hj0 : j - xs.length = 0 := by have := (List.getElem?_eq_some_iff.1 hu).1; rw [List.length_singleton] at this; omega
      rw [hj0] at hu
      obtain rfl : plv wr.heap.size = u := by simpa using hu
      refine ⟨wr.heap.size, rfl, hlt, ?_⟩
      rw [hset _ (by omega) (by omega), hg.block _ (by show wr.heap.size < ((wr.alloc _).alloc _).heap.size; simp; omega) (own_block_lt h.own _ (Nat.le_refl _))]
      exact heap_two _ _ _

theorem pc_zero100 : pc (List.replicate 100 0) = zero100 := by unfold pc zero100; rw [List.map_replicate]; rfl

theorem Lays.pages {w wr : World} {k : Nat} {v : Value} {xs : List Value} (h : Lays w wr k v xs) : IsPages wr (fun b => w.heap.size ≤ b ∧ b < wr.heap.size) w.heap.size (zeroP k) := by
  refine ⟨⟨Nat.le_refl _, h.lt⟩, h.lt, v, h.cell, rd_own h.own ⟨by rw [h.own.1]; rfl, by simp [zeroP], fun i x hx => ?_⟩ (fun b hb hb2 => ⟨by omega, hb2⟩)⟩
  have hi : i < k := by have := (List.getElem?_eq_some_iff.1 hx).1; simpa [zeroP] using this
  have hx2 : x = List.replicate 100 0 := by
    unfold zeroP at hx
    rw [List.getElem?_replicate, if_pos hi] at hx
    exact (Option.some.inj hx).symm
  have hl : i < xs.length := by have := h.own.1; omega
  obtain ⟨g, e, hgw, hg⟩ := h.at_ i _ (List.getElem?_eq_getElem hl)
  have e1 : (rSlice rByte).size = 1 := rfl
  rw [e1, Nat.mul_one, List.drop_eq_getElem_cons hl, List.take_succ_cons, List.take_zero, e, hx2]
  exact rd_pay (by simp) (by rw [pc_zero100]; exact hg) ⟨by omega, (Array.getElem?_eq_some_iff.1 hg).1⟩

set_option maxRecDepth 100000 in
set_option maxHeartbeats 4000000 in
theorem rf_newPages (n : Nat) (hn : n ≤ 4096) (w : World) : Calls Tryd.prog 56 #[.int .i64 (n : Int)] w fun e w' => e = .returned (.pointer (some ⟨w.heap.size, 0, none⟩)) ∧ Below w.heap.size w w' ∧ IsPages w' (fun b => w.heap.size ≤ b ∧ b < w'.heap.size) w.heap.size (zeroP n) := by
  have hmk := make100
  obtain ⟨i0, hi0, hz0, hz1, hz2⟩ := info_parts bs_info
  have hnn : (n : Int) ≤ 4096 := by omega
  go_enter Tryd.func56, Tryd.ntmps56
  go_wp2
  go_loopg [4] n (fun gk t wr => ∃ (k : Nat) (v : Value) (xs : List Value), k ≤ n ∧ gk + k = n ∧ t = .int .i64 (k : Int) ∧ Lays w wr k v xs)
  case atStart =>
    refine ⟨0, .slice none 0 0, [], by omega, by omega, rfl, (Below.refl _ _).alloc (Nat.le_refl _) _, by simp, by go_simp, by go_simp, World.ownsRow_nil _ _ _ _, fun j u hu => by simp at hu⟩
  case round =>
    obtain ⟨k, v, xs, hk, hgk, rfl, hL⟩ := hrel
    have HGK := Lib.hid hgk
    have HL := Lib.hid hL
    have hlr := hL.lt
    have c0 := hL.cell
    have f0 := hL.fr
    obtain ⟨sa, sc, rfl⟩ := own_nil hL.own
    clear hL hgk
    by_cases hkn : k < n
    · have hkd : decide ((k : Int) < (n : Int)) = true := by simp; omega
      have k2 : (k : Int) ≤ 4096 := by omega
      go_wp2_with fail
      go_region_law (first | (refine step_append_sl (by rfl) (.tmp 16) (.tmp 18) 57 (by rfl) (w.heap.size + 1) 25 i0 (.slice none 0 0) 1 24 Tryd.underlying57 hi0 hz0 hz1 hz2 rfl (by decide) (.slice sa k sc) k xs (by simp [Act.eval, Act.put]) ((HL.out.own.alloc _).alloc _) (.slice (some ⟨wr.heap.size + 1, 0, none⟩) 1 1) 1 [.slice (some ⟨wr.heap.size, 0, none⟩) 100 100] (by simp [Act.eval, Act.put]) (by first | exact sl_at (by simp) | exact sl_keep3 (Below.refl _ _).drew (sl_at (by simp))) (fun c h => by cases h) (one_val _ rfl) (by unfold maxLen; omega) (by omega) (by simp; omega) wr (by repeat (first | exact Below.refl _ _ | refine Below.drew ?_ | (refine Below.alloc ?_ (by first | omega | (simp; omega) | simp) _))) ?_; intro v1 w1 hown1 hg1 hb1; obtain ⟨va, vc, rfl⟩ := own_nil hown1; obtain ⟨hLS, j0, j1⟩ := HL.out.step hown1 hg1) | fail)
      all_goals
        have HLS := Lib.hid hLS
        clear hLS hown1 hg1 hb1 j0 j1 c0 f0
        go_wp2
        go_roundg (gk - 1)
        case rel => exact ⟨k + 1, _, _, by omega, by have := HGK.out; omega, by go_num, HLS.out⟩
        case measure => have := HGK.out; omega
    · obtain rfl : k = n := by omega
      have hkd : decide ((k : Int) < (k : Int)) = false := by simp
      go_wp2
      go_ret
      exact ⟨rfl, HL.out.bel, HL.out.pages⟩
end Go.Proofs.YtngddhoolijimaaDoor
namespace Go.Proofs.YtngddhoolijimaaDoor
open Go.RowKit
set_option linter.unusedVariables false

/-- The slices of a slice of slices, as values. -/
theorem bs_open {w : World} {F : Nat → Prop} {v : Value} {l : List (List UInt8)} (h : rBs.rd w F [v] l) : ∃ xs : List Value, Sl w 1 v l.length xs ∧ ∀ (j : Nat) (p : List UInt8), l[j]? = some p → ∃ u, xs[j]? = some u ∧ (rSlice rByte).rd w F [u] p := by
  obtain ⟨a, c, rfl, hg⟩ := bs_get h
  obtain ⟨a', n', c', e, hn', hnc, hcm, h4⟩ := h
  simp only [List.cons.injEq, Value.slice.injEq, and_true] at e
  obtain ⟨rfl, rfl, rfl⟩ := e
  have key : ∀ (m : Nat), m ≤ l.length → ∃ xs : List Value, xs.length = m ∧ (∀ (j : Nat) (u : Value), xs[j]? = some u → ∃ g off, a = some ⟨g, off, none⟩ ∧ g < w.heap.size ∧ w.cell? ⟨g, off + j, none⟩ = some u) ∧ ∀ (j : Nat) (p : List UInt8), j < m → l[j]? = some p → ∃ u, xs[j]? = some u ∧ (rSlice rByte).rd w F [u] p := by
    intro m
    induction m with
    | zero => exact fun _ => ⟨[], rfl, fun j u h => by simp at h, fun j p h => by omega⟩
    | succ m ih =>
      intro hm
      obtain ⟨xs, h1, h2, h3⟩ := ih (by omega)
      obtain ⟨p, hp⟩ : ∃ p, l[m]? = some p := ⟨_, List.getElem?_eq_getElem (by omega)⟩
      obtain ⟨g, off, u, ea, hgl, hc, hu⟩ := hg m p hp
      refine ⟨xs ++ [u], by simp [h1], fun j v hv => ?_, fun j q hj hq => ?_⟩
      · by_cases hj : j < m
        · rw [List.getElem?_append_left (by omega)] at hv
          exact h2 j v hv
        · have hjl := (List.getElem?_eq_some_iff.1 hv).1
          rw [List.length_append, List.length_singleton] at hjl
          obtain rfl : j = m := by omega
          rw [List.getElem?_append_right (by omega), h1, Nat.sub_self] at hv
          obtain rfl : u = v := by simpa using hv
          exact ⟨g, off, ea, hgl, hc⟩
      · by_cases hjm : j < m
        · obtain ⟨u', e1, e2⟩ := h3 j q hjm hq
          exact ⟨u', by rw [List.getElem?_append_left (by omega)]; exact e1, e2⟩
        · obtain rfl : j = m := by omega
          rw [hp] at hq; cases hq
          exact ⟨u, by rw [List.getElem?_append_right (by omega), h1, Nat.sub_self]; rfl, hu⟩
  obtain ⟨xs, h1, h2, h3⟩ := key l.length (Nat.le_refl _)
  refine ⟨xs, ⟨by omega, ?_⟩, fun j p hp => h3 j p (List.getElem?_eq_some_iff.1 hp).1 hp⟩
  rcases h4 with h4 | ⟨b, off, rfl, _, hb, _⟩
  · exact .inl ⟨h4, a, c, by rw [h4]⟩
  · refine .inr ⟨b, off, c, rfl, hnc, hb, fun j u hu => ?_⟩
    obtain ⟨g, o, e, _, hc⟩ := h2 j u hu
    cases e
    exact hc

/-- What a value's slice reads through lies where something is. -/
theorem rd_shrink {w : World} {F : Nat → Prop} {g0 qb B : Nat} {u : Value} {l : List UInt8} (h : (rSlice rByte).rd w (fun b => (F b ∧ b < B) ∨ (B ≤ b ∧ b ≠ g0 ∧ b ≠ qb)) [u] l) : (rSlice rByte).rd w (fun b => (F b ∧ b < B) ∨ (B ≤ b ∧ b < w.heap.size)) [u] l := by
  obtain ⟨a, n, c, e, h1, h2, h3, h4⟩ := h
  exact ⟨a, n, c, e, h1, h2, h3, h4.imp id fun ⟨b, off, ea, hF, hl, hx⟩ => ⟨b, off, ea, hF.imp id (fun h => ⟨h.1, hl⟩), hl, fun i x hi => by
    obtain ⟨ys, k1, k2⟩ := hx i x hi
    exact ⟨ys, k1, k2⟩⟩⟩

theorem rd_shrink' {w : World} {F : Nat → Prop} {u : Value} {l : List UInt8} (h : (rSlice rByte).rd w F [u] l) : (rSlice rByte).rd w (fun b => F b ∧ b < w.heap.size) [u] l := by
  obtain ⟨a, n, c, e, h1, h2, h3, h4⟩ := h
  exact ⟨a, n, c, e, h1, h2, h3, h4.imp id fun ⟨b, off, ea, hF, hl, hx⟩ => ⟨b, off, ea, ⟨hF, hl⟩, hl, fun i x hi => by
    obtain ⟨ys, k1, k2⟩ := hx i x hi
    exact ⟨ys, k1, k2⟩⟩⟩

section
variable {w : World} {pb n : Nat} {F G : Nat → Prop} {P : List (List UInt8)} {l : List (Int × List UInt8)} {wv : Value}

set_option maxRecDepth 100000 in
set_option maxHeartbeats 2000000 in
theorem rf_pagesCheck (hp : IsPages w F pb P) (hP : Pays n P) (hn : n ≤ 4096) (hw : (rSlice rPW).rd w G [wv] l) (hlm : l.length ≤ 100000) :
    Calls Tryd.prog 61 #[.pointer (some ⟨pb, 0, none⟩), wv] w fun e w' => e = .returned (.int .i64 (wrongs n l)) ∧ Below w.heap.size w w' := by
  obtain ⟨sv, c0, hsv⟩ := hp.at_
  obtain ⟨sa, sc, rfl, _⟩ := bs_get hsv
  rw [hP.len] at c0
  obtain ⟨wa, wc, rfl, _⟩ := pw_get hw
  have HW := Lib.hid hw
  have HL := Lib.hid hlm
  have hpl := hp.lt
  have hnb : 0 ≤ (n : Int) ∧ (n : Int) ≤ 4096 := by omega
  generalize hR : wrongs n l = R at *
  have HR := Lib.hid hR
  clear hw hlm hsv hp hP hR
  go_enter Tryd.func61, Tryd.ntmps61
  go_wp2
  go_loopg [5] (l.length) (fun gk t5 wr => ∃ k : Nat, k ≤ l.length ∧ gk + k = l.length ∧ t5 = .int .i64 (k : Int) ∧ Right n (l.take k) ∧ Below w.heap.size w wr)
  case atStart => exact ⟨0, by omega, by omega, rfl, fun x hx => by simp at hx, Below.refl _ _⟩
  case round =>
    obtain ⟨k, hk, hgk, rfl, hr, hB⟩ := hrel
    have HGK := Lib.hid hgk
    have HRT := Lib.hid hr
    have HB := Lib.hid hB
    clear hgk hr hB
    by_cases hin : k < l.length
    · have hd1 : decide ((k : Int) < (l.length : Int)) = true := by simp; omega
      have i0 : (0 : Int) ≤ (k : Int) := by omega
      have i1 : (k : Int) < (l.length : Int) := by omega
      have i2 : (k : Int) ≤ 100000 := by have := HL.out; omega
      obtain ⟨x, hx⟩ : ∃ x, l[k]? = some x := ⟨_, List.getElem?_eq_getElem hin⟩
      obtain ⟨_, _, e1, hg1⟩ := pw_get HW.out
      obtain ⟨g, off, u, rfl, hgF, hgl, d0, d1, hxw, hu⟩ := hg1 k x hx
      cases e1
      obtain ⟨ua, uc, rfl⟩ := Sl.len (data_of hu)
      have q0 : wr.cell? ⟨g, off + k * 2, none⟩ = some (.int .i64 x.1) := (HB.out.cell (p := ⟨g, off + k * 2, none⟩) hgl).trans d0
      have q1 : wr.cell? ⟨g, off + k * 2 + 1, none⟩ = some (.slice ua x.2.length uc) := (HB.out.cell (p := ⟨g, off + k * 2 + 1, none⟩) hgl).trans d1
      have q2 : wr.cell? ⟨pb, 0, none⟩ = some (.slice sa n sc) := (HB.out.cell (p := ⟨pb, 0, none⟩) hpl).trans c0
      have HX := Lib.hid hx
      have HWN := Lib.hid (show wrong n x = if x.1 < 0 ∨ (n : Int) ≤ x.1 then 10 else if 100 < x.2.length then 4 else 0 from rfl)
      clear hg1 d0 d1 hu hx
      go_wp2_with fail
      refine region_all (by kernel_rfl) (by kernel_rfl) ?_
      intro wD hWD
      have r0 : wD.cell? ⟨g, off + k * 2, none⟩ = some (.int .i64 x.1) := by rw [hWD]; exact q0
      have r1 : wD.cell? ⟨g, off + k * 2 + 1, none⟩ = some (.slice ua x.2.length uc) := by rw [hWD]; exact q1
      have r2 : wD.cell? ⟨pb, 0, none⟩ = some (.slice sa n sc) := by rw [hWD]; exact q2
      have HBD := Lib.hid (show Below w.heap.size w wD from by rw [hWD]; exact HB.out.drew)
      clear hWD q0 q1 q2
      by_cases h1 : x.1 < 0
      · have g1 : decide (x.1 < 0) = true := by simpa using h1
        have hwv : wrong n x = 10 := by rw [HWN.out, if_pos (.inl h1)]
        have HR3 := Lib.hid (show R = 10 from by rw [← HR.out, wrongs_first HRT.out HX.out (by rw [hwv]; decide), hwv])
        clear hwv
        iterate 7 (refine stillH_want (by kernel_rfl) (fun K hK => ?_); go_simp; refine hK _ ?_; clear hK K)
        iterate 11 (refine stillH_skip (by kernel_rfl) (fun K hK => ?_); refine hK _ ?_; clear hK K)
        (refine stillH_want (by kernel_rfl) (fun K hK => ?_); go_simp; refine hK _ ?_; clear hK K)
        refine stillH_nil ?_
        go_wp2
        go_ret
        exact ⟨by rw [HR3.out]; rfl, HBD.out⟩
      · have g1 : decide (x.1 < 0) = false := by simpa using h1
        by_cases h2 : (n : Int) ≤ x.1
        · have g2 : decide ((n : Int) ≤ x.1) = true := by simpa using h2
          have hwv : wrong n x = 10 := by rw [HWN.out, if_pos (.inr h2)]
          have HR3 := Lib.hid (show R = 10 from by rw [← HR.out, wrongs_first HRT.out HX.out (by rw [hwv]; decide), hwv])
          clear hwv
          iterate 19 (refine stillH_want (by kernel_rfl) (fun K hK => ?_); go_simp; refine hK _ ?_; clear hK K)
          refine stillH_nil ?_
          go_wp2
          go_ret
          exact ⟨by rw [HR3.out]; rfl, HBD.out⟩
        · have g2 : decide ((n : Int) ≤ x.1) = false := by simpa using h2
          by_cases h3 : 100 < x.2.length
          · have g3 : decide ((100 : Int) < (x.2.length : Int)) = true := by simp; omega
            have hwv : wrong n x = 4 := by rw [HWN.out, if_neg (by omega), if_pos h3]
            have HR3 := Lib.hid (show R = 4 from by rw [← HR.out, wrongs_first HRT.out HX.out (by rw [hwv]; decide), hwv])
            clear hwv
            iterate 19 (refine stillH_want (by kernel_rfl) (fun K hK => ?_); go_simp; refine hK _ ?_; clear hK K)
            refine stillH_nil ?_
            go_wp2
            go_ret
            exact ⟨by rw [HR3.out]; rfl, HBD.out⟩
          · have g3 : decide ((100 : Int) < (x.2.length : Int)) = false := by simp; omega
            have HRT2 := Lib.hid (right_snoc HRT.out HX.out (by rw [HWN.out, if_neg (by omega), if_neg h3]))
            iterate 19 (refine stillH_want (by kernel_rfl) (fun K hK => ?_); go_simp; refine hK _ ?_; clear hK K)
            refine stillH_nil ?_
            go_wp2
            go_roundg (gk - 1)
            case rel => exact ⟨k + 1, by omega, by have := HGK.out; omega, by go_num, HRT2.out, HBD.out⟩
            case measure => have := HGK.out; omega
    · have hd1 : decide ((k : Int) < (l.length : Int)) = false := by simp; omega
      obtain rfl : k = l.length := by omega
      have hrt := HRT.out
      rw [List.take_length] at hrt
      have hR0 : R = 0 := by rw [← HR.out]; exact wrongs_zero.2 hrt
      clear hrt
      go_wp2
      go_ret
      exact ⟨by rw [hR0]; rfl, HB.out⟩


/-- Payloads that are being turned: the row g0 of slices, behind the struct qb. -/
structure Turning (w wr : World) (F : Nat → Prop) (n g0 c qb : Nat) (xs : List Value) (Q : List (List UInt8)) : Prop where
  bel : Below w.heap.size w wr
  ge : w.heap.size ≤ g0 ∧ w.heap.size ≤ qb ∧ g0 ≠ qb
  cell : wr.cell? ⟨qb, 0, none⟩ = some (.slice (some ⟨g0, 0, none⟩) n c)
  own : wr.ownsRow w.heap.size 25 1 (.slice (some ⟨g0, 0, none⟩) n c) n xs
  pays : Q.length = n
  at_ : ∀ j, j < n → ∃ u, xs[j]? = some u ∧ (rSlice rByte).rd wr (fun b => (F b ∧ b < w.heap.size) ∨ (w.heap.size ≤ b ∧ b ≠ g0 ∧ b ≠ qb)) [u] (Q.getD j [])

theorem Turning.below {wr w' : World} {g0 c qb : Nat} {xs : List Value} {Q : List (List UInt8)} (h : Turning w wr F n g0 c qb xs Q) (hb : Below wr.heap.size wr w') : Turning w w' F n g0 c qb xs Q :=
  ⟨h.bel.trans (hb.mono h.bel.size), h.ge, (hb.cell (p := ⟨qb, 0, none⟩) (cell_lt h.cell)).trans h.cell, own_at h.own hb, h.pays, fun j hj => by
    obtain ⟨u, h1, h2⟩ := h.at_ j hj
    exact ⟨u, h1, (rSlice rByte).keep (fun b _ hl => hb.block b hl) hb.size h2⟩⟩

theorem Turning.put {wr : World} {g0 c qb i : Nat} {xs : List Value} {Q : List (List UInt8)} (h : Turning w wr F n g0 c qb xs Q) (hi : i < n) {u : Value} {p : List UInt8} (hu : (rSlice rByte).rd wr (fun b => (F b ∧ b < w.heap.size) ∨ (w.heap.size ≤ b ∧ b ≠ g0 ∧ b ≠ qb)) [u] p) (h1 : u.oneCell' = true) :
    Turning w (wr.setCell ⟨g0, i, none⟩ u) F n g0 c qb (xs.set i u) (Q.set i p) := by
  have hc : Chg (fun b => b = g0) wr (wr.setCell ⟨g0, i, none⟩ u) := Chg.setCell _ _ rfl
  have hl : xs.length = n := by have := h.own.1; omega
  have hk : Kept (fun b => (F b ∧ b < w.heap.size) ∨ (w.heap.size ≤ b ∧ b ≠ g0 ∧ b ≠ qb)) wr (wr.setCell ⟨g0, i, none⟩ u) := fun b hb hbl => hc.block b hbl (fun e => by
    have := h.ge.1
    rcases hb with hb | hb <;> omega)
  refine ⟨h.bel.setCell h.ge.1 _, h.ge, (hc.cell (a := ⟨qb, 0, none⟩) (fun e => h.ge.2.2 e.symm) (cell_lt h.cell)).trans h.cell, (h.own.stored i u).1, by rw [List.length_set]; exact h.pays, fun j hj => ?_⟩
  by_cases e : j = i
  · subst e
    exact ⟨u, by rw [List.getElem?_set_self (by omega)], by
      rw [List.getD_eq_getElem?_getD, List.getElem?_set_self (by rw [h.pays]; exact hj)]
      exact (rSlice rByte).keep hk hc.size hu⟩
  · obtain ⟨v, k1, k2⟩ := h.at_ j hj
    exact ⟨v, by rw [List.getElem?_set_ne (fun e1 => e e1.symm)]; exact k1, by
      rw [List.getD_eq_getElem?_getD, List.getElem?_set_ne (fun e1 => e e1.symm), ← List.getD_eq_getElem?_getD]
      exact (rSlice rByte).keep hk hc.size k2⟩

theorem Turning.pages {wr : World} {g0 c qb : Nat} {xs : List Value} {Q : List (List UInt8)} (h : Turning w wr F n g0 c qb xs Q) : IsPages wr (fun b => (F b ∧ b < w.heap.size) ∨ (w.heap.size ≤ b ∧ b < wr.heap.size)) qb Q := by
  have hlq := cell_lt h.cell
  refine ⟨.inr ⟨h.ge.2.1, hlq⟩, hlq, _, h.cell, rd_own h.own ⟨by rw [h.own.1]; rfl, h.pays, fun i x hx => ?_⟩ (fun b hb hb2 => .inr ⟨hb, hb2⟩)⟩
  have hi : i < n := by have := (List.getElem?_eq_some_iff.1 hx).1; rwa [h.pays] at this
  obtain ⟨u, k1, k2⟩ := h.at_ i hi
  have hl := (List.getElem?_eq_some_iff.1 k1).1
  have e1 : (rSlice rByte).size = 1 := rfl
  rw [List.getD_eq_getElem?_getD, hx] at k2
  rw [e1, Nat.mul_one, List.drop_eq_getElem_cons hl, List.take_succ_cons, List.take_zero, (List.getElem?_eq_some_iff.1 k1).2]
  exact rd_shrink k2

set_option maxRecDepth 100000 in
set_option maxHeartbeats 4000000 in
theorem rf_pagesWith (hp : IsPages w F pb P) (hP : Pays n P) (hn : n ≤ 4096) (h0 : 0 < n) (hw : (rSlice rPW).rd w G [wv] l) (hlm : l.length ≤ 100000) (hr : Right n l) :
    Calls Tryd.prog 62 #[.pointer (some ⟨pb, 0, none⟩), wv] w fun e w' => ∃ qb, e = .returned (.pointer (some ⟨qb, 0, none⟩)) ∧ w.heap.size ≤ qb ∧ Below w.heap.size w w' ∧ IsPages w' (fun b => (F b ∧ b < w.heap.size) ∨ (w.heap.size ≤ b ∧ b < w'.heap.size)) qb (withW P l) := by
  obtain ⟨sv, c0, hsv⟩ := hp.at_
  obtain ⟨xs0, hsl, hel⟩ := bs_open hsv
  obtain ⟨sa, sc, rfl⟩ := Sl.len hsl
  rw [hP.len] at c0 hsl
  have hsa : ∀ c, Value.slice sa n sc = .slice none n c → c = 0 := fun c e => by
    rcases hsl.2 with ⟨e0, _⟩ | ⟨b, o, c', e1, _⟩
    · omega
    · rw [e1] at e; cases e
  obtain ⟨wa, wc, rfl, _⟩ := pw_get hw
  have HW := Lib.hid hw
  have HL := Lib.hid (And.intro hlm hr)
  have hpl := hp.lt
  have HPL := Lib.hid hP.len
  have hone : ∀ u ∈ xs0, u.oneCell' = true := fun u hu => by
    obtain ⟨j, hj, e⟩ := List.getElem_of_mem hu
    have hjn : j < n := by have := hsl.1; omega
    obtain ⟨u', h1, h2⟩ := hel j _ (List.getElem?_eq_getElem (by rw [hP.len]; exact hjn))
    have : u' = u := by rw [List.getElem?_eq_getElem hj, e] at h1; exact (Option.some.inj h1).symm
    obtain ⟨a, m, c, e2, _⟩ := h2
    simp only [List.cons.injEq, and_true] at e2
    rw [← this, e2]; rfl
  have HEL := Lib.hid (show ∀ j, j < n → ∃ u, xs0[j]? = some u ∧ (rSlice rByte).rd w (fun b => F b ∧ b < w.heap.size) [u] (P.getD j []) from fun j hj => by
    obtain ⟨u, h1, h2⟩ := hel j _ (List.getElem?_eq_getElem (by rw [hP.len]; exact hj))
    refine ⟨u, h1, ?_⟩
    rw [List.getD_eq_getElem?_getD, List.getElem?_eq_getElem (by rw [hP.len]; exact hj)]
    exact rd_shrink' h2)
  obtain ⟨i0, hi0, hz0, hz1, hz2⟩ := info_parts bs_info
  have HSA := Lib.hid hsa
  have HSL := Lib.hid hsl
  have hnb : (n : Int) ≤ 4096 := by omega
  clear hw hlm hr hsv hp hP hsa hel hsl
  go_enter Tryd.func62, Tryd.ntmps62
  go_wp2_with (at_builtin; refine wpList_append_sl rfl _ _ 57 rfl w.heap.size 25 i0 _ 1 24 Tryd.underlying57 hi0 hz0 hz1 hz2 rfl (by decide) _ 0 [] rfl (World.ownsRow_nil _ _ _ _) _ n xs0 rfl HSL.out (fun m c h => by
    have e := congrArg (fun v => match v with | Value.slice _ k _ => k | _ => 0) h
    simp only at e
    subst e
    exact HSA.out c h) hone (by unfold maxLen; omega) (by omega) (Nat.le_refl _) ?_)
  intro v1 w1 hown1 hg1 hb1
  try rw [Nat.zero_add] at hown1
  try rw [List.nil_append] at hown1
  obtain ⟨g0, gc, ⟨ga, rfl, hga⟩, hgb⟩ := own_block hown1
  obtain rfl := hga h0
  obtain ⟨hg0, hg0l, _, _, _⟩ := hgb h0
  have HB1 := Lib.hid hb1
  have HO1 := Lib.hid hown1
  clear hown1 hg1 hb1 hga hgb
  have hmk := make100
  have HT0 := Lib.hid (show Turning w (w1.alloc (.cells #[.slice (some ⟨g0, 0, none⟩) n gc] 59)) F n g0 gc w1.heap.size xs0 (withW P (l.take 0)) from by
    have hb : Below w1.heap.size w1 (w1.alloc (.cells #[.slice (some ⟨g0, 0, none⟩) n gc] 59)) := (Below.refl _ _).alloc (Nat.le_refl _) _
    have hB := HB1.out.trans (hb.mono HB1.out.size)
    refine ⟨hB, ⟨hg0, HB1.out.size, by omega⟩, ?_, own_at HO1.out hb, HPL.out, fun j hj => ?_⟩
    · have := new_cells w1 [.slice (some ⟨g0, 0, none⟩) n gc] 59 0 _ rfl
      rw [Addr.add_mid] at this; exact this
    · obtain ⟨u, h1, h2⟩ := HEL.out j hj
      exact ⟨u, h1, (rSlice rByte).more (fun b hb => .inl hb) ((rSlice rByte).keep (fun b hb hl => hB.block b hb.2) hB.size h2)⟩)
  have hqb : w.heap.size ≤ w1.heap.size := HB1.out.size
  go_wp2
  generalize hqb' : w1.heap.size = qb at *
  go_loopg [6] (l.length) (fun gk t6 wr => ∃ (k : Nat) (xs : List Value), k ≤ l.length ∧ gk + k = l.length ∧ t6 = .int .i64 (k : Int) ∧ Turning w wr F n g0 gc qb xs (withW P (l.take k)))
  case atStart => exact ⟨0, xs0, by omega, by omega, rfl, HT0.out⟩
  case round =>
    obtain ⟨k, xs, hk, hgk, rfl, hT⟩ := hrel
    have HGK := Lib.hid hgk
    have HT := Lib.hid hT
    clear hgk hT HT0
    by_cases hin : k < l.length
    · have hd1 : decide ((k : Int) < (l.length : Int)) = true := by simp; omega
      have i0 : (0 : Int) ≤ (k : Int) := by omega
      have i1 : (k : Int) < (l.length : Int) := by omega
      have i2 : (k : Int) ≤ 100000 := by have := HL.out.1; omega
      obtain ⟨x, hx⟩ : ∃ x, l[k]? = some x := ⟨_, List.getElem?_eq_getElem hin⟩
      have hrx := HL.out.2 x (List.mem_of_getElem? hx)
      obtain ⟨_, _, e1, hg1⟩ := pw_get HW.out
      obtain ⟨g, off, u, rfl, hgF, hgl, d0, d1, hxw, hu⟩ := hg1 k x hx
      cases e1
      obtain ⟨ua, uc, rfl⟩ := Sl.len (data_of hu)
      obtain ⟨i, hi⟩ : ∃ i : Nat, x.1 = (i : Int) := ⟨x.1.toNat, by have := hrx.1; omega⟩
      rw [hi] at d0 hrx
      have q0 : wr.cell? ⟨g, off + k * 2, none⟩ = some (.int .i64 (i : Int)) := (HT.out.bel.cell (p := ⟨g, off + k * 2, none⟩) hgl).trans d0
      have q1 : wr.cell? ⟨g, off + k * 2 + 1, none⟩ = some (.slice ua x.2.length uc) := (HT.out.bel.cell (p := ⟨g, off + k * 2 + 1, none⟩) hgl).trans d1
      have hglr : g < wr.heap.size := Nat.lt_of_lt_of_le hgl HT.out.bel.size
      have hxl : x.2.length ≤ 100 := hrx.2.2
      have hin2 : i < n := by have := hrx.2.1; omega
      have HPOS := Lib.hid (show ∀ W : World, Below w.heap.size w W → 0 < (pc x.2).length → ∃ ad, ua = some ad ∧ ∀ j v, (pc x.2)[j]? = some v → W.cell? (ad.add j) = some v from fun W hB hp => by
        have hd := (data_of hu).keep hB
        rcases hd.2 with ⟨h0, _⟩ | ⟨b, o, c, e, _, _, hc⟩
        · rw [pc_len] at hp; omega
        · simp only [Value.slice.injEq] at e
          exact ⟨_, e.1, fun j v hv => by rw [Addr.add_mid]; exact hc j v hv⟩)
      have HX := Lib.hid hx
      have HI := Lib.hid hi
      have hb0 : Below wr.heap.size wr (wr.alloc (.cells zero100.toArray 5)) := (Below.refl _ _).alloc (Nat.le_refl _) _
      have HB0 := Lib.hid hb0
      have hsz := HT.out.bel.size
      clear hg1 d0 d1 hu hx hi hrx hb0
      go_wp2_with (refine wpList_copy_splice (by rfl) (.tmp 22) (.tmp 27) 25 25 (by rfl) 5 Tryd.underlying25 byte_size1 (some ⟨wr.heap.size, 0, none⟩) ua 100 100 x.2.length uc (by rfl) (by rfl) wr.heap.size 0 zero100 5 (heap_alloc_new wr _) (pc x.2) (by rw [pc_len]; show _ = min _ _; omega) (fun hp => ⟨rfl, HPOS.out _ (HT.out.bel.trans (HB0.out.mono hsz)) hp⟩) (by rw [pc_len, zero100_len]; omega) (pc_one _) wr.heap.size wr HB0.out (Nat.le_refl _) ?_)
      intro w3 hrow3 hb3
      have HRW := Lib.hid (show w3.heap[wr.heap.size]? = some (.cells (pc (fill x.2)).toArray 5 (0, 0)) from by
        have := hrow3.out
        rw [splice_fill hxl] at this
        exact this)
      have HT3 := Lib.hid (HT.out.below hb3)
      have r0 := (hb3.cell (p := ⟨g, off + k * 2, none⟩) hglr).trans q0
      have r1 := HT3.out.cell
      have hic : (i : Int) < (n : Int) := by omega
      have hic0 : (0 : Int) ≤ (i : Int) := by omega
      obtain ⟨xi, hxi⟩ : ∃ xi, xs[i]? = some xi := ⟨_, List.getElem?_eq_getElem (by have := HT3.out.own.1; omega)⟩
      have hst1 : w3.drew.cell? ⟨g0, i, none⟩ = some xi := (show w3.cell? ⟨g0, i, none⟩ = _ from HT3.out.own.cellAt i (by omega)).trans hxi
      have hst2 : w3.drew.frozen? ⟨g0, i, none⟩ = false := HT3.out.own.frozenAt i
      have hgg0 : ¬ g = g0 := fun e => by have := HT3.out.ge.1; omega
      have hqg0 : ¬ qb = g0 := fun e => HT3.out.ge.2.2 e.symm
      have HPUT := Lib.hid (show Turning w (w3.drew.setCell ⟨g0, i, none⟩ (.slice (some ⟨wr.heap.size, 0, none⟩) 100 100)) F n g0 gc qb (xs.set i (.slice (some ⟨wr.heap.size, 0, none⟩) 100 100)) ((withW P (l.take k)).set i (fill x.2)) from
        (HT3.out.below (Below.refl _ _).drew).put hin2 (rd_pay (fill_len hxl) HRW.out (.inr ⟨hsz, by
          have h1 := HT.out.own
          obtain ⟨g', c', ⟨a', e', ha'⟩, hgb'⟩ := own_block h1
          cases e'
          have h2 := hgb' h0
          have h3 := ha' h0
          cases h3
          omega, by have := cell_lt HT.out.cell; have h4 : qb < wr.heap.size := this; omega⟩)) rfl)
      have HWC := Lib.hid (show withW P (l.take (k + 1)) = (withW P (l.take k)).set i (fill x.2) from by
        rw [take_snoc HX.out]
        unfold withW
        rw [List.foldl_append]
        show List.set _ x.1.toNat _ = _
        rw [HI.out, Int.toNat_natCast])
      have INIT := Lib.hid (show w3.drew.cell? ⟨g, off + k * 2, none⟩ = some (.int .i64 (i : Int)) ∧ w3.drew.cell? ⟨qb, 0, none⟩ = some (.slice (some ⟨g0, 0, none⟩) n gc) from ⟨r0, r1⟩)
      have KEEPS := Lib.hid (show ∀ (W1 : World) (u : Value), (W1.cell? ⟨g, off + k * 2, none⟩ = some (.int .i64 (i : Int)) ∧ W1.cell? ⟨qb, 0, none⟩ = some (.slice (some ⟨g0, 0, none⟩) n gc)) → ((W1.setCell ⟨g0, i, none⟩ u).cell? ⟨g, off + k * 2, none⟩ = some (.int .i64 (i : Int)) ∧ (W1.setCell ⟨g0, i, none⟩ u).cell? ⟨qb, 0, none⟩ = some (.slice (some ⟨g0, 0, none⟩) n gc)) from
        fun W1 u ⟨p0, p1⟩ => ⟨by rw [World.cell?_setCell_other _ _ _ _ (fun h => hgg0 (congrArg Addr.block h).symm)]; exact p0, by rw [World.cell?_setCell_other _ _ _ _ (fun h => hqg0 (congrArg Addr.block h).symm)]; exact p1⟩)
      clear q0 q1 r0 r1 hb3 hrow3 hxi
      go_wp2_with fail
      go_region_held3 (fun W => W.cell? ⟨g, off + k * 2, none⟩ = some (.int .i64 (i : Int)) ∧ W.cell? ⟨qb, 0, none⟩ = some (.slice (some ⟨g0, 0, none⟩) n gc)) (first | assumption | exact INIT.out | exact KEEPS.out _ _ (by assumption)) (fail)
      clear hst1 hst2 INIT KEEPS
      go_wp2
      go_roundg (gk - 1)
      case rel => exact ⟨k + 1, _, by omega, by have := HGK.out; omega, by go_num, by rw [HWC.out]; exact HPUT.out⟩
      case measure => have := HGK.out; omega
    · have hd1 : decide ((k : Int) < (l.length : Int)) = false := by simp; omega
      obtain rfl : k = l.length := by omega
      have HPG := Lib.hid HT.out.pages
      rw [List.take_length] at HPG
      go_wp2
      go_ret
      exact ⟨qb, rfl, HT.out.ge.2.1, HT.out.bel, HPG.out⟩

end
end Go.Proofs.YtngddhoolijimaaDoor
