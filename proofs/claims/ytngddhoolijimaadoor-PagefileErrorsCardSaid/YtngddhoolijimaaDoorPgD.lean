/-
  The law's world in memory; begin.
-/
import Derived.Test.YtngddhoolijimaaDoorPgC
namespace Go.Proofs.YtngddhoolijimaaDoor
open Go.RowKit
set_option linter.unusedVariables false

theorem rbytes_shrink {w : World} {F G : Nat → Prop} {u : Value} {l : List UInt8} (hG : ∀ b, F b → b < w.heap.size → G b) (h : (rSlice rByte).rd w F [u] l) : (rSlice rByte).rd w G [u] l := by
  obtain ⟨a, n, c, e, h1, h2, h3, h4⟩ := h
  exact ⟨a, n, c, e, h1, h2, h3, h4.imp id fun ⟨b, off, ea, hF, hl, hx⟩ => ⟨b, off, ea, hG b hF hl, hl, fun i x hi => by
    obtain ⟨ys, k1, k2⟩ := hx i x hi
    exact ⟨ys, k1, k2⟩⟩⟩

theorem rbs_shrink {w : World} {F G : Nat → Prop} {u : Value} {l : List (List UInt8)} (hG : ∀ b, F b → b < w.heap.size → G b) (h : rBs.rd w F [u] l) : rBs.rd w G [u] l := by
  obtain ⟨a, n, c, e, h1, h2, h3, h4⟩ := h
  refine ⟨a, n, c, e, h1, h2, h3, h4.imp id fun ⟨b, off, ea, hF, hl, hx⟩ => ⟨b, off, ea, hG b hF hl, hl, fun i x hi => ?_⟩⟩
  obtain ⟨ys, k1, k2⟩ := hx i x hi
  have hl : ys.length = 1 := (rSlice rByte).len k2
  obtain ⟨v, rfl⟩ : ∃ v, ys = [v] := by match ys, hl with | [a], _ => exact ⟨a, rfl⟩
  exact ⟨[v], k1, rbytes_shrink hG k2⟩

theorem IsPages.shrink {w : World} {F G : Nat → Prop} {pb : Nat} {P : List (List UInt8)} (h : IsPages w F pb P) (hG : ∀ b, F b → b < w.heap.size → G b) : IsPages w G pb P := by
  obtain ⟨sv, h1, h2⟩ := h.at_
  exact ⟨hG _ h.mem h.lt, h.lt, sv, h1, rbs_shrink hG h2⟩

/-- Where the law's payloads may lie. -/
def LF (B : DB) (fb wb b : Nat) : Prop := ¬ B.has b ∧ b ≠ fb ∧ b ≠ wb

abbrev mtV (mt : Option (Nat × List (List UInt8))) : Value := match mt with | none => .pointer none | some (q, _) => .pointer (some ⟨q, 0, none⟩)

/-- The law's world: a page file on a disk and the payloads that it should have. -/
structure LW (W w : World) (wb : Nat) (B : DB) (fb pb n N : Nat) (f : PF) (d : DK) (P : List (List UInt8)) (mt : Option (Nat × List (List UInt8))) (down : Bool) : Prop where
  bel : Below W.heap.size W w
  wge : W.heap.size ≤ wb
  bge : ∀ b, B.has b → W.heap.size ≤ b
  fge : W.heap.size ≤ fb
  nwB : ¬ B.has wb
  nwf : wb ≠ fb
  c0 : w.cell? ⟨wb, 0, none⟩ = some (.pointer (some ⟨B.db, 0, none⟩))
  c1 : w.cell? ⟨wb, 1, none⟩ = some (.pointer (some ⟨fb, 0, none⟩))
  c2 : w.cell? ⟨wb, 2, none⟩ = some (.pointer (some ⟨pb, 0, none⟩))
  c3 : w.cell? ⟨wb, 3, none⟩ = some (mtV mt)
  c4 : w.cell? ⟨wb, 4, none⟩ = some (.bool down)
  fr : ∀ j, w.frozen? ⟨wb, j, none⟩ = false
  disk : IsDisk w B d
  file : IsFile w fb B f
  fn : f.n = n
  pg : IsPages w (LF B fb wb) pb P
  mg : ∀ q Q, mt = some (q, Q) → IsPages w (LF B fb wb) q Q ∧ Pays n Q
  pays : Pays n P
  cap : capN N = n
  big : 7 ≤ N
  few : N ≤ 4096
  up : down = false → f.failed = false ∧ mt = none ∧ Clean n N P d
  dn : down = true → d.down = true ∧ ∃ q Q, mt = some (q, Q) ∧ Ready N (fun st => Rec n P st ∨ Rec n Q st) d

section
variable {W w w' : World} {wb fb pb n N : Nat} {B : DB} {f : PF} {d : DK} {P : List (List UInt8)} {mt : Option (Nat × List (List UInt8))} {down : Bool}

theorem LW.below (h : LW W w wb B fb pb n N f d P mt down) (hb : Below w.heap.size w w') : LW W w' wb B fb pb n N f d P mt down := by
  have hwl : wb < w.heap.size := cell_lt h.c0
  have hk : Kept (LF B fb wb) w w' := fun b _ hl => hb.block b hl
  have c : ∀ j, w'.cell? ⟨wb, j, none⟩ = w.cell? ⟨wb, j, none⟩ := fun j => hb.cell (p := ⟨wb, j, none⟩) hwl
  refine ⟨h.bel.trans (hb.mono h.bel.size), h.wge, h.bge, h.fge, h.nwB, h.nwf, (c 0).trans h.c0, (c 1).trans h.c1, (c 2).trans h.c2, (c 3).trans h.c3, (c 4).trans h.c4, fun j => ?_, h.disk.below hb, h.file.keep (Chg.of_below hb (F := fun _ => False)) (fun h => h), h.fn, h.pg.keep hk hb.size, fun q Q e => ⟨(h.mg q Q e).1.keep hk hb.size, (h.mg q Q e).2⟩, h.pays, h.cap, h.big, h.few, h.up, h.dn⟩
  have := h.fr j
  unfold World.frozen? at this ⊢
  rw [show w'.heap[(⟨wb, j, none⟩ : Addr).block]? = _ from hb.block wb hwl]; exact this

/-- The file, and its disk, have turned. -/
theorem LW.turns {f' : PF} {d' : DK} (h : LW W w wb B fb pb n N f d P mt down) (ht : PTurns fb B w w' f' d') (hn : f'.n = n)
    (hu : down = false → f'.failed = false ∧ Clean n N P d') (hd : down = true → d'.down = true ∧ ∀ q Q, mt = some (q, Q) → Ready N (fun st => Rec n P st ∨ Rec n Q st) d') : LW W w' wb B fb pb n N f' d' P mt down := by
  have hwl : wb < w.heap.size := cell_lt h.c0
  have hno : ¬ (B.has wb ∨ wb = fb) := fun e => e.elim h.nwB h.nwf
  have hk : Kept (LF B fb wb) w w' := fun b hb hl => ht.2.2.block b hl (fun e => e.elim hb.1 hb.2.1)
  have c : ∀ j, w'.cell? ⟨wb, j, none⟩ = w.cell? ⟨wb, j, none⟩ := fun j => ht.2.2.cell (a := ⟨wb, j, none⟩) hno hwl
  have hb : Below W.heap.size w w' := ht.2.2.below h.bel.size (fun b hb => hb.elim (h.bge b) (fun e => by rw [e]; exact h.fge))
  refine ⟨h.bel.trans hb, h.wge, h.bge, h.fge, h.nwB, h.nwf, (c 0).trans h.c0, (c 1).trans h.c1, (c 2).trans h.c2, (c 3).trans h.c3, (c 4).trans h.c4, fun j => (ht.2.2.frozen (a := ⟨wb, j, none⟩) hno hwl).trans (h.fr j), ht.2.1, ht.1, hn, h.pg.keep hk ht.2.2.size, fun q Q e => ⟨(h.mg q Q e).1.keep hk ht.2.2.size, (h.mg q Q e).2⟩, h.pays, h.cap, h.big, h.few, fun e => ⟨(hu e).1, (h.up e).2.1, (hu e).2⟩, fun e => ?_⟩
  obtain ⟨_, q, Q, e2, _⟩ := h.dn e
  exact ⟨(hd e).1, q, Q, e2, (hd e).2 q Q e2⟩

set_option maxRecDepth 100000 in
set_option maxHeartbeats 2000000 in
theorem begin36 (pp : Nat) (hpp : pp < 256) (W w : World) (hb : Below W.heap.size W w) : Calls Tryd.prog 21 #[.int .u8 (pp : Int)] w fun e w' =>
    ∃ wb B fb pb d, e = .returned (.pointer (some ⟨wb, 0, none⟩)) ∧ LW W w' wb B fb pb (capN (7 + pp % 25)) (7 + pp % 25) ⟨capN (7 + pp % 25), false⟩ d (zeroP (capN (7 + pp % 25))) none false ∧ d.fuse = 0 ∧ Below w.heap.size w w' := by
  obtain ⟨m, hm⟩ : ∃ m, m = pp % 25 := ⟨_, rfl⟩
  have hmr : Int.tmod (pp : Int) 25 = (m : Int) := by subst hm; rw [Int.tmod_eq_emod_of_nonneg (by omega)]; rfl
  have hm25 : m < 25 := by omega
  rw [← hm]
  obtain ⟨N, hN⟩ : ∃ N, N = 7 + m := ⟨_, rfl⟩
  rw [← hN]
  have hNI : (7 : Int) + (m : Int) = (N : Int) := by omega
  have hmb : 0 ≤ (m : Int) ∧ (m : Int) < 25 := by omega
  have hcl := new_clean (N := N) (by omega)
  obtain ⟨n, hn⟩ : ∃ n, n = capN N := ⟨_, rfl⟩
  rw [← hn] at hcl ⊢
  have HCL := Lib.hid hcl
  have HB := Lib.hid hb
  have HN := Lib.hid hN
  have HCN := Lib.hid hn
  have hNb : 0 ≤ (N : Int) ∧ (N : Int) ≤ 31 := by omega
  clear hm hcl hb hn hN
  go_enter Tryd.func21, Tryd.ntmps21
  go_wp2_with fail
  refine (dk_new (N : Int) N (by have := HN.out; omega) _).mono ?_
  rintro e w1 ⟨B, rfl, hM⟩
  have HM := Lib.hid hM
  have HBG := Lib.hid (show ∀ b, B.has b → w.heap.size ≤ b from fun b hb => by
    have := hM.2.2
    rcases hb with rfl | rfl | rfl <;> omega)
  clear hM
  unfold DB.ptr
  go_wp2_with fail
  obtain ⟨W1, hW1⟩ : ∃ W1, W1 = w1.alloc (.cells #[.pointer (some ⟨B.db, 0, none⟩), .pointer none, .pointer none, .pointer none, .bool false] 39) := ⟨_, rfl⟩
  have hbW : Below w1.heap.size w1 W1 := by rw [hW1]; exact (Below.refl _ _).alloc (Nat.le_refl _) _
  have hcs : ∀ j u, ([.pointer (some ⟨B.db, 0, none⟩), .pointer none, .pointer none, .pointer none, .bool false] : List Value)[j]? = some u → W1.cell? ⟨w1.heap.size, j, none⟩ = some u := fun j u hu => by
    rw [hW1]
    have := new_cells w1 [.pointer (some ⟨B.db, 0, none⟩), .pointer none, .pointer none, .pointer none, .bool false] 39 j u hu
    rw [Addr.add_mid, Nat.zero_add] at this; exact this
  have hfr : ∀ j, W1.frozen? ⟨w1.heap.size, j, none⟩ = false := fun j => by rw [hW1]; go_simp
  have hzW : W1.heap.size = w1.heap.size + 1 := by rw [hW1]; simp
  rw [← hW1]
  have hBW := HB.out.trans (HM.out.2.1.mono HB.out.size)
  have hBg : ∀ b, B.has b → W.heap.size ≤ b := fun b hb => Nat.le_trans HB.out.size (HBG.out b hb)
  have hBl : ∀ b, B.has b → b < w1.heap.size := fun b hb => by
    have := HM.out.1.lt
    rcases hb with rfl | rfl | rfl <;> omega
  refine (fd_open (W := W) (HM.out.1.below hbW) HCL.out.up HCL.out.buf HCL.out.len HCL.out.cap HCL.out.big HCL.out.recs (hBW.trans (hbW.mono hBW.size)) hBg).mono ?_
  rintro e w3 (⟨fb, d', rfl, hfb, hfd, hc2, hfu, hch⟩ | ⟨d', rfl, hfu, _⟩)
  · obtain ⟨wb, hwb⟩ : ∃ wb, wb = w1.heap.size := ⟨_, rfl⟩
    rw [← hwb] at hcs hfr
    have hwl : wb < W1.heap.size := by omega
    have hnB : ¬ B.has wb := fun h => by have := hBl _ h; omega
    have c : ∀ j u, ([.pointer (some ⟨B.db, 0, none⟩), .pointer none, .pointer none, .pointer none, .bool false] : List Value)[j]? = some u → w3.cell? ⟨wb, j, none⟩ = some u := fun j u hu => (hch.cell (a := ⟨wb, j, none⟩) hnB hwl).trans (hcs j u hu)
    have c1 := c 1 _ rfl
    have c2 := c 2 _ rfl
    have f3 : ∀ j, w3.frozen? ⟨wb, j, none⟩ = false := fun j => (hch.frozen (a := ⟨wb, j, none⟩) hnB hwl).trans (hfr j)
    have f1 := f3 1
    have f2 := f3 2
    have HC := Lib.hid c
    have HFZ := Lib.hid f3
    have HFD := Lib.hid hfd
    have HC2 := Lib.hid hc2
    have HFU := Lib.hid (hfu rfl)
    have HZ3 := Lib.hid (show wb < w3.heap.size ∧ w.heap.size ≤ wb ∧ W.heap.size ≤ wb from ⟨Nat.lt_of_lt_of_le hwl hch.size, by rw [hwb]; exact HM.out.2.1.size, by rw [hwb]; exact hBW.size⟩)
    have HFB := Lib.hid (show wb < fb from by omega)
    have HNB := Lib.hid hnB
    have HCH := Lib.hid (show Below w.heap.size w w3 from (HM.out.2.1.trans (hbW.mono HM.out.2.1.size)).trans (hch.below (by have := HM.out.2.1.size; omega) HBG.out))
    have HBG2 := Lib.hid hBg
    have HBL := Lib.hid (show ∀ b, B.has b → b < w3.heap.size from fun b hb => by have := hBl b hb; have := hch.size; omega)
    have hcn := HC2.out.cap
    have hn4 := HC2.out.pos.2.2
    rw [← hwb]
    clear hW1 hbW hcs hfr hzW hBW hBg hBl c f3 hfd hc2 hfu hch hfb hwl hnB hwb
    unfold pfPtr
    go_wp2_with fail
    refine (pf_refCapacity (N : Int) _).mono ?_
    rintro e w4 ⟨rfl, hw4⟩
    rw [capI_nat, hcn]
    have hw4' := hw4.symm
    clear hw4
    subst hw4'
    go_wp2_with fail
    refine (rf_newPages n hn4 _).mono ?_
    rintro e w5 ⟨rfl, hb5, hpg⟩
    obtain ⟨w4, hw4⟩ : ∃ w4, w4 = w3.setCell ⟨wb, 1, none⟩ (.pointer (some ⟨fb, 0, none⟩)) := ⟨_, rfl⟩
    rw [← hw4] at hb5 hpg ⊢
    have hch4 : Chg (fun b => b = wb) w3 w4 := by rw [hw4]; exact Chg.setCell _ _ rfl
    have k1 : w4.cell? ⟨wb, 1, none⟩ = some (.pointer (some ⟨fb, 0, none⟩)) := by rw [hw4]; exact World.cell?_setCell_same _ _ _ c1
    have kk : ∀ j u, j ≠ 1 → ([.pointer (some ⟨B.db, 0, none⟩), .pointer none, .pointer none, .pointer none, .bool false] : List Value)[j]? = some u → w4.cell? ⟨wb, j, none⟩ = some u := fun j u hj hu => by
      rw [hw4, World.cell?_setCell_other _ _ _ _ (fun h => hj (congrArg Addr.off h).symm)]
      exact HC.out j u hu
    have kf : ∀ j, w4.frozen? ⟨wb, j, none⟩ = false := fun j => by rw [hw4, World.frozen?_setCell]; exact HFZ.out j
    have hz4 : w4.heap.size = w3.heap.size := by rw [hw4]; simp
    have hwl4 : wb < w4.heap.size := by rw [hz4]; exact HZ3.out.1
    have m : ∀ j, w5.cell? ⟨wb, j, none⟩ = w4.cell? ⟨wb, j, none⟩ := fun j => hb5.cell (p := ⟨wb, j, none⟩) hwl4
    have mf : ∀ j, w5.frozen? ⟨wb, j, none⟩ = false := fun j => by
      have := kf j
      unfold World.frozen? at this ⊢
      rw [show w5.heap[(⟨wb, j, none⟩ : Addr).block]? = _ from hb5.block wb hwl4]; exact this
    have m2 : w5.cell? ⟨wb, 2, none⟩ = some (.pointer none) := (m 2).trans (kk 2 _ (by omega) rfl)
    have mf2 := mf 2
    have hnwf : ¬ wb = fb := by have := HFB.out; omega
    have HFIN := Lib.hid (show LW W (w5.setCell ⟨wb, 2, none⟩ (.pointer (some ⟨w4.heap.size, 0, none⟩))) wb B fb w4.heap.size n N ⟨n, false⟩ d' (zeroP n) none false ∧ Below w.heap.size w (w5.setCell ⟨wb, 2, none⟩ (.pointer (some ⟨w4.heap.size, 0, none⟩))) from by
      have hch5 : Chg (fun b => b = wb) w5 (w5.setCell ⟨wb, 2, none⟩ (.pointer (some ⟨w4.heap.size, 0, none⟩))) := Chg.setCell _ _ rfl
      have hd : ∀ b, B.has b → ¬ b = wb := fun b hb e => HNB.out (e ▸ hb)
      have hf' : ¬ fb = wb := fun e => hnwf e.symm
      have hbel : Below W.heap.size W w5 := by
        have h1 : Below W.heap.size W w4 := HFD.out.bel.trans (hch4.below HFD.out.bel.size (fun b e => by rw [e]; exact HZ3.out.2.2))
        exact h1.trans (hb5.mono h1.size)
      have hbel2 : Below w.heap.size w w5 := by
        have h1 : Below w.heap.size w w4 := HCH.out.trans (hch4.below HCH.out.size (fun b e => by rw [e]; exact HZ3.out.2.1))
        exact h1.trans (hb5.mono h1.size)
      refine ⟨⟨hbel.setCell HZ3.out.2.2 _, HZ3.out.2.2, HBG2.out, HFD.out.fge, HNB.out, hnwf, ?_, ?_, World.cell?_setCell_same _ _ _ m2, ?_, ?_, fun j => by rw [World.frozen?_setCell]; exact mf j, ?_, ?_, rfl, ?_, (fun q Q e => by cases e), zeroP_pays n, HC2.out.cap, HC2.out.big, by have := HN.out; omega, fun _ => ⟨rfl, rfl, HC2.out⟩, (fun e => by cases e)⟩, hbel2.setCell HZ3.out.2.1 _⟩
      · rw [World.cell?_setCell_other _ _ _ _ (by simp)]; exact (m 0).trans (kk 0 _ (by omega) rfl)
      · rw [World.cell?_setCell_other _ _ _ _ (by simp)]; exact (m 1).trans k1
      · rw [World.cell?_setCell_other _ _ _ _ (by simp)]; exact (m 3).trans (kk 3 _ (by omega) rfl)
      · rw [World.cell?_setCell_other _ _ _ _ (by simp)]; exact (m 4).trans (kk 4 _ (by omega) rfl)
      · exact (((HFD.out.disk.keep hch4 hd).below hb5).keep hch5 hd)
      · exact (((HFD.out.file.keep hch4 hf').keep (Chg.of_below hb5 (F := fun _ => False)) (fun h => h)).keep hch5 hf')
      · refine (hpg.keep (w' := w5.setCell ⟨wb, 2, none⟩ (.pointer (some ⟨w4.heap.size, 0, none⟩))) (fun b hb hl => hch5.block b hl (by omega)) hch5.size).shrink (fun b hb hl => ⟨fun h => ?_, ?_, by omega⟩)
        · have := HBL.out b h; omega
        · have := HFD.out.file.lt; omega)
    rw [hz4] at HFIN
    clear hb5 hpg hch4 k1 kk kf m mf HC HFZ
    go_wp2
    go_ret
    exact ⟨wb, B, fb, _, d', rfl, HFIN.out.1, HFU.out, HFIN.out.2⟩
  · exact absurd rfl hfu
end
end Go.Proofs.YtngddhoolijimaaDoor
