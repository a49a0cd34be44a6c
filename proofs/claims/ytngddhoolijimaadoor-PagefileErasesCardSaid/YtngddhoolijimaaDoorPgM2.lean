/-
  Merged: PgD, PgE, PgF.
-/
import Derived.Test.YtngddhoolijimaaDoorPgM1
namespace Go.Proofs.YtngddhoolijimaaDoor
open Go.RowKit
set_option linter.unusedVariables false

theorem rbytes_shrink {w : World} {F G : Nat → Prop} {u : Value} {l : List UInt8} (hG : ∀ b, F b → b < w.heap.size → G b) (h : (rSlice rByte).rd w F [u] l) : (rSlice rByte).rd w G [u] l := by
  obtain ⟨a, n, c, e, h1, h2, h3, h4⟩ := h
  exact ⟨a, n, c, e, h1, h2, h3, h4.imp id fun ⟨b, off, ea, hF, hl, hx⟩ => ⟨b, off, ea, hG b hF hl, hl, fun i x hi => by
    obtain ⟨ys, k1, k2⟩ := hx i x hi
    exact ⟨ys, k1, k2⟩⟩⟩

theorem rbs_shrink {w : World} {F G : Nat → Prop} {u : Value} {l : List (List UInt8)} (hG : ∀ b, F b → b < w.heap.size → G b) (h : rBs.rd w F [u] l) : rBs.rd w G [u] l := by
  obtain ⟨a, n, c, e, h1, h2, h3, h4⟩ := h
  refine ⟨a, n, c, e, h1, h2, h3, h4.imp id fun ⟨b, off, ea, hF, hl, hx⟩ => ⟨b, off, ea, hG b hF hl, hl, fun i x hi => ?_⟩⟩
  obtain ⟨ys, k1, k2⟩ := hx i x hi
  have hl : ys.length = 1 := (rSlice rByte).len k2
  obtain ⟨v, rfl⟩ : ∃ v, ys = [v] := by match ys, hl with | [a], _ => exact ⟨a, rfl⟩
  exact ⟨[v], k1, rbytes_shrink hG k2⟩

theorem IsPages.shrink {w : World} {F G : Nat → Prop} {pb : Nat} {P : List (List UInt8)} (h : IsPages w F pb P) (hG : ∀ b, F b → b < w.heap.size → G b) : IsPages w G pb P := by
  obtain ⟨sv, h1, h2⟩ := h.at_
  exact ⟨hG _ h.mem h.lt, h.lt, sv, h1, rbs_shrink hG h2⟩

/-- Where the law's payloads may lie. -/
def LF (E : Nat → Prop) (B : DB) (fb wb b : Nat) : Prop := ¬ B.has b ∧ b ≠ fb ∧ b ≠ wb ∧ ¬ E b

/-- What the law's world turns. -/
def LB (B : DB) (fb wb b : Nat) : Prop := B.has b ∨ b = fb ∨ b = wb

abbrev mtV (mt : Option (Nat × List (List UInt8))) : Value := match mt with | none => .pointer none | some (q, _) => .pointer (some ⟨q, 0, none⟩)

/-- The law's world in memory: a page file on a disk and the payloads that it should have. -/
structure LM (W w : World) (E : Nat → Prop) (wb : Nat) (B : DB) (fb pb n N : Nat) (f : PF) (d : DK) (P : List (List UInt8)) (mt : Option (Nat × List (List UInt8))) (down : Bool) : Prop where
  bel : Below W.heap.size W w
  wge : W.heap.size ≤ wb
  bge : ∀ b, B.has b → W.heap.size ≤ b
  fge : W.heap.size ≤ fb
  nwB : ¬ B.has wb
  nwf : wb ≠ fb
  c0 : w.cell? ⟨wb, 0, none⟩ = some (.pointer (some ⟨B.db, 0, none⟩))
  c1 : w.cell? ⟨wb, 1, none⟩ = some (.pointer (some ⟨fb, 0, none⟩))
  c2 : w.cell? ⟨wb, 2, none⟩ = some (.pointer (some ⟨pb, 0, none⟩))
  c3 : w.cell? ⟨wb, 3, none⟩ = some (mtV mt)
  c4 : w.cell? ⟨wb, 4, none⟩ = some (.bool down)
  fr : ∀ j, w.frozen? ⟨wb, j, none⟩ = false
  disk : IsDisk w B d
  file : IsFile w fb B f
  fn : f.n = n
  pg : IsPages w (LF E B fb wb) pb P
  mg : ∀ q Q, mt = some (q, Q) → IsPages w (LF E B fb wb) q Q ∧ Pays n Q
  pays : Pays n P
  cap : capN N = n
  big : 7 ≤ N
  few : N ≤ 4096
  own : ∀ b, LB B fb wb b → ¬ E b

/-- The law's world. -/
structure LW (W w : World) (E : Nat → Prop) (wb : Nat) (B : DB) (fb pb n N : Nat) (f : PF) (d : DK) (P : List (List UInt8)) (mt : Option (Nat × List (List UInt8))) (down : Bool) : Prop where
  lm : LM W w E wb B fb pb n N f d P mt down
  up : down = false → f.failed = false ∧ mt = none ∧ Clean n N P d
  dn : down = true → d.down = true ∧ ∃ q Q, mt = some (q, Q) ∧ Ready N (fun st => Rec n P st ∨ Rec n Q st) d

/-- One change behind another. -/
theorem chg_then {G K : Nat → Prop} {w w1 w2 : World} (h : Chg G w w1) (k : Chg K w1 w2) (hK : ∀ b, b < w.heap.size → K b → G b) : Chg G w w2 :=
  ⟨k.os.trans h.os, k.tape.trans h.tape, k.output.trans h.output, Nat.le_trans h.size k.size, fun b hb hn => (k.block b (Nat.lt_of_lt_of_le hb h.size) (fun e => hn (hK b hb e))).trans (h.block b hb hn)⟩

theorem set_ne {w : World} {wb k j : Nat} {u : Value} (h : j ≠ k) : (w.setCell ⟨wb, k, none⟩ u).cell? ⟨wb, j, none⟩ = w.cell? ⟨wb, j, none⟩ := World.cell?_setCell_other _ _ _ _ (fun e => h (congrArg Addr.off e).symm)

section
variable {W w w' : World} {E E' : Nat → Prop} {wb fb pb n N : Nat} {B : DB} {f : PF} {d : DK} {P : List (List UInt8)} {mt : Option (Nat × List (List UInt8))} {down : Bool}

theorem LM.wl (h : LM W w E wb B fb pb n N f d P mt down) : wb < w.heap.size := cell_lt h.c0

theorem LM.bl (h : LM W w E wb B fb pb n N f d P mt down) : ∀ b, LB B fb wb b → b < w.heap.size := fun b hb => by
  have h1 := h.wl
  have h2 := h.file.lt
  have h3 := h.disk.lt
  rcases hb with (e | e | e) | e | e <;> (subst e; omega)

/-- Another block. -/
theorem LM.aside {G : Nat → Prop} (h : LM W w E wb B fb pb n N f d P mt down) (hc : Chg G w w') (hG : ∀ b, b < w.heap.size → G b → E b) (hW : ∀ b, G b → W.heap.size ≤ b) : LM W w' E wb B fb pb n N f d P mt down := by
  have hno : ∀ b, LB B fb wb b → ¬ G b := fun b hb e => h.own b hb (hG b (h.bl b hb) e)
  have hk : Kept (LF E B fb wb) w w' := fun b hb hl => hc.block b hl (fun e => hb.2.2.2 (hG b hl e))
  have c : ∀ j, w'.cell? ⟨wb, j, none⟩ = w.cell? ⟨wb, j, none⟩ := fun j => hc.cell (a := ⟨wb, j, none⟩) (hno wb (.inr (.inr rfl))) h.wl
  exact ⟨h.bel.trans (hc.below h.bel.size hW), h.wge, h.bge, h.fge, h.nwB, h.nwf, (c 0).trans h.c0, (c 1).trans h.c1, (c 2).trans h.c2, (c 3).trans h.c3, (c 4).trans h.c4, fun j => (hc.frozen (a := ⟨wb, j, none⟩) (hno wb (.inr (.inr rfl))) h.wl).trans (h.fr j), h.disk.keep hc (fun b hb => hno b (.inl hb)), h.file.keep hc (hno fb (.inr (.inl rfl))), h.fn, h.pg.keep hk hc.size, fun q Q e => ⟨(h.mg q Q e).1.keep hk hc.size, (h.mg q Q e).2⟩, h.pays, h.cap, h.big, h.few, h.own⟩

theorem LM.below (h : LM W w E wb B fb pb n N f d P mt down) (hb : Below w.heap.size w w') : LM W w' E wb B fb pb n N f d P mt down :=
  h.aside (G := fun b => w.heap.size ≤ b) (Chg.of_below hb) (fun b hl hg => absurd hg (by omega)) (fun b hg => Nat.le_trans h.bel.size hg)

/-- The other world's blocks have changed. -/
theorem LM.more (h : LM W w E wb B fb pb n N f d P mt down) (hE : ∀ b, b < w.heap.size → E' b → E b) : LM W w E' wb B fb pb n N f d P mt down := by
  have hs : ∀ b, LF E B fb wb b → b < w.heap.size → LF E' B fb wb b := fun b hb hl => ⟨hb.1, hb.2.1, hb.2.2.1, fun e => hb.2.2.2 (hE b hl e)⟩
  exact ⟨h.bel, h.wge, h.bge, h.fge, h.nwB, h.nwf, h.c0, h.c1, h.c2, h.c3, h.c4, h.fr, h.disk, h.file, h.fn, h.pg.shrink hs, fun q Q e => ⟨(h.mg q Q e).1.shrink hs, (h.mg q Q e).2⟩, h.pays, h.cap, h.big, h.few, fun b hb e => h.own b hb (hE b (h.bl b hb) e)⟩

/-- The file, and its disk, have turned. -/
theorem LM.turns {f' : PF} {d' : DK} (h : LM W w E wb B fb pb n N f d P mt down) (ht : PTurns fb B w w' f' d') (hn : f'.n = n) : LM W w' E wb B fb pb n N f' d' P mt down := by
  have hwl : wb < w.heap.size := cell_lt h.c0
  have hno : ¬ (B.has wb ∨ wb = fb) := fun e => e.elim h.nwB h.nwf
  have hk : Kept (LF E B fb wb) w w' := fun b hb hl => ht.2.2.block b hl (fun e => e.elim hb.1 hb.2.1)
  have c : ∀ j, w'.cell? ⟨wb, j, none⟩ = w.cell? ⟨wb, j, none⟩ := fun j => ht.2.2.cell (a := ⟨wb, j, none⟩) hno hwl
  have hb : Below W.heap.size w w' := ht.2.2.below h.bel.size (fun b hb => hb.elim (h.bge b) (fun e => by rw [e]; exact h.fge))
  exact ⟨h.bel.trans hb, h.wge, h.bge, h.fge, h.nwB, h.nwf, (c 0).trans h.c0, (c 1).trans h.c1, (c 2).trans h.c2, (c 3).trans h.c3, (c 4).trans h.c4, fun j => (ht.2.2.frozen (a := ⟨wb, j, none⟩) hno hwl).trans (h.fr j), ht.2.1, ht.1, hn, h.pg.keep hk ht.2.2.size, fun q Q e => ⟨(h.mg q Q e).1.keep hk ht.2.2.size, (h.mg q Q e).2⟩, h.pays, h.cap, h.big, h.few, h.own⟩

theorem LM.turns' {d' : DK} (h : LM W w E wb B fb pb n N f d P mt down) (ht : Turns B w w' d') : LM W w' E wb B fb pb n N f d' P mt down :=
  h.turns ((PTurns.refl h.file h.disk).of_turns ht) h.fn

/-- What a store to the world's block keeps. -/
theorem LM.set (h : LM W w E wb B fb pb n N f d P mt down) (k : Nat) (u : Value) : Below W.heap.size W (w.setCell ⟨wb, k, none⟩ u) ∧ (∀ j, (w.setCell ⟨wb, k, none⟩ u).frozen? ⟨wb, j, none⟩ = false) ∧ IsDisk (w.setCell ⟨wb, k, none⟩ u) B d ∧ IsFile (w.setCell ⟨wb, k, none⟩ u) fb B f ∧
    (∀ q Q, IsPages w (LF E B fb wb) q Q → IsPages (w.setCell ⟨wb, k, none⟩ u) (LF E B fb wb) q Q) := by
  have g1 : Chg (fun b => b = wb) w (w.setCell ⟨wb, k, none⟩ u) := Chg.setCell _ _ rfl
  exact ⟨h.bel.setCell h.wge _, fun j => by rw [World.frozen?_setCell]; exact h.fr j, h.disk.keep g1 (fun b hb e => h.nwB (e ▸ hb)), h.file.keep g1 (fun e => h.nwf e.symm), fun q Q hq => hq.keep (fun b hb hl => g1.block b hl hb.2.2.1) g1.size⟩

theorem LM.setDown (h : LM W w E wb B fb pb n N f d P mt down) (b : Bool) : LM W (w.setCell ⟨wb, 4, none⟩ (.bool b)) E wb B fb pb n N f d P mt b := by
  have k := h.set 4 (.bool b)
  exact ⟨k.1, h.wge, h.bge, h.fge, h.nwB, h.nwf, (set_ne (by decide)).trans h.c0, (set_ne (by decide)).trans h.c1, (set_ne (by decide)).trans h.c2, (set_ne (by decide)).trans h.c3, World.cell?_setCell_same _ _ _ h.c4, k.2.1, k.2.2.1, k.2.2.2.1, h.fn, k.2.2.2.2 _ _ h.pg, fun q Q e => ⟨k.2.2.2.2 _ _ (h.mg q Q e).1, (h.mg q Q e).2⟩, h.pays, h.cap, h.big, h.few, h.own⟩

theorem LM.setPages {q : Nat} {Q : List (List UInt8)} (h : LM W w E wb B fb pb n N f d P mt down) (hq : IsPages w (LF E B fb wb) q Q) (hQ : Pays n Q) : LM W (w.setCell ⟨wb, 2, none⟩ (.pointer (some ⟨q, 0, none⟩))) E wb B fb q n N f d Q mt down := by
  have k := h.set 2 (.pointer (some ⟨q, 0, none⟩))
  exact ⟨k.1, h.wge, h.bge, h.fge, h.nwB, h.nwf, (set_ne (by decide)).trans h.c0, (set_ne (by decide)).trans h.c1, World.cell?_setCell_same _ _ _ h.c2, (set_ne (by decide)).trans h.c3, (set_ne (by decide)).trans h.c4, k.2.1, k.2.2.1, k.2.2.2.1, h.fn, k.2.2.2.2 _ _ hq, fun q Q e => ⟨k.2.2.2.2 _ _ (h.mg q Q e).1, (h.mg q Q e).2⟩, hQ, h.cap, h.big, h.few, h.own⟩

theorem LM.setMight {mt' : Option (Nat × List (List UInt8))} (h : LM W w E wb B fb pb n N f d P mt down) (hm : ∀ q Q, mt' = some (q, Q) → IsPages w (LF E B fb wb) q Q ∧ Pays n Q) : LM W (w.setCell ⟨wb, 3, none⟩ (mtV mt')) E wb B fb pb n N f d P mt' down := by
  have k := h.set 3 (mtV mt')
  exact ⟨k.1, h.wge, h.bge, h.fge, h.nwB, h.nwf, (set_ne (by decide)).trans h.c0, (set_ne (by decide)).trans h.c1, (set_ne (by decide)).trans h.c2, World.cell?_setCell_same _ _ _ h.c3, (set_ne (by decide)).trans h.c4, k.2.1, k.2.2.1, k.2.2.2.1, h.fn, k.2.2.2.2 _ _ h.pg, fun q Q e => ⟨k.2.2.2.2 _ _ (hm q Q e).1, (hm q Q e).2⟩, h.pays, h.cap, h.big, h.few, h.own⟩

/-- The file is another. -/
theorem LM.setFile {fb' : Nat} {f' : PF} (h : LM W w E' wb B fb pb n N f d P mt down) (hf : IsFile w fb' B f') (hn : f'.n = n) (hW : W.heap.size ≤ fb') (hE' : E' fb') (hE : ¬ E fb') (hs : ∀ b, E b → E' b) :
    LM W (w.setCell ⟨wb, 1, none⟩ (.pointer (some ⟨fb', 0, none⟩))) E wb B fb' pb n N f' d P mt down := by
  have hnw : wb ≠ fb' := fun e => h.own wb (.inr (.inr rfl)) (e ▸ hE')
  have k := h.set 1 (.pointer (some ⟨fb', 0, none⟩))
  have g1 : Chg (fun b => b = wb) w (w.setCell ⟨wb, 1, none⟩ (.pointer (some ⟨fb', 0, none⟩))) := Chg.setCell _ _ rfl
  have sh : ∀ b, LF E' B fb wb b → LF E B fb' wb b := fun b hb => ⟨hb.1, fun e => hb.2.2.2 (e ▸ hE'), hb.2.2.1, fun e => hb.2.2.2 (hs b e)⟩
  exact ⟨k.1, h.wge, h.bge, hW, h.nwB, hnw, (set_ne (by decide)).trans h.c0, World.cell?_setCell_same _ _ _ h.c1, (set_ne (by decide)).trans h.c2, (set_ne (by decide)).trans h.c3, (set_ne (by decide)).trans h.c4, k.2.1, k.2.2.1, hf.keep g1 (fun e => hnw e.symm), hn, (k.2.2.2.2 _ _ h.pg).shrink (fun b hb _ => sh b hb), fun q Q e => ⟨(k.2.2.2.2 _ _ (h.mg q Q e).1).shrink (fun b hb _ => sh b hb), (h.mg q Q e).2⟩, h.pays, h.cap, h.big, h.few, fun b hb he => hb.elim (fun e => h.own b (.inl e) (hs b he)) (fun e => e.elim (fun e => hE (e ▸ he)) (fun e => h.own b (.inr (.inr e)) (hs b he)))⟩

theorem LW.below (h : LW W w E wb B fb pb n N f d P mt down) (hb : Below w.heap.size w w') : LW W w' E wb B fb pb n N f d P mt down := ⟨h.lm.below hb, h.up, h.dn⟩
end

set_option maxRecDepth 100000 in
set_option maxHeartbeats 2000000 in
theorem begin36 (pp : Nat) (hpp : pp < 256) (W w : World) (E : Nat → Prop) (hE0 : ∀ b, E b → b < w.heap.size) (hb : Below W.heap.size W w) : Calls Tryd.prog 21 #[.int .u8 (pp : Int)] w fun e w' =>
    ∃ wb B fb pb d, e = .returned (.pointer (some ⟨wb, 0, none⟩)) ∧ LW W w' E wb B fb pb (capN (7 + pp % 25)) (7 + pp % 25) ⟨capN (7 + pp % 25), false⟩ d (zeroP (capN (7 + pp % 25))) none false ∧ d.fuse = 0 ∧ Below w.heap.size w w' ∧ (∀ b, LB B fb wb b → w.heap.size ≤ b) := by
  have HE0 := Lib.hid hE0
  clear hE0
  obtain ⟨m, hm⟩ : ∃ m, m = pp % 25 := ⟨_, rfl⟩
  have hmr : Int.tmod (pp : Int) 25 = (m : Int) := by subst hm; rw [Int.tmod_eq_emod_of_nonneg (by omega)]; rfl
  have hm25 : m < 25 := by omega
  rw [← hm]
  obtain ⟨N, hN⟩ : ∃ N, N = 7 + m := ⟨_, rfl⟩
  rw [← hN]
  have hNI : (7 : Int) + (m : Int) = (N : Int) := by omega
  have hmb : 0 ≤ (m : Int) ∧ (m : Int) < 25 := by omega
  have hcl := new_clean (N := N) (by omega)
  obtain ⟨n, hn⟩ : ∃ n, n = capN N := ⟨_, rfl⟩
  rw [← hn] at hcl ⊢
  have HCL := Lib.hid hcl
  have HB := Lib.hid hb
  have HN := Lib.hid hN
  have HCN := Lib.hid hn
  have hNb : 0 ≤ (N : Int) ∧ (N : Int) ≤ 31 := by omega
  clear hm hcl hb hn hN
  go_enter Tryd.func21, Tryd.ntmps21
  go_wp2_with fail
  refine (dk_new (N : Int) N (by have := HN.out; omega) _).mono ?_
  rintro e w1 ⟨B, rfl, hM⟩
  have HM := Lib.hid hM
  have HBG := Lib.hid (show ∀ b, B.has b → w.heap.size ≤ b from fun b hb => by
    have := hM.2.2
    rcases hb with rfl | rfl | rfl <;> omega)
  clear hM
  unfold DB.ptr
  go_wp2_with fail
  obtain ⟨W1, hW1⟩ : ∃ W1, W1 = w1.alloc (.cells #[.pointer (some ⟨B.db, 0, none⟩), .pointer none, .pointer none, .pointer none, .bool false] 39) := ⟨_, rfl⟩
  have hbW : Below w1.heap.size w1 W1 := by rw [hW1]; exact (Below.refl _ _).alloc (Nat.le_refl _) _
  have hcs : ∀ j u, ([.pointer (some ⟨B.db, 0, none⟩), .pointer none, .pointer none, .pointer none, .bool false] : List Value)[j]? = some u → W1.cell? ⟨w1.heap.size, j, none⟩ = some u := fun j u hu => by
    rw [hW1]
    have := new_cells w1 [.pointer (some ⟨B.db, 0, none⟩), .pointer none, .pointer none, .pointer none, .bool false] 39 j u hu
    rw [Addr.add_mid, Nat.zero_add] at this; exact this
  have hfr : ∀ j, W1.frozen? ⟨w1.heap.size, j, none⟩ = false := fun j => by rw [hW1]; go_simp
  have hzW : W1.heap.size = w1.heap.size + 1 := by rw [hW1]; simp
  rw [← hW1]
  have hBW := HB.out.trans (HM.out.2.1.mono HB.out.size)
  have hBg : ∀ b, B.has b → W.heap.size ≤ b := fun b hb => Nat.le_trans HB.out.size (HBG.out b hb)
  have hBl : ∀ b, B.has b → b < w1.heap.size := fun b hb => by
    have := HM.out.1.lt
    rcases hb with rfl | rfl | rfl <;> omega
  refine (fd_open (W := W) (HM.out.1.below hbW) HCL.out.up HCL.out.buf HCL.out.len HCL.out.cap HCL.out.big HCL.out.recs (hBW.trans (hbW.mono hBW.size)) hBg).mono ?_
  rintro e w3 (⟨fb, d', rfl, hfb, hfd, hc2, hfu, hch⟩ | ⟨d', rfl, hfu, _⟩)
  · obtain ⟨wb, hwb⟩ : ∃ wb, wb = w1.heap.size := ⟨_, rfl⟩
    rw [← hwb] at hcs hfr
    have hwl : wb < W1.heap.size := by omega
    have hnB : ¬ B.has wb := fun h => by have := hBl _ h; omega
    have c : ∀ j u, ([.pointer (some ⟨B.db, 0, none⟩), .pointer none, .pointer none, .pointer none, .bool false] : List Value)[j]? = some u → w3.cell? ⟨wb, j, none⟩ = some u := fun j u hu => (hch.cell (a := ⟨wb, j, none⟩) hnB hwl).trans (hcs j u hu)
    have c1 := c 1 _ rfl
    have c2 := c 2 _ rfl
    have f3 : ∀ j, w3.frozen? ⟨wb, j, none⟩ = false := fun j => (hch.frozen (a := ⟨wb, j, none⟩) hnB hwl).trans (hfr j)
    have f1 := f3 1
    have f2 := f3 2
    have HC := Lib.hid c
    have HFZ := Lib.hid f3
    have HFD := Lib.hid hfd
    have HC2 := Lib.hid hc2
    have HFU := Lib.hid (hfu rfl)
    have HZ3 := Lib.hid (show wb < w3.heap.size ∧ w.heap.size ≤ wb ∧ W.heap.size ≤ wb from ⟨Nat.lt_of_lt_of_le hwl hch.size, by rw [hwb]; exact HM.out.2.1.size, by rw [hwb]; exact hBW.size⟩)
    have HFB := Lib.hid (show wb < fb from by omega)
    have HNB := Lib.hid hnB
    have HCH := Lib.hid (show Below w.heap.size w w3 from (HM.out.2.1.trans (hbW.mono HM.out.2.1.size)).trans (hch.below (by have := HM.out.2.1.size; omega) HBG.out))
    have HBG2 := Lib.hid hBg
    have HBM := Lib.hid (show ∀ b, B.has b → w.heap.size ≤ b from HBG.out)
    have HBL := Lib.hid (show ∀ b, B.has b → b < w3.heap.size from fun b hb => by have := hBl b hb; have := hch.size; omega)
    have hcn := HC2.out.cap
    have hn4 := HC2.out.pos.2.2
    rw [← hwb]
    clear hW1 hbW hcs hfr hzW hBW hBg hBl c f3 hfd hc2 hfu hch hfb hwl hnB hwb
    unfold pfPtr
    go_wp2_with fail
    refine (pf_refCapacity (N : Int) _).mono ?_
    rintro e w4 ⟨rfl, hw4⟩
    rw [capI_nat, hcn]
    have hw4' := hw4.symm
    clear hw4
    subst hw4'
    go_wp2_with fail
    refine (rf_newPages n hn4 _).mono ?_
    rintro e w5 ⟨rfl, hb5, hpg⟩
    obtain ⟨w4, hw4⟩ : ∃ w4, w4 = w3.setCell ⟨wb, 1, none⟩ (.pointer (some ⟨fb, 0, none⟩)) := ⟨_, rfl⟩
    rw [← hw4] at hb5 hpg ⊢
    have hch4 : Chg (fun b => b = wb) w3 w4 := by rw [hw4]; exact Chg.setCell _ _ rfl
    have k1 : w4.cell? ⟨wb, 1, none⟩ = some (.pointer (some ⟨fb, 0, none⟩)) := by rw [hw4]; exact World.cell?_setCell_same _ _ _ c1
    have kk : ∀ j u, j ≠ 1 → ([.pointer (some ⟨B.db, 0, none⟩), .pointer none, .pointer none, .pointer none, .bool false] : List Value)[j]? = some u → w4.cell? ⟨wb, j, none⟩ = some u := fun j u hj hu => by
      rw [hw4, World.cell?_setCell_other _ _ _ _ (fun h => hj (congrArg Addr.off h).symm)]
      exact HC.out j u hu
    have kf : ∀ j, w4.frozen? ⟨wb, j, none⟩ = false := fun j => by rw [hw4, World.frozen?_setCell]; exact HFZ.out j
    have hz4 : w4.heap.size = w3.heap.size := by rw [hw4]; simp
    have hwl4 : wb < w4.heap.size := by rw [hz4]; exact HZ3.out.1
    have m : ∀ j, w5.cell? ⟨wb, j, none⟩ = w4.cell? ⟨wb, j, none⟩ := fun j => hb5.cell (p := ⟨wb, j, none⟩) hwl4
    have mf : ∀ j, w5.frozen? ⟨wb, j, none⟩ = false := fun j => by
      have := kf j
      unfold World.frozen? at this ⊢
      rw [show w5.heap[(⟨wb, j, none⟩ : Addr).block]? = _ from hb5.block wb hwl4]; exact this
    have m2 : w5.cell? ⟨wb, 2, none⟩ = some (.pointer none) := (m 2).trans (kk 2 _ (by omega) rfl)
    have mf2 := mf 2
    have hnwf : ¬ wb = fb := by have := HFB.out; omega
    have HLB := Lib.hid (show ∀ b, LB B fb wb b → w.heap.size ≤ b from fun b hb => by
      have h2 := HZ3.out.2.1
      rcases hb with e | e | e
      · exact HBM.out b e
      · have := HFB.out; omega
      · omega)
    have HFIN := Lib.hid (show LW W (w5.setCell ⟨wb, 2, none⟩ (.pointer (some ⟨w4.heap.size, 0, none⟩))) E wb B fb w4.heap.size n N ⟨n, false⟩ d' (zeroP n) none false ∧ Below w.heap.size w (w5.setCell ⟨wb, 2, none⟩ (.pointer (some ⟨w4.heap.size, 0, none⟩))) from by
      have hch5 : Chg (fun b => b = wb) w5 (w5.setCell ⟨wb, 2, none⟩ (.pointer (some ⟨w4.heap.size, 0, none⟩))) := Chg.setCell _ _ rfl
      have hd : ∀ b, B.has b → ¬ b = wb := fun b hb e => HNB.out (e ▸ hb)
      have hf' : ¬ fb = wb := fun e => hnwf e.symm
      have hbel : Below W.heap.size W w5 := by
        have h1 : Below W.heap.size W w4 := HFD.out.bel.trans (hch4.below HFD.out.bel.size (fun b e => by rw [e]; exact HZ3.out.2.2))
        exact h1.trans (hb5.mono h1.size)
      have hbel2 : Below w.heap.size w w5 := by
        have h1 : Below w.heap.size w w4 := HCH.out.trans (hch4.below HCH.out.size (fun b e => by rw [e]; exact HZ3.out.2.1))
        exact h1.trans (hb5.mono h1.size)
      refine ⟨⟨⟨hbel.setCell HZ3.out.2.2 _, HZ3.out.2.2, HBG2.out, HFD.out.fge, HNB.out, hnwf, ?_, ?_, World.cell?_setCell_same _ _ _ m2, ?_, ?_, fun j => by rw [World.frozen?_setCell]; exact mf j, ?_, ?_, rfl, ?_, (fun q Q e => by cases e), zeroP_pays n, HC2.out.cap, HC2.out.big, by have := HN.out; omega, fun b hb he => by have := HLB.out b hb; have := HE0.out b he; omega⟩, fun _ => ⟨rfl, rfl, HC2.out⟩, (fun e => by cases e)⟩, hbel2.setCell HZ3.out.2.1 _⟩
      · rw [World.cell?_setCell_other _ _ _ _ (by simp)]; exact (m 0).trans (kk 0 _ (by omega) rfl)
      · rw [World.cell?_setCell_other _ _ _ _ (by simp)]; exact (m 1).trans k1
      · rw [World.cell?_setCell_other _ _ _ _ (by simp)]; exact (m 3).trans (kk 3 _ (by omega) rfl)
      · rw [World.cell?_setCell_other _ _ _ _ (by simp)]; exact (m 4).trans (kk 4 _ (by omega) rfl)
      · exact (((HFD.out.disk.keep hch4 hd).below hb5).keep hch5 hd)
      · exact (((HFD.out.file.keep hch4 hf').keep (Chg.of_below hb5 (F := fun _ => False)) (fun h => h)).keep hch5 hf')
      · refine (hpg.keep (w' := w5.setCell ⟨wb, 2, none⟩ (.pointer (some ⟨w4.heap.size, 0, none⟩))) (fun b hb hl => hch5.block b hl (by omega)) hch5.size).shrink (fun b hb hl => ⟨fun h => ?_, ?_, by omega, fun h => ?_⟩)
        · have := HBL.out b h; omega
        · have := HFD.out.file.lt; omega
        · have := HE0.out b h; have := HCH.out.size; omega)
    rw [hz4] at HFIN
    clear hb5 hpg hch4 k1 kk kf m mf HC HFZ
    go_wp2
    go_ret
    exact ⟨wb, B, fb, _, d', rfl, HFIN.out.1, HFU.out, HFIN.out.2, HLB.out⟩
  · exact absurd rfl hfu
end Go.Proofs.YtngddhoolijimaaDoor
namespace Go.Proofs.YtngddhoolijimaaDoor
open Go.RowKit
set_option linter.unusedVariables false

section
variable {W w wa w' : World} {E : Nat → Prop} {wb fb pb n N : Nat} {B : DB} {f : PF} {d da : DK} {P P' : List (List UInt8)} {mt : Option (Nat × List (List UInt8))} {down : Bool}

/-- Opened in vain. -/
def OpA (W w : World) (E : Nat → Prop) (wb : Nat) (B : DB) (fb pb n N : Nat) (f : PF) (P' P : List (List UInt8)) (mt : Option (Nat × List (List UInt8))) (down : Bool) (a b : Value) (wr : World) : Prop :=
  ∃ dr, a = .pointer none ∧ b = .int .i64 13 ∧ dr.down = true ∧ Ready N (Rec n P') dr ∧ LM W wr (fun b => E b ∨ w.heap.size ≤ b) wb B fb pb n N f dr P mt down ∧ Chg (LB B fb wb) w wr

/-- Opened. -/
def OpB (W w : World) (E : Nat → Prop) (wb : Nat) (B : DB) (fb pb n N : Nat) (f : PF) (P' P : List (List UInt8)) (mt : Option (Nat × List (List UInt8))) (down : Bool) (a b : Value) (wr : World) : Prop :=
  ∃ fb' dr, a = .pointer (some ⟨fb', 0, none⟩) ∧ b = .int .i64 0 ∧ w.heap.size ≤ fb' ∧ IsFile wr fb' B ⟨n, false⟩ ∧ Clean n N P' dr ∧ LM W wr (fun b => E b ∨ w.heap.size ≤ b) wb B fb pb n N f dr P mt down ∧ Chg (LB B fb wb) w wr

theorem open_any (h : LM W wa (fun b => E b ∨ w.heap.size ≤ b) wb B fb pb n N f da P mt down) (hw : Chg (LB B fb wb) w wa) (hup : da.down = false) (hbuf : da.buf = noBuf) (hl : da.st.length = N) (hr : Rec n P' da.st) :
    Calls Tryd.prog 17 #[.pointer (some ⟨B.db, 0, none⟩)] wa fun e w' => ∃ a b, e = .returned (.tuple #[a, b]) ∧ ((OpA W w E wb B fb pb n N f P' P mt down a b w' ∧ da.fuse ≠ 0) ∨ OpB W w E wb B fb pb n N f P' P mt down a b w') := by
  refine (fd_open (W := W) h.disk hup hbuf hl h.cap h.big hr h.bel h.bge).mono ?_
  have hB : ∀ b, b < w.heap.size → B.has b → LB B fb wb b := fun b _ hb => .inl hb
  rintro e w' (⟨fb', d', rfl, hfb, hfd, hc, _, hch⟩ | ⟨d', rfl, hfu, hd, hdn, hrd, hch⟩)
  · exact ⟨_, _, rfl, .inr ⟨fb', d', rfl, rfl, Nat.le_trans hw.size hfb, hfd.file, hc, h.turns' ⟨hfd.disk, hch⟩, chg_then hw hch hB⟩⟩
  · exact ⟨_, _, rfl, .inl ⟨⟨d', rfl, rfl, hdn, hrd, h.turns' ⟨hd, hch⟩, chg_then hw hch hB⟩, hfu⟩⟩

set_option maxRecDepth 100000 in
set_option maxHeartbeats 8000000 in
theorem open36 (h : LM W w E wb B fb pb n N f d P mt down) (hr : Ready N (fun st => Rec n P st ∨ ∃ q Q, mt = some (q, Q) ∧ Rec n Q st) d) (hE : ∀ b, E b → b < w.heap.size)
    (arm : Int) (harm : (Lit.int .i64 arm).wf = true) (kv : Value) (keep : List Int) (hk : (rSlice (rInt .i64)).rd W (· < W.heap.size) [kv] keep) (hkm : keep.length ≤ 1000000) :
    Calls Tryd.prog 27 #[.pointer (some ⟨wb, 0, none⟩), .int .i64 arm, kv] w fun e w' => e = .returned (.bool true) ∧
      ∃ fb' pb' d' P', LW W w' E wb B fb' pb' n N ⟨n, false⟩ d' P' none false ∧ d'.fuse = 0 ∧ (P' = P ∨ ∃ q Q, mt = some (q, Q) ∧ P' = Q) ∧ w.heap.size ≤ fb' ∧ Chg (LB B fb wb) w w' := by
  obtain ⟨h1, h2, h3, h4, h5⟩ := hr.restart
  obtain ⟨P', hrec, hP'⟩ : ∃ P', Rec n P' d.restart.st ∧ (P' = P ∨ ∃ q Q, mt = some (q, Q) ∧ P' = Q) := by
    rcases h3 with h3 | ⟨q, Q, e, h3⟩
    · exact ⟨P, h3, .inl rfl⟩
    · exact ⟨Q, h3, .inr ⟨q, Q, e, rfl⟩⟩
  obtain ⟨D, hD⟩ : ∃ D, D = d.restart.arm arm := ⟨_, rfl⟩
  have HD := Lib.hid (show D.down = false ∧ D.buf = noBuf ∧ D.st.length = N ∧ Rec n P' D.st from by rw [hD]; exact ⟨h1, h2, h4, hrec⟩)
  have HDE := Lib.hid hD
  have HP' := Lib.hid hP'
  have HE := Lib.hid hE
  have HKB := Lib.hid (show ∀ b, W.heap.size ≤ b → W.heap.size ≤ b from fun _ h => h)
  have HK := Lib.hid hk
  have HL := Lib.hid (show LM W w (fun b => E b ∨ w.heap.size ≤ b) wb B fb pb n N f d P mt down from h.more (fun b hl e => e.elim id (fun e => absurd e (by omega))))
  have c0 := h.c0
  clear h hr h1 h2 h3 h4 h5 hrec hD hP' hE hk
  go_enter Tryd.func27, Tryd.ntmps27
  go_wp2_with fail
  refine (dk_restart HL.out.disk).mono ?_
  rintro e w1 ⟨rfl, hT⟩
  have HC1 := Lib.hid (show Chg (LB B fb wb) w w1 from chg_then (Chg.refl _ _) hT.2 (fun b _ hb => .inl hb))
  have HL1 := Lib.hid (HL.out.turns' hT)
  have c1 := HL1.out.c0
  clear hT c0
  go_wp2_with fail
  refine (dk_failAfter HL1.out.disk arm harm).mono ?_
  rintro e w2 ⟨rfl, hT⟩
  have HC2 := Lib.hid (show Chg (LB B fb wb) w w2 from chg_then HC1.out hT.2 (fun b _ hb => .inl hb))
  rw [← HDE.out] at hT
  have HL2 := Lib.hid (HL1.out.turns' hT)
  have c0 := HL2.out.c0
  clear hT c1
  go_wp2_with fail
  refine (open_any HL2.out HC2.out HD.out.1 HD.out.2.1 HD.out.2.2.1 HD.out.2.2.2).mono ?_
  rintro e w3 ⟨a, b, rfl, hst⟩
  have HST := Lib.hid hst
  clear hst c0
  go_wp2
  go_loopg [7, 8, 9] 1 (fun gk t7 t8 t9 wr => ∃ k : Nat, t9 = .int .i64 (k : Int) ∧ ((gk = 1 ∧ k = 0 ∧ OpA W w E wb B fb pb n N f P' P mt down t7 t8 wr) ∨ (k ≤ 1 ∧ OpB W w E wb B fb pb n N f P' P mt down t7 t8 wr)))
  case atStart => exact ⟨0, rfl, HST.out.elim (fun h => .inl ⟨rfl, rfl, h.1⟩) (fun h => .inr ⟨by omega, h⟩)⟩
  case round =>
    obtain ⟨k, rfl, ⟨hgk, rfl, dr, rfl, rfl, hdn, hrd, hlm, hch⟩ | ⟨hk1, fb', dr, rfl, rfl, hfb, hf, hcl, hlm, hch⟩⟩ := hrel
    · have HCH := Lib.hid hch
      have HLR := Lib.hid hlm
      have HRD := Lib.hid hrd
      have c0 := hlm.c0
      clear hrd hlm hch hdn HST
      go_wp2_with fail
      refine (dk_crash HLR.out.disk kv keep (keep_of HK.out (fun b hb => ⟨hb, fun e => by have := HLR.out.bge b (.inr (.inl e)); omega⟩) HLR.out.bel) hkm).mono ?_
      rintro e w4 ⟨rfl, hT⟩
      have HC4 := Lib.hid (show Chg (LB B fb wb) w w4 from chg_then HCH.out hT.2 (fun b _ hb => .inl hb))
      have HL4 := Lib.hid (HLR.out.turns' hT)
      have c1 := HL4.out.c0
      clear hT c0
      go_wp2_with fail
      refine (dk_restart HL4.out.disk).mono ?_
      rintro e w5 ⟨rfl, hT⟩
      have HC5 := Lib.hid (show Chg (LB B fb wb) w w5 from chg_then HC4.out hT.2 (fun b _ hb => .inl hb))
      have HL5 := Lib.hid (HL4.out.turns' hT)
      have c0 := HL5.out.c0
      clear hT c1
      obtain ⟨h1, h2, h3, h4, h5⟩ := (HRD.out.crash keep).restart
      go_wp2_with fail
      refine (open_any HL5.out HC5.out h1 h2 h4 h3).mono ?_
      rintro e w6 ⟨a, b, rfl, hst⟩
      have HST := Lib.hid (hst.resolve_left (fun h => h.2 h5))
      clear hst c0 h1 h2 h3 h4 h5
      go_wp2_with fail
      go_roundg (gk - 1)
      case measure => omega
      case rel => exact ⟨1, rfl, .inr ⟨by omega, HST.out⟩⟩
    · have HCH := Lib.hid hch
      have HLR := Lib.hid hlm
      have HCL := Lib.hid hcl
      have HF := Lib.hid hf
      have c0 := hlm.c0
      have hkb : 0 ≤ (k : Int) ∧ (k : Int) ≤ 1 := by omega
      clear hcl hlm hch hf HST
      go_wp2_with fail
      refine (dk_failAfter HLR.out.disk 0 (by rfl)).mono ?_
      rintro e w4 ⟨rfl, hT⟩
      have HC4 := Lib.hid (show Chg (LB B fb wb) w w4 from chg_then HCH.out hT.2 (fun b _ hb => .inl hb))
      have HF4 := Lib.hid (HF.out.turns hT)
      have HCL4 := Lib.hid (HCL.out.arm 0)
      have HFU := Lib.hid (show (dr.arm 0).fuse = 0 from rfl)
      obtain ⟨D4, hD4⟩ : ∃ D4, D4 = dr.arm 0 := ⟨_, rfl⟩
      rw [← hD4] at hT HCL4 HFU
      have HL4 := Lib.hid (HLR.out.turns' hT)
      have HFB := Lib.hid (show W.heap.size ≤ fb' ∧ ¬ E fb' ∧ fb' ≠ wb from ⟨Nat.le_trans HL.out.bel.size hfb, fun e => by have := HE.out _ e; omega, fun e => by have := HL.out.wl; omega⟩)
      have k1 := HL4.out.c1
      have k2 := HL4.out.c2
      have k3 := HL4.out.c3
      have k4 := HL4.out.c4
      have f1 := HL4.out.fr 1
      have f2 := HL4.out.fr 2
      have f3 := HL4.out.fr 3
      have f4 := HL4.out.fr 4
      have HFBW := Lib.hid hfb
      clear hT hD4 c0 hfb
      cases mt with
      | none =>
        have k3' : w4.cell? ⟨wb, 3, none⟩ = some (.pointer none) := k3
        clear k3
        go_wp2_with fail
        obtain ⟨W3, hW3⟩ : ∃ W3, W3 = (((w4.setCell ⟨wb, 1, none⟩ (.pointer (some ⟨fb', 0, none⟩))).setCell ⟨wb, 4, none⟩ (.bool false)).setCell ⟨wb, 3, none⟩ (.pointer none)) := ⟨_, rfl⟩
        have HL5 := Lib.hid (show LM W W3 E wb B fb' pb n N ⟨n, false⟩ D4 P none false from by
          rw [hW3]
          exact ((HL4.out.setFile HF4.out rfl HFB.out.1 (.inr HFBW.out) HFB.out.2.1 (fun b e => .inl e)).setDown false).setMight (mt' := none) (fun q Q e => by cases e))
        have HC5 := Lib.hid (show Chg (LB B fb wb) w W3 from by
          rw [hW3]
          exact ((HC4.out.trans (Chg.setCell _ _ (.inr (.inr rfl)))).trans (Chg.setCell _ _ (.inr (.inr rfl)))).trans (Chg.setCell _ _ (.inr (.inr rfl))))
        rw [← hW3]
        clear hW3
        have hrd := reads36 HL5.out.file HL5.out.disk HCL4.out HL5.out.pg HL5.out.pays (fun b hb e => e.elim hb.1 hb.2.1)
        have hPP : P' = P := HP'.out.resolve_right (fun ⟨q, Q, e, _⟩ => by cases e)
        rw [decide_eq_true hPP] at hrd
        unfold pfPtr at hrd
        refine hrd.mono ?_
        rintro e w5 ⟨rfl, hT⟩
        have HFIN := Lib.hid (show ∃ fb' pb' d' P'', LW W w5 E wb B fb' pb' n N ⟨n, false⟩ d' P'' none false ∧ d'.fuse = 0 ∧ (P'' = P ∨ ∃ q Q, (none : Option (Nat × List (List UInt8))) = some (q, Q) ∧ P'' = Q) ∧ w.heap.size ≤ fb' ∧ Chg (LB B fb wb) w w5 from
          ⟨fb', pb, D4, P, ⟨HL5.out.turns hT rfl, fun _ => ⟨rfl, rfl, hPP ▸ HCL4.out⟩, fun e => by cases e⟩, HFU.out, .inl rfl, HFBW.out, chg_then HC5.out hT.2.2 (fun b hb e => e.elim (fun e => .inl e) (fun e => by have := HFBW.out; omega))⟩)
        clear hrd hT
        go_wp2
        go_ret
        exact ⟨rfl, HFIN.out⟩
      | some x =>
        obtain ⟨q, Q⟩ := x
        have k3' : w4.cell? ⟨wb, 3, none⟩ = some (.pointer (some ⟨q, 0, none⟩)) := k3
        clear k3
        go_wp2_with fail
        obtain ⟨W2, hW2⟩ : ∃ W2, W2 = ((w4.setCell ⟨wb, 1, none⟩ (.pointer (some ⟨fb', 0, none⟩))).setCell ⟨wb, 4, none⟩ (.bool false)) := ⟨_, rfl⟩
        have HL5 := Lib.hid (show LM W W2 E wb B fb' pb n N ⟨n, false⟩ D4 P (some (q, Q)) false from by
          rw [hW2]
          exact (HL4.out.setFile HF4.out rfl HFB.out.1 (.inr HFBW.out) HFB.out.2.1 (fun b e => .inl e)).setDown false)
        have HC5 := Lib.hid (show Chg (LB B fb wb) w W2 from by
          rw [hW2]
          exact (HC4.out.trans (Chg.setCell _ _ (.inr (.inr rfl)))).trans (Chg.setCell _ _ (.inr (.inr rfl))))
        rw [← hW2]
        clear hW2
        have hrd := reads36 HL5.out.file HL5.out.disk HCL4.out (HL5.out.mg q Q rfl).1 (HL5.out.mg q Q rfl).2 (fun b hb e => e.elim hb.1 hb.2.1)
        obtain ⟨pq, hpq⟩ : ∃ pq, pq = decide (P' = Q) := ⟨_, rfl⟩
        rw [← hpq] at hrd
        unfold pfPtr at hrd
        refine hrd.mono ?_
        rintro e w5 ⟨rfl, hT⟩
        have HL6 := Lib.hid (HL5.out.turns hT rfl)
        have HC6 := Lib.hid (show Chg (LB B fb wb) w w5 from chg_then HC5.out hT.2.2 (fun b hb e => e.elim (fun e => .inl e) (fun e => by have := HFBW.out; omega)))
        clear hrd hT k1 k2 k3' k4 f1 f2 f3 f4
        have k2 := HL6.out.c2
        have k3 : w5.cell? ⟨wb, 3, none⟩ = some (.pointer (some ⟨q, 0, none⟩)) := HL6.out.c3
        have f2 := HL6.out.fr 2
        have f3 := HL6.out.fr 3
        have HPQ := Lib.hid hpq
        clear hpq
        cases pq with
        | true =>
          have hPQ : P' = Q := by simpa using HPQ.out
          go_wp2_with fail
          obtain ⟨W3, hW3⟩ : ∃ W3, W3 = ((w5.setCell ⟨wb, 2, none⟩ (.pointer (some ⟨q, 0, none⟩))).setCell ⟨wb, 3, none⟩ (.pointer none)) := ⟨_, rfl⟩
          have HL7 := Lib.hid (show LM W W3 E wb B fb' q n N ⟨n, false⟩ D4 Q none false from by
            rw [hW3]
            exact (HL6.out.setPages (HL6.out.mg q Q rfl).1 (HL6.out.mg q Q rfl).2).setMight (mt' := none) (fun q Q e => by cases e))
          have HC7 := Lib.hid (show Chg (LB B fb wb) w W3 from by
            rw [hW3]
            exact (HC6.out.trans (Chg.setCell _ _ (.inr (.inr rfl)))).trans (Chg.setCell _ _ (.inr (.inr rfl))))
          rw [← hW3]
          clear hW3
          have hrd := reads36 HL7.out.file HL7.out.disk HCL4.out HL7.out.pg HL7.out.pays (fun b hb e => e.elim hb.1 hb.2.1)
          rw [decide_eq_true hPQ] at hrd
          unfold pfPtr at hrd
          refine hrd.mono ?_
          rintro e w6 ⟨rfl, hT⟩
          have HFIN := Lib.hid (show ∃ fb' pb' d' P'', LW W w6 E wb B fb' pb' n N ⟨n, false⟩ d' P'' none false ∧ d'.fuse = 0 ∧ (P'' = P ∨ ∃ q' Q', (some (q, Q) : Option (Nat × List (List UInt8))) = some (q', Q') ∧ P'' = Q') ∧ w.heap.size ≤ fb' ∧ Chg (LB B fb wb) w w6 from
            ⟨fb', q, D4, Q, ⟨HL7.out.turns hT rfl, fun _ => ⟨rfl, rfl, hPQ ▸ HCL4.out⟩, fun e => by cases e⟩, HFU.out, .inr ⟨q, Q, rfl, rfl⟩, HFBW.out, chg_then HC7.out hT.2.2 (fun b hb e => e.elim (fun e => .inl e) (fun e => by have := HFBW.out; omega))⟩)
          clear hrd hT
          go_wp2
          go_ret
          exact ⟨rfl, HFIN.out⟩
        | false =>
          have hPQ : ¬ P' = Q := by simpa using HPQ.out
          have hPP : P' = P := HP'.out.resolve_right (fun ⟨q', Q', e, e2⟩ => by cases e; exact hPQ e2)
          go_wp2_with fail
          obtain ⟨W3, hW3⟩ : ∃ W3, W3 = (w5.setCell ⟨wb, 3, none⟩ (.pointer none)) := ⟨_, rfl⟩
          have HL7 := Lib.hid (show LM W W3 E wb B fb' pb n N ⟨n, false⟩ D4 P none false from by
            rw [hW3]
            exact HL6.out.setMight (mt' := none) (fun q Q e => by cases e))
          have HC7 := Lib.hid (show Chg (LB B fb wb) w W3 from by
            rw [hW3]
            exact HC6.out.trans (Chg.setCell _ _ (.inr (.inr rfl))))
          rw [← hW3]
          clear hW3
          have hrd := reads36 HL7.out.file HL7.out.disk HCL4.out HL7.out.pg HL7.out.pays (fun b hb e => e.elim hb.1 hb.2.1)
          rw [decide_eq_true hPP] at hrd
          unfold pfPtr at hrd
          refine hrd.mono ?_
          rintro e w6 ⟨rfl, hT⟩
          have HFIN := Lib.hid (show ∃ fb' pb' d' P'', LW W w6 E wb B fb' pb' n N ⟨n, false⟩ d' P'' none false ∧ d'.fuse = 0 ∧ (P'' = P ∨ ∃ q' Q', (some (q, Q) : Option (Nat × List (List UInt8))) = some (q', Q') ∧ P'' = Q') ∧ w.heap.size ≤ fb' ∧ Chg (LB B fb wb) w w6 from
            ⟨fb', pb, D4, P, ⟨HL7.out.turns hT rfl, fun _ => ⟨rfl, rfl, hPP ▸ HCL4.out⟩, fun e => by cases e⟩, HFU.out, .inl rfl, HFBW.out, chg_then HC7.out hT.2.2 (fun b hb e => e.elim (fun e => .inl e) (fun e => by have := HFBW.out; omega))⟩)
          clear hrd hT
          go_wp2
          go_ret
          exact ⟨rfl, HFIN.out⟩
end
end Go.Proofs.YtngddhoolijimaaDoor
namespace Go.Proofs.YtngddhoolijimaaDoor
open Go.RowKit Go.Maps Go.ChangeShapes Go.WideShapes
set_option linter.unusedVariables false

/-- A slice; a nil one has no room. -/
def rSliceN {α : Type} (R : Rd α) : Rd (List α) where
  size := 1
  rd := fun w F cs l => (rSlice R).rd w F cs l ∧ ∀ n c, cs = [.slice none n c] → c = 0
  len := fun h => (rSlice R).len h.1
  keep := fun hk hs h => ⟨(rSlice R).keep hk hs h.1, h.2⟩
  more := fun hF h => ⟨(rSlice R).more hF h.1, h.2⟩

theorem opens_sliceN {α : Type} {P : Program} {t e : TypeId} {R : Rd α} (ht : P.underlying t = some (.slice e)) (hc : P.cellsOf t = 1) (hpos : 0 < R.size) (h : Opens P e R) : Opens P t (rSliceN R) :=
  ⟨hc, fun {H enc w base spare held fuel cs x} g => by
    obtain ⟨l, hl⟩ := (opens_slice ht hc hpos h).open_ g
    refine ⟨l, hl, fun n c e1 => ?_⟩
    rcases Go.Deep.open_slice ht g with ⟨rfl, _⟩ | ⟨a, len, cap, m, n', D, Pl, rfl, _⟩
    · simp at e1; exact e1.2.symm
    · simp at e1⟩

abbrev rPWN : Rd (Int × List UInt8) := rPair (rInt .i64) (rSliceN rByte)

theorem pwn_pw {w : World} {F : Nat → Prop} {v : Value} {l : List (Int × List UInt8)} (h : (rSlice rPWN).rd w F [v] l) : (rSlice rPW).rd w F [v] l := by
  obtain ⟨a, n, c, e, h1, h2, h3, h4⟩ := h
  refine ⟨a, n, c, e, h1, h2, h3, h4.imp id fun ⟨b, off, ea, hF, hl, hx⟩ => ⟨b, off, ea, hF, hl, fun i x hi => ?_⟩⟩
  obtain ⟨ys, k1, u1, v1, rfl, k2, k3⟩ := hx i x hi
  exact ⟨_, k1, u1, v1, rfl, k2, k3.1⟩

theorem pwn_get {w : World} {F : Nat → Prop} {v : Value} {l : List (Int × List UInt8)} (h : (rSlice rPWN).rd w F [v] l) : ∃ a c, v = .slice a l.length c ∧ l.length ≤ c ∧ ∀ k x, l[k]? = some x → ∃ g off ua uc, a = some ⟨g, off, none⟩ ∧ F g ∧ g < w.heap.size ∧ w.cell? ⟨g, off + k * 2, none⟩ = some (.int .i64 x.1) ∧ w.cell? ⟨g, off + k * 2 + 1, none⟩ = some (.slice ua x.2.length uc) ∧ (Lit.int .i64 x.1).wf = true ∧ (rSlice rByte).rd w F [.slice ua x.2.length uc] x.2 ∧ (ua = none → uc = 0) := by
  obtain ⟨a, n, c, e, rfl, hnc, hcm, h4⟩ := h
  obtain rfl : v = .slice a l.length c := by simpa using e
  refine ⟨a, c, rfl, hnc, fun k x hx => ?_⟩
  rcases h4 with h4 | ⟨b, off, rfl, hF, hb, h⟩
  · have := (List.getElem?_eq_some_iff.1 hx).1; omega
  · obtain ⟨ys, hA, u1, v1, rfl, ⟨rfl, hw⟩, hd, h0⟩ := h k x hx
    obtain ⟨da, dn, dc, e1, rfl, hd2⟩ := hd
    subst e1
    exact ⟨b, off, da, dc, rfl, hF, hb, hA 0 _ rfl, hA 1 _ rfl, hw, ⟨da, _, dc, rfl, rfl, hd2⟩, fun e => h0 x.2.length dc (by rw [e])⟩

theorem own_apart {w : World} {b1 b2 s1 s2 : Nat} {e1 e2 : TypeId} {v1 v2 : Value} {n1 n2 : Nat} {xs ys : List Value} (h1 : w.ownsRow b1 e1 s1 v1 n1 xs) (h2 : w.ownsRow b2 e2 s2 v2 n2 ys) (hne : e1 ≠ e2) : v1.ownBlock = none ∨ v1.ownBlock ≠ v2.ownBlock := by
  rcases h1.2 with ⟨rfl, _⟩ | ⟨g, cap, cur, rfl, _, hc, _⟩
  · exact .inl rfl
  · refine .inr fun e => ?_
    rcases h2.2 with ⟨rfl, _⟩ | ⟨g', cap', cur', rfl, _, hc', _⟩
    · cases e
    · simp only [Value.ownBlock, Option.some.injEq] at e
      subst e
      rw [hc] at hc'
      cases hc'
      exact hne rfl

theorem own_move {w w' : World} {base size : Nat} {e : TypeId} {v : Value} {n : Nat} {xs : List Value} (h : w.ownsRow base e size v n xs) (hc : ∀ b, base ≤ b → b < w.heap.size → w'.heap[b]? = w.heap[b]?) : w'.ownsRow base e size v n xs :=
  ⟨h.1, h.2.elim .inl fun ⟨g, cap, cur, e, hB, hg, rest⟩ => .inr ⟨g, cap, cur, e, hB, (hc g hB (Array.getElem?_eq_some_iff.1 hg).1).trans hg, rest⟩⟩

theorem own_low {w : World} {base base' size : Nat} {e : TypeId} {v : Value} {n : Nat} {xs : List Value} (h : w.ownsRow base e size v n xs) (hb : base' ≤ base) : w.ownsRow base' e size v n xs :=
  ⟨h.1, h.2.elim .inl fun ⟨g, cap, cur, e, hB, rest⟩ => .inr ⟨g, cap, cur, e, Nat.le_trans hb hB, rest⟩⟩

theorem below_none {w w' : World} (h : w.grownBy w' none) : Below w.heap.size w w' := ⟨h.os, h.tape, h.output, h.size, fun b hb => h.block b hb (by simp)⟩

section
variable {w wr w5 : World} {k : Nat} {v : Value} {xs : List Value} {l : List (Int × List UInt8)}

/-- The first k writes are copied. -/
structure Copied (w wr : World) (k : Nat) (v : Value) (xs : List Value) (l : List (Int × List UInt8)) : Prop where
  bel : Below w.heap.size w wr
  own : wr.ownsRow w.heap.size 42 2 v k xs
  at_ : ∀ (j : Nat) (x : Int × List UInt8), j < k → l[j]? = some x → ∃ u, xs[j * 2]? = some (.int .i64 x.1) ∧ xs[j * 2 + 1]? = some u ∧ wr.ownsRow w.heap.size 5 1 u x.2.length (pc x.2)

theorem Copied.step {w1 W2 w2 : World} {v1 v2 : Value} {x : Int × List UInt8} (h : Copied w wr k v xs l) (hx : l[k]? = some x) (h1 : w1.ownsRow w.heap.size 5 1 v1 x.2.length (pc x.2)) (hb1 : Below wr.heap.size wr w1) (hb2 : Below w1.heap.size w1 W2) (hg : W2.grownBy w2 v.ownBlock)
    (hown : w2.ownsRow w.heap.size 42 2 v2 (k + 1) (xs ++ [.int .i64 x.1, v1])) (hB : Below w.heap.size w w2) : Copied w w2 (k + 1) v2 (xs ++ [.int .i64 x.1, v1]) l := by
  have hvW := own_at' (own_at' h.own hb1) hb2
  have hl : xs.length = k * 2 := h.own.1
  refine ⟨hB, hown, fun j y hj hy => ?_⟩
  by_cases e : j < k
  · obtain ⟨u, a, b, c⟩ := h.at_ j y e hy
    have c2 := own_at' (own_at' c hb1) hb2
    exact ⟨u, by rw [List.getElem?_append_left (by omega)]; exact a, by rw [List.getElem?_append_left (by omega)]; exact b, c2.kept hg (own_apart c2 hvW (by decide))⟩
  · obtain rfl : j = k := by omega
    rw [hx] at hy; cases hy
    have c2 := own_at' h1 hb2
    exact ⟨v1, by rw [List.getElem?_append_right (by omega), hl, Nat.sub_self]; rfl, by rw [List.getElem?_append_right (by omega), hl, show j * 2 + 1 - j * 2 = 1 by omega]; rfl, c2.kept hg (own_apart c2 hvW (by decide))⟩

theorem rd_bytes_own {base : Nat} {F : Nat → Prop} {u : Value} {p : List UInt8} (h : wr.ownsRow base 5 1 u p.length (pc p)) (hF : ∀ b, base ≤ b → b < wr.heap.size → F b) : (rSlice rByte).rd wr F [u] p := by
  refine rd_own (R := rByte) h ⟨by rw [pc_len]; exact (Nat.mul_one _).symm, rfl, fun i y hy => ?_⟩ hF
  have e1 : rByte.size = 1 := rfl
  have hl : i < (pc p).length := by rw [pc_len]; exact (List.getElem?_eq_some_iff.1 hy).1
  have e2 : (pc p)[i] = .int .u8 (y.toNat : Int) := by
    have := pc_get hy
    rw [List.getElem?_eq_getElem hl] at this
    exact Option.some.inj this
  rw [e1, Nat.mul_one, List.drop_eq_getElem_cons hl, List.take_succ_cons, List.take_zero, e2]
  rfl

theorem two_at {j : Nat} {a b : Value} (h1 : xs[j * 2]? = some a) (h2 : xs[j * 2 + 1]? = some b) : (xs.drop (j * 2)).take 2 = [a, b] := by
  have l2 := (List.getElem?_eq_some_iff.1 h2).1
  have l1 := (List.getElem?_eq_some_iff.1 h1).1
  rw [List.drop_eq_getElem_cons l1, List.take_succ_cons, List.drop_eq_getElem_cons l2, List.take_succ_cons, List.take_zero, (List.getElem?_eq_some_iff.1 h1).2, (List.getElem?_eq_some_iff.1 h2).2]

theorem Copied.rd (h : Copied w wr l.length v xs l) (hwf : ∀ x ∈ l, (Lit.int .i64 x.1).wf = true) : (rSlice rPW).rd wr (fun b => w.heap.size ≤ b ∧ b < wr.heap.size) [v] l := by
  refine rd_own (R := rPW) h.own ⟨h.own.1, rfl, fun i x hx => ?_⟩ (fun b a c => ⟨a, c⟩)
  have e1 : rPW.size = 2 := rfl
  obtain ⟨u, a, b, c⟩ := h.at_ i x (List.getElem?_eq_some_iff.1 hx).1 hx
  rw [e1, two_at a b]
  exact ⟨[.int .i64 x.1], [u], rfl, ⟨rfl, hwf x (List.mem_of_getElem? hx)⟩, rd_bytes_own c (fun b a c => ⟨a, c⟩)⟩

/-- Copies whose bytes may be turned over. -/
structure Scram (base : Nat) (w : World) (v : Value) (xs : List Value) (l : List (Int × List UInt8)) : Prop where
  row : Sl w 2 v l.length xs
  at_ : ∀ (j : Nat) (x : Int × List UInt8), l[j]? = some x → ∃ ua uc, xs[j * 2]? = some (.int .i64 x.1) ∧ xs[j * 2 + 1]? = some (.slice ua x.2.length uc) ∧ x.2.length ≤ uc ∧
    (0 < x.2.length → ∃ g, ua = some ⟨g, 0, none⟩ ∧ base ≤ g ∧ ∀ i, i < x.2.length → (∃ z : Int, w.cell? ⟨g, i, none⟩ = some (.int .u8 z)) ∧ w.frozen? ⟨g, i, none⟩ = false)

theorem Copied.scram (h : Copied w wr l.length v xs l) (hc : ∀ b, w.heap.size ≤ b → b < wr.heap.size → w5.heap[b]? = wr.heap[b]?) : Scram w.heap.size w5 v xs l := by
  refine ⟨Sl.of_own (own_move h.own hc), fun j x hx => ?_⟩
  obtain ⟨u, a, b, c⟩ := h.at_ j x (List.getElem?_eq_some_iff.1 hx).1 hx
  have c2 := own_move c hc
  obtain ⟨g, cc, ⟨ua, rfl, e1⟩, e2⟩ := own_block c2
  refine ⟨ua, cc, a, b, own_cap c2, fun h0 => ⟨g, e1 h0, (e2 h0).1, fun i hi => ?_⟩⟩
  obtain ⟨_, _, _, e3, e4⟩ := e2 h0
  obtain ⟨y, hy⟩ : ∃ y, x.2[i]? = some y := ⟨_, List.getElem?_eq_getElem hi⟩
  exact ⟨⟨_, e3 i _ (pc_get hy)⟩, e4 i⟩

theorem Scram.not_u8 {base : Nat} (h : Scram base w v xs l) {m : Nat} {u : Value} (hu : xs[m]? = some u) (z : Int) : u ≠ .int .u8 z := by
  have hl : m < l.length * 2 := by have := (List.getElem?_eq_some_iff.1 hu).1; have := h.row.1; omega
  obtain ⟨x, hx⟩ : ∃ x, l[m / 2]? = some x := ⟨_, List.getElem?_eq_getElem (by omega)⟩
  obtain ⟨ua, uc, a, b, _⟩ := h.at_ _ x hx
  rcases Nat.mod_two_eq_zero_or_one m with e | e
  · rw [show m / 2 * 2 = m by omega, hu] at a
    cases a
    intro e; cases e
  · rw [show m / 2 * 2 + 1 = m by omega, hu] at b
    cases b
    intro e; cases e

theorem Scram.set {base g i : Nat} {z y : Int} (h : Scram base w v xs l) (hc : w.cell? ⟨g, i, none⟩ = some (.int .u8 z)) : Scram base (w.setCell ⟨g, i, none⟩ (.int .u8 y)) v xs l := by
  have oth : ∀ (a : Addr) (u : Value), w.cell? a = some u → (∀ z, u ≠ .int .u8 z) → (w.setCell ⟨g, i, none⟩ (.int .u8 y)).cell? a = some u := fun a u ha hu => by
    by_cases e : a = ⟨g, i, none⟩
    · rw [e, hc] at ha; cases ha; exact absurd rfl (hu z)
    · rw [World.cell?_setCell_other _ _ _ _ (fun h => e (by first | exact h | exact h.symm))]; exact ha
  refine ⟨⟨h.row.1, h.row.2.imp id fun ⟨b, off, c, e, hn, hb, hx⟩ => ⟨b, off, c, e, hn, by simpa using hb, fun j u hu => oth _ _ (hx j u hu) (h.not_u8 hu)⟩⟩, fun j x hx => ?_⟩
  obtain ⟨ua, uc, a, b, hcap, h0⟩ := h.at_ j x hx
  refine ⟨ua, uc, a, b, hcap, fun hp => ?_⟩
  obtain ⟨g', e, hg', hcell⟩ := h0 hp
  refine ⟨g', e, hg', fun i' hi' => ⟨?_, by rw [World.frozen?_setCell]; exact (hcell i' hi').2⟩⟩
  obtain ⟨z', hz'⟩ := (hcell i' hi').1
  by_cases e : (⟨g', i', none⟩ : Addr) = ⟨g, i, none⟩
  · rw [e] at hz' ⊢
    exact ⟨y, World.cell?_setCell_same _ _ _ hz'⟩
  · exact ⟨z', by rw [World.cell?_setCell_other _ _ _ _ (fun h => e (by first | exact h | exact h.symm))]; exact hz'⟩
end

/-- The bytes are being turned over. -/
structure Sw (W w wr : World) (E : Nat → Prop) (wb : Nat) (B : DB) (fb pb n N : Nat) (f : PF) (d : DK) (P : List (List UInt8)) (mt : Option (Nat × List (List UInt8))) (down : Bool) (v : Value) (xs : List Value) (l : List (Int × List UInt8)) : Prop where
  lm : LM W wr (fun b => E b ∨ w.heap.size ≤ b) wb B fb pb n N f d P mt down
  scr : Scram w.heap.size wr v xs l
  chg : Chg (LB B fb wb) w wr

section
variable {W w wr : World} {E : Nat → Prop} {wb fb pb n N : Nat} {B : DB} {f : PF} {d : DK} {P : List (List UInt8)} {mt : Option (Nat × List (List UInt8))} {down : Bool} {v : Value} {xs : List Value} {l : List (Int × List UInt8)}

theorem Sw.drew (h : Sw W w wr E wb B fb pb n N f d P mt down v xs l) : Sw W w wr.drew E wb B fb pb n N f d P mt down v xs l :=
  ⟨h.lm.below (Below.refl _ _).drew, ⟨h.scr.row.keep (Below.refl _ _).drew, h.scr.at_⟩, chg_then h.chg (Chg.of_below (F := fun _ => False) (Below.refl _ _).drew) (fun _ _ h => h.elim)⟩

theorem Sw.store {g i : Nat} {z y : Int} (h : Sw W w wr E wb B fb pb n N f d P mt down v xs l) (hW : W.heap.size ≤ w.heap.size) (hg : w.heap.size ≤ g) (hc : wr.cell? ⟨g, i, none⟩ = some (.int .u8 z)) : Sw W w (wr.setCell ⟨g, i, none⟩ (.int .u8 y)) E wb B fb pb n N f d P mt down v xs l := by
  have hch : Chg (fun b => w.heap.size ≤ b) wr (wr.setCell ⟨g, i, none⟩ (.int .u8 y)) := Chg.setCell _ _ hg
  exact ⟨h.lm.aside hch (fun b _ hb => .inr hb) (fun b hb => Nat.le_trans hW hb), h.scr.set hc, chg_then h.chg hch (fun b hl hb => absurd hb (by omega))⟩

theorem pfWrite_n (f : PF) (d : DK) (l : List (Int × List UInt8)) : (pfWrite f d l).1.n = f.n := by
  unfold pfWrite
  split
  · rfl
  · split
    · rfl
    · split <;> rfl
end
end Go.Proofs.YtngddhoolijimaaDoor
