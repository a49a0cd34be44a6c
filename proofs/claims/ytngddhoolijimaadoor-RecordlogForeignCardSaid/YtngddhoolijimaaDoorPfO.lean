/-
  awake.
-/
import Derived.Test.YtngddhoolijimaaDoorPfN
namespace Go.Proofs.YtngddhoolijimaaDoor
open Go.RowKit
set_option linter.unusedVariables false

/-- One write, in a slice of its own. -/
theorem rd_one {w : World} {F : Nat → Prop} {t : TypeId} {p : Int} {v : Value} {l : List UInt8} (hp : (Lit.int .i64 p).wf = true) (h : (rSlice rByte).rd w F [v] l) (hF : F w.heap.size) :
    (rSlice rPW).rd (w.alloc (.cells #[.int .i64 p, v] t)) F [.slice (some ⟨w.heap.size, 0, none⟩) 1 1] [(p, l)] := by
  have hb : Below w.heap.size w (w.alloc (.cells #[.int .i64 p, v] t)) := (Below.refl _ _).alloc (Nat.le_refl _) _
  refine ⟨_, 1, 1, rfl, rfl, Nat.le_refl _, by unfold maxLen; omega, .inr ⟨w.heap.size, 0, rfl, hF, by simp, fun i x hx => ?_⟩⟩
  match i, hx with
  | 0, hx =>
    obtain rfl : (p, l) = x := by simpa using hx
    refine ⟨[.int .i64 p, v], fun j u hu => ?_, [.int .i64 p], [v], rfl, ⟨rfl, hp⟩, (rSlice rByte).keep (fun b _ hl => hb.block b hl) hb.size h⟩
    have := new_cells w [.int .i64 p, v] t j u hu
    rw [Addr.add_mid] at this
    simpa using this

theorem rd_nil (w : World) (F : Nat → Prop) : (rSlice rByte).rd w F [.slice none 0 0] [] := ⟨none, 0, 0, rfl, rfl, Nat.le_refl _, Nat.zero_le _, .inl rfl⟩

theorem rd_byte1 {w : World} {F : Nat → Prop} {t : TypeId} (b : UInt8) (hF : F w.heap.size) : (rSlice rByte).rd (w.alloc (.cells #[.int .u8 (b.toNat : Int)] t)) F [.slice (some ⟨w.heap.size, 0, none⟩) 1 1] [b] := by
  refine ⟨_, 1, 1, rfl, rfl, Nat.le_refl _, by unfold maxLen; omega, .inr ⟨w.heap.size, 0, rfl, hF, by simp, fun i x hx => ?_⟩⟩
  match i, hx with
  | 0, hx =>
    obtain rfl : b = x := by simpa using hx
    refine ⟨[.int .u8 (b.toNat : Int)], fun j u hu => ?_, rfl⟩
    have := new_cells w [.int .u8 (b.toNat : Int)] t j u hu
    rw [Addr.add_mid] at this
    simpa using this

/-- A file on its disk, of a call's own. -/
structure Fd (W w : World) (B : DB) (fb : Nat) (f : PF) (d : DK) : Prop where
  file : IsFile w fb B f
  disk : IsDisk w B d
  bel : Below W.heap.size W w
  bge : ∀ b, B.has b → W.heap.size ≤ b
  fge : W.heap.size ≤ fb

theorem Fd.turns {W w w' : World} {B : DB} {fb : Nat} {f f' : PF} {d d' : DK} (h : Fd W w B fb f d) (ht : PTurns fb B w w' f' d') : Fd W w' B fb f' d' :=
  ⟨ht.1, ht.2.1, h.bel.trans (ht.2.2.below h.bel.size (fun b hb => hb.elim (h.bge b) (fun e => by rw [e]; exact h.fge))), h.bge, h.fge⟩

theorem Fd.below {W w w' : World} {B : DB} {fb : Nat} {f : PF} {d : DK} (h : Fd W w B fb f d) (hb : Below w.heap.size w w') : Fd W w' B fb f d :=
  ⟨h.file.keep (Chg.of_below hb (F := fun _ => False)) (fun h => h), h.disk.below hb, h.bel.trans (hb.mono h.bel.size), h.bge, h.fge⟩

/-- Open, on a disk of one's own. -/
theorem fd_open {W w : World} {B : DB} {n N : Nat} {Q : List (List UInt8)} {d : DK} (hd : IsDisk w B d) (hup : d.down = false) (hbuf : d.buf = noBuf) (hl : d.st.length = N) (hc : capN N = n) (hN : 7 ≤ N) (hr : Rec n Q d.st)
    (hb : Below W.heap.size W w) (hB : ∀ b, B.has b → W.heap.size ≤ b) :
    Calls Tryd.prog 17 #[B.ptr] w fun e w' =>
      (∃ fb d', e = .returned (.tuple #[pfPtr fb, .int .i64 0]) ∧ w.heap.size ≤ fb ∧ Fd W w' B fb ⟨n, false⟩ d' ∧ Clean n N Q d' ∧ (d.fuse = 0 → d'.fuse = 0) ∧ Chg B.has w w') ∨
      (∃ d', e = .returned (.tuple #[.pointer none, .int .i64 13]) ∧ d.fuse ≠ 0 ∧ IsDisk w' B d' ∧ d'.down = true ∧ Ready N (Rec n Q) d' ∧ Chg B.has w w') := by
  have h0 : 0 < n := by rw [← hc]; exact (capN_room hN).1
  have hany := opens_any hup hbuf hl hc hN hr
  refine (pf_Open hd hup hbuf (by rw [hl]; exact hc) h0 hr).mono ?_
  rintro e w' ⟨hT, hE⟩
  have hbel := hb.trans (hT.2.below hb.size hB)
  rcases hE with ⟨h1, fb, hfb, he, hf⟩ | ⟨h1, he⟩
  · left
    rcases hany with ⟨_, hcl, hfu⟩ | ⟨h2, _⟩
    · exact ⟨fb, _, he, hfb, ⟨hf, hT.1, hbel, hB, Nat.le_trans hb.size hfb⟩, hcl, hfu, hT.2⟩
    · rw [h1] at h2; cases h2
  · right
    rcases hany with ⟨h2, _⟩ | ⟨_, h3, h4, h5⟩
    · rw [h1] at h2; cases h2
    · exact ⟨_, he, h3, hT.1, h4, h5, hT.2⟩

set_option maxRecDepth 100000 in
set_option maxHeartbeats 2000000 in
theorem awake36_any (w : World) : Calls Tryd.prog 14 #[] w fun e w' => e = .returned (.bool true) ∧ Below w.heap.size w w' := by
  have hcl := new_clean (N := 10) (by omega)
  have hc10 : capN 10 = 2 := rfl
  rw [hc10] at hcl
  have HCL := Lib.hid hcl
  clear hcl hc10
  have hB0 : Below w.heap.size w w := Below.refl _ _
  go_enter Tryd.func14, Tryd.ntmps14
  go_wp2_with fail
  refine (dk_new (10 : Int) 10 (by rfl) _).mono ?_
  rintro e w1 ⟨B, rfl, hM⟩
  have HM := Lib.hid hM
  have hBge : ∀ b, B.has b → w.heap.size ≤ b := fun b hb => by
    have := hM.2.2
    rcases hb with rfl | rfl | rfl <;> omega
  have HBG := Lib.hid hBge
  clear hM hBge hB0
  unfold DB.ptr
  go_wp2_with fail
  refine (fd_open (W := w) HM.out.1 HCL.out.up HCL.out.buf HCL.out.len HCL.out.cap (by omega) HCL.out.recs HM.out.2.1 HBG.out).mono ?_
  rintro e w2 (⟨fb, d2, rfl, hfb, hfd, hc2, hfu, hch⟩ | ⟨d2, rfl, hfu, _⟩)
  · have HFD := Lib.hid hfd
    have HC2 := Lib.hid hc2
    have HFU := Lib.hid (hfu rfl)
    clear hfd hc2 hfu hch hfb
    unfold pfPtr
    go_wp2_with fail
    refine (pf_cap HFD.out.file).mono ?_
    rintro e w3 ⟨rfl, rfl⟩
    go_wp2_with fail
    have hfbl := HFD.out.file.lt
    obtain ⟨W1, hW1⟩ : ∃ W1, W1 = w3.alloc (.cells #[.int .u8 5] 5) := ⟨_, rfl⟩
    have hoff : ∀ b, w3.heap.size ≤ b → ¬ B.has b ∧ b ≠ fb := fun b hb => ⟨fun h => by
      have := HFD.out.disk.lt
      rcases h with rfl | rfl | rfl <;> omega, by omega⟩
    have hbW1 : Below w3.heap.size w3 W1 := by rw [hW1]; exact (Below.refl _ _).alloc (Nat.le_refl _) _
    obtain ⟨W2, hW2⟩ : ∃ W2, W2 = W1.alloc (.cells #[.int .i64 1, .slice (some ⟨w3.heap.size, 0, none⟩) 1 1] 42) := ⟨_, rfl⟩
    have hbW2 : Below W1.heap.size W1 W2 := by rw [hW2]; exact (Below.refl _ _).alloc (Nat.le_refl _) _
    have hz1 : W1.heap.size = w3.heap.size + 1 := by rw [hW1]; simp
    have hz2 : W2.heap.size = w3.heap.size + 2 := by rw [hW2]; simp [hz1]
    have hrd : (rSlice rPW).rd W2 (Aside fb B W2) [.slice (some ⟨w3.heap.size + 1, 0, none⟩) 1 1] [(1, [5])] := by
      have hF1 : Aside fb B W2 w3.heap.size := ⟨(hoff _ (Nat.le_refl _)).1, (hoff _ (Nat.le_refl _)).2, by omega⟩
      have hF2 : Aside fb B W2 W1.heap.size := ⟨(hoff _ (by omega)).1, (hoff _ (by omega)).2, by omega⟩
      generalize Aside fb B W2 = F at *
      have h5 : (rSlice rByte).rd W1 F [.slice (some ⟨w3.heap.size, 0, none⟩) 1 1] [5] := by rw [hW1]; exact rd_byte1 5 hF1
      rw [hW2, ← hz1]
      exact rd_one (by rfl) h5 hF2
    have HRD := Lib.hid hrd
    have HF2 := Lib.hid (show Fd w W2 B fb ⟨2, false⟩ d2 from (HFD.out.below hbW1).below hbW2)
    rw [← hW1, ← hW2]
    clear hrd hW1 hW2 hbW1 hbW2 hz1 hz2 hoff
    have hR1 : Right 2 [((1 : Int), ([5] : List UInt8))] := fun x hx => by rw [List.mem_singleton.1 hx]; exact ⟨by decide, by decide, by decide⟩
    have hany := pfWrite_any (l := [((1 : Int), ([5] : List UInt8))]) HC2.out (f := ⟨2, false⟩) rfl
    refine (pf_Write HF2.out.file HF2.out.disk _ _ HRD.out (by simp)).mono ?_
    rintro e w4 ⟨rfl, hT⟩
    rcases hany with ⟨h1, _⟩ | ⟨_, h1, h2, h3, h4⟩ | ⟨_, _, _, h4, _⟩
    · exact absurd (wrongs_zero.2 hR1) h1
    · rw [h1] at hT
      rw [h2]
      generalize hd3 : (pfWrite ⟨2, false⟩ d2 [((1 : Int), ([5] : List UInt8))]).2.1 = d3 at *
      have HFD4 := Lib.hid (HF2.out.turns hT)
      have HC3 := Lib.hid h3
      clear hT hd3 h1 h2 h3 h4 HRD
      go_wp2_with fail
      refine (pf_Read HFD4.out.file HFD4.out.disk 1 (by rfl) (by rw [HC3.out.len]; show 2 ≤ 10; omega)).mono ?_
      rintro e w5 ⟨v, rfl, hG, hT⟩
      have hdn : PF.down ⟨2, false⟩ d3 = false := by unfold PF.down; rw [HC3.out.up]; rfl
      have he : pfErr ⟨2, false⟩ d3 1 = 0 := by unfold pfErr; rw [hdn]; rfl
      have hpay : d3.pay (1 : Int).toNat = fill [5] := by
        rw [show (1 : Int).toNat = 1 from rfl, HC3.out.pay (by omega)]; rfl
      rw [hdn] at hT
      obtain ⟨g, rfl, hPA⟩ := hG.1 he
      rw [hpay] at hPA
      have hcell : w5.cell? ⟨g, 0, none⟩ = some (.int .u8 5) := hPA.cells 0 _ rfl
      have HFD5 := Lib.hid (HFD4.out.turns hT)
      rw [he]
      clear hG hPA hT hdn he hpay
      go_wp2_with fail
      have hfb5 := HFD5.out.file.lt
      obtain ⟨W3, hW3⟩ : ∃ W3, W3 = w5.alloc (.cells #[.int .i64 2, .slice none 0 0] 42) := ⟨_, rfl⟩
      have hbW3 : Below w5.heap.size w5 W3 := by rw [hW3]; exact (Below.refl _ _).alloc (Nat.le_refl _) _
      have hrd : (rSlice rPW).rd W3 (Aside fb B W3) [.slice (some ⟨w5.heap.size, 0, none⟩) 1 1] [(2, [])] := by
        have hz3 : W3.heap.size = w5.heap.size + 1 := by rw [hW3]; simp
        have hF1 : Aside fb B W3 w5.heap.size := ⟨fun h => by
          have := HFD5.out.disk.lt
          rcases h with h | h | h <;> omega, by omega, by omega⟩
        generalize Aside fb B W3 = F at *
        rw [hW3]
        exact rd_one (by rfl) (rd_nil _ _) hF1
      have HRD := Lib.hid hrd
      have HF6 := Lib.hid (HFD5.out.below hbW3)
      rw [← hW3]
      clear hrd hW3 hbW3 hcell
      have hwr : wrongs 2 [((2 : Int), ([] : List UInt8))] = 10 := rfl
      have hany2 := pfWrite_any (l := [((2 : Int), ([] : List UInt8))]) HC3.out (f := ⟨2, false⟩) rfl
      refine (pf_Write HF6.out.file HF6.out.disk _ _ HRD.out (by simp)).mono ?_
      rintro e w6 ⟨rfl, hT⟩
      rcases hany2 with ⟨_, h1⟩ | ⟨h1, _⟩ | ⟨h1, _⟩
      · rw [h1] at hT ⊢
        rw [hwr] at hT ⊢
        have HF7 := Lib.hid (HF6.out.turns hT)
        clear hT h1 hwr
        go_wp2
        go_ret
        exact ⟨rfl, HF7.out.bel⟩
      · rw [wrongs_zero.2 h1] at hwr; cases hwr
      · rw [wrongs_zero.2 h1] at hwr; cases hwr
    · exact absurd HFU.out h4
  · exact absurd rfl hfu
end Go.Proofs.YtngddhoolijimaaDoor
