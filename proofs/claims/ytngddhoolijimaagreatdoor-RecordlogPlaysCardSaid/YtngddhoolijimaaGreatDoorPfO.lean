/-
  awake.
-/
import Derived.Test.YtngddhoolijimaaGreatDoorPfN
namespace Go.Proofs.YtngddhoolijimaaGreatDoor
open Go.RowKit
set_option linter.unusedVariables false

/-- One write, in a slice of its own. -/
theorem rd_one {w : World} {F : Nat → Prop} {t : TypeId} {p : Int} {v : Value} {l : List UInt8} (hp : (Lit.int .i64 p).wf = true) (h : (rSlice rByte).rd w F [v] l) (hF : F w.heap.size) :
    (rSlice rPW).rd (w.alloc (.cells #[.int .i64 p, v] t)) F [.slice (some ⟨w.heap.size, 0, none⟩) 1 1] [(p, l)] := by
  have hb : Below w.heap.size w (w.alloc (.cells #[.int .i64 p, v] t)) := (Below.refl _ _).alloc (Nat.le_refl _) _
  refine ⟨_, 1, 1, rfl, rfl, Nat.le_refl _, by unfold maxLen; omega, .inr ⟨w.heap.size, 0, rfl, hF, by simp, fun i x hx => ?_⟩⟩
  match i, hx with
  | 0, hx =>
    obtain rfl : (p, l) = x := by simpa using hx
    refine ⟨[.int .i64 p, v], fun j u hu => ?_, [.int .i64 p], [v], rfl, ⟨rfl, hp⟩, (rSlice rByte).keep (fun b _ hl => hb.block b hl) hb.size h⟩
    have := new_cells w [.int .i64 p, v] t j u hu
    rw [Addr.add_mid] at this
    simpa using this

theorem rd_nil (w : World) (F : Nat → Prop) : (rSlice rByte).rd w F [.slice none 0 0] [] := ⟨none, 0, 0, rfl, rfl, Nat.le_refl _, Nat.zero_le _, .inl rfl⟩

theorem rd_byte1 {w : World} {F : Nat → Prop} {t : TypeId} (b : UInt8) (hF : F w.heap.size) : (rSlice rByte).rd (w.alloc (.cells #[.int .u8 (b.toNat : Int)] t)) F [.slice (some ⟨w.heap.size, 0, none⟩) 1 1] [b] := by
  refine ⟨_, 1, 1, rfl, rfl, Nat.le_refl _, by unfold maxLen; omega, .inr ⟨w.heap.size, 0, rfl, hF, by simp, fun i x hx => ?_⟩⟩
  match i, hx with
  | 0, hx =>
    obtain rfl : b = x := by simpa using hx
    refine ⟨[.int .u8 (b.toNat : Int)], fun j u hu => ?_, rfl⟩
    have := new_cells w [.int .u8 (b.toNat : Int)] t j u hu
    rw [Addr.add_mid] at this
    simpa using this

/-- A file on its disk, of a call's own. -/
structure Fd (W w : World) (B : DB) (fb : Nat) (f : PF) (d : DK) : Prop where
  file : IsFile w fb B f
  disk : IsDisk w B d
  bel : Below W.heap.size W w
  bge : ∀ b, B.has b → W.heap.size ≤ b
  fge : W.heap.size ≤ fb

theorem Fd.turns {W w w' : World} {B : DB} {fb : Nat} {f f' : PF} {d d' : DK} (h : Fd W w B fb f d) (ht : PTurns fb B w w' f' d') : Fd W w' B fb f' d' :=
  ⟨ht.1, ht.2.1, h.bel.trans (ht.2.2.below h.bel.size (fun b hb => hb.elim (h.bge b) (fun e => by rw [e]; exact h.fge))), h.bge, h.fge⟩

theorem Fd.below {W w w' : World} {B : DB} {fb : Nat} {f : PF} {d : DK} (h : Fd W w B fb f d) (hb : Below w.heap.size w w') : Fd W w' B fb f d :=
  ⟨h.file.keep (Chg.of_below hb (F := fun _ => False)) (fun h => h), h.disk.below hb, h.bel.trans (hb.mono h.bel.size), h.bge, h.fge⟩

/-- Open, on a disk of one's own. -/
theorem fd_open {W w : World} {B : DB} {n N : Nat} {Q : List (List UInt8)} {d : DK} (hd : IsDisk w B d) (hup : d.down = false) (hbuf : d.buf = noBuf) (hl : d.st.length = N) (hc : capN N = n) (hN : 7 ≤ N) (hr : Rec n Q d.st)
    (hb : Below W.heap.size W w) (hB : ∀ b, B.has b → W.heap.size ≤ b) :
    Calls Tryz.prog 11 #[B.ptr] w fun e w' =>
      (∃ fb d', e = .returned (.tuple #[pfPtr fb, .int .i64 0]) ∧ w.heap.size ≤ fb ∧ Fd W w' B fb ⟨n, false⟩ d' ∧ Clean n N Q d' ∧ (d.fuse = 0 → d'.fuse = 0) ∧ Chg B.has w w') ∨
      (∃ d', e = .returned (.tuple #[.pointer none, .int .i64 13]) ∧ d.fuse ≠ 0 ∧ IsDisk w' B d' ∧ d'.down = true ∧ Ready N (Rec n Q) d' ∧ Chg B.has w w') := by
  have h0 : 0 < n := by rw [← hc]; exact (capN_room hN).1
  have hany := opens_any hup hbuf hl hc hN hr
  refine (pf_Open hd hup hbuf (by rw [hl]; exact hc) h0 hr).mono ?_
  rintro e w' ⟨hT, hE⟩
  have hbel := hb.trans (hT.2.below hb.size hB)
  rcases hE with ⟨h1, fb, hfb, he, hf⟩ | ⟨h1, he⟩
  · left
    rcases hany with ⟨_, hcl, hfu⟩ | ⟨h2, _⟩
    · exact ⟨fb, _, he, hfb, ⟨hf, hT.1, hbel, hB, Nat.le_trans hb.size hfb⟩, hcl, hfu, hT.2⟩
    · rw [h1] at h2; cases h2
  · right
    rcases hany with ⟨h2, _⟩ | ⟨_, h3, h4, h5⟩
    · rw [h1] at h2; cases h2
    · exact ⟨_, he, h3, hT.1, h4, h5, hT.2⟩