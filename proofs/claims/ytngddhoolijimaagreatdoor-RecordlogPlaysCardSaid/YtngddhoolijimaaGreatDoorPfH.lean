/-
  Read.
-/
import Derived.Test.YtngddhoolijimaaGreatDoorPfG
namespace Go.Proofs.YtngddhoolijimaaGreatDoor
open Go.RowKit
set_option linter.unusedVariables false

/-- A payload that was read: 100 bytes of the call's own, to be written. -/
structure PayAt (B : Nat) (w : World) (g : Nat) (l : List UInt8) : Prop where
  ge : B ≤ g
  lt : g < w.heap.size
  cells : w.rangeAt g 0 (pc l)
  there : w.there g 0 100
  len : l.length = 100

theorem PayAt.data {B : Nat} {w : World} {g : Nat} {l : List UInt8} (h : PayAt B w g l) : Data w (.slice (some ⟨g, 0, none⟩) 100 100) l := data_of_range h.cells h.lt h.len.symm (Nat.le_refl _)

theorem payAt_own {w : World} {base g c : Nat} {p : List UInt8} (h : w.ownsRow base 5 1 (.slice (some ⟨g, 0, none⟩) 128 c) 128 (pc p)) : PayAt base w g (p.take 100) := by
  have hp : p.length = 128 := by have := h.1; rw [pc_len] at this; omega
  have hb := own_base h g rfl
  have hlt : g < w.heap.size := by
    rcases h.2 with ⟨e, _⟩ | ⟨g', cap, cur, e, _, hc, _⟩
    · cases e
    · simp only [Value.slice.injEq, Option.some.injEq, Addr.mk.injEq, and_true] at e
      obtain ⟨rfl, _⟩ := e
      exact (Array.getElem?_eq_some_iff.1 hc).1
  have hcell : ∀ j, j < 128 → w.cell? ⟨g, 0 + j, none⟩ = (pc p)[j]? := fun j hj => by rw [Nat.zero_add]; exact h.cellAt j (by omega)
  refine ⟨hb, hlt, fun j u hu => ?_, fun j hj => ⟨?_, by rw [Nat.zero_add]; exact h.frozenAt j⟩, by rw [List.length_take]; omega⟩
  · rw [pc_take, List.getElem?_take] at hu
    split at hu
    · rw [hcell j (by omega)]; exact hu
    · cases hu
  · rw [hcell j (by omega), List.getElem?_eq_getElem (by rw [pc_len]; omega)]; rfl

/-- s[:100:100] -/
theorem cut_hm {g n c : Nat} (hn : 100 ≤ n) (hc : n ≤ c) : (∀ W, Sem.run Tryz.prog (Instr.sliceAt 51 (.slice (some ⟨g, 0, none⟩) n c) none (some (.int .i64 100)) (some (.int .i64 100))) W = .ok (.slice (some ⟨g, 0, none⟩) 100 100) W) ∧
    (∀ W, Sem.run Tryz.prog (Instr.slice 51 (.slice (some ⟨g, 0, none⟩) n c) none (some (.int .i64 100)) (some (.int .i64 100))) W = .ok (.slice (some ⟨g, 0, none⟩) 100 100) W) := by
  have h2 : ∀ W, Sem.run Tryz.prog (Instr.slice 51 (.slice (some ⟨g, 0, none⟩) n c) none (some (.int .i64 100)) (some (.int .i64 100))) W = .ok (.slice (some ⟨g, 0, none⟩) 100 100) W := by
    intro W
    rw [run_slice_hm W 51 (some ⟨g, 0, none⟩) n c under_bytes .i64 .i64 100 100 (by omega) (by omega) (by omega), size_byte]
    simp [Result.andThen, sliced, Addr.add]
  exact ⟨fun W => (run_sliceAt_slice W 51 _ _ _ _ under_bytes).trans (h2 W), h2⟩

/-- Payload i on a disk. -/
def DK.pay (d : DK) (i : Nat) : List UInt8 := (d.get i).take 100

section
variable {w : World} {fb : Nat} {B : DB} {f : PF} {d : DK}

theorem PTurns.fileOf {w' : World} {f' : PF} {d' : DK} (h : PTurns fb B w w' f' d') : IsFile w' fb B f' := h.1

theorem PTurns.trans {w' w'' : World} {f' f'' : PF} {d' d'' : DK} (h : PTurns fb B w w' f' d') (k : PTurns fb B w' w'' f'' d'') : PTurns fb B w w'' f'' d'' := ⟨k.1, k.2.1, h.2.2.trans k.2.2⟩

theorem PTurns.of_turns {w' w'' : World} {f' : PF} {d' d'' : DK} (h : PTurns fb B w w' f' d') (k : Turns B w' w'' d'') : PTurns fb B w w'' f' d'' := ⟨h.1.turns k, k.1, h.2.2.trans (k.2.more fun b _ hb => .inl hb)⟩

theorem PTurns.of_below {w' w'' : World} {f' : PF} {d' : DK} (h : PTurns fb B w w' f' d') (k : Below w'.heap.size w' w'') : PTurns fb B w w'' f' d' := ⟨h.1.keep (Chg.of_below k (F := fun _ => False)) (fun h => h), h.2.1.below k, h.2.2.trans (Chg.of_below k)⟩

theorem PTurns.refl (h : IsFile w fb B f) (hd : IsDisk w B d) : PTurns fb B w w f d := ⟨h, hd, Chg.refl _ _⟩

/-- What Read gives. -/
def PGives (w w' : World) (v : Value) (c : Int) (l : List UInt8) : Prop := (c = 0 → ∃ g, v = .slice (some ⟨g, 0, none⟩) 100 100 ∧ PayAt w.heap.size w' g l) ∧ (c ≠ 0 → v = .slice none 0 0)

set_option maxRecDepth 100000 in
set_option maxHeartbeats 1000000 in
theorem pf_Read (h : IsFile w fb B f) (hd : IsDisk w B d) (i : Int) (hwf : (Lit.int .i64 i).wf = true) (hN : f.n ≤ d.st.length) :
    Calls Tryz.prog 28 #[pfPtr fb, .int .i64 i] w fun e w' => ∃ v, e = .returned (.tuple #[v, .int .i64 (pfErr f d i)]) ∧ PGives w w' v (pfErr f d i) (d.pay i.toNat) ∧ PTurns fb B w w' { f with failed := f.down d } d := by
  have HK := Lib.hid (pf_check h hd)
  have hfew := h.few
  have HI := Lib.hid h
  have HD := Lib.hid hd
  clear h hd
  unfold pfPtr at *
  by_cases hdn : f.down d = true
  · have he : pfErr f d i = 13 := by unfold pfErr; rw [hdn]; rfl
    rw [he]
    rw [hdn] at HK ⊢
    go_enter Tryz.func28, Tryz.ntmps28
    go_wp2_with fail
    refine HK.out.mono ?_
    rintro e w1 ⟨rfl, hT⟩
    have HT := Lib.hid hT
    clear hT HK
    go_wp2
    go_ret2
    exact ⟨_, rfl, ⟨fun h => absurd h (by decide), fun _ => rfl⟩, HT.out⟩
  · have hdn : f.down d = false := by simpa using hdn
    have hdd : d.down = false := by unfold PF.down at hdn; simp at hdn; exact hdn.2
    have hff : f.failed = false := by unfold PF.down at hdn; simp at hdn; exact hdn.1
    have hfe : { f with failed := f.down d } = f := by rw [hdn, ← hff]
    rw [hfe] at HK ⊢
    have he : pfErr f d i = if i < 0 ∨ (f.n : Int) ≤ i then 10 else 0 := by unfold pfErr; rw [hdn]; rfl
    rw [hdn] at HK
    have HHE := Lib.hid he
    have HDD := Lib.hid hdd
    clear hff hfe hdn he hdd
    by_cases h1 : i < 0
    · have g1 : decide (i < 0) = true := by simpa using h1
      have he : pfErr f d i = 10 := by rw [HHE.out, if_pos (.inl h1)]
      rw [he]
      clear he
      go_enter Tryz.func28, Tryz.ntmps28
      go_wp2_with fail
      refine HK.out.mono ?_
      rintro e w1 ⟨rfl, hT⟩
      have HT := Lib.hid hT
      clear hT HK
      go_wp2
      go_ret2
      exact ⟨_, rfl, ⟨fun h => absurd h (by decide), fun _ => rfl⟩, HT.out⟩
    · have g1 : decide (i < 0) = false := by simpa using h1
      by_cases h2 : (f.n : Int) ≤ i
      · have g2 : decide ((f.n : Int) ≤ i) = true := by simpa using h2
        have he : pfErr f d i = 10 := by rw [HHE.out, if_pos (.inr h2)]
        rw [he]
        clear he
        go_enter Tryz.func28, Tryz.ntmps28
        go_wp2_with fail
        refine HK.out.mono ?_
        rintro e w1 ⟨rfl, hT⟩
        have HT := Lib.hid hT
        have c1 := HT.out.1.hn
        clear hT HK
        go_wp2
        go_ret2
        exact ⟨_, rfl, ⟨fun h => absurd h (by decide), fun _ => rfl⟩, HT.out⟩
      · have g2 : decide ((f.n : Int) ≤ i) = false := by simpa using h2
        have he : pfErr f d i = 0 := by rw [HHE.out, if_neg (by omega)]
        rw [he]
        clear he
        obtain ⟨k, rfl⟩ : ∃ k : Nat, i = (k : Int) := ⟨i.toNat, by omega⟩
        rw [Int.toNat_natCast]
        have hkN : k < d.st.length := by omega
        have hck : d.chk k = 0 := by unfold DK.chk; rw [HDD.out, if_neg (by simp), if_neg (by omega)]
        have hrd : d.read k = d.get k := by unfold DK.read; rw [if_pos hck, Int.toNat_natCast]
        have hgl := DK.get_len HD.out.ok hkN
        have HC := Lib.hid (And.intro hck (And.intro hrd hgl))
        have HPAY := Lib.hid (show d.pay k = (d.get k).take 100 from rfl)
        clear hck hrd hgl
        go_enter Tryz.func28, Tryz.ntmps28
        go_wp2_with fail
        refine HK.out.mono ?_
        rintro e w1 ⟨rfl, hT⟩
        have HT := Lib.hid hT
        have c1 := HT.out.1.hn
        have c0 := HT.out.1.hd
        clear hT HK
        go_wp2_with fail
        refine (dk_read HT.out.2.1 (k : Int) hwf).mono ?_
        rintro e w2 ⟨v, rfl, hR⟩
        rw [HC.out.1]
        have hown := hR.1
        rw [HC.out.2.1, HC.out.2.2] at hown
        have HB := Lib.hid hR.2
        obtain ⟨g, gc, ⟨ga, rfl, hga⟩, hgb⟩ := own_block hown
        obtain rfl := hga (by omega)
        have hcc : 128 ≤ gc := own_cap hown
        obtain ⟨s1, s2⟩ := cut_hm (g := g) (n := 128) (c := gc) (by omega) hcc
        have HP := Lib.hid (payAt_own hown)
        clear hown hga hgb hR
        go_wp2
        go_ret2
        refine ⟨_, rfl, ⟨fun _ => ⟨g, rfl, ?_⟩, fun h => absurd rfl h⟩, HT.out.of_below HB.out⟩
        have := HP.out
        rw [← HPAY.out] at this
        exact ⟨Nat.le_trans HT.out.2.2.size this.ge, this.lt, this.cells, this.there, this.len⟩
end
end Go.Proofs.YtngddhoolijimaaGreatDoor
