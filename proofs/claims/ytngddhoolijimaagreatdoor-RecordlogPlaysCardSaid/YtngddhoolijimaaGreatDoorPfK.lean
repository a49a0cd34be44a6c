/-
  recover: its readings; the plain side of its loops.
-/
import Derived.Test.YtngddhoolijimaaGreatDoorTrim
namespace Go.Proofs.YtngddhoolijimaaGreatDoor
open Go.RowKit
set_option linter.unusedVariables false

section
variable {w : World} {B : DB} {d : DK}

/-- Read, of a page that is there. -/
theorem dk_get (h : IsDisk w B d) (hup : d.down = false) (i : Nat) (hi : i < d.st.length) (hw : (Lit.int .i64 (i : Int)).wf = true) :
    Calls Tryz.prog 40 #[B.ptr, .int .i64 (i : Int)] w fun e w' => ∃ g c, e = .returned (.tuple #[.slice (some ⟨g, 0, none⟩) 128 c, .int .i64 0]) ∧ 128 ≤ c ∧ c ≤ maxLen ∧ w'.ownsRow w.heap.size 5 1 (.slice (some ⟨g, 0, none⟩) 128 c) 128 (pc (d.get i)) ∧ Below w.heap.size w w' := by
  have hck : d.chk i = 0 := by unfold DK.chk; rw [hup, if_neg (by simp), if_neg (by omega)]
  have hrd : d.read i = d.get i := by unfold DK.read; rw [if_pos hck, Int.toNat_natCast]
  have hgl := DK.get_len h.ok hi
  refine (dk_read h (i : Int) hw).mono ?_
  rintro e w' ⟨v, rfl, hR⟩
  have hown := hR.1
  rw [hrd, hgl] at hown
  obtain ⟨g, c, ⟨a, rfl, ha⟩, hgb⟩ := own_block hown
  obtain rfl := ha (by omega)
  rw [hck]
  refine ⟨g, c, rfl, own_cap hown, ?_, hown, hR.2⟩
  rcases hown.2 with ⟨e, _⟩ | ⟨g', cap, cur, e, _, _, _, hm, _⟩
  · cases e
  · cases e; exact hm

/-- A page that was read, in memory. -/
structure PgAt (base : Nat) (w : World) (v : Value) (p : List UInt8) : Prop where
  sh : ∃ g c, v = .slice (some ⟨g, 0, none⟩) 128 c ∧ 128 ≤ c ∧ c ≤ maxLen
  own : w.ownsRow base 5 1 v 128 (pc p)

theorem PgAt.keep {base : Nat} {w w' : World} {v : Value} {p : List UInt8} (h : PgAt base w v p) {F : Nat → Prop} (hc : Chg F w w') (hne : ∀ b, v.ownBlock = some b → ¬ F b) : PgAt base w' v p := ⟨h.sh, own_chg h.own hc hne⟩

theorem PgAt.below {base : Nat} {w w' : World} {v : Value} {p : List UInt8} (h : PgAt base w v p) (hb : Below w.heap.size w w') : PgAt base w' v p := ⟨h.sh, own_at h.own hb⟩

theorem PgAt.data {base : Nat} {w : World} {v : Value} {p : List UInt8} (h : PgAt base w v p) : Data w v p := by
  have hl : p.length = 128 := by have := h.own.1; rw [pc_len] at this; omega
  have := Sl.of_own h.own
  unfold Data
  rw [hl]; exact this

/-- p[4:104] of a page. -/
theorem cut_lh {g n c : Nat} (hn : 104 ≤ n) (hc : n ≤ c) : (∀ W, Sem.run Tryz.prog (Instr.sliceAt 51 (.slice (some ⟨g, 0, none⟩) n c) (some (.int .i64 4)) (some (.int .i64 104)) none) W = .ok (.slice (some ⟨g, 4, none⟩) 100 (c - 4)) W) ∧
    (∀ W, Sem.run Tryz.prog (Instr.slice 51 (.slice (some ⟨g, 0, none⟩) n c) (some (.int .i64 4)) (some (.int .i64 104)) none) W = .ok (.slice (some ⟨g, 4, none⟩) 100 (c - 4)) W) := by
  have h2 : ∀ W, Sem.run Tryz.prog (Instr.slice 51 (.slice (some ⟨g, 0, none⟩) n c) (some (.int .i64 4)) (some (.int .i64 104)) none) W = .ok (.slice (some ⟨g, 4, none⟩) 100 (c - 4)) W := by
    intro W
    rw [run_slice_lh W 51 (some ⟨g, 0, none⟩) n c under_bytes .i64 .i64 4 104 (by omega) (by omega) (by omega), size_byte]
    have : ¬ c = 4 := by omega
    simp [Result.andThen, sliced, Addr.add, this]
  exact ⟨fun W => (run_sliceAt_slice W 51 _ _ _ _ under_bytes).trans (h2 W), h2⟩

theorem rd_cut {base : Nat} {w : World} {F : Nat → Prop} {g c : Nat} {p : List UInt8} (h : w.ownsRow base 5 1 (.slice (some ⟨g, 0, none⟩) 128 c) 128 (pc p)) (hc : 128 ≤ c) (hm : c ≤ maxLen) (hF : F g) : (rSlice rByte).rd w F [.slice (some ⟨g, 4, none⟩) 100 (c - 4)] ((p.drop 4).take 100) := by
  have hl : p.length = 128 := by have := h.1; rw [pc_len] at this; omega
  have hgl : g < w.heap.size := by
    obtain ⟨g', c', ⟨a, e, ha⟩, hgb⟩ := own_block h
    cases e
    have := (hgb (by omega))
    have e := ha (by omega)
    cases e
    exact this.2.1
  refine ⟨_, 100, _, rfl, by rw [List.length_take, List.length_drop]; omega, by omega, by omega, .inr ⟨g, 4, rfl, hF, hgl, fun i x hx => ⟨[.int .u8 (x.toNat : Int)], fun j u hu => ?_, rfl⟩⟩⟩
  match j, hu with
  | 0, hu =>
    obtain rfl : Value.int .u8 (x.toNat : Int) = u := by simpa using hu
    have e : rByte.size = 1 := rfl
    rw [List.getElem?_take] at hx
    split at hx
    · rw [List.getElem?_drop] at hx
      have := h.cellAt (4 + i) (by omega)
      rw [pc_get hx] at this
      rw [e, Nat.mul_one, Nat.add_zero]
      exact this
    · cases hx

/-- dirty, by steps. -/
theorem dirty_snoc (first : Nat) (ps : List (List UInt8)) (k : Nat) (p : List UInt8) (h : ps[k]? = some p) : dirty first (ps.take (k + 1)) = if blank p then dirty first (ps.take k) else dirty first (ps.take k) ++ [((first + k : Nat) : Int)] := by
  have hk := (List.getElem?_eq_some_iff.1 h).1
  have e1 : (ps.take (k + 1)).length = k + 1 := by rw [List.length_take]; omega
  have e2 : (ps.take k).length = k := by rw [List.length_take]; omega
  have g : ∀ (m i : Nat), i < m → m ≤ ps.length → (ps.take m).getD i [] = ps.getD i [] := fun m i hi hm => by
    rw [List.getD_eq_getElem?_getD, List.getElem?_take, if_pos hi, ← List.getD_eq_getElem?_getD]
  have hp : ps.getD k [] = p := by rw [List.getD_eq_getElem?_getD, h]; rfl
  unfold dirty
  rw [e1, e2, List.range_succ, List.filter_append, List.map_append]
  have f1 : (List.range k).filter (fun i => !blank ((ps.take (k + 1)).getD i [])) = (List.range k).filter fun i => !blank ((ps.take k).getD i []) :=
    List.filter_congr fun i hi => by
      have := List.mem_range.1 hi
      rw [g _ i (by omega) (by omega), g _ i this (by omega)]
  rw [f1]
  by_cases hb : blank p = true
  · rw [if_pos hb, List.filter_cons_of_neg (by rw [g _ k (by omega) (by omega), hp, hb]; simp)]
    simp
  · rw [if_neg hb, List.filter_cons_of_pos (by rw [g _ k (by omega) (by omega), hp]; simpa using hb)]
    rfl

end
end Go.Proofs.YtngddhoolijimaaGreatDoor
