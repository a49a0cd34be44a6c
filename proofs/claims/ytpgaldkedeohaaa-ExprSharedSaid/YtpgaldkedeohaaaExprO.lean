/-
  The reference: legal (and eval).
  No condition beyond those typed.
-/
import Derived.Test.YtpgaldkedeohaaaExprN
namespace Go.Proofs.Ytpgaldkedeohaaa
open Go.RowKit
set_option linter.unusedVariables false

theorem ropn_call (op : Int) (v : Int) (w : World) (h : Xp.arity op = v) : Calls Try.prog 29 #[.int .i64 op] w fun e w' => e = .returned (.int .i64 v) ∧ w = w' := by
  subst h; exact ref_operands op w

set_option maxRecDepth 100000 in
set_option maxHeartbeats 1000000 in
theorem ref_legal (b off n c k : Nat) (e : Ex) (w : World) (hk : k < n) (hnc : n ≤ 100000) (hx : ExAt w b (off + k * 7) e) :
    Calls Try.prog 33 #[.slice (some ⟨b, off, none⟩) n c, .int .i64 k] w fun e' w' => e' = .returned (.bool (!Xp.badIx e k)) ∧ w = w' := by
  obtain ⟨op, a, bb, col, v⟩ := e
  obtain ⟨x0, x1, x2, x3, x4, x5, x6⟩ := hx
  simp only at x0 x1 x2
  clear x3 x4 x5 x6
  obtain ⟨ar, har⟩ : ∃ ar, Xp.arity op = ar := ⟨_, rfl⟩
  have HA := Lib.hid har
  clear har
  have h0 : (0 : Int) ≤ (k : Int) := by omega
  have h1 : (k : Int) < (n : Int) := by omega
  go_enter Try.func33, Try.ntmps33
  go_wp2_with fail
  refine (ropn_call _ _ _ HA.out).mono ?_
  rintro e1 w1 ⟨rfl, rfl⟩
  go_wp2_with fail
  all_goals
    go_ret
    refine ⟨ret_bool ?_, rfl⟩
    unfold Xp.badIx Xp.lgl
    simp only [HA.out]
    rw [Bool.eq_iff_iff]
    simp
    omega
theorem ExAt.below {w w' : World} {b o : Nat} {e : Ex} (h : ExAt w b o e) (hb : b < w.heap.size) (hB : Below w.heap.size w w') : ExAt w' b o e := by
  obtain ⟨x0, x1, x2, x3, x4, x5, x6⟩ := h
  exact ⟨(hB.cell (p := ⟨b, o, none⟩) hb).trans x0, (hB.cell (p := ⟨b, o + 1, none⟩) hb).trans x1, (hB.cell (p := ⟨b, o + 2, none⟩) hb).trans x2, (hB.cell (p := ⟨b, o + 3, none⟩) hb).trans x3, (hB.cell (p := ⟨b, o + 4, none⟩) hb).trans x4, (hB.cell (p := ⟨b, o + 5, none⟩) hb).trans x5, (hB.cell (p := ⟨b, o + 6, none⟩) hb).trans x6⟩

theorem VlAt.below {w w' : World} {b o : Nat} {e : Vl} (h : VlAt w b o e) (hb : b < w.heap.size) (hB : Below w.heap.size w w') : VlAt w' b o e := by
  obtain ⟨x0, x1, x2⟩ := h
  exact ⟨(hB.cell (p := ⟨b, o, none⟩) hb).trans x0, (hB.cell (p := ⟨b, o + 1, none⟩) hb).trans x1, (hB.cell (p := ⟨b, o + 2, none⟩) hb).trans x2⟩

theorem legal_call (v : Bool) (b off n c k : Nat) (e : Ex) (w W : World) (hb : b < w.heap.size) (hB : Below w.heap.size w W) (hk : k < n) (hnc : n ≤ 100000) (hx : ExAt w b (off + k * 7) e) (hv : (!Xp.badIx e k) = v) :
    Calls Try.prog 33 #[.slice (some ⟨b, off, none⟩) n c, .int .i64 k] W fun e' w' => e' = .returned (.bool v) ∧ W = w' := by
  subst hv; exact ref_legal b off n c k e W hk hnc (hx.below hb hB)

end Go.Proofs.Ytpgaldkedeohaaa
