/-
  The reference's encoder: numbers, strings.
-/
import Derived.Test.YtfppjpmflpaffaaGreatCrA
import Derived.Test.YtfppjpmflpaffaaGreatCeB
namespace Go.Proofs.YtfppjpmflpaffaaGreat
open Go.RowKit
set_option linter.unusedVariables false
set_option linter.unusedSimpArgs false

theorem rf_num : RefC 34 .num := by
  intro w base v l cs x hb hr hx hl
  have hin := ok_rd .num hx
  obtain ⟨rfl, _⟩ := hx
  exact rf_putInt w base v l x hin hb hr hl

set_option maxRecDepth 100000 in
theorem rf_str : RefC 70 .str := by
  intro w base v l cs s hb hr hx hl
  obtain ⟨rfl, hsm⟩ := hx
  show Calls _ _ #[v, .string s] _ _
  obtain ⟨n, hn⟩ : ∃ n, n = s.size := ⟨_, rfl⟩
  have HN := Lib.hid hn
  have HB := Lib.hid hb
  have hl' : l.length + (numB s.size ++ s.data.toList).length ≤ 140737488355328 := hl
  rw [List.length_append, ← hn] at hl'
  have HL := Lib.hid hl'
  have hnw : (Lit.int .i64 (n : Int)).wf = true := by unfold maxLen at hsm; simp [Lit.wf, IntKind.min, IntKind.max, IntKind.bits, IntKind.signed]; omega
  have HC := Lib.hid (rf_num w base v l [.int .i64 (n : Int)] (n : Int) hb hr ⟨rfl, hnw⟩ (by show _ + (numB (n : Int)).length ≤ _; omega))
  clear hl hl' hr hsm hnw hb
  go_enter Tryz.func70, Tryz.ntmps70
  go_wp2_with fail
  rw [← HN.out]
  refine HC.out.mono ?_
  rintro e w1 ⟨v1, rfl, hr1, hg1⟩
  have HR1 := Lib.hid (show Row w1 base v1 (l ++ numB (n : Int)) from hr1)
  have HG1 := Lib.hid hg1
  clear hr1 hg1 hn
  go_wp2_with (at_builtin; refine wpList_str_o rfl _ _ rfl base _ _ rfl HR1.out s rfl (by have := HL.out; rw [List.length_append]; omega) (by have := HB.out; have := HG1.out.chg.size; omega) ?_)
  intro v2 w2 hr hg
  have HR2 := Lib.hid hr
  have HG2 := Lib.hid (HG1.out.trans hg)
  clear hr hg
  go_wp2
  go_ret
  refine ⟨v2, rfl, ?_, HG2.out⟩
  have := HR2.out
  show Row w2 base v2 (l ++ (numB s.size ++ s.data.toList))
  rw [← HN.out]
  first | exact this | (rw [List.append_assoc] at this; exact this)

theorem rd_grw {α : Type} {R : Rd α} {w w' : World} {base : Nat} {v v' : Value} {l : List UInt8} {cs : List Value} {x : α} (hg : Grw v v' w w') (hr : Row w base v l) (hb : base ≤ w.heap.size) (h : R.rd w (· < base) cs x) : R.rd w' (· < base) cs x :=
  rd_low (hg.below hr hb) hb h
end Go.Proofs.YtfppjpmflpaffaaGreat
