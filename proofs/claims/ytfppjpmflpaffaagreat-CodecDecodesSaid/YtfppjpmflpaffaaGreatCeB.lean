/-
  The program's encoder: numbers, strings, lists of numbers.
-/
import Derived.Test.YtfppjpmflpaffaaGreatCeA
import Derived.Lib.AppendStr
namespace Go.Proofs.YtfppjpmflpaffaaGreat
open Go.RowKit
set_option linter.unusedVariables false
set_option linter.unusedSimpArgs false

theorem Row.any {w : World} {base : Nat} {v : Value} {l : List UInt8} (h : Row w base v l) : ∃ a n c, v = .slice a n c := by
  obtain ⟨a, c, e⟩ := h.dat.len
  exact ⟨a, _, c, e⟩

theorem strCells_pc (s : ByteArray) : Go.Lib.strCells s = pc s.data.toList := rfl

theorem run_append_str2 {P : Program} (w : World) (base : Nat) (t u ty e : TypeId) (i : TypeInfo) (ht : P.underlying t = some (.slice e)) (hu : P.underlying u = some .string) (hi : P.info? e = some i) (hz : i.zero = some (.int .u8 0))
    (hsize : i.size = 1) (hby : i.bytes = 1) (v : Value) (n : Nat) (xs : List Value) (hown : w.ownsRow base e 1 v n xs) (s : ByteArray)
    (h63 : n + s.size ≤ maxLen) (hbytes : n + s.size ≤ 140737488355328) (hbase : base ≤ w.heap.size) :
    ∃ v' w', (Builtin.append_ #[t, u] ty #[v, .string s]).run P w = .ok v' w' ∧ w'.ownsRow base e 1 v' (n + s.size) (xs ++ Go.Lib.strCells s) ∧ w.grownBy w' v.ownBlock ∧
      (∀ b, v'.ownBlock = some b → v.ownBlock = some b ∨ w.heap.size ≤ b) := by
  obtain ⟨v', w', hr, r1, r2, r3⟩ := Go.Lib.run_append_own_string (P := P) w base t u ty e i ht hu hi hz hsize hby v n xs hown s h63 hbytes hbase
  refine ⟨v', w', hr, r1, r2, fun b hb => ?_⟩
  have hsmall : n + s.size ≤ 9223372036854775807 := by simp only [maxLen] at h63; omega
  have hxl : xs.length = n := by simpa using hown.1
  rcases hown.2 with ⟨rfl, rfl⟩ | ⟨g, cap, cur, rfl, hbg, hg, hnc, hcm, hcs, htake⟩
  · by_cases hm : s.size = 0
    · rw [r3.2 ⟨rfl, hm⟩] at hb
      cases hb
    · have hr2 := run_append_nil_string (P := P) w t u ty e i (.int .u8 0) ht hu hi hz s (by omega) (by omega) (by rw [hby]; omega)
      have := hr.symm.trans hr2
      simp only [Result.ok.injEq] at this
      rw [this.1] at hb
      simp only [Value.ownBlock, Option.some.injEq] at hb
      exact .inr (by omega)
  · by_cases hroom : n + s.size ≤ cap
    · have hcs' : cur.size = cap := by simpa using hcs
      have hr2 := Go.Lib.run_append_room_string (P := P) w t u ty e i ht hu hi hsize g n cap cur hg s hroom (by omega)
      have := hr.symm.trans hr2
      simp only [Result.ok.injEq] at this
      rw [this.1] at hb
      exact .inl hb
    · have holds : ∀ j u, xs[j]? = some u → w.cell? ((⟨g, 0, none⟩ : Addr).add j) = some u := hown.cells (g := g) rfl
      have hr2 := Go.Lib.run_append_grow_string (P := P) w t u ty e i (.int .u8 0) ht hu hi hz ⟨g, 0, none⟩ n cap xs (by rw [hsize]; simpa using hxl) holds s (by omega) (by omega) (by rw [hby]; exact growslice_fits (by omega) (by omega))
      have := hr.symm.trans hr2
      simp only [Result.ok.injEq] at this
      rw [this.1] at hb
      simp only [Value.ownBlock, Option.some.injEq] at hb
      exact .inr (by omega)

/-- A string onto bytes. -/
theorem wpList_str_o {ops : Array Oper} {rest : List Oper} {o : Oper} {a : Act} {w : World} {Q : Exit → Act → World → Prop} (hgd : o.guard = none) (sl x : Operand)
    (ho : o.op = .call { callee := .builtin .append, args := #[sl, x], argTypes := #[31, 9] })
    (base : Nat) (v : Value) (l : List UInt8) (hs : a.eval sl = v) (hown : Row w base v l) (s : ByteArray) (hx : a.eval x = .string s) (hl : l.length + s.data.toList.length ≤ 140737488355328) (hbase : base ≤ w.heap.size)
    (h : ∀ v' w', Row w' base v' (l ++ s.data.toList) → Grw v v' w w' → wpList Tryz.prog ops Q rest (a.put o.dst v') w') : wpList Tryz.prog ops Q (o :: rest) a w := by
  obtain ⟨i0, hi0, hz0, hz1, hz2⟩ := info_parts byte_info2
  have hsz : s.data.toList.length = s.size := Array.length_toList
  rw [hsz] at hl
  refine wpList_plain hgd fun K hK => ?_
  obtain ⟨v', w', hr, h2, h3, h4⟩ := run_append_str2 (P := Tryz.prog) w base 31 9 o.type 5 i0 Tryz.underlying31 Tryz.underlying9 hi0 hz0 hz1 hz2 v l.length (pc l) hown s (by unfold maxLen; omega) (by omega) hbase
  unfold Oper.wp execOp
  simp only [ho, resolve, invoke, builtin, Sem.run_bind, Sem.run_pure, Result.andThen_ok, List.map_toArray, List.map_cons, List.map_nil, hs, hx, hr]
  refine hK _ _ (h v' w' ?_ ⟨Chg.grown h3 (fun b e => e), h4⟩)
  unfold Row
  rw [pc_append, List.length_append, hsz]
  exact h2

set_option maxRecDepth 100000 in
theorem put_num : PutC 19 .num := by
  intro w wb v l cs x hw hx hl
  have hin := ok_rd .num hx
  obtain ⟨rfl, _⟩ := hx
  show Calls _ _ #[_, .int .i64 x] _ _
  have HW := Lib.hid hw
  have HIN := Lib.hid (show -9223372036854775808 ≤ x ∧ x < 9223372036854775808 from hin)
  have HL := Lib.hid (show l.length + (numB x).length ≤ 140737488355328 from hl)
  have c0 := hw.cell
  clear hin hl hw
  go_enter Tryz.func19, Tryz.ntmps19
  go_wp2_with fail
  refine (cd_appendInt w (wb + 1) v l x HIN.out HW.out.lt HW.out.row HL.out).mono ?_
  rintro e w1 ⟨v', rfl, hr, hg⟩
  obtain ⟨sa, sn, sc, rfl⟩ := hr.any
  have HP := Lib.hid (HW.out.put hg hr)
  have c1 : w1.cell? ⟨wb, 0, none⟩ = some v := (hg.cell (a := ⟨wb, 0, none⟩) (fun e => by have := (HW.out.row.ge wb e).1; omega) HW.out.lt).trans c0
  have f1 : w1.frozen? ⟨wb, 0, none⟩ = false := (hg.chg.frozen (a := ⟨wb, 0, none⟩) (fun e => by have := (HW.out.row.ge wb e).1; omega) HW.out.lt).trans HW.out.free
  clear c0 hr hg
  go_wp2
  (first | go_end0 | refine bodyPost_ret (results_none rfl _ _ _) rfl ?_)
  exact ⟨rfl, _, HP.out⟩

set_option maxRecDepth 100000 in
theorem put_int64 : PutC 127 .num := by
  intro w wb v l cs x hw hx hl
  have hin := ok_rd .num hx
  obtain ⟨rfl, _⟩ := hx
  show Calls _ _ #[_, .int .i64 x] _ _
  have HW := Lib.hid hw
  have HIN := Lib.hid (show -9223372036854775808 ≤ x ∧ x < 9223372036854775808 from hin)
  have HL := Lib.hid (show l.length + (numB x).length ≤ 140737488355328 from hl)
  have c0 := hw.cell
  clear hin hl hw
  go_enter Tryz.func127, Tryz.ntmps127
  go_wp2_with fail
  refine (cd_appendInt w (wb + 1) v l x HIN.out HW.out.lt HW.out.row HL.out).mono ?_
  rintro e w1 ⟨v', rfl, hr, hg⟩
  obtain ⟨sa, sn, sc, rfl⟩ := hr.any
  have HP := Lib.hid (HW.out.put hg hr)
  have c1 : w1.cell? ⟨wb, 0, none⟩ = some v := (hg.cell (a := ⟨wb, 0, none⟩) (fun e => by have := (HW.out.row.ge wb e).1; omega) HW.out.lt).trans c0
  have f1 : w1.frozen? ⟨wb, 0, none⟩ = false := (hg.chg.frozen (a := ⟨wb, 0, none⟩) (fun e => by have := (HW.out.row.ge wb e).1; omega) HW.out.lt).trans HW.out.free
  clear c0 hr hg
  go_wp2
  (first | go_end0 | refine bodyPost_ret (results_none rfl _ _ _) rfl ?_)
  exact ⟨rfl, _, HP.out⟩

set_option maxRecDepth 100000 in
theorem put_str : PutC 91 .str := by
  intro w wb v l cs s hw hx hl
  obtain ⟨rfl, hsm⟩ := hx
  show Calls _ _ #[_, .string s] _ _
  have HW := Lib.hid hw
  obtain ⟨n, hn⟩ : ∃ n, n = s.size := ⟨_, rfl⟩
  have HN := Lib.hid hn
  have hl' : l.length + (numB s.size ++ s.data.toList).length ≤ 140737488355328 := hl
  rw [List.length_append, ← hn] at hl'
  have HL := Lib.hid hl'
  have hnw : (Lit.int .i64 (n : Int)).wf = true := by unfold maxLen at hsm; simp [Lit.wf, IntKind.min, IntKind.max, IntKind.bits, IntKind.signed]; omega
  have HNW := Lib.hid hnw
  clear hl hl' hw hsm hnw
  go_enter Tryz.func91, Tryz.ntmps91
  go_wp2_with fail
  rw [← HN.out]
  refine (put_num w wb v l [.int .i64 (n : Int)] (n : Int) HW.out ⟨rfl, HNW.out⟩ (by have := HL.out; show _ + (numB (n : Int)).length ≤ _; omega)).mono ?_
  rintro e w1 ⟨rfl, v1, hw1, hg1⟩
  have HW1 := Lib.hid (show Wr w1 wb v1 (l ++ numB (n : Int)) from hw1)
  have HG1 := Lib.hid hg1
  have c1 := hw1.cell
  clear hw1 hg1 hn
  go_wp2_with (at_builtin; refine wpList_str_o rfl _ _ rfl (wb + 1) _ _ rfl HW1.out.row s rfl (by have := HL.out; rw [List.length_append]; omega) HW1.out.lt ?_)
  intro v2 w2 hr hg
  obtain ⟨sa, sn, sc, rfl⟩ := hr.any
  have HP := Lib.hid (HW1.out.put hg hr)
  have c2 : w2.cell? ⟨wb, 0, none⟩ = some v1 := (hg.cell (a := ⟨wb, 0, none⟩) (fun e => by have := (HW1.out.row.ge wb e).1; omega) HW1.out.lt).trans c1
  have f2 : w2.frozen? ⟨wb, 0, none⟩ = false := (hg.chg.frozen (a := ⟨wb, 0, none⟩) (fun e => by have := (HW1.out.row.ge wb e).1; omega) HW1.out.lt).trans HW1.out.free
  clear c1 hr hg
  go_wp2
  (first | go_end0 | refine bodyPost_ret (results_none rfl _ _ _) rfl ?_)
  refine ⟨rfl, _, ?_, HG1.out.trans HP.out.2⟩
  have := HP.out.1
  show Wr _ wb _ (l ++ (numB s.size ++ s.data.toList))
  rw [← HN.out]
  exact this
end Go.Proofs.YtfppjpmflpaffaaGreat
