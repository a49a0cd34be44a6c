/-
  Eval of package expr.
-/
import Derived.Test.YtpgaldkedeohaaaExprM
import Derived.Deep.LoopGhost
import Derived.WalkMore
import Derived.LoopN
namespace Go.Proofs.Ytpgaldkedeohaaa
open Go.RowKit
set_option linter.unusedVariables false

theorem evS_ops {L : List Ex} {row : List Vl} {k : Nat} {e : Ex} (hL : L[k]? = some e) :
    (nops e.op = 0 → Xp.ev L row k = apR e row Xp.zero Xp.zero) ∧
    (nops e.op = 1 → Xp.lgl k e.a = true → Xp.ev L row k = apR e row (Xp.ev L row e.a.toNat) Xp.zero) ∧
    (nops e.op = 1 → Xp.lgl k e.a = false → Xp.ev L row k = Xp.zero) ∧
    (nops e.op = 2 → Xp.lgl k e.a = true → Xp.lgl k e.b = true → Xp.ev L row k = apR e row (Xp.ev L row e.a.toNat) (Xp.ev L row e.b.toNat)) ∧
    (nops e.op = 2 → Xp.lgl k e.a = false → Xp.ev L row k = Xp.zero) ∧
    (nops e.op = 2 → Xp.lgl k e.b = false → Xp.ev L row k = Xp.zero) := by
  have hd : L.getD k Xp.zeroE = e := by rw [List.getD_eq_getElem?_getD, hL]; rfl
  rw [Xp.ev_eq]
  unfold Xp.evS apR
  rw [hd]
  have hn : nops e.op = (Xp.arity e.op).toNat := rfl
  rcases Xp.arity_cases e.op with ⟨e1, e2⟩ | ⟨e1, e2⟩ | ⟨e1, e2⟩ | ⟨e1, e2⟩ | ⟨e1, e1', e2⟩ | ⟨e1, e2⟩
  · rw [e2] at hn
    have hb : Xp.badIx e k = false := by unfold Xp.badIx; rw [e2]; rfl
    refine ⟨fun _ => ?_, fun h => (by rw [hn] at h; cases h), fun h => (by rw [hn] at h; cases h), fun h => (by rw [hn] at h; cases h), fun h => (by rw [hn] at h; cases h), fun h => (by rw [hn] at h; cases h)⟩
    rw [e2, hb]
    unfold Xp.ap
    rw [e1]; rfl
  · rw [e2] at hn
    have hb : Xp.badIx e k = false := by unfold Xp.badIx; rw [e2]; rfl
    refine ⟨fun _ => ?_, fun h => (by rw [hn] at h; cases h), fun h => (by rw [hn] at h; cases h), fun h => (by rw [hn] at h; cases h), fun h => (by rw [hn] at h; cases h), fun h => (by rw [hn] at h; cases h)⟩
    rw [e2, hb]
    unfold Xp.ap
    rw [e1]; rfl
  · rw [e2] at hn
    refine ⟨fun h => (by rw [hn] at h; cases h), fun _ ha => ?_, fun _ ha => ?_, fun h => (by rw [hn] at h; cases h), fun h => (by rw [hn] at h; cases h), fun h => (by rw [hn] at h; cases h)⟩
    · have hb : Xp.badIx e k = false := by unfold Xp.badIx; rw [e2, ha]; rfl
      rw [e2, hb]
      unfold Xp.ap
      rw [e1]; rfl
    · have hb : Xp.badIx e k = true := by unfold Xp.badIx; rw [e2, ha]; rfl
      rw [e2, hb]; rfl
  · rw [e2] at hn
    refine ⟨fun h => (by rw [hn] at h; cases h), fun _ ha => ?_, fun _ ha => ?_, fun h => (by rw [hn] at h; cases h), fun h => (by rw [hn] at h; cases h), fun h => (by rw [hn] at h; cases h)⟩
    · have hb : Xp.badIx e k = false := by unfold Xp.badIx; rw [e2, ha]; rfl
      rw [e2, hb]
      unfold Xp.ap
      rw [e1]; rfl
    · have hb : Xp.badIx e k = true := by unfold Xp.badIx; rw [e2, ha]; rfl
      rw [e2, hb]; rfl
  · rw [e2] at hn
    refine ⟨fun h => (by rw [hn] at h; cases h), fun h => (by rw [hn] at h; cases h), fun h => (by rw [hn] at h; cases h), fun _ ha hb => ?_, fun _ ha => ?_, fun _ hb => ?_⟩
    · have hb : Xp.badIx e k = false := by unfold Xp.badIx; rw [e2, ha, hb]; rfl
      rw [e2, hb]; rfl
    · have hb : Xp.badIx e k = true := by unfold Xp.badIx; rw [e2, ha]; rfl
      rw [e2, hb]; rfl
    · have hb : Xp.badIx e k = true := by unfold Xp.badIx; rw [e2, hb]; simp
      rw [e2, hb]; rfl
  · rw [e2] at hn
    refine ⟨fun _ => ?_, fun h => (by rw [hn] at h; cases h), fun h => (by rw [hn] at h; cases h), fun h => (by rw [hn] at h; cases h), fun h => (by rw [hn] at h; cases h), fun h => (by rw [hn] at h; cases h)⟩
    rw [e2]; rfl

theorem lg_call (k : Nat) (o : Int) (b : Bool) (w : World) (h : Xp.lgl k o = b) : Calls Try.prog 24 #[.int .i64 k, .int .i64 o] w fun e w' => e = .returned (.bool b) ∧ w = w' := by
  subst h; exact expr_legal k o w

theorem arith_wf (op : Int) (x y : Vl) : (Xp.arith op x y).wf := by
  have z : Xp.zero.wf := ⟨by decide, by decide⟩
  unfold Xp.arith
  split
  · split
    · split
      · rename_i h; exact (i64_iff _).1 h
      · exact z
    · split
      · split
        · rename_i h; exact (i64_iff _).1 h
        · exact z
      · split
        · rename_i h; exact (i64_iff _).1 h
        · exact z
  · exact z

theorem bool_wf (b : Bool) : (Xp.bool b).wf := by cases b <;> exact ⟨by decide, by decide⟩

/-- The values that Eval reckons with have numbers of 64 bits. -/
theorem ev_wf (L : List Ex) (row : List Vl) (i : Nat) (hL : ∀ (i : Nat) (e : Ex), L[i]? = some e → e.c.wf) (hr : ∀ v ∈ row, v.wf) : (Xp.ev L row i).wf := by
  have z : Xp.zero.wf := ⟨by decide, by decide⟩
  rw [Xp.ev_eq]
  unfold Xp.evS
  split
  · exact z
  · split
    · exact z
    · unfold Xp.ap
      split
      · cases h : L[i]? with
        | none => rw [List.getD_eq_getElem?_getD, h]; exact z
        | some e => rw [List.getD_eq_getElem?_getD, h]; exact hL i e h
      · split
        · split
          · rename_i h
            rw [List.getD_eq_getElem?_getD]
            cases g : row[(L.getD i Xp.zeroE).col.toNat]? with
            | none => exact z
            | some v => exact hr v (List.mem_of_getElem? g)
          · exact z
        · split
          · exact arith_wf _ _ _
          · split
            · exact bool_wf _
            · split
              · exact bool_wf _
              · split
                · exact bool_wf _
                · split
                  · exact bool_wf _
                  · split <;> exact bool_wf _

theorem row_wf {w : World} {B : Nat} {v : Value} {row : List Vl} (h : RowAt w B v row) : ∀ x ∈ row, x.wf := by
  intro x hx
  obtain ⟨i, hi⟩ := List.getElem?_of_mem hx
  obtain ⟨a, n, c, _, hn, _, _, h4⟩ := h.view
  rcases h4 with h4 | ⟨b, off, _, _, _, h⟩
  · have := (List.getElem?_eq_some_iff.1 hi).1; omega
  · exact (h i x hi).2

theorem args_one {w : World} {base g cap : Nat} {op xk xn : Int} {xs : ByteArray} {y : Vl} (hn : nops op = 1) (h : w.ownsRow base 34 3 (.slice (some ⟨g, 0, none⟩) 1 cap) 1 [.int .i64 xk, .int .i64 xn, .string xs]) (hw : (Vl.mk xk xn xs).wf) :
    ArgsAt w (.slice (some ⟨g, 0, none⟩) 1 cap) (nops op) ⟨xk, xn, xs⟩ y := by
  intro _
  rw [hn]
  refine ⟨g, cap, rfl, ?_, ⟨h.cellAt 0 (by omega), h.cellAt 1 (by omega), h.cellAt 2 (by omega)⟩, hw, fun h => by omega⟩
  rcases h.2 with ⟨e, _⟩ | ⟨g', cap', cur, e, _, hg, _⟩
  · cases e
  · simp only [Value.slice.injEq, Option.some.injEq, Addr.mk.injEq, and_true, true_and] at e
    obtain ⟨rfl, _⟩ := e
    exact (Array.getElem?_eq_some_iff.1 hg).1

theorem args_two {w : World} {base g cap : Nat} {op xk xn yk yn : Int} {xs ys : ByteArray} (hn : nops op = 2) (h : w.ownsRow base 34 3 (.slice (some ⟨g, 0, none⟩) 2 cap) 2 [.int .i64 xk, .int .i64 xn, .string xs, .int .i64 yk, .int .i64 yn, .string ys])
    (hw : (Vl.mk xk xn xs).wf) (hw2 : (Vl.mk yk yn ys).wf) : ArgsAt w (.slice (some ⟨g, 0, none⟩) 2 cap) (nops op) ⟨xk, xn, xs⟩ ⟨yk, yn, ys⟩ := by
  intro _
  rw [hn]
  refine ⟨g, cap, rfl, ?_, ⟨h.cellAt 0 (by omega), h.cellAt 1 (by omega), h.cellAt 2 (by omega)⟩, hw, fun _ => ⟨⟨h.cellAt 3 (by omega), h.cellAt 4 (by omega), h.cellAt 5 (by omega)⟩, hw2⟩⟩
  rcases h.2 with ⟨e, _⟩ | ⟨g', cap', cur, e, _, hg, _⟩
  · cases e
  · simp only [Value.slice.injEq, Option.some.injEq, Addr.mk.injEq, and_true, true_and] at e
    obtain ⟨rfl, _⟩ := e
    exact (Array.getElem?_eq_some_iff.1 hg).1

theorem apply_call (e : Ex) (av rv : Value) (row : List Vl) (x y : Vl) (rk rn : Int) (rs : ByteArray) (w : World) (B : Nat) (hr : RowAt w B rv row) (ha : ArgsAt w av (nops e.op) x y) (h : apR e row x y = ⟨rk, rn, rs⟩) :
    Calls Try.prog 25 #[e.go, av, rv] w fun e' w' => e' = .returned (.agg #[.int .i64 rk, .int .i64 rn, .string rs]) ∧ Below w.heap.size w w' := by
  have e' : (Vl.mk rk rn rs).go = .agg #[.int .i64 rk, .int .i64 rn, .string rs] := rfl
  rw [← e', ← h]
  exact expr_apply e av rv row x y w B hr ha

theorem ops_call (e : Ex) (n : Nat) (w : World) (h : nops e.op = n) : Calls Try.prog 23 #[e.go] w (OpsPost e.a e.b n w) := by
  subst h; exact expr_operands e w

set_option maxRecDepth 100000 in
set_option maxHeartbeats 4000000 in
theorem expr_Eval_out (a : Option Addr) (n c : Nat) (root : Int) (rv : Value) (w : World) (h : root < 0 ∨ (n : Int) ≤ root) :
    Calls Try.prog 15 #[.slice a n c, .int .i64 root, rv] w fun e w' => e = .returned Xp.zero.go ∧ Below w.heap.size w w' := by
  rcases h with h | h
  · go_enter Try.func15, Try.ntmps15
    go_wp2
    go_step3
    go_wp2
    rw [Exit.noGoto_ret]
    refine bodyPost_ret (v := .agg #[.int .i64 0, .int .i64 0, .string ⟨#[]⟩]) (by simp [results, Try.results15, go_sem]) rfl ⟨rfl, below_alloc (Below.refl _ _) _⟩
  · have h0 : 0 ≤ root := by omega
    go_enter Try.func15, Try.ntmps15
    go_wp2
    go_step3
    go_wp2
    rw [Exit.noGoto_ret]
    refine bodyPost_ret (v := .agg #[.int .i64 0, .int .i64 0, .string ⟨#[]⟩]) (by simp [results, Try.results15, go_sem]) rfl ⟨rfl, below_alloc (Below.refl _ _) _⟩


set_option maxRecDepth 100000 in
set_option maxHeartbeats 4000000 in
theorem expr_Eval_in (b off c r : Nat) (L : List Ex) (rv : Value) (row : List Vl) (w : World) (hb : b < w.heap.size) (hr : r < L.length) (hlc : L.length ≤ c) (hlen : L.length ≤ 100000)
    (hL : ∀ (i : Nat) (x : Ex), L[i]? = some x → ExAt w b (off + i * 7) x ∧ x.c.wf) (hrow : RowAt w w.heap.size rv row) :
    Calls Try.prog 15 #[.slice (some ⟨b, off, none⟩) L.length c, .int .i64 r, rv] w fun e w' => e = .returned (Xp.ev L row r).go ∧ Below w.heap.size w w' := by
  obtain ⟨N, hN⟩ : ∃ N, N = L.length := ⟨_, rfl⟩
  rw [← hN] at hr hlc hlen ⊢
  have HN := Lib.hid hN
  clear hN
  have HL := Lib.hid hL
  have HR := Lib.hid hrow
  clear hL hrow
  obtain ⟨i0, hi0, hz0, hz1, hz2⟩ := info_parts val_info
  generalize hV : (Xp.ev L row r).go = V
  have HV := Lib.hid hV
  clear hV
  have hr0 : (0 : Int) ≤ (r : Int) := by omega
  have hr1 : (r : Int) < (N : Int) := by omega
  have hr2 : ¬ N ≤ r := by omega
  have hr3 : decide (N ≤ r) = false := decide_eq_false hr2
  have hr4 : (r : Int) + 1 ≤ (c : Int) := by omega
  go_enter Try.func15, Try.ntmps15
  go_wp2
  go_step3
  go_wp2_with (refine wpList_make_full _ rfl _ _ 32 rfl (w.heap.size + 1) 34 i0 _ 3 Try.underlying32 hi0 hz0 hz1 _ _ _ _ (r + 1) rfl rfl ?c1 ?c2 ?c3 ?c4 ?c5 ?_)
  case c1 => omega
  case c2 => omega
  case c3 => rw [hz2]; omega
  case c4 => unfold maxLen; omega
  case c5 => simp
  intro w1 hown hg1
  have hbw1 := below_none hg1
  have hO1 : OwnV w1 (w.heap.size + 1) (w.heap.size + 1) (r + 1) (vals (Xp.ev L row) (r + 1) 0) := ⟨by rw [vals_len], by rw [vals_zero, ← made_zero]; exact hown⟩
  have hR1 : RetV w1 w.heap.size := (RetV.new w _).below hbw1
  have hB1 : Below w.heap.size w w1 := below_new hbw1
  have HO1 := Lib.hid hO1
  have HR1 := Lib.hid hR1
  clear hown hg1 hbw1 hO1 hR1
  go_wp2
  go_step3
  go_wp2
  go_loopg [30] (r + 1) (fun gk i wr => ∃ k : Nat, k ≤ r + 1 ∧ gk + k = r + 1 ∧ i = .int .i64 k ∧ Below w.heap.size w wr ∧ RetV wr w.heap.size ∧ OwnV wr (w.heap.size + 1) (w.heap.size + 1) (r + 1) (vals (Xp.ev L row) (r + 1) k))
  case atStart => exact ⟨0, by omega, by omega, rfl, hB1, HR1.out, HO1.out⟩
  case round =>
    obtain ⟨k, hk, hgk, rfl, hB, hRet, hO⟩ := hrel
    clear HO1 HR1 hB1
    have HRet := Lib.hid hRet
    have HO := Lib.hid hO
    have hgk := Lib.hid hgk
    have hlt0 := hRet.lt
    have hlt1 := hO.lt.1
    clear hRet hO
    by_cases hkr : k < r + 1
    · obtain ⟨e, he⟩ : ∃ e, L[k]? = some e := ⟨L[k]'(by have := HN.out; omega), List.getElem?_eq_getElem (by have := HN.out; omega)⟩
      obtain ⟨hx, hwf⟩ := HL.out k e he
      have HE := Lib.hid he
      have HF := Lib.hid (evS_ops (row := row) he)
      clear he
      obtain ⟨op, ea, eb, col, ck, cn, cs⟩ := e
      obtain ⟨x0, x1, x2, x3, x4, x5, x6⟩ := hx
      have y0 := (hB.cell (p := ⟨b, off + k * 7, none⟩) hb).trans x0
      have y1 := (hB.cell (p := ⟨b, off + k * 7 + 1, none⟩) hb).trans x1
      have y2 := (hB.cell (p := ⟨b, off + k * 7 + 2, none⟩) hb).trans x2
      have y3 := (hB.cell (p := ⟨b, off + k * 7 + 3, none⟩) hb).trans x3
      have y4 := (hB.cell (p := ⟨b, off + k * 7 + 4, none⟩) hb).trans x4
      have y5 := (hB.cell (p := ⟨b, off + k * 7 + 5, none⟩) hb).trans x5
      have y6 := (hB.cell (p := ⟨b, off + k * 7 + 6, none⟩) hb).trans x6
      clear x0 x1 x2 x3 x4 x5 x6
      have hwf := Lib.hid hwf
      simp only at y0 y1 y2 y3 y4 y5 y6
      obtain ⟨n, hn⟩ : ∃ n, nops op = n := ⟨_, rfl⟩
      have HN2 := Lib.hid hn
      have hn2 := nops_le op
      rw [hn] at hn2
      clear hn
      go_wp2_with fail
      refine (ops_call ⟨op, ea, eb, col, ck, cn, cs⟩ n _ HN2.out).mono ?_
      rintro e1 w2 ⟨g, rfl, hg1, hg2, hgc0, hgc1, hb2⟩
      have hgc0 : w2.cell? ⟨g, 0, none⟩ = some (.int .i64 ea) := hgc0
      have hgc1 : w2.cell? ⟨g, 1, none⟩ = some (.int .i64 eb) := hgc1
      have hz2' := hb2.size
      simp only [World.size_alloc] at hz2' hg1
      have hB2 : Below w.heap.size w w2 := below_chain (below_alloc hB _) hb2
      have HO2 := Lib.hid ((HO.out.below (Below.refl _ _ |>.alloc (Nat.le_refl _) _)).below hb2)
      have HR2 := Lib.hid ((HRet.out.below (Below.refl _ _ |>.alloc (Nat.le_refl _) _)).below hb2)
      have hcell : ∀ o (u : Value), wr.cell? ⟨wr.heap.size, o, none⟩ = some u → True := fun _ _ _ => trivial
      clear hcell
      have z0 : w2.cell? ⟨wr.heap.size, 0, none⟩ = some (.int .i64 op) := (hb2.cell (p := ⟨wr.heap.size, 0, none⟩) (by simp)).trans (by go_simp)
      have z1 : w2.cell? ⟨wr.heap.size, 1, none⟩ = some (.int .i64 ea) := (hb2.cell (p := ⟨wr.heap.size, 1, none⟩) (by simp)).trans (by go_simp)
      have z2 : w2.cell? ⟨wr.heap.size, 2, none⟩ = some (.int .i64 eb) := (hb2.cell (p := ⟨wr.heap.size, 2, none⟩) (by simp)).trans (by go_simp)
      have z3 : w2.cell? ⟨wr.heap.size, 3, none⟩ = some (.int .i64 col) := (hb2.cell (p := ⟨wr.heap.size, 3, none⟩) (by simp)).trans (by go_simp)
      have z4 : w2.cell? ⟨wr.heap.size, 4, none⟩ = some (.int .i64 ck) := (hb2.cell (p := ⟨wr.heap.size, 4, none⟩) (by simp)).trans (by go_simp)
      have z5 : w2.cell? ⟨wr.heap.size, 5, none⟩ = some (.int .i64 cn) := (hb2.cell (p := ⟨wr.heap.size, 5, none⟩) (by simp)).trans (by go_simp)
      have z6 : w2.cell? ⟨wr.heap.size, 6, none⟩ = some (.string cs) := (hb2.cell (p := ⟨wr.heap.size, 6, none⟩) (by simp)).trans (by go_simp)
      have hsz : wr.heap.size < w2.heap.size := by omega
      have HZ := Lib.hid (show ∀ w' : World, Below w2.heap.size w2 w' → w'.cell? ⟨wr.heap.size, 0, none⟩ = some (.int .i64 op) ∧ w'.cell? ⟨wr.heap.size, 1, none⟩ = some (.int .i64 ea) ∧ w'.cell? ⟨wr.heap.size, 2, none⟩ = some (.int .i64 eb) ∧ w'.cell? ⟨wr.heap.size, 3, none⟩ = some (.int .i64 col) ∧
        w'.cell? ⟨wr.heap.size, 4, none⟩ = some (.int .i64 ck) ∧ w'.cell? ⟨wr.heap.size, 5, none⟩ = some (.int .i64 cn) ∧ w'.cell? ⟨wr.heap.size, 6, none⟩ = some (.string cs) ∧ w'.cell? ⟨g, 0, none⟩ = some (.int .i64 ea) ∧ w'.cell? ⟨g, 1, none⟩ = some (.int .i64 eb) from fun w' h =>
        ⟨(h.cell (p := ⟨wr.heap.size, 0, none⟩) hsz).trans z0, (h.cell (p := ⟨wr.heap.size, 1, none⟩) hsz).trans z1, (h.cell (p := ⟨wr.heap.size, 2, none⟩) hsz).trans z2, (h.cell (p := ⟨wr.heap.size, 3, none⟩) hsz).trans z3, (h.cell (p := ⟨wr.heap.size, 4, none⟩) hsz).trans z4,
          (h.cell (p := ⟨wr.heap.size, 5, none⟩) hsz).trans z5, (h.cell (p := ⟨wr.heap.size, 6, none⟩) hsz).trans z6, (h.cell (p := ⟨g, 0, none⟩) hg2).trans hgc0, (h.cell (p := ⟨g, 1, none⟩) hg2).trans hgc1⟩)
      clear hb2 y0 y1 y2 y3 y4 y5 y6
      have hnn : n = 0 ∨ n = 1 ∨ n = 2 := by omega
      rcases hnn with rfl | rfl | rfl
      · go_wp2_with fail
        refine wp_loop_rounds 1 ?_
        rw [rounds_succ]
        go_wp2_with fail
        obtain ⟨rk, rn, rs, hres⟩ : ∃ rk rn rs, Xp.ev L row k = ⟨rk, rn, rs⟩ := ⟨_, _, _, rfl⟩
        have HRES := Lib.hid hres
        have hap := Lib.hid ((HF.out.1 HN2.out).symm.trans hres)
        clear hres
        refine (apply_call ⟨op, ea, eb, col, ck, cn, cs⟩ _ rv row (Xp.zero) (Xp.zero) rk rn rs _ w.heap.size (rd_below HR.out hB2) (fun h => absurd h (by rw [HN2.out]; omega)) hap.out).mono ?_
        rintro e2 w9 ⟨rfl, hb9⟩
        have hB3 : Below w.heap.size w w9 := below_chain hB2 hb9
        have hO3 := HO2.out.below hb9
        have hR3 := HR2.out.below hb9
        obtain ⟨s0, s1, s2⟩ := hO3.at_ (i := k) (vals_get hkr)
        have f0 := hO3.free (k * 3)
        have f1 := hO3.free (k * 3 + 1)
        have f2 := hO3.free (k * 3 + 2)
        have hl3 := hO3.lt.1
        have hput := hO3.step hkr HRES.out
        have HPUT := Lib.hid hput
        have hret := (((hR3.far (p := ⟨w.heap.size + 1, k * 3, none⟩) (by simp) (.int .i64 rk)).far (p := ⟨w.heap.size + 1, k * 3 + 1, none⟩) (by simp) (.int .i64 rn)).far (p := ⟨w.heap.size + 1, k * 3 + 2, none⟩) (by simp) (.string rs))
        have HRET := Lib.hid hret
        clear hput hret hO3 hR3 hb9
        go_wp2_with fail
        go_roundg (gk - 1)
        case measure => have := hgk.out; omega
        case rel => exact ⟨k + 1, by omega, by have := hgk.out; omega, by go_num, ((hB3.setCell (by simp) _).setCell (by simp) _).setCell (by simp) _, HRET.out, HPUT.out⟩
      · cases la : Xp.lgl k ea with
        | false =>
          have LG := Lib.hid la
          clear la
          go_wp2_with fail
          refine wp_loop_rounds 2 ?_
          rw [rounds_succ]
          go_wp2_with fail
          refine (lg_call k _ _ _ LG.out).mono ?_
          rintro e3 w' ⟨rfl, rfl⟩
          have hskip := HO2.out
          rw [← vals_skip (f := Xp.ev L row) (HF.out.2.2.1 HN2.out LG.out)] at hskip
          have HSK := Lib.hid hskip
          clear hskip
          go_wp2_with fail
          go_roundg (gk - 1)
          case measure => have := hgk.out; omega
          case rel => exact ⟨k + 1, by omega, by have := hgk.out; omega, by go_num, hB2, HR2.out, HSK.out⟩
        | true =>
          obtain ⟨la0, la1⟩ := (Xp.lgl_iff _ _).1 la
          obtain ⟨ja, rfl⟩ : ∃ j : Nat, ea = j := ⟨ea.toNat, by omega⟩
          have hja : ja < k := by omega
          have hja' : (ja : Int) < (r : Int) + 1 := by omega
          have hja'' : (0 : Int) ≤ (ja : Int) := by omega
          obtain ⟨⟨ta0, ta1, ta2⟩, hwfa⟩ : VlAt w2 (w.heap.size + 1) (ja * 3) (Xp.ev L row ja) ∧ True := ⟨by
            have := HO2.out.at_ (i := ja) (vals_get (by omega))
            rwa [if_pos hja] at this, trivial⟩
          obtain ⟨xak, xan, xas, hxa⟩ : ∃ a b c, Xp.ev L row ja = ⟨a, b, c⟩ := ⟨_, _, _, rfl⟩
          rw [hxa] at ta0 ta1 ta2
          simp only at ta0 ta1 ta2
          have HXa := Lib.hid hxa
          have HWa := Lib.hid (ev_wf L row ja (fun i e h => (HL.out i e h).2) (row_wf HR.out))
          rw [hxa] at HWa
          have LGa := Lib.hid la
          clear hxa la hwfa
          go_wp2_with fail
          refine wp_loop_rounds 2 ?_
          rw [rounds_succ]
          go_wp2_with fail
          refine (lg_call k _ _ _ LGa.out).mono ?_
          rintro e3 w' ⟨rfl, rfl⟩
          go_wp2_with (at_builtin; refine wpList_append_own _ rfl _ _ 32 rfl w2.heap.size 34 i0 _ 3 32 Try.underlying32 hi0 hz0 hz1 hz2 rfl (by decide) _ _ _ rfl (World.ownsRow_nil _ _ _ _) ⟨w2.heap.size, 0, none⟩ 1 1 [.int .i64 xak, .int .i64 xan, .string xas] rfl rfl ?p1 ?p2 ?p3 ?p4 ?p5 ?_)
          case p1 => exact new_cells _ _ _
          case p2 => intro u hu; simp at hu; rcases hu with rfl | rfl | rfl <;> rfl
          case p3 => unfold maxLen; omega
          case p4 => omega
          case p5 => simp
          intro v3 w3 hown3 hg3 _
          have hB3 : Below w2.heap.size w2 w3 := ((Below.refl w2.heap.size w2).alloc (Nat.le_refl _) _).grown hg3 (by simp) (by simp [Value.ownBlock])
          have hown3 : w3.ownsRow w2.heap.size 34 3 v3 1 [.int .i64 xak, .int .i64 xan, .string xas] := hown3
          obtain ⟨g3, cap3, rfl, hg3l, hg3h⟩ := own_form hown3 (by omega)
          have HOW3 := Lib.hid hown3
          have HO3 := Lib.hid (HO2.out.below hB3)
          have HR3 := Lib.hid (HR2.out.below hB3)
          have hBw3 : Below w.heap.size w w3 := below_chain hB2 hB3
          have hz3 := hB3.size
          obtain ⟨q0, q1, q2, q3, q4, q5, q6, g30, g31⟩ := HZ.out _ hB3
          clear hg3 hown3 z0 z1 z2 z3 z4 z5 z6 hgc0 hgc1 ta0 ta1 ta2
          go_wp2_with fail
          rw [rounds_succ]
          go_wp2_with fail
          obtain ⟨rk, rn, rs, hres⟩ : ∃ rk rn rs, Xp.ev L row k = ⟨rk, rn, rs⟩ := ⟨_, _, _, rfl⟩
          have HRES := Lib.hid hres
          have hap := Lib.hid ((HF.out.2.1 HN2.out LGa.out).symm.trans hres)
          clear hres
          refine (apply_call ⟨op, ja, eb, col, ck, cn, cs⟩ _ rv row (⟨xak, xan, xas⟩) (Xp.zero) rk rn rs _ w.heap.size (rd_below HR.out hBw3) (args_one HN2.out HOW3.out HWa.out) (by have := hap.out; rwa [show (⟨op, (ja : Int), eb, col, ⟨ck, cn, cs⟩⟩ : Ex).a.toNat = ja from Int.toNat_natCast ja, HXa.out] at this)).mono ?_
          rintro e2 w9 ⟨rfl, hb9⟩
          have hB3 : Below w.heap.size w w9 := below_chain hBw3 hb9
          have hO3 := HO3.out.below hb9
          have hR3 := HR3.out.below hb9
          obtain ⟨s0, s1, s2⟩ := hO3.at_ (i := k) (vals_get hkr)
          have f0 := hO3.free (k * 3)
          have f1 := hO3.free (k * 3 + 1)
          have f2 := hO3.free (k * 3 + 2)
          have hl3 := hO3.lt.1
          have hput := hO3.step hkr HRES.out
          have HPUT := Lib.hid hput
          have hret := (((hR3.far (p := ⟨w.heap.size + 1, k * 3, none⟩) (by simp) (.int .i64 rk)).far (p := ⟨w.heap.size + 1, k * 3 + 1, none⟩) (by simp) (.int .i64 rn)).far (p := ⟨w.heap.size + 1, k * 3 + 2, none⟩) (by simp) (.string rs))
          have HRET := Lib.hid hret
          clear hput hret hO3 hR3 hb9
          go_wp2_with fail
          go_roundg (gk - 1)
          case measure => have := hgk.out; omega
          case rel => exact ⟨k + 1, by omega, by have := hgk.out; omega, by go_num, ((hB3.setCell (by simp) _).setCell (by simp) _).setCell (by simp) _, HRET.out, HPUT.out⟩
      · cases la : Xp.lgl k ea with
        | false =>
          have LG := Lib.hid la
          clear la
          go_wp2_with fail
          refine wp_loop_rounds 3 ?_
          rw [rounds_succ]
          go_wp2_with fail
          refine (lg_call k _ _ _ LG.out).mono ?_
          rintro e3 w' ⟨rfl, rfl⟩
          have hskip := HO2.out
          rw [← vals_skip (f := Xp.ev L row) (HF.out.2.2.2.2.1 HN2.out LG.out)] at hskip
          have HSK := Lib.hid hskip
          clear hskip
          go_wp2_with fail
          go_roundg (gk - 1)
          case measure => have := hgk.out; omega
          case rel => exact ⟨k + 1, by omega, by have := hgk.out; omega, by go_num, hB2, HR2.out, HSK.out⟩
        | true =>
          have hv2 := HO2.out.lt.1
          obtain ⟨la0, la1⟩ := (Xp.lgl_iff _ _).1 la
          obtain ⟨ja, rfl⟩ : ∃ j : Nat, ea = j := ⟨ea.toNat, by omega⟩
          have hja : ja < k := by omega
          have hja' : (ja : Int) < (r : Int) + 1 := by omega
          have hja'' : (0 : Int) ≤ (ja : Int) := by omega
          obtain ⟨⟨ta0, ta1, ta2⟩, hwfa⟩ : VlAt w2 (w.heap.size + 1) (ja * 3) (Xp.ev L row ja) ∧ True := ⟨by
            have := HO2.out.at_ (i := ja) (vals_get (by omega))
            rwa [if_pos hja] at this, trivial⟩
          obtain ⟨xak, xan, xas, hxa⟩ : ∃ a b c, Xp.ev L row ja = ⟨a, b, c⟩ := ⟨_, _, _, rfl⟩
          rw [hxa] at ta0 ta1 ta2
          simp only at ta0 ta1 ta2
          have HXa := Lib.hid hxa
          have HWa := Lib.hid (ev_wf L row ja (fun i e h => (HL.out i e h).2) (row_wf HR.out))
          rw [hxa] at HWa
          have LGa := Lib.hid la
          clear hxa la hwfa
          cases lb : Xp.lgl k eb with
          | false =>
            have LG := Lib.hid lb
            clear lb
            go_wp2_with fail
            refine wp_loop_rounds 3 ?_
            rw [rounds_succ]
            go_wp2_with fail
            refine (lg_call k _ _ _ LGa.out).mono ?_
            rintro e3 w' ⟨rfl, rfl⟩
            go_wp2_with (at_builtin; refine wpList_append_own _ rfl _ _ 32 rfl w2.heap.size 34 i0 _ 3 32 Try.underlying32 hi0 hz0 hz1 hz2 rfl (by decide) _ _ _ rfl (World.ownsRow_nil _ _ _ _) ⟨w2.heap.size, 0, none⟩ 1 1 [.int .i64 xak, .int .i64 xan, .string xas] rfl rfl ?r1 ?r2 ?r3 ?r4 ?r5 ?_)
            case r1 => exact new_cells _ _ _
            case r2 => intro u hu; simp at hu; rcases hu with rfl | rfl | rfl <;> rfl
            case r3 => unfold maxLen; omega
            case r4 => omega
            case r5 => simp
            intro v3 w3 hown3 hg3 _
            have hB3 : Below w2.heap.size w2 w3 := ((Below.refl w2.heap.size w2).alloc (Nat.le_refl _) _).grown hg3 (by simp) (by simp [Value.ownBlock])
            have hown3 : w3.ownsRow w2.heap.size 34 3 v3 1 [.int .i64 xak, .int .i64 xan, .string xas] := hown3
            obtain ⟨g3, cap3, rfl, hg3l, hg3h⟩ := own_form hown3 (by omega)
            have HOW3 := Lib.hid hown3
            have HO3 := Lib.hid (HO2.out.below hB3)
            have HR3 := Lib.hid (HR2.out.below hB3)
            have hBw3 : Below w.heap.size w w3 := below_chain hB2 hB3
            have hz3 := hB3.size
            obtain ⟨q0, q1, q2, q3, q4, q5, q6, g30, g31⟩ := HZ.out _ hB3
            clear hg3 hown3 z0 z1 z2 z3 z4 z5 z6 hgc0 hgc1 ta0 ta1 ta2
            go_wp2_with fail
            rw [rounds_succ]
            go_wp2_with fail
            refine (lg_call k _ _ _ LG.out).mono ?_
            rintro e3 w' ⟨rfl, rfl⟩
            have hskip := HO3.out
            rw [← vals_skip (f := Xp.ev L row) (HF.out.2.2.2.2.2 HN2.out LG.out)] at hskip
            have HSK := Lib.hid hskip
            clear hskip
            go_wp2_with fail
            go_roundg (gk - 1)
            case measure => have := hgk.out; omega
            case rel => exact ⟨k + 1, by omega, by have := hgk.out; omega, by go_num, hBw3, HR3.out, HSK.out⟩
          | true =>
            obtain ⟨lb0, lb1⟩ := (Xp.lgl_iff _ _).1 lb
            obtain ⟨jb, rfl⟩ : ∃ j : Nat, eb = j := ⟨eb.toNat, by omega⟩
            have hjb : jb < k := by omega
            have hjb' : (jb : Int) < (r : Int) + 1 := by omega
            have hjb'' : (0 : Int) ≤ (jb : Int) := by omega
            obtain ⟨⟨tb0, tb1, tb2⟩, hwfb⟩ : VlAt w2 (w.heap.size + 1) (jb * 3) (Xp.ev L row jb) ∧ True := ⟨by
              have := HO2.out.at_ (i := jb) (vals_get (by omega))
              rwa [if_pos hjb] at this, trivial⟩
            obtain ⟨xbk, xbn, xbs, hxb⟩ : ∃ a b c, Xp.ev L row jb = ⟨a, b, c⟩ := ⟨_, _, _, rfl⟩
            rw [hxb] at tb0 tb1 tb2
            simp only at tb0 tb1 tb2
            have HXb := Lib.hid hxb
            have HWb := Lib.hid (ev_wf L row jb (fun i e h => (HL.out i e h).2) (row_wf HR.out))
            rw [hxb] at HWb
            have LGb := Lib.hid lb
            clear hxb lb hwfb
            have TB := Lib.hid (And.intro tb0 (And.intro tb1 tb2))
            clear tb0 tb1 tb2
            go_wp2_with fail
            refine wp_loop_rounds 3 ?_
            rw [rounds_succ]
            go_wp2_with fail
            refine (lg_call k _ _ _ LGa.out).mono ?_
            rintro e3 w' ⟨rfl, rfl⟩
            go_wp2_with (at_builtin; refine wpList_append_own _ rfl _ _ 32 rfl w2.heap.size 34 i0 _ 3 32 Try.underlying32 hi0 hz0 hz1 hz2 rfl (by decide) _ _ _ rfl (World.ownsRow_nil _ _ _ _) ⟨w2.heap.size, 0, none⟩ 1 1 [.int .i64 xak, .int .i64 xan, .string xas] rfl rfl ?s1 ?s2 ?s3 ?s4 ?s5 ?_)
            case s1 => exact new_cells _ _ _
            case s2 => intro u hu; simp at hu; rcases hu with rfl | rfl | rfl <;> rfl
            case s3 => unfold maxLen; omega
            case s4 => omega
            case s5 => simp
            intro v3 w3 hown3 hg3 _
            have hB3 : Below w2.heap.size w2 w3 := ((Below.refl w2.heap.size w2).alloc (Nat.le_refl _) _).grown hg3 (by simp) (by simp [Value.ownBlock])
            have hown3 : w3.ownsRow w2.heap.size 34 3 v3 1 [.int .i64 xak, .int .i64 xan, .string xas] := hown3
            obtain ⟨g3, cap3, rfl, hg3l, hg3h⟩ := own_form hown3 (by omega)
            have HOW3 := Lib.hid hown3
            have HO3 := Lib.hid (HO2.out.below hB3)
            have HR3 := Lib.hid (HR2.out.below hB3)
            have hBw3 : Below w.heap.size w w3 := below_chain hB2 hB3
            have hz3 := hB3.size
            obtain ⟨q0, q1, q2, q3, q4, q5, q6, g30, g31⟩ := HZ.out _ hB3
            clear hg3 hown3 z0 z1 z2 z3 z4 z5 z6 hgc0 hgc1 ta0 ta1 ta2
            go_wp2_with fail
            rw [rounds_succ]
            go_wp2_with fail
            refine (lg_call k _ _ _ LGb.out).mono ?_
            rintro e3 w' ⟨rfl, rfl⟩
            obtain ⟨ub0, ub1, ub2⟩ : w3.cell? ⟨w.heap.size + 1, jb * 3, none⟩ = some (.int .i64 xbk) ∧ w3.cell? ⟨w.heap.size + 1, jb * 3 + 1, none⟩ = some (.int .i64 xbn) ∧ w3.cell? ⟨w.heap.size + 1, jb * 3 + 2, none⟩ = some (.string xbs) :=
              ⟨(hB3.cell (p := ⟨w.heap.size + 1, jb * 3, none⟩) hv2).trans TB.out.1, (hB3.cell (p := ⟨w.heap.size + 1, jb * 3 + 1, none⟩) hv2).trans TB.out.2.1, (hB3.cell (p := ⟨w.heap.size + 1, jb * 3 + 2, none⟩) hv2).trans TB.out.2.2⟩
            go_wp2_with (at_builtin; refine wpList_append_own _ rfl _ _ 32 rfl w2.heap.size 34 i0 _ 3 32 Try.underlying32 hi0 hz0 hz1 hz2 rfl (by decide) _ _ _ rfl (HOW3.out.alloc _) ⟨w3.heap.size, 0, none⟩ 1 1 [.int .i64 xbk, .int .i64 xbn, .string xbs] rfl rfl ?u1 ?u2 ?u3 ?u4 ?u5 ?_)
            case u1 => exact new_cells _ _ _
            case u2 => intro u hu; simp at hu; rcases hu with rfl | rfl | rfl <;> rfl
            case u3 => unfold maxLen; omega
            case u4 => omega
            case u5 => simp; omega
            intro v4 w4 hown4 hg4 _
            have hB4 : Below w2.heap.size w2 w4 := (hB3.alloc hB3.size _).grown hg4 (by simp; omega) (by simp [Value.ownBlock]; omega)
            have hown4 : w4.ownsRow w2.heap.size 34 3 v4 2 [.int .i64 xak, .int .i64 xan, .string xas, .int .i64 xbk, .int .i64 xbn, .string xbs] := hown4
            obtain ⟨g4, cap4, rfl, hg4l, hg4h⟩ := own_form hown4 (by omega)
            have HOW4 := Lib.hid hown4
            have HO4 := Lib.hid (HO2.out.below hB4)
            have HR4 := Lib.hid (HR2.out.below hB4)
            have hBw4 : Below w.heap.size w w4 := below_chain hB2 hB4
            have hz4 := hB4.size
            clear q0 q1 q2 q3 q4 q5 q6 g30 g31
            obtain ⟨q0, q1, q2, q3, q4, q5, q6, g40, g41⟩ := HZ.out _ hB4
            clear hg4 hown4 ub0 ub1 ub2
            go_wp2_with fail
            rw [rounds_succ]
            go_wp2_with fail
            obtain ⟨rk, rn, rs, hres⟩ : ∃ rk rn rs, Xp.ev L row k = ⟨rk, rn, rs⟩ := ⟨_, _, _, rfl⟩
            have HRES := Lib.hid hres
            have hap := Lib.hid ((HF.out.2.2.2.1 HN2.out LGa.out LGb.out).symm.trans hres)
            clear hres
            refine (apply_call ⟨op, ja, jb, col, ck, cn, cs⟩ _ rv row (⟨xak, xan, xas⟩) (⟨xbk, xbn, xbs⟩) rk rn rs _ w.heap.size (rd_below HR.out hBw4) (args_two HN2.out HOW4.out HWa.out HWb.out) (by have := hap.out; rwa [show (⟨op, (ja : Int), jb, col, ⟨ck, cn, cs⟩⟩ : Ex).a.toNat = ja from Int.toNat_natCast ja, show (⟨op, (ja : Int), jb, col, ⟨ck, cn, cs⟩⟩ : Ex).b.toNat = jb from Int.toNat_natCast jb, HXa.out, HXb.out] at this)).mono ?_
            rintro e2 w9 ⟨rfl, hb9⟩
            have hB3 : Below w.heap.size w w9 := below_chain hBw4 hb9
            have hO3 := HO4.out.below hb9
            have hR3 := HR4.out.below hb9
            obtain ⟨s0, s1, s2⟩ := hO3.at_ (i := k) (vals_get hkr)
            have f0 := hO3.free (k * 3)
            have f1 := hO3.free (k * 3 + 1)
            have f2 := hO3.free (k * 3 + 2)
            have hl3 := hO3.lt.1
            have hput := hO3.step hkr HRES.out
            have HPUT := Lib.hid hput
            have hret := (((hR3.far (p := ⟨w.heap.size + 1, k * 3, none⟩) (by simp) (.int .i64 rk)).far (p := ⟨w.heap.size + 1, k * 3 + 1, none⟩) (by simp) (.int .i64 rn)).far (p := ⟨w.heap.size + 1, k * 3 + 2, none⟩) (by simp) (.string rs))
            have HRET := Lib.hid hret
            clear hput hret hO3 hR3 hb9
            go_wp2_with fail
            go_roundg (gk - 1)
            case measure => have := hgk.out; omega
            case rel => exact ⟨k + 1, by omega, by have := hgk.out; omega, by go_num, ((hB3.setCell (by simp) _).setCell (by simp) _).setCell (by simp) _, HRET.out, HPUT.out⟩
    · obtain rfl : k = r + 1 := by omega
      obtain ⟨rk, rn, rs, hres⟩ : ∃ rk rn rs, Xp.ev L row r = ⟨rk, rn, rs⟩ := ⟨_, _, _, rfl⟩
      have HW := Lib.hid (HV.out.symm.trans (congrArg Vl.go hres))
      have hget := HO.out.at_ (i := r) (vals_get (by omega))
      rw [if_pos (by omega), hres] at hget
      obtain ⟨t0, t1, t2⟩ := hget
      simp only at t0 t1 t2
      obtain ⟨_, rc0, rc1, rc2, rf0, rf1, rf2⟩ := HRet.out
      clear hres
      go_wp2_with fail
      rw [Exit.noGoto_ret]
      have sc := two_ops rc0 rc1 rc2 (.int .i64 rk) (.int .i64 rn) (.string rs)
      obtain ⟨sc0, sc1, sc2⟩ := sc
      refine bodyPost_ret (v := .agg #[.int .i64 rk, .int .i64 rn, .string rs]) (by simp [sc0, sc1, sc2, results, Try.results15, go_sem]) rfl ⟨by rw [HW.out]; rfl, ?_⟩
      exact ((hB.setCell (Nat.le_refl _) _).setCell (Nat.le_refl _) _).setCell (Nat.le_refl _) _

end Go.Proofs.Ytpgaldkedeohaaa
