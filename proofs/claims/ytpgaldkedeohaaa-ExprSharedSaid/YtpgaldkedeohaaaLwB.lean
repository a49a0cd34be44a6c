/-
  awake; the walks of ExprCheck, ExprEval, ExprColumns.
-/
import Derived.Test.YtpgaldkedeohaaaLwA
namespace Go.Proofs.Ytpgaldkedeohaaa
open Go.RowKit
set_option linter.unusedVariables false

def six : List Ex := [⟨1, 0, 0, 0, ⟨1, 2, ⟨#[]⟩⟩⟩, ⟨1, 0, 0, 0, ⟨1, 3, ⟨#[]⟩⟩⟩, ⟨3, 0, 1, 0, Xp.zero⟩, ⟨1, 0, 0, 0, Xp.zero⟩, ⟨6, 3, 3, 0, Xp.zero⟩, ⟨2, 0, 0, 4, Xp.zero⟩]

theorem six_ck : chkX six 2 [] = (1, 0) ∧ chkX six 5 [] = (0, 10) := by
  have e0 : Xp.ck six [] 0 = (1, 0) := by rw [Xp.ck_eq]; rfl
  have e1 : Xp.ck six [] 1 = (1, 0) := by rw [Xp.ck_eq]; rfl
  constructor
  · show Xp.ck six [] 2 = _
    rw [Xp.ck_op (e := ⟨3, 0, 1, 0, Xp.zero⟩) rfl (by decide) (by decide) (by decide) (fun _ => by show (Xp.ck six [] 0).2 = 0; rw [e0]) (fun _ => by show (Xp.ck six [] 1).2 = 0; rw [e1])]
    show Xp.cmb _ _ (Xp.ck six [] 0).1 (Xp.ck six [] 1).1 = _
    rw [e0, e1]; rfl
  · show Xp.ck six [] 5 = _
    rw [Xp.ck_eq]; rfl

theorem six_ev : evX six 2 [] = ⟨1, 5, ⟨#[]⟩⟩ ∧ evX six 4 [] = ⟨3, 0, ⟨#[]⟩⟩ := by
  have e0 : Xp.ev six [] 0 = ⟨1, 2, ⟨#[]⟩⟩ := (Xp.ev_op (e := ⟨1, 0, 0, 0, ⟨1, 2, ⟨#[]⟩⟩⟩) rfl (by decide) (by decide)).trans rfl
  have e1 : Xp.ev six [] 1 = ⟨1, 3, ⟨#[]⟩⟩ := (Xp.ev_op (e := ⟨1, 0, 0, 0, ⟨1, 3, ⟨#[]⟩⟩⟩) rfl (by decide) (by decide)).trans rfl
  have e3 : Xp.ev six [] 3 = Xp.zero := (Xp.ev_op (e := ⟨1, 0, 0, 0, Xp.zero⟩) rfl (by decide) (by decide)).trans rfl
  constructor
  · show Xp.ev six [] 2 = _
    refine (Xp.ev_op (e := ⟨3, 0, 1, 0, Xp.zero⟩) rfl (by decide) (by decide)).trans ?_
    show Xp.arith 3 (Xp.ev six [] 0) (Xp.ev six [] 1) = _
    rw [e0, e1]; rfl
  · show Xp.ev six [] 4 = _
    refine (Xp.ev_op (e := ⟨6, 3, 3, 0, Xp.zero⟩) rfl (by decide) (by decide)).trans ?_
    show Xp.ap _ _ (Xp.ev six [] 3) (Xp.ev six [] 3) = _
    rw [e3]
    rfl

theorem six_col : colX six 5 = [4] := by
  show Xp.colS six 5 = _
  decide

def encE : Enc Ex := ⟨fun e => [.int .i64 e.op, .int .i64 e.a, .int .i64 e.b, .int .i64 e.col, .int .i64 e.c.k, .int .i64 e.c.n, .string e.c.s], 7, by decide, fun _ => rfl⟩

/-- Expressions that lie in a block of their own. -/
theorem exs_new {w : World} {L : List Ex} {g n c : Nat} {cs : Array Value} {t : TypeId} {fr : Nat × Nat} (hg : w.heap[g]? = some (.cells cs t fr)) (hn : n = L.length) (hnc : n ≤ c) (hc : ∀ j, j < L.length * 7 → cs[j]? = (encE.all L)[j]?) (hwf : ∀ x ∈ L, x.c.wf) : ExsV w (.slice (some ⟨g, 0, none⟩) n c) L := by
  refine ⟨_, _, _, rfl, hn, hnc, .inr ⟨g, 0, rfl, (Array.getElem?_eq_some_iff.1 hg).1, fun i x hx => ?_⟩⟩
  have hi : i < L.length := (List.getElem?_eq_some_iff.1 hx).1
  have cell : ∀ (j : Nat) (u : Value), j < 7 → (encE.cells x)[j]? = some u → w.cell? ⟨g, 0 + i * 7 + j, none⟩ = some u := by
    intro j u hj h
    have h1 := hc (i * 7 + j) (by omega)
    have h2 := encE.all_get hx (j := j) hj
    rw [show i * encE.size = i * 7 from rfl] at h2
    rw [Nat.zero_add]
    unfold World.cell?
    simp only [hg, h1, h2, h]
    rfl
  exact ⟨⟨cell 0 _ (by omega) rfl, cell 1 _ (by omega) rfl, cell 2 _ (by omega) rfl, cell 3 _ (by omega) rfl, cell 4 _ (by omega) rfl, cell 5 _ (by omega) rfl, cell 6 _ (by omega) rfl⟩, hwf x (List.mem_of_getElem? hx)⟩

theorem heap_new (w : World) (o : Obj) : (w.alloc o).heap[w.heap.size]? = some o := by
  show (w.heap.push o)[w.heap.size]? = _
  simp

set_option maxRecDepth 100000 in
set_option maxHeartbeats 4000000 in
theorem awake_any (w : World) : Calls Try.prog 12 #[] w (Holds w) := by
  have hB0 : Below w.heap.size w w := Below.refl _ _
  go_enter Try.func12, Try.ntmps12
  go_wp2_with fail
  refine (intValue 2 _).mono ?_
  rintro e1 w1 ⟨rfl, hb1⟩
  have hB1 := below_chain hB0 hb1
  clear hb1
  go_wp2_with fail
  refine (intValue 3 _).mono ?_
  rintro e1 w2 ⟨rfl, hb2⟩
  have hB2 := below_chain hB1 hb2
  clear hb2 hB1
  go_wp2_with fail
  have hV : ExsV (w2.alloc (.cells (encE.all six).toArray 44)) (.slice (some ⟨w2.heap.size, 0, none⟩) 6 6) six := exs_new (heap_new _ _) rfl (Nat.le_refl _) (fun j _ => by simp) (fun x hx => by
    simp only [six, List.mem_cons, List.not_mem_nil, or_false] at hx
    rcases hx with rfl | rfl | rfl | rfl | rfl | rfl <;> exact ⟨by decide, by decide⟩)
  have HV := Lib.hid hV
  have hB3 : Below w.heap.size w (w2.alloc (.cells (encE.all six).toArray 44)) := below_alloc hB2 _
  clear hV
  refine (check_any (w := w2.alloc (.cells (encE.all six).toArray 44)) HV.out (intsNil _ _) six_ck.1).mono ?_
  rintro e1 w4 ⟨rfl, hb4⟩
  have hB4 := below_chain hB3 hb4
  have HV4 := Lib.hid (HV.out.keep hb4)
  clear hb4 hB3 HV
  go_wp2_with fail
  refine (check_any HV4.out (intsNil _ _) six_ck.2).mono ?_
  rintro e1 w5 ⟨rfl, hb5⟩
  have hB5 := below_chain hB4 hb5
  have HV5 := Lib.hid (HV4.out.keep hb5)
  clear hb5 hB4 HV4
  go_wp2_with fail
  refine (columns_any (root := 5) HV5.out (by decide)).mono ?_
  rintro e1 w6 ⟨v6, rfl, hs6, hb6⟩
  rw [six_col] at hs6
  have hB6 := below_chain hB5 hb6
  have HV6 := Lib.hid (HV5.out.keep hb6)
  have HS6 := Lib.hid hs6
  obtain ⟨b6, o6, c6, rfl, _, hl6, hc6⟩ := hs6.some_ (by decide)
  clear hb6 hB5 HV5 hs6 hc6
  go_wp2_with fail
  refine (eval_any HV6.out (by decide) (rowNil _ _) six_ev.1).mono ?_
  rintro e1 w7 ⟨rfl, hb7⟩
  have hB7 := below_chain hB6 hb7
  have HV7 := Lib.hid (HV6.out.keep hb7)
  have HS7 := Lib.hid (HS6.out.keep hb7)
  clear hb7 hB6 HV6 HS6
  go_wp2_with fail
  refine (intValue 5 _).mono ?_
  rintro e1 w8 ⟨rfl, hb8⟩
  have hB8 := below_chain hB7 hb8
  have HV8 := Lib.hid (HV7.out.keep hb8)
  have HS8 := Lib.hid (HS7.out.keep hb8)
  clear hb8 hB7 HV7 HS7
  go_wp2_with fail
  refine (eval_any HV8.out (by decide) (rowNil _ _) six_ev.2).mono ?_
  rintro e1 w9 ⟨rfl, hb9⟩
  have hB9 := below_chain hB8 hb9
  obtain ⟨b', o', c', e', _, _, hc9⟩ := (HS8.out.keep hb9).some_ (by decide)
  obtain ⟨⟨rfl, rfl⟩, rfl⟩ : (b6 = b' ∧ o6 = o') ∧ c6 = c' := by simpa using e'
  have hcell : w9.cell? ⟨b6, o6, none⟩ = some (.int .i64 4) := hc9 0 _ rfl
  clear hb9 hB8 HV8 HS8 hc9 e'
  go_wp2
  go_ret
  exact ⟨rfl, hB9⟩

/-- awake, and the world chain of a walk. -/
theorem awake_call (w : World) : Calls Try.prog 12 #[] w fun e w' => e = .returned (.bool true) ∧ Below w.heap.size w w' := awake_any w

end Go.Proofs.Ytpgaldkedeohaaa
