/-
  The disk's Read.
-/
import Derived.Test.YtngddhoolijimaaGreatDoorDkSh
namespace Go.Proofs.YtngddhoolijimaaGreatDoor
open Go.RowKit
set_option linter.unusedVariables false

theorem zero_run (W : World) : Sem.run Tryz.prog (zeroValue 68) W = .ok (.agg (pc zeroPage).toArray) W := by kernel_rfl

theorem pc_arr (p : List UInt8) : (pc p).toArray.all (·.oneCell') = true := all_oneCell_toArray (pc_one p)

theorem alloc_put (W : World) (t : TypeId) (vs : List Value) : ∀ (o : Nat) (cs : List Value), o + vs.length ≤ cs.length → (W.alloc (.cells cs.toArray t)).setCells W.heap.size o vs = W.alloc (.cells (cs.take o ++ vs ++ cs.drop (o + vs.length)).toArray t) := by
  induction vs with
  | nil => intro o cs h; simp [World.setCells]
  | cons v r ih =>
    intro o cs h
    simp only [List.length_cons] at h
    have e : (W.alloc (.cells cs.toArray t)).setCell ⟨W.heap.size, o, none⟩ v = W.alloc (.cells (cs.set o v).toArray t) := by
      rw [World.setCell_alloc_at _ _ _ _ _ rfl]; simp
    rw [World.setCells, e, ih (o + 1) (cs.set o v) (by rw [List.length_set]; omega)]
    congr 4
    · rw [List.take_succ_eq_append_getElem (by rw [List.length_set]; omega)]
      simp only [List.take_set, List.getElem_set_self, List.append_assoc, List.singleton_append]
      rw [List.set_eq_of_length_le (by rw [List.length_take]; omega)]
    · rw [List.length_cons, show o + 1 + r.length = o + (r.length + 1) by omega, List.drop_set_of_lt (by omega)]

theorem new_page {W : World} {t : TypeId} {cs : List Value} : (W.alloc (.cells cs.toArray t)).rangeAt W.heap.size 0 cs := by
  intro j u hu
  rw [World.cell?_alloc_at _ _ _ _ rfl]
  simpa using hu

theorem new_there {W : World} {t : TypeId} {cs : List Value} : (W.alloc (.cells cs.toArray t)).there W.heap.size 0 cs.length := by
  intro j hj
  refine ⟨?_, by go_simp⟩
  rw [World.cell?_alloc_at _ _ _ _ rfl]
  simp [hj]

/-- Cells are stored in a new box. -/
theorem store_run (W : World) (t : TypeId) (o : Nat) (cs vs : List Value) (h : o + vs.length ≤ cs.length) (h1 : ∀ v ∈ vs, v.oneCell' = true) :
    Sem.run Tryz.prog (storeCells ⟨W.heap.size, o, none⟩ vs) (W.alloc (.cells cs.toArray t)) = .ok () (W.alloc (.cells (cs.take o ++ vs ++ cs.drop (o + vs.length)).toArray t)) := by
  have hth : (W.alloc (.cells cs.toArray t)).there W.heap.size 0 cs.length := new_there
  rw [run_storeCells_cells _ _ _ 0 _ (fun j hj => by have := (hth (o + j) (by omega)).1; rwa [Nat.zero_add] at this) (fun j hj => by have := (hth (o + j) (by omega)).2; rwa [Nat.zero_add] at this) h1, Nat.add_zero, alloc_put W t vs o cs h]

theorem store_page (W : World) (t : TypeId) (cs vs : List Value) (hc : cs.length = 128) (hv : vs.length = 128) (h1 : ∀ v ∈ vs, v.oneCell' = true) :
    Sem.run Tryz.prog (storeCells ⟨W.heap.size, 0, none⟩ vs) (W.alloc (.cells cs.toArray t)) = .ok () (W.alloc (.cells vs.toArray t)) := by
  rw [store_run W t 0 cs vs (by omega) h1, List.take_zero, List.nil_append, Nat.zero_add, hv, ← hc, List.drop_length, List.append_nil]

/-- A whole page is read. -/
theorem load_run {W : World} {b o : Nat} {vs : List Value} (h : W.rangeAt b o vs) (hv : vs.length = 128) : Sem.run Tryz.prog (loadVar 68 ⟨b, o, none⟩) W = .ok (.agg vs.toArray) W :=
  run_loadVar_mid W b o _ vs _ h Tryz.underlying68 rfl (by rw [hv]; kernel_rfl)

section
variable {w : World} {B : DB} {d : DK}

/-- What Read hands back. -/
def ReadOf (w w' : World) (v : Value) (d : DK) (i : Int) : Prop := w'.ownsRow w.heap.size 5 1 v (d.read i).length (pc (d.read i)) ∧ Below w.heap.size w w'

set_option maxRecDepth 100000 in
theorem dk_read_err (h : IsDisk w B d) (i : Int) (hc : d.chk i ≠ 0) : Calls Tryz.prog 40 #[B.ptr, .int .i64 i] w fun e w' => ∃ v, e = .returned (.tuple #[v, .int .i64 (d.chk i)]) ∧ ReadOf w w' v d i := by
  have hr : d.read i = [] := by unfold DK.read; rw [if_neg hc]
  have H := Lib.hid (show ReadOf w w (.slice none 0 0) d i from ⟨by rw [hr]; exact ⟨rfl, .inl ⟨rfl, rfl⟩⟩, Below.refl _ _⟩)
  have hk := Lib.hid (dk_check h i)
  have g : (d.chk i != 0) = true := by simpa using hc
  clear hr h hc
  unfold DB.ptr at *
  generalize d.chk i = c at *
  go_enter Tryz.func40, Tryz.ntmps40
  go_wp2_with fail
  refine hk.out.mono ?_
  rintro e w' ⟨rfl, rfl⟩
  go_wp2
  go_ret2
  exact ⟨_, rfl, H.out⟩

set_option maxRecDepth 100000 in
set_option maxHeartbeats 1000000 in
theorem dk_read_ok (h : IsDisk w B d) (i : Nat) (hc : d.chk i = 0) (hwf : (Lit.int .i64 (i : Int)).wf = true) : Calls Tryz.prog 40 #[B.ptr, .int .i64 i] w fun e w' => ∃ v, e = .returned (.tuple #[v, .int .i64 (d.chk i)]) ∧ ReadOf w w' v d i := by
  obtain ⟨hdn, h0, hlt⟩ := DK.chk_zero hc
  rw [Int.toNat_natCast] at hlt
  have hr : d.read i = d.get i := by unfold DK.read; rw [if_pos hc, Int.toNat_natCast]
  have hgl := DK.get_len h.ok hlt
  obtain ⟨c, c0, hcn⟩ := h.hs
  have c1 := h.hm
  have hk := Lib.hid (dk_check h i)
  have hdl := h.lt.1
  have hsl := h.lt.2.1
  obtain ⟨D, n, hown, hof⟩ := h.mp
  have hl := look_run (t := 40) Tryz.underlying3 Tryz.underlying40 (z := zeroPage) (zero_run w) hown hof hwf true
  rw [if_pos rfl] at hl
  have hal := zero_run
  have hzl : (pc zeroPage).length = 128 := rfl
  rw [hc] at hk ⊢
  cases hb : d.buf i with
  | some p =>
    have hp : d.get i = p := by unfold DK.get; rw [hb]; rfl
    have hpl : p.length = 128 := by rw [← hp]; exact hgl
    rw [hb] at hl
    simp only [Option.getD_some, Option.isSome_some] at hl
    have hst := fun W => store_page W 68 (pc zeroPage) (pc p) hzl (by rw [pc_len, hpl]) (pc_one p)
    have hcl := Lib.hid (clone_bytes w.heap.size 0 128 128 p (w.alloc (.cells (pc p).toArray 68)) hpl (by omega) new_page)
    have HR := Lib.hid (show d.read i = p from hr.trans hp)
    have HPL := Lib.hid hpl
    clear h hown hof hgl hr hp hpl hb hzl hc
    unfold pv at hl
    unfold DB.ptr at *
    have hxl : (pc p).length = 128 := by rw [pc_len, HPL.out]
    generalize pc zeroPage = Z at hal hst
    generalize hX : pc p = X at hl hst hcl hxl
    generalize B.db = db at *
    generalize B.sb = sb at *
    generalize B.mb = mb at *
    generalize d.st.length = n at *
    go_enter Tryz.func40, Tryz.ntmps40
    go_wp2_with fail
    refine hk.out.mono ?_
    rintro e w' ⟨rfl, rfl⟩
    go_wp2_with fail
    refine hcl.out.mono ?_
    rintro e w2 ⟨v, rfl, hv, _, hb2⟩
    go_wp2
    go_ret2
    subst hX
    exact ⟨_, rfl, by rw [ReadOf, HR.out, HPL.out]; exact ⟨ownsRow_base_a hv (by simp), ((Below.refl _ _).alloc (Nat.le_refl _) _).trans (hb2.mono (by simp))⟩⟩
  | none =>
    have hg := List.getElem?_eq_getElem hlt
    obtain ⟨q, hq⟩ : ∃ q, d.st[i]? = some q := ⟨_, hg⟩
    have hp : d.get i = q := by unfold DK.get; rw [hb, List.getD_eq_getElem?_getD, hq]; rfl
    have hpl : q.length = 128 := by rw [← hp]; exact hgl
    rw [hb] at hl
    simp only [Option.getD_none, Option.isSome_none] at hl
    have hst := fun W => store_page W 68 (pc zeroPage) (pc zeroPage) hzl hzl (pc_one zeroPage)
    have hst2 := fun W => store_page W 68 (pc zeroPage) (pc q) hzl (by rw [pc_len, hpl]) (pc_one q)
    have hld := Lib.hid (World.rangeAt_alloc (h.pg.2.1 i q hq) (.cells (pc zeroPage).toArray 68))
    have hcl := Lib.hid (clone_bytes w.heap.size 0 128 128 q (w.alloc (.cells (pc q).toArray 68)) hpl (by omega) new_page)
    have HR := Lib.hid (show d.read i = q from hr.trans hp)
    have HPL := Lib.hid hpl
    have hi0 : (0 : Int) ≤ (i : Int) := by omega
    have hi1 : (i : Int) < (d.st.length : Int) := by omega
    clear h hown hof hgl hr hp hpl hb hc hg hq
    unfold pv at hl
    unfold DB.ptr at *
    have hxl : (pc q).length = 128 := by rw [pc_len, HPL.out]
    generalize pc zeroPage = Z at hal hst hst2 hl hld hzl
    generalize hX : pc q = X at hst2 hcl hld hxl
    generalize B.db = db at *
    generalize B.sb = sb at *
    generalize B.mb = mb at *
    generalize d.st.length = n at *
    go_enter Tryz.func40, Tryz.ntmps40
    go_wp2_with fail
    refine hk.out.mono ?_
    rintro e w' ⟨rfl, rfl⟩
    go_wp2_with fail
    refine wp_load_mid 68 _ rfl sb (i * 128) rfl X _ hld.out Tryz.underlying68 rfl (by rw [hxl]; kernel_rfl) ?_
    go_wp2_with fail
    refine hcl.out.mono ?_
    rintro e w2 ⟨v, rfl, hv, _, hb2⟩
    go_wp2
    go_ret2
    subst hX
    exact ⟨_, rfl, by rw [ReadOf, HR.out, HPL.out]; exact ⟨ownsRow_base_a hv (by simp), ((Below.refl _ _).alloc (Nat.le_refl _) _).trans (hb2.mono (by simp))⟩⟩
theorem dk_read (h : IsDisk w B d) (i : Int) (hw : (Lit.int .i64 i).wf = true) : Calls Tryz.prog 40 #[B.ptr, .int .i64 i] w fun e w' => ∃ v, e = .returned (.tuple #[v, .int .i64 (d.chk i)]) ∧ ReadOf w w' v d i := by
  by_cases hc : d.chk i = 0
  · obtain ⟨_, h0, _⟩ := DK.chk_zero hc
    obtain ⟨k, rfl⟩ : ∃ k : Nat, i = (k : Int) := ⟨i.toNat, by omega⟩
    exact dk_read_ok h k hc hw
  · exact dk_read_err h i hc
end

end Go.Proofs.YtngddhoolijimaaGreatDoor
