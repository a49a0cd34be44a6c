/-
  The disk's Write.
-/
import Derived.Test.YtngddhoolijimaaGreatDoorDkC
namespace Go.Proofs.YtngddhoolijimaaGreatDoor
open Go.RowKit
set_option linter.unusedVariables false

theorem still_load_mid {P : Program} {op : Oper} {a : Act} {w : World} {next : Act → Prop} (ty : TypeId) (x : Operand) (ho : op.op = .load ty x)
    (b o : Nat) (hx : a.eval x = .pointer (some ⟨b, o, none⟩)) (cs : List Value) (d : TypeDesc) (hc : w.rangeAt b o cs)
    (hu : P.underlying ty = some d) (hd : d.isRow = true) (hi : (P.info? ty).map (·.size) = some cs.length)
    (h : next (a.put op.dst (.agg cs.toArray))) : op.still P a w next := by
  unfold Oper.still execOp
  simp only [ho, hx, Instr.loadAt, Instr.sureAddr, Sem.run_bind, Sem.run_pure, Result.andThen_ok, run_loadVar_mid w b o ty cs d hc hu hd hi]
  exact ⟨rfl, h⟩

/-- A region that draws its order and only reads up to its tail, with a name for the world in it. -/
theorem region_still {P : Program} {id : Nat} {Q : Exit → Act → World → Prop} {a : Act} {w : World} {l : List Oper} (n : Nat) (hm : P.follows .mixedOrders = true) (hB : Region.lexTailB .any l.toArray n = true)
    (h : ∀ W', W' = w.drew → Veil (wpStill P l.toArray W' (fun a' => wpList P l.toArray Q (l.drop n) a' W') (l.take n) a)) : (Code.region id l.toArray true).wp P Q a w :=
  wp_region_still_tail n hm hB (h _ rfl).out

theorem wpList_upd {P : Program} {w w' : World} {ops : Array Oper} {rest : List Oper} {o : Oper} {a : Act} {Q : Exit → Act → World → Prop} (hg : o.guard = none) (m x v : Operand) (t : TypeId) (hop : o.op = Op.mapUpdate t m x v)
    (hrun : (Instr.mapUpdate t (a.eval m) (a.eval x) (a.eval v)).run P w = .ok () w') (h : wpList P ops Q rest (a.put o.dst undef) w') : wpList P ops Q (o :: rest) a w := by
  refine wpList_plain hg fun K hK => ?_
  unfold Oper.wp
  simp [execOp, hop, hrun, Result.andThen]
  exact hK _ _ h

theorem buffer_small {w : World} {mb N : Nat} {buf : Nat → Option Page} (h : Buffer w mb buf) (hN : ∀ i p, buf i = some p → i < N) : ∃ D n, w.ownsMap Tryz.prog kInt pageR mb n D ∧ MapOf D buf ∧ n ≤ N := by
  obtain ⟨D, n, hown, hof⟩ := h
  have hperm := nums_keys (N := N) (Maps.int_keyed Tryz.underlying3) Tryz.underlying3 hown hof hN
  have hkl : (intKeys D).length = Maps.size D := by
    obtain ⟨es, hD⟩ := hown.isMap
    subst hD
    simp [intKeys, Maps.size]
  refine ⟨D, _, ownsMap_tight hown, hof, ?_⟩
  rw [← hkl, ← hperm.length_eq, List.length_map]
  exact Nat.le_trans (List.length_filter_le _ _) (by rw [List.length_range]; exact Nat.le_refl _)

/-- Data that a call is given. -/
def Data (w : World) (v : Value) (l : List UInt8) : Prop := Sl w 1 v l.length (pc l)

theorem Data.keep {w w' : World} {v : Value} {l : List UInt8} (h : Data w v l) (hb : Below w.heap.size w w') : Data w' v l := Sl.keep h hb

/-- Data is copied into a page of zeros. -/
theorem copy_new {w : World} {v : Value} {data : List UInt8} (h : Data w v data) (hd : data.length ≤ 128) (ty t : TypeId) :
    (Builtin.copy_ #[51, 51] ty #[.slice (some ⟨w.heap.size, 0, none⟩) 128 128, v]).run Tryz.prog (w.alloc (.cells (pc zeroPage).toArray t)) = .ok (goInt data.length) (w.alloc (.cells (pc (pad data)).toArray t)) := by
  have hzl : (pc zeroPage).length = 128 := rfl
  have hpad : (pc zeroPage).take 0 ++ pc data ++ (pc zeroPage).drop (0 + (pc data).length) = pc (pad data) := by
    unfold pad
    rw [List.take_zero, List.nil_append, Nat.zero_add, pc_append, pc_len]
    congr 1
    rw [← pc_drop]
    unfold zeroPage
    rw [List.drop_replicate]
  have hi : (Tryz.prog.info? 5).map (·.size) = some 1 := by kernel_rfl
  rcases h.2 with ⟨h0, a, c, rfl⟩ | ⟨b, off, c, rfl, hnc, hl, hc⟩
  · have : data = [] := List.eq_nil_of_length_eq_zero h0
    subst this
    have e : pc (pad []) = pc zeroPage := rfl
    rw [run_copy_none _ _ _ _ 5 _ _ _ _ _ _ Tryz.underlying51 hi (by simp), e]; rfl
  · have hth : (w.alloc (.cells (pc zeroPage).toArray t)).there w.heap.size 0 (pc zeroPage).length := new_there
    rw [run_copy_cells _ _ _ _ 5 _ _ _ _ _ _ _ (pc data) Tryz.underlying51 hi (by rw [pc_len]; show _ = min _ _; omega)
      (fun j u hu => by rw [Addr.add_mid, World.cell?_alloc_lt _ _ _ hl]; exact hc j u hu)
      (fun j hj => (hth j (by rw [pc_len] at hj; omega)).1) (fun j hj => (hth j (by rw [pc_len] at hj; omega)).2) (pc_one data), alloc_put w t (pc data) 0 (pc zeroPage) (by rw [pc_len]; omega), hpad, pc_len]

section
variable {w : World} {B : DB} {d : DK}

theorem IsDisk.drew (h : IsDisk w B d) : IsDisk w.drew B d := h.keep (F := fun _ => False) ⟨rfl, rfl, rfl, Nat.le_refl _, fun _ _ _ => rfl⟩ (fun _ _ h => h)

set_option maxRecDepth 100000 in
theorem dk_write_err (h : IsDisk w B d) (i : Int) (v : Value) (data : List UInt8) (hc : d.chk i ≠ 0) : Calls Tryz.prog 78 #[B.ptr, .int .i64 i, v] w fun e w' => e = .returned (.int .i64 (d.write i data).2) ∧ Turns B w w' (d.write i data).1 := by
  have hr : d.write i data = (d, d.chk i) := by unfold DK.write; rw [if_pos hc]
  have H := Lib.hid h
  have hk := Lib.hid (dk_check h i)
  have g : (d.chk i != 0) = true := by simpa using hc
  rw [hr]
  clear hr h hc
  unfold DB.ptr at *
  simp only
  generalize d.chk i = c at *
  generalize hdb : B.db = db at *
  clear hdb
  go_enter Tryz.func78, Tryz.ntmps78
  go_wp2_with fail
  refine hk.out.mono ?_
  rintro e w' ⟨rfl, rfl⟩
  go_wp2
  go_ret
  exact ⟨rfl, H.out, Chg.refl _ _⟩

set_option maxRecDepth 100000 in
theorem dk_write_long (h : IsDisk w B d) (i : Int) (v : Value) (data : List UInt8) (hd : Data w v data) (hc : d.chk i = 0) (hl : 128 < data.length) : Calls Tryz.prog 78 #[B.ptr, .int .i64 i, v] w fun e w' => e = .returned (.int .i64 (d.write i data).2) ∧ Turns B w w' (d.write i data).1 := by
  have hr : d.write i data = (d, 4) := by unfold DK.write; rw [if_neg (by simpa using hc), if_pos hl]
  have H := Lib.hid h
  have hk := Lib.hid (dk_check h i)
  obtain ⟨a, c, rfl⟩ := Sl.len hd
  have g : decide ((128 : Int) < (data.length : Int)) = true := by simp; omega
  rw [hr]
  rw [hc] at hk
  clear hr h hc hd
  unfold DB.ptr at *
  simp only
  generalize data.length = n at *
  generalize hdb : B.db = db at *
  clear hdb
  go_enter Tryz.func78, Tryz.ntmps78
  go_wp2_with fail
  refine hk.out.mono ?_
  rintro e w' ⟨rfl, rfl⟩
  go_wp2
  go_ret
  exact ⟨rfl, H.out, Chg.refl _ _⟩

set_option maxRecDepth 100000 in
set_option maxHeartbeats 2000000 in
theorem dk_write_ok (h : IsDisk w B d) (i : Nat) (v : Value) (data : List UInt8) (hd : Data w v data) (hc : d.chk i = 0) (hl : data.length ≤ 128) (hwf : (Lit.int .i64 (i : Int)).wf = true) : Calls Tryz.prog 78 #[B.ptr, .int .i64 i, v] w fun e w' => e = .returned (.int .i64 (d.write i data).2) ∧ Turns B w w' (d.write i data).1 := by
  have hr : d.write i data = (((d.put i data).burn).1, if ((d.put i data).burn).2 then 13 else 0) := by unfold DK.write; rw [if_neg (by simpa using hc), if_neg (by omega)]; rfl
  obtain ⟨hdn, h0, hlt⟩ := DK.chk_zero hc
  rw [Int.toNat_natCast] at hlt
  have hk := Lib.hid (dk_check h i)
  rw [hc] at hk
  have hzl : (pc zeroPage).length = 128 := rfl
  have hal := zero_run
  have hcp := fun ty => copy_new hd hl ty 68
  obtain ⟨D, n, hown, hof, hn⟩ := buffer_small h.mp (fun i p hp => (h.ok.inside i p hp).1)
  have hfew := h.ok.few
  have c1 := h.hm
  have hdl := h.lt.1
  obtain ⟨W1, hW1⟩ : ∃ W1, W1 = w.alloc (.cells (pc (pad data)).toArray 68) := ⟨_, rfl⟩
  obtain ⟨w2, hrun, ⟨D', hown', hof'⟩, hg⟩ := update_run (t := 40) (w := W1.drew) Tryz.underlying3 Tryz.underlying40 (by rw [hW1]; exact (hown.alloc _).drew) hof (by unfold maxLen; omega) hwf (pad data)
  have hW1b : Below w.heap.size w W1 := by rw [hW1]; exact (Below.refl _ _).alloc (Nat.le_refl _) _
  have h1 : IsDisk W1 B d := h.below hW1b
  have hC2 : Chg (fun b => b = B.mb) W1.drew w2 := Chg.grown hg (fun b e => by cases e; rfl)
  have h2 : IsDisk w2 B (d.put i data) := h1.drew.newMap hC2 ⟨D', _, hown', hof'⟩ (h.ok.put hlt hl)
  have hCh : Chg B.has w w2 := (Chg.of_below hW1b : Chg B.has w W1).trans ((⟨rfl, rfl, rfl, Nat.le_refl _, fun _ _ _ => rfl⟩ : Chg B.has W1 W1.drew).trans (hC2.more (fun b _ e => .inr (.inr e))))
  have HRNG := Lib.hid (show W1.drew.rangeAt w.heap.size 0 (pc (pad data)) from by rw [hW1]; exact (World.rangeAt_drew _ _ _ _).2 new_page)
  have HRUN := Lib.hid hrun
  have HB := Lib.hid (dk_burn h2)
  have HCH := Lib.hid hCh
  obtain ⟨a, c, rfl⟩ := Sl.len hd
  have hpl : (pc (pad data)).length = 128 := by rw [pc_len, pad_len hl]
  have g : decide ((128 : Int) < (data.length : Int)) = false := by simp; omega
  rw [hr]
  clear hr h hc hd hown hof hown' hof' hg h1 h2 hC2 hCh hrun hwf hW1b
  subst hW1
  unfold pv at HRUN
  unfold DB.ptr at *
  simp only
  generalize (d.put i data).burn = br at *
  obtain ⟨d2, bb⟩ := br
  simp only at HB ⊢
  generalize data.length = n at *
  generalize pc zeroPage = Z at *
  generalize hX : pc (pad data) = X at *
  clear hX
  generalize hdb : B.db = db at *
  generalize hmb : B.mb = mb at *
  clear hdb hmb
  go_enter Tryz.func78, Tryz.ntmps78
  go_wp2_with fail
  refine hk.out.mono ?_
  rintro e w' ⟨rfl, rfl⟩
  go_wp2_with fail
  refine region_still 6 (by kernel_rfl) (by kernel_rfl) ?_
  intro wD hWD
  simp only [List.take_succ_cons, List.take_zero, List.drop_succ_cons, List.drop_zero]
  have c1' : wD.cell? ⟨db, 1, none⟩ = some (.map (some mb)) := by rw [hWD]; go_simp
  have hsz : w'.heap.size < wD.heap.size := by rw [hWD]; simp [World.drew]
  rw [← hWD] at HRNG HRUN
  clear hWD c1 hcp hal
  refine stillH_want (by kernel_rfl) (fun K hK => ?_); go_simp; refine hK _ ?_; clear hK K
  refine stillH_want (by kernel_rfl) (fun K hK => ?_); go_simp; refine hK _ ?_; clear hK K
  refine stillH_want (by kernel_rfl) (fun K hK => ?_); go_simp; refine hK _ ?_; clear hK K
  refine stillH_want (by kernel_rfl) (fun K hK => ?_); go_simp; refine hK _ ?_; clear hK K
  refine stillH_want (by kernel_rfl) (fun K hK => ?_); go_simp; refine hK _ ?_; clear hK K
  refine stillH_want (by kernel_rfl) (fun K hK => ?_)
  refine still_load_mid 68 _ rfl w'.heap.size 0 rfl X _ HRNG.out Tryz.underlying68 rfl (by rw [hpl]; kernel_rfl) ?_
  refine hK _ ?_; clear hK K
  refine stillH_nil ?_
  refine wpList_upd rfl _ _ _ _ rfl HRUN.out ?_
  clear c1'
  go_wp2_with fail
  refine HB.out.mono ?_
  rintro e w3 ⟨rfl, ht⟩
  cases bb <;> go_wp2 <;> go_ret <;> exact ⟨rfl, ht.1, HCH.out.trans ht.2⟩
theorem dk_write (h : IsDisk w B d) (i : Int) (hw : (Lit.int .i64 i).wf = true) (v : Value) (data : List UInt8) (hd : Data w v data) : Calls Tryz.prog 78 #[B.ptr, .int .i64 i, v] w fun e w' => e = .returned (.int .i64 (d.write i data).2) ∧ Turns B w w' (d.write i data).1 := by
  by_cases hc : d.chk i = 0
  · obtain ⟨_, h0, _⟩ := DK.chk_zero hc
    obtain ⟨k, rfl⟩ : ∃ k : Nat, i = (k : Int) := ⟨i.toNat, by omega⟩
    by_cases hl : 128 < data.length
    · exact dk_write_long h k v data hd hc hl
    · exact dk_write_ok h k v data hd hc (by omega) hw
  · exact dk_write_err h i v data hc
end

end Go.Proofs.YtngddhoolijimaaGreatDoor
