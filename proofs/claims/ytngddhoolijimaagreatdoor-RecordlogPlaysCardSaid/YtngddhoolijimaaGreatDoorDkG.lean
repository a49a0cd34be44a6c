/-
  What the disk's Crash leans on.
-/
import Derived.Test.YtngddhoolijimaaGreatDoorDkF
namespace Go.Proofs.YtngddhoolijimaaGreatDoor
open Go.RowKit Go.Maps
set_option linter.unusedVariables false

theorem nums_succ (buf : Nat → Option Page) (N : Nat) : nums buf (N + 1) = nums buf N ++ (if (buf N).isSome then [N] else []) := by
  unfold nums
  rw [List.range_succ, List.filter_append]
  congr 1
  cases h : (buf N).isSome <;> simp [h]

theorem rank_eq (buf : Nat → Option Page) (i : Nat) : rank buf i = (nums buf i).length := rfl

theorem nums_at {buf : Nat → Option Page} : ∀ {N k i : Nat}, (nums buf N)[k]? = some i → i < N ∧ (buf i).isSome = true ∧ rank buf i = k := by
  intro N
  induction N with
  | zero => intro k i h; simp [nums] at h
  | succ N ih =>
    intro k i h
    rw [nums_succ] at h
    by_cases hk : k < (nums buf N).length
    · rw [List.getElem?_append_left hk] at h
      have := ih h
      exact ⟨by omega, this.2⟩
    · rw [List.getElem?_append_right (by omega)] at h
      cases hb : (buf N).isSome with
      | false => rw [hb] at h; simp at h
      | true =>
        rw [hb] at h
        simp only [if_true] at h
        have hk0 : k - (nums buf N).length = 0 := by
          have := (List.getElem?_eq_some_iff.1 h).1; simpa using this
        rw [hk0] at h
        obtain rfl : N = i := by simpa using h
        exact ⟨by omega, hb, by rw [rank_eq]; omega⟩

theorem nums_rank {buf : Nat → Option Page} : ∀ {N i : Nat}, i < N → (buf i).isSome = true → (nums buf N)[rank buf i]? = some i := by
  intro N
  induction N with
  | zero => intro i h; omega
  | succ N ih =>
    intro i h hb
    rw [nums_succ]
    by_cases e : i = N
    · subst e
      rw [hb, rank_eq, List.getElem?_append_right (Nat.le_refl _)]; simp
    · have := ih (show i < N by omega) hb
      rw [List.getElem?_append_left (List.getElem?_eq_some_iff.1 this).1]; exact this

/-- The stable pages after k of the buffered ones have fallen. -/
def fallen (d : DK) (keep : List Int) (k : Nat) : List Page := fall d.st d.buf keep (fun i => decide (rank d.buf i < k))

theorem fallen_len (d : DK) (keep : List Int) (k : Nat) : (fallen d keep k).length = d.st.length := fall_len _ _ _ _

theorem fallen_zero (d : DK) (keep : List Int) : fallen d keep 0 = d.st := by
  apply List.ext_getElem?
  intro j
  by_cases hj : j < d.st.length
  · have hq := List.getElem?_eq_getElem hj
    unfold fallen
    rw [fall_get hq, hq]
    cases d.buf j <;> simp
  · rw [List.getElem?_eq_none (by rw [fallen_len]; omega), List.getElem?_eq_none (by omega)]

theorem fallen_all {d : DK} (h : d.Ok) (keep : List Int) : fallen d keep (nums d.buf d.st.length).length = fall d.st d.buf keep (fun _ => true) := by
  apply List.ext_getElem?
  intro j
  by_cases hj : j < d.st.length
  · have hq := List.getElem?_eq_getElem hj
    unfold fallen
    rw [fall_get hq, fall_get hq]
    cases hb : d.buf j with
    | none => rfl
    | some p =>
      have := nums_rank (buf := d.buf) hj (by rw [hb]; rfl)
      have hr : rank d.buf j < (nums d.buf d.st.length).length := (List.getElem?_eq_some_iff.1 this).1
      simp [hr]
  · rw [List.getElem?_eq_none (by rw [fallen_len]; omega), List.getElem?_eq_none (by rw [fall_len]; omega)]

/-- Page i before it falls. -/
theorem fallen_at {d : DK} {keep : List Int} {k i : Nat} {q : Page} (hn : (nums d.buf d.st.length)[k]? = some i) (hq : d.st[i]? = some q) : (fallen d keep k)[i]? = some q := by
  have := nums_at hn
  unfold fallen
  rw [fall_get hq]
  cases d.buf i with
  | none => rfl
  | some p => simp [this.2.2]

theorem fallen_step {d : DK} {keep : List Int} {k i : Nat} {p q : Page} (hn : (nums d.buf d.st.length)[k]? = some i) (hb : d.buf i = some p) (hq : d.st[i]? = some q) :
    (fallen d keep k).set i (torn (keepOf keep k) p q) = fallen d keep (k + 1) := by
  have hi := nums_at hn
  apply List.ext_getElem?
  intro j
  by_cases hj : j < d.st.length
  · have hqj := List.getElem?_eq_getElem hj
    by_cases e : i = j
    · subst e
      rw [List.getElem?_set_self (by rw [fallen_len]; exact hj)]
      unfold fallen
      rw [fall_get hq, hb]
      simp [hi.2.2]
    · rw [List.getElem?_set_ne e]
      unfold fallen
      rw [fall_get hqj, fall_get hqj]
      cases hbj : d.buf j with
      | none => rfl
      | some pj =>
        have hr := nums_rank (buf := d.buf) hj (by rw [hbj]; rfl)
        have hne : rank d.buf j ≠ k := by
          intro e1
          rw [e1, hn] at hr
          exact e (by simpa using hr)
        by_cases hlt : rank d.buf j < k
        · have : rank d.buf j < k + 1 := by omega
          simp [hlt, this]
        · have : ¬ rank d.buf j < k + 1 := by omega
          simp [hlt, this]
  · rw [List.getElem?_eq_none (by rw [List.length_set, fallen_len]; omega), List.getElem?_eq_none (by rw [fallen_len]; omega)]

theorem DK.Ok.fall {d : DK} (h : d.Ok) (keep : List Int) (S : Nat → Bool) : DK.Ok { d with st := fall d.st d.buf keep S } := by
  refine ⟨fun p hp => ?_, fun i p hp => ?_, by simpa [fall_len] using h.few, h.fuse⟩
  · obtain ⟨i, hi⟩ := mem_of_get_ hp
    have hl : i < d.st.length := by have := (List.getElem?_eq_some_iff.1 hi).1; rwa [fall_len] at this
    have hq := List.getElem?_eq_getElem hl
    rw [fall_get hq] at hi
    cases hb : d.buf i with
    | none => rw [hb] at hi; cases hi; exact h.page hq
    | some b =>
      rw [hb] at hi
      simp only at hi
      split at hi
      · cases hi; exact torn_len (keepOf_le _ _) (h.inside i b hb).2 (h.page hq)
      · cases hi; exact h.page hq
  · have := h.inside i p hp
    exact ⟨by simpa [fall_len] using this.1, this.2⟩

/-- The head of a page is stored. -/
theorem Stable.torn {w : World} {sb : Nat} {st : List Page} (h : Stable w sb st) (hp : ∀ q ∈ st, q.length = 128) {i nn : Nat} {p q : Page} (hq : st[i]? = some q) (hl : p.length = 128) (hn : nn ≤ 128) :
    Stable (w.setCells sb (i * 128) (pc (p.take nn))) sb (st.set i (torn nn p q)) := by
  have hi := (List.getElem?_eq_some_iff.1 hq).1
  have hq128 := hp q (List.mem_of_getElem? hq)
  have hcl : (pc (p.take nn)).length = nn := by rw [pc_len, List.length_take]; omega
  have hth : w.there sb (i * 128) (pc (p.take nn)).length := fun j hj => by
    rw [hcl] at hj
    have := h.2.2 (i * 128 + j) (by omega)
    rwa [Nat.zero_add] at this
  refine ⟨by rw [(setCells_same _ _ _ _).2.2.2]; exact h.1, fun j q' hq' => ?_, ?_⟩
  · by_cases e : j = i
    · subst e
      rw [List.getElem?_set_self hi] at hq'
      cases hq'
      intro m u hu
      by_cases hm : m < nn
      · have hin := World.cell?_setCells_in sb (pc (p.take nn)) (j * 128) w (fun x hx => (hth x hx).1) m (by rw [hcl]; exact hm)
        rw [hin, ← hu]
        unfold YtngddhoolijimaaGreatDoor.torn
        rw [pc_append, List.getElem?_append_left (by rw [hcl]; exact hm), List.getElem?_eq_getElem (by rw [hcl]; exact hm)]
      · rw [World.cell?_setCells_out _ _ _ _ _ (fun _ _ => .inr (by rw [hcl]; show j * 128 + nn ≤ j * 128 + m; omega))]
        refine h.2.1 j q hq m u ?_
        rw [← hu]
        unfold YtngddhoolijimaaGreatDoor.torn
        rw [pc_append, List.getElem?_append_right (by rw [hcl]; omega), hcl, pc_drop, List.getElem?_drop]
        congr 1; omega
    · rw [List.getElem?_set_ne (fun e1 => e e1.symm)] at hq'
      have hq'128 := hp q' (List.mem_of_getElem? hq')
      exact World.rangeAt_setCells_apart (h.2.1 j q' hq') _ _ _ (.inr (by rw [hcl, pc_len, hq'128]; omega))
  · rw [List.length_set]; exact World.there_setCells h.2.2 _ _ _

theorem wpList_bcopy {P : Program} {w w' : World} {ops : Array Oper} {rest : List Oper} {o : Oper} {a : Act} {Q : Exit → Act → World → Prop} {v : Value} (hg : o.guard = none) (d s : Operand) (dT sT : TypeId)
    (ho : o.op = .call { callee := .builtin .copy, args := #[d, s], argTypes := #[dT, sT] }) (hrun : (Builtin.copy_ #[dT, sT] o.type #[a.eval d, a.eval s]).run P w = .ok v w') (h : wpList P ops Q rest (a.put o.dst v) w') :
    wpList P ops Q (o :: rest) a w := by
  refine wpList_plain hg fun K hK => ?_
  unfold Oper.wp
  simp [execOp, ho, resolve, invoke, builtin, hrun, Result.andThen]
  exact hK _ _ h

theorem copy_torn {W : World} {sb bx i nn c1 c2 : Nat} {p : Page} (hp : p.length = 128) (hn : nn ≤ 128) (hr : W.rangeAt bx 0 (pc p)) (hth : W.there sb (i * 128) 128) (ty : TypeId) :
    (Builtin.copy_ #[51, 51] ty #[.slice (some ⟨sb, i * 128, none⟩) nn c1, .slice (some ⟨bx, 0, none⟩) nn c2]).run Tryz.prog W = .ok (goInt nn) (W.setCells sb (i * 128) (pc (p.take nn))) := by
  have hi : (Tryz.prog.info? 5).map (·.size) = some 1 := by kernel_rfl
  have hcl : (pc (p.take nn)).length = nn := by rw [pc_len, List.length_take]; omega
  rw [run_copy_cells _ _ _ _ 5 _ _ _ _ _ _ _ (pc (p.take nn)) Tryz.underlying51 hi (by rw [hcl]; show nn = min nn nn; omega)
    (fun j u hu => by
      rw [Addr.add_mid]
      refine hr j u ?_
      rw [pc_take, List.getElem?_take] at hu
      split at hu
      · exact hu
      · cases hu)
    (fun j hj => (hth j (by rw [hcl] at hj; omega)).1) (fun j hj => (hth j (by rw [hcl] at hj; omega)).2) (pc_one _), hcl]

/-- How much is kept, as a call is told. -/
def Keep (w : World) (B : DB) (v : Value) (keep : List Int) : Prop :=
  (∀ z ∈ keep, (Lit.int .i64 z).wf = true) ∧ ∃ a c, v = .slice a keep.length c ∧ ∀ k z, keep[k]? = some z → ∃ b off, a = some ⟨b, off, none⟩ ∧ b < w.heap.size ∧ b ≠ B.sb ∧ w.cell? ⟨b, off + k, none⟩ = some (.int .i64 z)

end Go.Proofs.YtngddhoolijimaaGreatDoor
