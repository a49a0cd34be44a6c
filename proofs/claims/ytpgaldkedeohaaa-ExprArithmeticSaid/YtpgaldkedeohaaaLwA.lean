/-
  What the laws of package expr share: the arguments read as lists; the calls for any root; few, IntValue, awake.
-/
import Derived.Test.YtpgaldkedeohaaaColE
namespace Go.Proofs.Ytpgaldkedeohaaa
open Go.RowKit Go.WideShapes Go.ChangeShapes
set_option linter.unusedVariables false

theorem opensVal : Opens Try.prog 34 rVal :=
  opens_via _ (fun ⟨a, b, c⟩ => ⟨⟨a, b, c⟩, rfl⟩) (opens_struct Try.underlying34 (by kernel_rfl) (opensF_cons rfl (opens_int Try.underlying3 (by kernel_rfl)) (opensF_cons rfl (opens_int Try.underlying2 (by kernel_rfl)) (opensF_one rfl (opens_str Try.underlying9 (by kernel_rfl))))))
theorem opensExpr : Opens Try.prog 44 rExpr :=
  opens_via _ (fun ⟨a, b, c, d, e⟩ => ⟨⟨a, b, c, d, e⟩, rfl⟩) (opens_struct Try.underlying44 (by kernel_rfl) (opensF_cons rfl (opens_int Try.underlying3 (by kernel_rfl)) (opensF_cons rfl (opens_int Try.underlying3 (by kernel_rfl)) (opensF_cons rfl (opens_int Try.underlying3 (by kernel_rfl)) (opensF_cons rfl (opens_int Try.underlying3 (by kernel_rfl)) (opensF_one rfl opensVal))))))
theorem opensExs : Opens Try.prog 22 (rSlice rExpr) := opens_slice Try.underlying22 (by kernel_rfl) (by decide) opensExpr
theorem opensRow : Opens Try.prog 32 (rSlice rVal) := opens_slice Try.underlying32 (by kernel_rfl) (by decide) opensVal
theorem opensInts : Opens Try.prog 23 (rSlice (rInt .i64)) := opens_slice Try.underlying23 (by kernel_rfl) (by decide) (opens_int Try.underlying3 (by kernel_rfl))
theorem opensBools : Opens Try.prog 39 (rSlice rBool) := opens_slice Try.underlying39 (by kernel_rfl) (by decide) (opens_bool Try.underlying4 (by kernel_rfl))

/-- A slice argument has a reading. -/
theorem open_arg {α : Type} {P : Program} {H : Type} {enc : TypeId × Value → H} {w : World} {base b0 : Nat} {r : Reach} {spare : Nat → Bool} {held : Bool} {t e : TypeId} {v : Value} {d : DataW H} {ps : List MemPlace} {R : Rd α}
    (ht : P.underlying t = some (.slice e)) (hval : Value.okWide P w r b0 t v) (hd : DataW.Trod enc P w base spare held t v d ps) (ho : Opens P t (rSlice R)) : ∃ l, (rSlice R).rd w (· < w.heap.size) [v] l := by
  obtain ⟨a, n, c, rfl⟩ := okWide_slice ht hval
  obtain ⟨fuel, hf⟩ := hd
  exact ho.open_ hf

theorem rowNil (w : World) (B : Nat) : RowAt w B (.slice none 0 0) [] := ⟨none, 0, 0, rfl, rfl, Nat.le_refl _, Nat.zero_le _, .inl rfl⟩
theorem intsNil (w : World) (B : Nat) : IntsAt w B (.slice none 0 0) [] := ⟨none, 0, 0, rfl, rfl, Nat.le_refl _, Nat.zero_le _, .inl rfl⟩

/-- The list of expressions in memory, as the walks want it. -/
def ExsV (w : World) (v : Value) (L : List Ex) : Prop := ∃ a n c, v = .slice a n c ∧ n = L.length ∧ n ≤ c ∧ (n = 0 ∨ ∃ b off, a = some ⟨b, off, none⟩ ∧ b < w.heap.size ∧ ∀ (i : Nat) (x : Ex), L[i]? = some x → ExAt w b (off + i * 7) x ∧ x.c.wf)

theorem ExsAt.v {w : World} {B : Nat} {v : Value} {L : List Ex} (h : ExsAt w B v L) : ExsV w v L := by
  obtain ⟨a, n, c, e, h1, h2, _, h4⟩ := h.view
  refine ⟨a, n, c, e, h1, h2, ?_⟩
  rcases h4 with h4 | ⟨b, off, e, _, hb, h⟩
  · exact .inl h4
  · exact .inr ⟨b, off, e, hb, h⟩

theorem ExsV.keep {w w' : World} {v : Value} {L : List Ex} (h : ExsV w v L) (hB : Below w.heap.size w w') : ExsV w' v L := by
  obtain ⟨a, n, c, e, h1, h2, h4⟩ := h
  refine ⟨a, n, c, e, h1, h2, ?_⟩
  rcases h4 with h4 | ⟨b, off, e, hb, h⟩
  · exact .inl h4
  · exact .inr ⟨b, off, e, Nat.lt_of_lt_of_le hb hB.size, fun i x hx => ⟨(h i x hx).1.below hb hB, (h i x hx).2⟩⟩

def chkX (L : List Ex) (root : Int) (cols : List Int) : Int × Int := if 200 < L.length then (0, 4) else if root < 0 ∨ (L.length : Int) ≤ root then (0, 10) else Xp.ck L cols root.toNat
def evX (L : List Ex) (root : Int) (row : List Vl) : Vl := if root < 0 ∨ (L.length : Int) ≤ root then Xp.zero else Xp.ev L row root.toNat
def colX (L : List Ex) (root : Int) : List Int := if root < 0 ∨ (L.length : Int) ≤ root then [] else Xp.colS L root.toNat

theorem in_range {w : World} {v : Value} {L : List Ex} {root : Int} (h : ExsV w v L) (hr : ¬ (root < 0 ∨ (L.length : Int) ≤ root)) :
    ∃ b off c r, v = .slice (some ⟨b, off, none⟩) L.length c ∧ root = ((r : Nat) : Int) ∧ r < L.length ∧ L.length ≤ c ∧ b < w.heap.size ∧ ∀ (i : Nat) (x : Ex), L[i]? = some x → ExAt w b (off + i * 7) x ∧ x.c.wf := by
  obtain ⟨a, n, c, rfl, rfl, h2, h4⟩ := h
  rcases h4 with h4 | ⟨b, off, rfl, hb, h⟩
  · omega
  · exact ⟨b, off, c, root.toNat, rfl, by omega, by omega, h2, hb, h⟩

section
variable {v : Value} {L : List Ex} {root : Int} {w : World}

theorem check_any {cv : Value} {cols : List Int} {k e : Int} (hL : ExsV w v L) (hc : IntsAt w w.heap.size cv cols) (h : chkX L root cols = (k, e)) :
    Calls Try.prog 13 #[v, .int .i64 root, cv] w fun e' w' => e' = .returned (.tuple #[.int .i64 k, .int .i64 e]) ∧ Below w.heap.size w w' := by
  have hp : (chkX L root cols).1 = k ∧ (chkX L root cols).2 = e := by rw [h]; exact ⟨rfl, rfl⟩
  obtain ⟨rfl, rfl⟩ := hp
  unfold chkX
  by_cases h1 : 200 < L.length
  · rw [if_pos h1]
    obtain ⟨a, n, c, rfl, rfl, _⟩ := hL
    exact (expr_Check_long a _ c root cv w h1).mono fun e w' ⟨h, hw⟩ => ⟨h, hw ▸ Below.refl _ _⟩
  rw [if_neg h1]
  by_cases h2 : root < 0 ∨ (L.length : Int) ≤ root
  · rw [if_pos h2]
    obtain ⟨a, n, c, rfl, rfl, _⟩ := hL
    exact (expr_Check_out a _ c root cv w (by omega) h2).mono fun e w' ⟨h, hw⟩ => ⟨h, hw ▸ Below.refl _ _⟩
  rw [if_neg h2]
  obtain ⟨b, off, c, r, rfl, rfl, hr, hlc, hb, hx⟩ := in_range hL h2
  exact expr_Check_in b off c r L cv cols w hb hr hlc (by omega) (fun i x hi => (hx i x hi).1) hc

theorem rcheck_any {cv : Value} {cols : List Int} {k e : Int} (hL : ExsV w v L) (hc : IntsAt w w.heap.size cv cols) (h : chkX L root cols = (k, e)) :
    Calls Try.prog 14 #[v, .int .i64 root, cv] w fun e' w' => e' = .returned (.tuple #[.int .i64 k, .int .i64 e]) ∧ Below w.heap.size w w' := by
  have hp : (chkX L root cols).1 = k ∧ (chkX L root cols).2 = e := by rw [h]; exact ⟨rfl, rfl⟩
  obtain ⟨rfl, rfl⟩ := hp
  unfold chkX
  by_cases h1 : 200 < L.length
  · rw [if_pos h1]
    obtain ⟨a, n, c, rfl, rfl, _⟩ := hL
    exact (ref_Check_long a _ c root cv w h1).mono fun e w' ⟨h, hw⟩ => ⟨h, hw ▸ Below.refl _ _⟩
  rw [if_neg h1]
  by_cases h2 : root < 0 ∨ (L.length : Int) ≤ root
  · rw [if_pos h2]
    obtain ⟨a, n, c, rfl, rfl, _⟩ := hL
    exact (ref_Check_out a _ c root cv w (by omega) h2).mono fun e w' ⟨h, hw⟩ => ⟨h, hw ▸ Below.refl _ _⟩
  rw [if_neg h2]
  obtain ⟨b, off, c, r, rfl, rfl, hr, hlc, hb, hx⟩ := in_range hL h2
  exact ref_Check_in b off c r L cv cols w hb hr hlc (by omega) (fun i x hi => (hx i x hi).1) hc

theorem eval_any {rv : Value} {row : List Vl} {k n : Int} {s : ByteArray} (hL : ExsV w v L) (hl : L.length ≤ 100000) (hc : RowAt w w.heap.size rv row) (h : evX L root row = ⟨k, n, s⟩) :
    Calls Try.prog 15 #[v, .int .i64 root, rv] w fun e' w' => e' = .returned (.agg #[.int .i64 k, .int .i64 n, .string s]) ∧ Below w.heap.size w w' := by
  refine calls_of (v := (evX L root row).go) (by rw [h]; rfl) ?_
  unfold evX
  by_cases h2 : root < 0 ∨ (L.length : Int) ≤ root
  · rw [if_pos h2]
    obtain ⟨a, n, c, rfl, rfl, _⟩ := hL
    exact expr_Eval_out a _ c root rv w h2
  rw [if_neg h2]
  obtain ⟨b, off, c, r, rfl, rfl, hr, hlc, hb, hx⟩ := in_range hL h2
  exact expr_Eval_in b off c r L rv row w hb hr hlc hl hx hc

theorem reval_any {rv : Value} {row : List Vl} {k n : Int} {s : ByteArray} (hL : ExsV w v L) (hl : L.length ≤ 100000) (hc : RowAt w w.heap.size rv row) (h : evX L root row = ⟨k, n, s⟩) :
    Calls Try.prog 16 #[v, .int .i64 root, rv] w fun e' w' => e' = .returned (.agg #[.int .i64 k, .int .i64 n, .string s]) ∧ Below w.heap.size w w' := by
  refine calls_of (v := (evX L root row).go) (by rw [h]; rfl) ?_
  unfold evX
  by_cases h2 : root < 0 ∨ (L.length : Int) ≤ root
  · rw [if_pos h2]
    obtain ⟨a, n, c, rfl, rfl, _⟩ := hL
    exact ref_Eval_out a _ c root rv w h2
  rw [if_neg h2]
  obtain ⟨b, off, c, r, rfl, rfl, hr, hlc, hb, hx⟩ := in_range hL h2
  exact ref_Eval_in b off c r L rv row w hb hr hlc hl hx hc

theorem columns_any (hL : ExsV w v L) (hl : L.length ≤ 100000) : Calls Try.prog 18 #[v, .int .i64 root] w (IntsPost (colX L root) w) := by
  unfold colX
  by_cases h2 : root < 0 ∨ (L.length : Int) ≤ root
  · rw [if_pos h2]
    obtain ⟨a, n, c, rfl, rfl, _⟩ := hL
    exact expr_Columns_out a _ c root w h2
  rw [if_neg h2]
  obtain ⟨b, off, c, r, rfl, rfl, hr, hlc, hb, hx⟩ := in_range hL h2
  exact expr_Columns_in b off c r L w hb hr hlc hl (fun i x hi => (hx i x hi).1)

theorem rcolumns_any (hL : ExsV w v L) (hl : L.length ≤ 100000) : Calls Try.prog 19 #[v, .int .i64 root] w (IntsPost (colX L root) w) := by
  unfold colX
  by_cases h2 : root < 0 ∨ (L.length : Int) ≤ root
  · rw [if_pos h2]
    obtain ⟨a, n, c, rfl, rfl, _⟩ := hL
    exact ref_Columns_out a _ c root w h2
  rw [if_neg h2]
  obtain ⟨b, off, c, r, rfl, rfl, hr, hlc, hb, hx⟩ := in_range hL h2
  exact ref_Columns_in b off c r L w hb hr hlc hl (fun i x hi => (hx i x hi).1)
end

theorem colX_len (L : List Ex) (root : Int) (h : L.length ≤ 100000) : (colX L root).length ≤ 100000 := by
  unfold colX
  split
  · simp
  · have h1 := Xp.mrg_len (Xp.outc L root.toNat (root.toNat + 1))
    have h2 : ∀ k, (Xp.outc L root.toNat k).length ≤ k := by
      intro k
      induction k with
      | zero => exact Nat.le_refl _
      | succ k ih => show (Xp.outc L root.toNat k ++ _).length ≤ _
                     rw [List.length_append]
                     split <;> simp <;> omega
    have := h2 (root.toNat + 1)
    unfold Xp.colS
    omega

set_option maxRecDepth 100000 in
theorem few_any (a : Option Addr) (n c : Nat) (m : Int) (w : World) (hm : 0 ≤ m) : Calls Try.prog 11 #[.slice a n c, .int .i64 m] w fun e w' => e = .returned (.bool (decide (n ≤ 220) && decide (m ≤ 60))) ∧ w = w' := by
  by_cases h1 : n ≤ 220 <;> by_cases h2 : m ≤ 60
  all_goals
    obtain ⟨b, hb⟩ : ∃ b, (decide (n ≤ 220) && decide (m ≤ 60)) = b := ⟨_, rfl⟩
    rw [hb]
    have HB := Lib.hid hb
    clear hb
    go_enter Try.func11, Try.ntmps11
    go_wp2
    go_ret
    exact ⟨ret_bool (by rw [← HB.out]; simp [h1, h2]; try omega), rfl⟩

theorem few_call (a : Option Addr) (n c : Nat) (m : Int) (b : Bool) (w : World) (hm : 0 ≤ m) (h : (decide (n ≤ 220) && decide (m ≤ 60)) = b) : Calls Try.prog 11 #[.slice a n c, .int .i64 m] w fun e w' => e = .returned (.bool b) ∧ w = w' := by
  subst h; exact few_any a n c m w hm

set_option maxRecDepth 100000 in
theorem intValue (n : Int) (w : World) : Calls Try.prog 20 #[.int .i64 n] w fun e w' => e = .returned (.agg #[.int .i64 1, .int .i64 n, .string ⟨#[]⟩]) ∧ Below w.heap.size w w' := by
  go_enter Try.func20, Try.ntmps20
  go_wp2
  refine bodyPost_ret (v := .agg #[.int .i64 1, .int .i64 n, .string ⟨#[]⟩]) (by simp [results, Try.results20, go_sem]) rfl ⟨rfl, below_alloc (Below.refl _ _) _⟩

end Go.Proofs.Ytpgaldkedeohaaa
