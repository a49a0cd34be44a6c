/-
  Arguments of any depth have readings, and what they hold bounds the bytes of their encodings. Printed by gen_co.py.
-/
import Derived.Test.YtfppjpmflpaffaaCeH
namespace Go.Proofs.Ytfppjpmflpaffaa
open Go.RowKit Go.ChangeShapes Go.WideShapes
set_option linter.unusedVariables false
set_option linter.unusedSimpArgs false

theorem bulk_one {H : Type} (d : DataW H) : 1 ≤ Rows.uptoBulk d := by
  cases d with
  | lit l => cases l <;> simp [Rows.uptoBulk]
  | nil => simp [Rows.uptoBulk]
  | ptr d => simp [Rows.uptoBulk]
  | slice elems spare => simp [Rows.uptoBulk]
  | agg parts => simp [Rows.uptoBulk]
  | iface t d => simp [Rows.uptoBulk]
  | map entries => simp [Rows.uptoBulk]
  | held h => simp [Rows.uptoBulk]

/-- Whatever reads as Go data of this type has this reading; its bulk bounds its bytes. -/
structure OpensB (P : Program) (tid : TypeId) (t : Ty) : Prop where
  size : P.cellsOf tid = t.rd.size
  open_ : ∀ {H : Type} {en : TypeId × Value → H} {w : World} {base : Nat} {spare : Nat → Bool} {held : Bool} {fuel : Nat} {cs : List Value} {x : DataW H × List MemPlace},
    DataW.trod en P w base spare held fuel tid cs = some x → ∃ a : t.T, t.rd.rd w (· < w.heap.size) cs a ∧ (enc t a).length ≤ 20 * Rows.uptoBulk x.1

theorem opensB_num {P : Program} {tid : TypeId} (ht : P.underlying tid = some (.int .i64)) (hc : P.cellsOf tid = 1) : OpensB P tid .num :=
  ⟨hc, fun {H en w base spare held fuel cs x} h => by
    obtain ⟨n, rfl, _, hw⟩ := DataW.trod_int ht h
    refine ⟨n, ⟨rfl, hw⟩, ?_⟩
    have h1 := ok_rd .num (w := w) (F := fun _ => True) (cs := [.int .i64 n]) (x := n) ⟨rfl, hw⟩
    have h2 : (numB n).length ≤ 10 := numB_len h1.1 h1.2
    have := bulk_one x.1
    show (numB n).length ≤ _
    omega⟩

theorem opensB_str {P : Program} {tid : TypeId} (ht : P.underlying tid = some .string) (hc : P.cellsOf tid = 1) : OpensB P tid .str :=
  ⟨hc, fun {H en w base spare held fuel cs x} h => by
    obtain ⟨s, rfl, rfl, hw⟩ := DataW.trod_string ht h
    refine ⟨s, ⟨rfl, hw⟩, ?_⟩
    have h2 : (numB (s.size : Int)).length ≤ 10 := numB_len (by omega) (by unfold maxLen at hw; omega)
    have e : Rows.uptoBulk (DataW.lit (H := H) (.string s.data.toList)) = s.data.toList.length + 1 := by simp [Rows.uptoBulk]
    show (numB (s.size : Int) ++ s.data.toList).length ≤ _
    rw [List.length_append]
    show _ ≤ 20 * Rows.uptoBulk (DataW.lit (H := H) (.string s.data.toList))
    rw [e]
    omega⟩

theorem flat_le {t : Ty} {H : Type} {f : Nat → t.T} {D : Nat → DataW H} : ∀ (is : List Nat), (∀ i ∈ is, (enc t (f i)).length ≤ 20 * Rows.uptoBulk (D i)) → ((is.map f).flatMap (enc t)).length ≤ 20 * Rows.uptoBulkAll (is.map D)
  | [], _ => by simp
  | i :: is, h => by
    have h1 := h i (by simp)
    have h2 := flat_le is (fun j hj => h j (by simp [hj]))
    rw [List.map_cons, List.flatMap_cons, List.length_append, List.map_cons, Rows.uptoBulkAll]
    omega

theorem opensB_list {P : Program} {tid e : TypeId} {t : Ty} (ht : P.underlying tid = some (.slice e)) (hc : P.cellsOf tid = 1) (hpos : 0 < t.rd.size) (h : OpensB P e t) : OpensB P tid (.list t) :=
  ⟨hc, fun {H en w base spare held fuel cs x} g => by
    rcases Go.Deep.open_slice ht g with ⟨rfl, _⟩ | ⟨a, len, cap, m, n, D, Pl, rfl, _, hlc, hcm, hm, hx, hel⟩
    · refine ⟨[], ⟨none, 0, 0, rfl, rfl, Nat.le_refl _, Nat.zero_le _, .inl rfl⟩, ?_⟩
      have : (numB ((0 : Nat) : Int)).length ≤ 10 := numB_len (by omega) (by omega)
      have := bulk_one x.1
      show (numB ((0 : Nat) : Int) ++ []).length ≤ _
      rw [List.append_nil]
      omega
    · have hlm : len ≤ m := by rw [hm]; split <;> omega
      have each : ∀ i, i < len → ∃ y : t.T, (∃ ys, ys.length = t.rd.size ∧ (∀ j u, ys[j]? = some u → w.cell? ((a.add (i * t.rd.size)).add j) = some u) ∧ t.rd.rd w (· < w.heap.size) ys y) ∧ (enc t y).length ≤ 20 * Rows.uptoBulk (D i) := by
        intro i hi
        obtain ⟨ys, h1, h2⟩ := hel i (by omega)
        rw [h.size] at h1
        obtain ⟨q1, q2⟩ := cells_at h1
        obtain ⟨y, hy, hb⟩ := h.open_ h2
        exact ⟨y, ⟨ys, q1, q2, hy⟩, hb⟩
      have hnl : (numB (len : Int)).length ≤ 10 := numB_len (by omega) (by unfold maxLen at hcm; omega)
      have hbx : Rows.uptoBulk x.1 = Rows.uptoBulkAll ((List.range len).map D) + Rows.uptoBulkAll ((List.range (m - len)).map fun j => D (len + j)) + 1 := by rw [hx]; simp only [Rows.uptoBulk]
      by_cases h0 : len = 0
      · subst h0
        refine ⟨[], ⟨some a, 0, cap, rfl, rfl, hlc, hcm, .inl rfl⟩, ?_⟩
        show (numB ((0 : Nat) : Int) ++ []).length ≤ _
        rw [List.append_nil, hbx]
        omega
      · obtain ⟨y0, ⟨ys0, l0, c0, _⟩, _⟩ := each 0 (by omega)
        have hu : ys0[0]? = some (ys0[0]'(by omega)) := List.getElem?_eq_getElem (by omega)
        have hcell := c0 0 _ hu
        rw [Nat.zero_mul, addr_add_zero, addr_add_zero] at hcell
        obtain ⟨hs, hb⟩ := cell_spot hcell
        obtain ⟨b, off, sp⟩ := a
        obtain rfl : sp = none := hs
        have ha : ∀ k, (⟨b, off, none⟩ : Addr).add k = ⟨b, off + k, none⟩ := by
          intro k; unfold Addr.add
          by_cases hk : k = 0
          · subst hk; rw [if_pos rfl]; rfl
          · rw [if_neg hk]
        classical
        obtain ⟨f, hf⟩ : ∃ f : Nat → t.T, ∀ i, i < len → (∃ ys, ys.length = t.rd.size ∧ (∀ j u, ys[j]? = some u → w.cell? (((⟨b, off, none⟩ : Addr).add (i * t.rd.size)).add j) = some u) ∧ t.rd.rd w (· < w.heap.size) ys (f i)) ∧ (enc t (f i)).length ≤ 20 * Rows.uptoBulk (D i) := by
          refine ⟨fun i => if hi : i < len then (each i hi).choose else y0, fun i hi => ?_⟩
          simp only [dif_pos hi]
          exact (each i hi).choose_spec
        refine ⟨(List.range len).map f, ⟨some ⟨b, off, none⟩, len, cap, rfl, by simp, hlc, hcm, .inr ⟨b, off, rfl, hb, hb, ?_⟩⟩, ?_⟩
        · intro i x hx
          rw [List.getElem?_map] at hx
          have hi : i < len := by
            rcases Nat.lt_or_ge i len with hi | hi
            · exact hi
            · rw [List.getElem?_eq_none (by simpa using hi)] at hx; cases hx
          rw [List.getElem?_range hi] at hx
          simp only [Option.map_some, Option.some.injEq] at hx
          obtain ⟨⟨ys, q1, q2, q3⟩, _⟩ := hf i hi
          rw [hx] at q3
          refine ⟨ys, fun j u hju => ?_, q3⟩
          have := q2 j u hju
          rw [Go.Deep.add_add, ha] at this
          rw [Nat.add_assoc]; exact this
        · have h1 := flat_le (t := t) (f := f) (D := D) (List.range len) (fun i hi => (hf i (by simpa using hi)).2)
          show (numB (((List.range len).map f).length : Int) ++ ((List.range len).map f).flatMap (enc t)).length ≤ _
          rw [List.length_append, List.length_map, List.length_range, hbx]
          omega⟩

structure OpensFB (P : Program) (l : List Field) (off : Nat) (t : Ty) : Prop where
  open_ : ∀ {H : Type} {en : TypeId × Value → H} {w : World} {base : Nat} {spare : Nat → Bool} {held : Bool} {fuel : Nat} {cs : List Value} (ys : List (DataW H × List MemPlace)), ys.length = l.length →
    (∀ (i : Nat) f, l[i]? = some f → DataW.trod en P w base spare held fuel f.type ((cs.drop f.offset).take (P.cellsOf f.type)) = ys[i]?) → ∃ a : t.T, t.rd.rd w (· < w.heap.size) ((cs.drop off).take t.rd.size) a ∧ (enc t a).length ≤ 20 * Rows.uptoBulkAll (ys.map (·.1))

theorem opensFB_one {P : Program} {f : Field} {off : Nat} {t : Ty} (ho : f.offset = off) (h : OpensB P f.type t) : OpensFB P [f] off t :=
  ⟨fun ys hl g => by
    obtain ⟨y, rfl⟩ : ∃ y, ys = [y] := by match ys, hl with | [y], _ => exact ⟨y, rfl⟩
    have hy := g 0 f rfl
    rw [ho, h.size] at hy
    obtain ⟨a, h1, h2⟩ := h.open_ hy
    exact ⟨a, h1, by simpa [Rows.uptoBulkAll] using h2⟩⟩

theorem opensFB_cons {P : Program} {f : Field} {l : List Field} {off : Nat} {t u : Ty} (ho : f.offset = off) (h : OpensB P f.type t) (hl : OpensFB P l (off + t.rd.size) u) : OpensFB P (f :: l) off (.pair t u) :=
  ⟨fun {H en w base spare held fuel cs} ys hlen g => by
    obtain ⟨y, ys, rfl⟩ : ∃ y r, ys = y :: r := by match ys, hlen with | y :: r, _ => exact ⟨y, r, rfl⟩
    have hy := g 0 f rfl
    rw [ho, h.size] at hy
    obtain ⟨a, ha, ha2⟩ := h.open_ hy
    obtain ⟨b, hb, hb2⟩ := hl.open_ ys (by simpa using hlen) (fun i f' hf' => g (i + 1) f' hf')
    refine ⟨(a, b), ⟨_, _, ?_, ha, hb⟩, ?_⟩
    · show List.take (t.rd.size + u.rd.size) (List.drop off cs) = _
      rw [List.take_add, List.drop_drop]
    · show (enc t a ++ enc u b).length ≤ _
      rw [List.length_append, List.map_cons, Rows.uptoBulkAll]
      omega⟩

theorem opensB_struct {P : Program} {tid : TypeId} {fs : Array Field} {t : Ty} (ht : P.underlying tid = some (.struct fs)) (hc : P.cellsOf tid = t.rd.size) (h : OpensFB P fs.toList 0 t) : OpensB P tid t :=
  ⟨hc, fun {H en w base spare held fuel cs x} g => by
    obtain ⟨xs, n, rfl, rfl, hlen, hl, hf⟩ := DataW.trod_struct ht g
    obtain ⟨a, h1, h2⟩ := h.open_ (en := en) (w := w) (base := base) (spare := spare) (held := held) (fuel := n) (cs := cs) xs (by simpa using hl) (fun i f hf' => hf i f (by rw [← Array.getElem?_toList]; exact hf'))
    rw [List.drop_zero, List.take_of_length_le (by rw [hlen, hc]; exact Nat.le_refl _)] at h1
    refine ⟨a, h1, ?_⟩
    have e : Rows.uptoBulk (DataW.agg (xs.map (·.1))) = Rows.uptoBulkAll (xs.map (·.1)) + 1 := by simp only [Rows.uptoBulk]
    show _ ≤ 20 * Rows.uptoBulk (DataW.agg (xs.map (·.1)))
    rw [e]
    omega⟩

theorem goV_agg {cs : List Value} (h : cs.length ≠ 1) : goV cs = .agg cs.toArray := by
  match cs, h with
  | [], _ => rfl
  | [v], h => exact absurd rfl h
  | a :: b :: r, _ => rfl

theorem open_structB {P : Program} {H : Type} {en : TypeId × Value → H} {w : World} {base b0 : Nat} {r : Reach} {spare : Nat → Bool} {held : Bool} {tid : TypeId} {fs : Array Field} {v : Value} {d : DataW H} {ps : List MemPlace} {t : Ty}
    (ht : P.underlying tid = some (.struct fs)) (hn : P.cellsOf tid ≠ 1) (hval : Value.okWide P w r b0 tid v) (hd : DataW.Trod en P w base spare held tid v d ps) (ho : OpensB P tid t) : ∃ cs a, v = goV cs ∧ t.rd.rd w (· < w.heap.size) cs a ∧ (enc t a).length ≤ 20 * Rows.uptoBulk d := by
  obtain ⟨cs, rfl, hcs⟩ := okWide_struct ht hval
  obtain ⟨fuel, hf⟩ := hd
  obtain ⟨a, h1, h2⟩ := ho.open_ hf
  have e : goV cs.toList = .agg cs := goV_agg (by rw [Array.length_toList, hcs]; exact hn)
  exact ⟨cs.toList, a, e.symm, h1, h2⟩

theorem opB_int : OpensB Try.prog 3 .num := opensB_num Try.underlying3 (by kernel_rfl)
theorem opB_int64 : OpensB Try.prog 2 .num := opensB_num Try.underlying2 (by kernel_rfl)
theorem opB_string : OpensB Try.prog 9 .str := opensB_str Try.underlying9 (by kernel_rfl)
theorem opB_ints : OpensB Try.prog 55 (.list .num) := opensB_list Try.underlying55 (by kernel_rfl) (by decide) opB_int

theorem opB_Value : OpensB Try.prog 126 tValue := opensB_struct Try.underlying126 (by kernel_rfl) (opensFB_cons rfl opB_int (opensFB_cons rfl opB_int64 (opensFB_one rfl opB_string)))
theorem opB_lValue : OpensB Try.prog 51 (.list tValue) := opensB_list Try.underlying51 (by kernel_rfl) (by decide) opB_Value
theorem opB_Period : OpensB Try.prog 26 tPeriod := opensB_struct Try.underlying26 (by kernel_rfl) (opensFB_cons rfl opB_int (opensFB_one rfl opB_int))
theorem opB_Expr : OpensB Try.prog 131 tExpr := opensB_struct Try.underlying131 (by kernel_rfl) (opensFB_cons rfl opB_int (opensFB_cons rfl opB_int (opensFB_cons rfl opB_int (opensFB_cons rfl opB_int (opensFB_one rfl opB_Value)))))
theorem opB_lExpr : OpensB Try.prog 52 (.list tExpr) := opensB_list Try.underlying52 (by kernel_rfl) (by decide) opB_Expr
theorem opB_Assignment : OpensB Try.prog 135 tAssignment := opensB_struct Try.underlying135 (by kernel_rfl) (opensFB_cons rfl opB_int (opensFB_one rfl opB_int))
theorem opB_lAssignment : OpensB Try.prog 53 (.list tAssignment) := opensB_list Try.underlying53 (by kernel_rfl) (by decide) opB_Assignment
theorem opB_Column : OpensB Try.prog 61 tColumn := opensB_struct Try.underlying61 (by kernel_rfl) (opensFB_cons rfl opB_int (opensFB_cons rfl opB_string (opensFB_one rfl opB_int)))
theorem opB_lColumn : OpensB Try.prog 116 (.list tColumn) := opensB_list Try.underlying116 (by kernel_rfl) (by decide) opB_Column
theorem opB_SchemaVersion : OpensB Try.prog 118 tSchemaVersion := opensB_struct Try.underlying118 (by kernel_rfl) (opensFB_cons rfl opB_Period (opensFB_one rfl opB_lColumn))
theorem opB_lSchemaVersion : OpensB Try.prog 54 (.list tSchemaVersion) := opensB_list Try.underlying54 (by kernel_rfl) (by decide) opB_SchemaVersion
theorem opB_ForeignKey : OpensB Try.prog 120 tForeignKey := opensB_struct Try.underlying120 (by kernel_rfl) (opensFB_cons rfl opB_ints (opensFB_cons rfl opB_string (opensFB_one rfl opB_ints)))
theorem opB_lForeignKey : OpensB Try.prog 56 (.list tForeignKey) := opensB_list Try.underlying56 (by kernel_rfl) (by decide) opB_ForeignKey
theorem opB_Constraint : OpensB Try.prog 122 tConstraint := opensB_struct Try.underlying122 (by kernel_rfl) (opensFB_cons rfl opB_int (opensFB_one rfl opB_ints))
theorem opB_lConstraint : OpensB Try.prog 57 (.list tConstraint) := opensB_list Try.underlying57 (by kernel_rfl) (by decide) opB_Constraint
theorem opB_Schema : OpensB Try.prog 59 tSchema := opensB_struct Try.underlying59 (by kernel_rfl) (opensFB_cons rfl opB_string (opensFB_cons rfl opB_lSchemaVersion (opensFB_cons rfl opB_ints (opensFB_cons rfl opB_lForeignKey (opensFB_one rfl opB_lConstraint)))))
theorem opB_Edit : OpensB Try.prog 63 tEdit := opensB_struct Try.underlying63 (by kernel_rfl) (opensFB_cons rfl opB_int (opensFB_cons rfl opB_string (opensFB_cons rfl opB_lValue (opensFB_cons rfl opB_Period (opensFB_cons rfl opB_lExpr (opensFB_cons rfl opB_int (opensFB_cons rfl opB_lAssignment (opensFB_cons rfl opB_Schema (opensFB_one rfl opB_Column)))))))))
theorem opB_lEdit : OpensB Try.prog 22 (.list tEdit) := opensB_list Try.underlying22 (by kernel_rfl) (by decide) opB_Edit
theorem opB_Request : OpensB Try.prog 24 tRequest := opensB_struct Try.underlying24 (by kernel_rfl) (opensFB_cons rfl opB_int (opensFB_cons rfl opB_int (opensFB_cons rfl opB_int (opensFB_one rfl opB_string))))
theorem opB_Hold : OpensB Try.prog 28 tHold := opensB_struct Try.underlying28 (by kernel_rfl) (opensFB_cons rfl opB_int (opensFB_one rfl opB_Period))
theorem opB_Command : OpensB Try.prog 30 tCommand := opensB_struct Try.underlying30 (by kernel_rfl) (opensFB_cons rfl opB_int (opensFB_cons rfl opB_int (opensFB_cons rfl opB_lEdit (opensFB_cons rfl opB_Request (opensFB_one rfl opB_Hold)))))
theorem opB_Version : OpensB Try.prog 110 tVersion := opensB_struct Try.underlying110 (by kernel_rfl) (opensFB_cons rfl opB_int (opensFB_cons rfl opB_lValue (opensFB_cons rfl opB_Period (opensFB_one rfl opB_Period))))
theorem opB_lVersion : OpensB Try.prog 87 (.list tVersion) := opensB_list Try.underlying87 (by kernel_rfl) (by decide) opB_Version
theorem opB_Table : OpensB Try.prog 89 tTable := opensB_struct Try.underlying89 (by kernel_rfl) (opensFB_cons rfl opB_Schema (opensFB_one rfl opB_lVersion))
theorem opB_lTable : OpensB Try.prog 40 (.list tTable) := opensB_list Try.underlying40 (by kernel_rfl) (by decide) opB_Table
theorem opB_lHold : OpensB Try.prog 41 (.list tHold) := opensB_list Try.underlying41 (by kernel_rfl) (by decide) opB_Hold
theorem opB_Row : OpensB Try.prog 115 tRow := opensB_struct Try.underlying115 (by kernel_rfl) (opensFB_cons rfl opB_lValue (opensFB_one rfl opB_ints))
theorem opB_lRow : OpensB Try.prog 91 (.list tRow) := opensB_list Try.underlying91 (by kernel_rfl) (by decide) opB_Row
theorem opB_Citation : OpensB Try.prog 93 tCitation := opensB_struct Try.underlying93 (by kernel_rfl) (opensFB_cons rfl opB_int (opensFB_cons rfl opB_Request (opensFB_one rfl opB_lRow)))
theorem opB_lCitation : OpensB Try.prog 42 (.list tCitation) := opensB_list Try.underlying42 (by kernel_rfl) (by decide) opB_Citation
theorem opB_Database : OpensB Try.prog 44 tDatabase := opensB_struct Try.underlying44 (by kernel_rfl) (opensFB_cons rfl opB_int (opensFB_cons rfl opB_int (opensFB_cons rfl opB_lTable (opensFB_cons rfl opB_int (opensFB_cons rfl opB_lHold (opensFB_one rfl opB_lCitation))))))
end Go.Proofs.Ytfppjpmflpaffaa
