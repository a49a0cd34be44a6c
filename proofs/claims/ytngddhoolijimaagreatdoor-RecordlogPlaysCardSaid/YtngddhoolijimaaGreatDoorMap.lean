/-
  A map from ints to payloads; slices.Sort of a row of ints. No function's text but Sort's.
-/
import Derived.Test.YtngddhoolijimaaGreatDoorPfH
namespace Go.Proofs.YtngddhoolijimaaGreatDoor
open Go.RowKit Go.Maps Go.Shelf Go.Sort
set_option linter.unusedVariables false

/-- A payload of 100 bytes in block g, as a value. -/
def plv (g : Nat) : Value := .slice (some ⟨g, 0, none⟩) 100 100

open Classical in
/-- How a payload in a map reads: by its place. -/
noncomputable def plR (v : Value) : Option (DataW Unit × List MemPlace) :=
  if v = .slice none 0 0 then some (.nil, []) else match v with
  | .slice (some a) n c => if v = plv a.block then some (.lit (.int .i64 (a.block : Int)), []) else none
  | _ => none

theorem plR_mk (g : Nat) : plR (plv g) = some (.lit (.int .i64 (g : Int)), []) := by
  unfold plR
  rw [if_neg (by unfold plv; intro e; cases e)]
  simp [plv]

theorem plR_zero : plR (.slice none 0 0) = some (.nil, []) := by unfold plR; rw [if_pos rfl]

theorem plR_inv {v : Value} {z : DataW Unit × List MemPlace} (h : plR v = some z) : (v = .slice none 0 0 ∧ z = (.nil, [])) ∨ ∃ g, v = plv g ∧ z = (.lit (.int .i64 (g : Int)), []) := by
  unfold plR at h
  split at h
  · rename_i hv; cases h; exact .inl ⟨hv, rfl⟩
  · split at h
    · rename_i a n c
      split at h
      · rename_i hv; cases h; exact .inr ⟨_, hv, rfl⟩
      · cases h
    · cases h

/-- A map of payloads by number reads as this datum. -/
structure MapPl (D : DataW Unit) (m : Nat → Option Nat) : Prop where
  has : ∀ i : Nat, Maps.has D (.int .i64 (i : Int)) = (m i).isSome
  at_ : ∀ (i g : Nat) (z : DataW Unit), m i = some g → D.atKey (.int .i64 (i : Int)) z = .lit (.int .i64 (g : Int))

theorem mapPl_empty : MapPl (.map []) (fun _ => none) := ⟨fun _ => rfl, fun _ _ _ h => by cases h⟩

theorem MapPl.put {D : DataW Unit} {m : Nat → Option Nat} (h : MapPl D m) (hm : IsMap D) (i g : Nat) : MapPl (D.put (.int .i64 (i : Int)) (.lit (.int .i64 (g : Int)))) (fun j => if j = i then some g else m j) := by
  refine ⟨fun j => ?_, fun j q z hj => ?_⟩
  · by_cases e : j = i
    · subst e
      rw [has_put_same hm (isKey_int _), if_pos rfl]; rfl
    · rw [has_put_other (by intro e1; injection e1 with _ e1; omega), if_neg e]; exact h.has j
  · by_cases e : j = i
    · subst e
      rw [if_pos rfl] at hj; cases hj
      exact atKey_put_same hm (isKey_int _) _ _
    · rw [if_neg e] at hj
      rw [atKey_put_other (by intro e1; injection e1 with _ e1; omega)]
      exact h.at_ j q z hj

/-- What a look-up finds. -/
def plOr (o : Option Nat) : Value := match o with | some g => plv g | none => .slice none 0 0

theorem look_pl {P : Program} {w : World} {t k e : TypeId} {b n : Nat} {D : DataW Unit} {m : Nat → Option Nat} (hk : P.underlying k = some (.int .i64)) (ht : P.underlying t = some (.map k e)) (hz : (zeroValue e).run P w = .ok (.slice none 0 0) w)
    (hown : w.ownsMap P k plR b n D) (hof : MapPl D m) {i : Nat} (hw : (Lit.int .i64 (i : Int)).wf = true) :
    (Instr.lookup t (.map (some b)) (.int .i64 (i : Int)) true).run P w = .ok (.tuple #[plOr (m i), .bool (m i).isSome]) w ∧ (Instr.lookup t (.map (some b)) (.int .i64 (i : Int)) false).run P w = .ok (plOr (m i)) w := by
  have hkey := keyOf_int_mk (P := P) hk hw
  have key : ∀ (v : Value) (ps : List MemPlace), plR v = some (D.atKey (.int .i64 (i : Int)) .nil, ps) → v = plOr (m i) := by
    intro v ps hv
    cases hb : m i with
    | some g =>
      rw [hof.at_ i g _ hb] at hv
      rcases plR_inv hv with ⟨_, e⟩ | ⟨g', rfl, e⟩
      · simp at e
      · simp only [Prod.mk.injEq, DataW.lit.injEq, Lit.int.injEq, true_and] at e
        have : g = g' := by omega
        rw [this]; rfl
    | none =>
      have hh := hof.has i
      rw [hb] at hh
      rw [atKey_of_not_has hh] at hv
      rcases plR_inv hv with ⟨rfl, _⟩ | ⟨g', rfl, e⟩
      · rfl
      · simp at e
  constructor
  · obtain ⟨v, ps, hrun, hv⟩ := hown.look_ok (int_keyed hk) ht hz plR_zero hkey
    rw [hof.has, key v ps hv] at hrun
    exact hrun
  · obtain ⟨v, ps, hrun, hv⟩ := hown.lookup (int_keyed hk) ht hz plR_zero hkey
    rw [key v ps hv] at hrun
    exact hrun

theorem update_pl {P : Program} {w : World} {t k e : TypeId} {b n : Nat} {D : DataW Unit} {m : Nat → Option Nat} (hk : P.underlying k = some (.int .i64)) (ht : P.underlying t = some (.map k e))
    (hown : w.ownsMap P k plR b n D) (hof : MapPl D m) (hn : n < maxLen) {i : Nat} (hw : (Lit.int .i64 (i : Int)).wf = true) (g : Nat) :
    ∃ w', (Instr.mapUpdate t (.map (some b)) (.int .i64 (i : Int)) (plv g)).run P w = .ok () w' ∧ (∃ D', w'.ownsMap P k plR b (n + 1) D' ∧ MapPl D' (fun j => if j = i then some g else m j)) ∧ w.grownBy w' (some b) := by
  obtain ⟨w', h1, h2, h3⟩ := hown.update (int_keyed hk) ht hn (keyOf_int_mk hk hw) (plR_mk g)
  exact ⟨w', h1, ⟨_, h2, hof.put hown.isMap i g⟩, h3⟩

def srt (l : List Int) : List Int := l.mergeSort fun x y => decide (x ≤ y)
theorem srt_len (l : List Int) : (srt l).length = l.length := List.length_mergeSort l

theorem heap_mapBlock (w : World) (g : Nat) (f : Array Value → Array Value) (b : Nat) (h : b ≠ g) : (mapBlock w g f).heap[b]? = w.heap[b]? := by
  simp only [mapBlock, Array.getElem?_modify]
  rw [if_neg (fun e => h e.symm)]

theorem own_holds {w : World} {S g cap n : Nat} {t : TypeId} {l : List Int} (h : w.ownsRow S t 1 (.slice (some ⟨g, 0, none⟩) n cap) n (l.map (Value.int .i64))) : Go.Sort.Holds (Value.int .i64) w g 0 l.toArray := by
  intro j hj
  have hn : l.length = n := by have := h.1; simpa using this
  have hj' : j < l.length := by simpa using hj
  have hc : w.cell? ⟨g, j, none⟩ = (l.map (Value.int .i64))[j]? := h.cellAt j (by omega)
  refine ⟨?_, ?_⟩
  · rw [Nat.zero_add, hc, List.getElem?_map, List.getElem?_eq_getElem hj', getElem!_pos l.toArray j hj]
    rfl
  · rw [Nat.zero_add]
    exact h.frozenAt j

/-- Sorted ints that a slice shows. -/
def IntsAt (w : World) (v : Value) (l : List Int) : Prop := ∃ a c, v = .slice a l.length c ∧ ∀ j x, l[j]? = some x → ∃ g, a = some ⟨g, 0, none⟩ ∧ g < w.heap.size ∧ w.cell? ⟨g, j, none⟩ = some (.int .i64 x)

theorem sort_own (S : Nat) (v : Value) (l : List Int) (w : World) (h : w.ownsRow S 3 1 v l.length (l.map (Value.int .i64))) (hS : S ≤ w.heap.size) (hl : l.length ≤ 1000000) :
    Calls Tryz.prog 49 #[v] w fun e w' => e = .returned (.tuple #[]) ∧ Chg (fun b => v.ownBlock = some b) w w' ∧ IntsAt w' v (srt l) ∧ ∀ b cs t fr, v.ownBlock = some b → w.heap[b]? = some (.cells cs t fr) → ∃ cs, w'.heap[b]? = some (.cells cs t fr) := by
  by_cases hl0 : l = []
  · subst hl0
    obtain ⟨a, c, rfl⟩ := own_nil h
    exact (AnyM.slices_Sort_int_none Sh.sortA a c w).mono fun e w' ⟨h1, h2⟩ => by
      subst h2
      exact ⟨h1, Chg.refl _ _, ⟨a, c, by simp [srt], fun j x hx => by simp [srt] at hx⟩, fun b cs t fr hb hc => ⟨cs, hc⟩⟩
  · have hpos : 0 < l.length := List.length_pos_iff.2 hl0
    obtain ⟨g, cap, ⟨a, rfl, ha⟩, hgo⟩ := own_block h
    obtain rfl := ha hpos
    obtain ⟨hg, hgl, _, _, _⟩ := hgo hpos
    have hh := own_holds h
    refine (AnyM.slices_Sort_int Sh.sortA g 0 cap l w hh hgl (by omega)).mono ?_
    rintro e w' ⟨h1, n, os, h2⟩
    have hch : ∀ b, b < w.heap.size → b ≠ g → w'.heap[b]? = w.heap[b]? := fun b hb hne => by
      rw [h2, heap_grow_old _ _ (by simp [putRow, mapBlock, Sort.ahead]; exact hb)]
      exact (heap_mapBlock _ _ _ _ hne)
    refine ⟨h1, ⟨by rw [h2]; rfl, by rw [h2]; rfl, by rw [h2]; rfl, by rw [h2]; simp [putRow, mapBlock, Sort.ahead], fun b hb hF => hch b hb (fun e => hF (by rw [e]; rfl))⟩, ⟨_, cap, by rw [srt_len], fun j x hx => ⟨g, rfl, ?_, ?_⟩⟩, fun b cs t fr hb hc => ?_⟩
    · rw [h2]; simp [putRow, mapBlock, Sort.ahead]; omega
    · have hj : j < (srt l).length := (List.getElem?_eq_some_iff.1 hx).1
      have hd := holds_grow (Value.int .i64) (putRow (Value.int .i64) (Sort.ahead w n) g 0 (srt l).toArray) os g 0 (srt l).toArray (by simp [putRow, mapBlock, Sort.ahead]; exact hgl) (holds_putRow (Value.int .i64) _ _ _ l.toArray (srt l).toArray (holds_ahead _ _ n _ _ _ hh) (by simp [srt_len]))
      have := (hd j (by simpa using hj)).1
      rw [Nat.zero_add, getElem!_pos _ j (by simpa using hj)] at this
      rw [h2]
      simp only [List.getElem_toArray] at this
      rw [(List.getElem?_eq_some_iff.1 hx).2] at this
      exact this
    · simp only [Value.ownBlock, Option.some.injEq] at hb
      subst hb
      rw [h2, heap_grow_old _ _ (by simp [putRow, mapBlock, Sort.ahead]; exact hgl)]
      show ∃ cs, (mapBlock _ g _).heap[g]? = _
      simp only [mapBlock, Array.getElem?_modify, if_true]
      have : (Sort.ahead w n).heap[g]? = w.heap[g]? := rfl
      rw [this, hc]
      exact ⟨_, rfl⟩

end Go.Proofs.YtngddhoolijimaaGreatDoor
