/-
  Readers: what Go data of any depth (numbers, texts, structs, slices, arrays) read as; that it stays; that an argument has a reading. No program in sight.
-/
import Derived.Test.YtfppjpmflpaffaaGreatMem
import Derived.Deep.Slices
import Derived.ChangeArms
namespace Go.Proofs.YtfppjpmflpaffaaGreat
open Go.RowKit Go.ChangeShapes Go.WideShapes

/-- The blocks of F are in w' as they are in w. -/
def Kept (F : Nat → Prop) (w w' : World) : Prop := ∀ b, F b → b < w.heap.size → w'.heap[b]? = w.heap[b]?

theorem Kept.of_below {F : Nat → Prop} {B : Nat} {w w' : World} (h : Below B w w') (hF : ∀ b, F b → b < B) : Kept F w w' := fun b hb _ => h.block b (hF b hb)
theorem Kept.refl (F : Nat → Prop) (w : World) : Kept F w w := fun _ _ _ => rfl

/-- A reading: how many cells; what they read as, through the blocks of F. -/
structure Rd (α : Type) where
  size : Nat
  rd : World → (Nat → Prop) → List Value → α → Prop
  len : ∀ {w F cs a}, rd w F cs a → cs.length = size
  keep : ∀ {w w' F cs a}, Kept F w w' → w.heap.size ≤ w'.heap.size → rd w F cs a → rd w' F cs a
  more : ∀ {w F G cs a}, (∀ b, F b → G b) → rd w F cs a → rd w G cs a

def rInt (k : IntKind) : Rd Int where
  size := 1
  rd := fun _ _ cs n => cs = [.int k n] ∧ (Lit.int k n).wf = true
  len := by rintro _ _ _ _ ⟨rfl, _⟩; rfl
  keep := fun _ _ h => h
  more := fun _ h => h

def rBool : Rd Bool where
  size := 1
  rd := fun _ _ cs n => cs = [.bool n]
  len := by rintro _ _ _ _ rfl; rfl
  keep := fun _ _ h => h
  more := fun _ h => h

def rStr : Rd ByteArray where
  size := 1
  rd := fun _ _ cs s => cs = [.string s] ∧ s.size ≤ maxLen
  len := by rintro _ _ _ _ ⟨rfl, _⟩; rfl
  keep := fun _ _ h => h
  more := fun _ h => h

def rPair {α β : Type} (A : Rd α) (B : Rd β) : Rd (α × β) where
  size := A.size + B.size
  rd := fun w F cs x => ∃ u v, cs = u ++ v ∧ A.rd w F u x.1 ∧ B.rd w F v x.2
  len := by
    rintro w F cs x ⟨u, v, rfl, h1, h2⟩
    rw [List.length_append, A.len h1, B.len h2]
  keep := fun hk hs ⟨u, v, e, h1, h2⟩ => ⟨u, v, e, A.keep hk hs h1, B.keep hk hs h2⟩
  more := fun hF ⟨u, v, e, h1, h2⟩ => ⟨u, v, e, A.more hF h1, B.more hF h2⟩

def rVia {α β : Type} (R : Rd α) (f : β → α) : Rd β where
  size := R.size
  rd := fun w F cs b => R.rd w F cs (f b)
  len := fun h => R.len h
  keep := fun hk hs h => R.keep hk hs h
  more := fun hF h => R.more hF h

/-- So many cells from an address on. -/
def At (w : World) (b off : Nat) (cs : List Value) : Prop := ∀ j u, cs[j]? = some u → w.cell? ⟨b, off + j, none⟩ = some u

theorem At.keep {F : Nat → Prop} {w w' : World} {b off : Nat} {cs : List Value} (h : At w b off cs) (hk : Kept F w w') (hb : F b) (hl : b < w.heap.size) : At w' b off cs :=
  fun j u hu => (World.cell?_of_block (w := w) (w' := w') (a := ⟨b, off + j, none⟩) (hk b hb hl)).trans (h j u hu)

def rSlice {α : Type} (R : Rd α) : Rd (List α) where
  size := 1
  rd := fun w F cs l => ∃ a n c, cs = [.slice a n c] ∧ n = l.length ∧ n ≤ c ∧ c ≤ maxLen ∧
    (n = 0 ∨ ∃ b off, a = some ⟨b, off, none⟩ ∧ F b ∧ b < w.heap.size ∧ ∀ (i : Nat) (x : α), l[i]? = some x → ∃ ys, At w b (off + i * R.size) ys ∧ R.rd w F ys x)
  len := by rintro _ _ _ _ ⟨a, n, c, rfl, _⟩; rfl
  keep := by
    rintro w w' F cs l hk hs ⟨a, n, c, rfl, h1, h2, h3, h4⟩
    refine ⟨a, n, c, rfl, h1, h2, h3, ?_⟩
    rcases h4 with h4 | ⟨b, off, e, hF, hb, h⟩
    · exact .inl h4
    · refine .inr ⟨b, off, e, hF, Nat.lt_of_lt_of_le hb hs, fun i x hx => ?_⟩
      obtain ⟨ys, hy, hr⟩ := h i x hx
      exact ⟨ys, hy.keep hk hF hb, R.keep hk hs hr⟩
  more := by
    rintro w F G cs l hG ⟨a, n, c, rfl, h1, h2, h3, h4⟩
    refine ⟨a, n, c, rfl, h1, h2, h3, ?_⟩
    rcases h4 with h4 | ⟨b, off, e, hF, hb, h⟩
    · exact .inl h4
    · refine .inr ⟨b, off, e, hG b hF, hb, fun i x hx => ?_⟩
      obtain ⟨ys, hy, hr⟩ := h i x hx
      exact ⟨ys, hy, R.more hG hr⟩

/-- n readings, one behind the other. -/
def rArr {α : Type} (R : Rd α) (n : Nat) : Rd (List α) where
  size := n * R.size
  rd := fun w F cs l => cs.length = n * R.size ∧ l.length = n ∧ ∀ i x, l[i]? = some x → R.rd w F ((cs.drop (i * R.size)).take R.size) x
  len := fun h => h.1
  keep := fun hk hs ⟨h1, h2, h3⟩ => ⟨h1, h2, fun i x hx => R.keep hk hs (h3 i x hx)⟩
  more := fun hF ⟨h1, h2, h3⟩ => ⟨h1, h2, fun i x hx => R.more hF (h3 i x hx)⟩

/-- Whatever reads as Go data of type t has this reading. -/
structure Opens {α : Type} (P : Program) (t : TypeId) (R : Rd α) : Prop where
  size : P.cellsOf t = R.size
  open_ : ∀ {H : Type} {enc : TypeId × Value → H} {w : World} {base : Nat} {spare : Nat → Bool} {held : Bool} {fuel : Nat} {cs : List Value} {x : DataW H × List MemPlace},
    DataW.trod enc P w base spare held fuel t cs = some x → ∃ a, R.rd w (· < w.heap.size) cs a

theorem opens_int {P : Program} {t : TypeId} {k : IntKind} (ht : P.underlying t = some (.int k)) (hc : P.cellsOf t = 1) : Opens P t (rInt k) :=
  ⟨hc, fun h => by obtain ⟨n, rfl, _, hw⟩ := DataW.trod_int ht h; exact ⟨n, rfl, hw⟩⟩

theorem opens_bool {P : Program} {t : TypeId} (ht : P.underlying t = some .bool) (hc : P.cellsOf t = 1) : Opens P t rBool :=
  ⟨hc, fun h => by obtain ⟨n, rfl, _⟩ := DataW.trod_bool ht h; exact ⟨n, rfl⟩⟩

theorem opens_str {P : Program} {t : TypeId} (ht : P.underlying t = some .string) (hc : P.cellsOf t = 1) : Opens P t rStr :=
  ⟨hc, fun h => by obtain ⟨s, rfl, _, hw⟩ := DataW.trod_string ht h; exact ⟨s, rfl, hw⟩⟩

theorem opens_via {α β : Type} {P : Program} {t : TypeId} {R : Rd α} (f : β → α) (hf : ∀ a, ∃ b, f b = a) (h : Opens P t R) : Opens P t (rVia R f) :=
  ⟨h.size, fun g => by
    obtain ⟨a, ha⟩ := h.open_ g
    obtain ⟨b, rfl⟩ := hf a
    exact ⟨b, ha⟩⟩

structure OpensF {α : Type} (P : Program) (l : List Field) (off : Nat) (R : Rd α) : Prop where
  open_ : ∀ {H : Type} {enc : TypeId × Value → H} {w : World} {base : Nat} {spare : Nat → Bool} {held : Bool} {fuel : Nat} {cs : List Value},
    (∀ f ∈ l, ∃ y, DataW.trod enc P w base spare held fuel f.type ((cs.drop f.offset).take (P.cellsOf f.type)) = some y) → ∃ a, R.rd w (· < w.heap.size) ((cs.drop off).take R.size) a

theorem opensF_one {α : Type} {P : Program} {f : Field} {off : Nat} {A : Rd α} (ho : f.offset = off) (h : Opens P f.type A) : OpensF P [f] off A :=
  ⟨fun g => by
    obtain ⟨y, hy⟩ := g f (by simp)
    rw [ho, h.size] at hy
    exact h.open_ hy⟩

theorem opensF_cons {α β : Type} {P : Program} {f : Field} {l : List Field} {off : Nat} {A : Rd α} {B : Rd β} (ho : f.offset = off) (h : Opens P f.type A) (hl : OpensF P l (off + A.size) B) : OpensF P (f :: l) off (rPair A B) :=
  ⟨fun {H enc w base spare held fuel cs} g => by
    obtain ⟨y, hy⟩ := g f (by simp)
    rw [ho, h.size] at hy
    obtain ⟨a, ha⟩ := h.open_ hy
    obtain ⟨b, hb⟩ := hl.open_ (fun f' hf' => g f' (by simp [hf']))
    refine ⟨(a, b), _, _, ?_, ha, hb⟩
    show List.take (A.size + B.size) (List.drop off cs) = _
    rw [List.take_add, List.drop_drop]⟩

theorem opens_struct {α : Type} {P : Program} {t : TypeId} {fs : Array Field} {R : Rd α} (ht : P.underlying t = some (.struct fs)) (hc : P.cellsOf t = R.size) (h : OpensF P fs.toList 0 R) : Opens P t R :=
  ⟨hc, fun {H enc w base spare held fuel cs x} g => by
    obtain ⟨xs, n, rfl, rfl, hlen, hl, hf⟩ := DataW.trod_struct ht g
    have := h.open_ (enc := enc) (w := w) (base := base) (spare := spare) (held := held) (fuel := n) (cs := cs) (fun f hf' => by
      obtain ⟨i, hi, he⟩ := List.getElem_of_mem hf'
      have h1 : fs[i]? = some f := by rw [← Array.getElem?_toList, List.getElem?_eq_getElem hi, he]
      have h2 : i < xs.length := by rw [hl]; simpa using hi
      exact ⟨xs[i], by rw [hf i f h1, List.getElem?_eq_getElem h2]⟩)
    rw [List.drop_zero, List.take_of_length_le (by rw [hlen, hc]; exact Nat.le_refl _)] at this
    exact this⟩

theorem addr_add_zero (a : Addr) : a.add 0 = a := by unfold Addr.add; rw [if_pos rfl]

theorem cells_at {w : World} {base : Nat} {a : Addr} {n : Nat} {cs : List Value} (h : w.cells? base a n = some cs) : cs.length = n ∧ ∀ j u, cs[j]? = some u → w.cell? (a.add j) = some u := by
  obtain ⟨_, hl, hc⟩ := World.cells?_some h
  refine ⟨hl, fun j u hu => ?_⟩
  rw [hc j (by have := (List.getElem?_eq_some_iff.1 hu).1; omega), hu]

theorem cell_spot {w : World} {a : Addr} {u : Value} (h : w.cell? a = some u) : a.spot = none ∧ a.block < w.heap.size := by
  unfold World.cell? at h
  split at h
  · rename_i c t f hb
    split at h
    · cases h
    · rename_i hs
      exact ⟨by simpa using hs, (Array.getElem?_eq_some_iff.1 hb).1⟩
  · cases h

theorem opens_slice {α : Type} {P : Program} {t e : TypeId} {R : Rd α} (ht : P.underlying t = some (.slice e)) (hc : P.cellsOf t = 1) (hpos : 0 < R.size) (h : Opens P e R) : Opens P t (rSlice R) :=
  ⟨hc, fun {H enc w base spare held fuel cs x} g => by
    rcases Go.Deep.open_slice ht g with ⟨rfl, _⟩ | ⟨a, len, cap, m, n, D, Pl, rfl, _, hlc, hcm, hm, _, hel⟩
    · exact ⟨[], none, 0, 0, rfl, rfl, Nat.le_refl _, Nat.zero_le _, .inl rfl⟩
    · have hlm : len ≤ m := by rw [hm]; split <;> omega
      have each : ∀ i, i < len → ∃ y : α, ∃ ys, ys.length = R.size ∧ (∀ j u, ys[j]? = some u → w.cell? ((a.add (i * R.size)).add j) = some u) ∧ R.rd w (· < w.heap.size) ys y := by
        intro i hi
        obtain ⟨ys, h1, h2⟩ := hel i (by omega)
        rw [h.size] at h1
        obtain ⟨q1, q2⟩ := cells_at h1
        obtain ⟨y, hy⟩ := h.open_ h2
        exact ⟨y, ys, q1, q2, hy⟩
      by_cases h0 : len = 0
      · exact ⟨[], some a, len, cap, rfl, h0, hlc, hcm, .inl h0⟩
      · obtain ⟨y0, ys0, l0, c0, _⟩ := each 0 (by omega)
        have hu : ys0[0]? = some (ys0[0]'(by omega)) := List.getElem?_eq_getElem (by omega)
        have hcell := c0 0 _ hu
        rw [Nat.zero_mul, addr_add_zero, addr_add_zero] at hcell
        obtain ⟨hs, hb⟩ := cell_spot hcell
        obtain ⟨b, off, sp⟩ := a
        obtain rfl : sp = none := hs
        have ha : ∀ k, (⟨b, off, none⟩ : Addr).add k = ⟨b, off + k, none⟩ := by
          intro k; unfold Addr.add
          by_cases hk : k = 0
          · subst hk; rw [if_pos rfl]; rfl
          · rw [if_neg hk]
        classical
        have : Nonempty α := ⟨y0⟩
        refine ⟨(List.range len).map fun i => if hi : i < len then (each i hi).choose else y0, some ⟨b, off, none⟩, len, cap, rfl, by simp, hlc, hcm, .inr ⟨b, off, rfl, hb, hb, ?_⟩⟩
        intro i x hx
        rw [List.getElem?_map] at hx
        have hi : i < len := by
          rcases Nat.lt_or_ge i len with hi | hi
          · exact hi
          · rw [List.getElem?_eq_none (by simpa using hi)] at hx; cases hx
        rw [List.getElem?_range hi] at hx
        simp only [Option.map_some, dif_pos hi, Option.some.injEq] at hx
        obtain ⟨ys, q1, q2, q3⟩ := (each i hi).choose_spec
        rw [hx] at q3
        refine ⟨ys, fun j u hju => ?_, q3⟩
        have := q2 j u hju
        rw [Go.Deep.add_add, ha] at this
        rw [Nat.add_assoc]; exact this⟩

end Go.Proofs.YtfppjpmflpaffaaGreat
