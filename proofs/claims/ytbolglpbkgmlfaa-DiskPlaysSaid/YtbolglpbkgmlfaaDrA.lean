/-
  The reference's disk in memory.
-/
import Derived.Test.YtbolglpbkgmlfaaDkO
namespace Go.Proofs.Ytbolglpbkgmlfaa
open Go.RowKit Go.Maps
set_option linter.unusedVariables false

/-- The reference's blocks: the struct's, those of Stable, Buffer, Wait. -/
structure RB where
  rb : Nat
  ss : Nat
  bs : Nat
  ws : Nat

def RB.has (R : RB) (n : Nat) (b : Nat) : Prop := b = R.rb ∨ (0 < n ∧ (b = R.ss ∨ b = R.bs ∨ b = R.ws))

abbrev RB.ptr (R : RB) : Value := .pointer (some ⟨R.rb, 0, none⟩)

/-- A payload that nobody writes. -/
def Pay (w : World) (R : RB) (n : Nat) (Bad : Nat → Prop) (v : Value) (l : Page) : Prop :=
  l.length = 128 ∧ ∃ b off c, v = .slice (some ⟨b, off, none⟩) 128 c ∧ 128 ≤ c ∧ b < w.heap.size ∧ ¬ R.has n b ∧ ¬ Bad b ∧ w.rangeAt b off (pc l)

structure IsRef (w : World) (R : RB) (d : DK) (Bad : Nat → Prop) : Prop where
  ok : d.Ok
  a1 : 0 < d.st.length → R.rb ≠ R.ss ∧ R.rb ≠ R.bs ∧ R.rb ≠ R.ws ∧ R.ss ≠ R.bs ∧ R.ss ≠ R.ws ∧ R.bs ≠ R.ws
  good : ∀ b, R.has d.st.length b → b < w.heap.size ∧ ¬ Bad b
  hs : ∃ a c, w.cell? ⟨R.rb, 0, none⟩ = some (.slice a d.st.length c) ∧ (0 < d.st.length → a = some ⟨R.ss, 0, none⟩)
  hb : ∃ a c, w.cell? ⟨R.rb, 1, none⟩ = some (.slice a d.st.length c) ∧ (0 < d.st.length → a = some ⟨R.bs, 0, none⟩)
  hw : ∃ a c, w.cell? ⟨R.rb, 2, none⟩ = some (.slice a d.st.length c) ∧ (0 < d.st.length → a = some ⟨R.ws, 0, none⟩)
  hd : w.cell? ⟨R.rb, 3, none⟩ = some (.bool d.down)
  hf : w.cell? ⟨R.rb, 4, none⟩ = some (.int .i64 (d.fuse : Int))
  fr : ∀ j, w.frozen? ⟨R.rb, j, none⟩ = false
  fs : 0 < d.st.length → ∀ j, w.frozen? ⟨R.ss, j, none⟩ = false ∧ w.frozen? ⟨R.bs, j, none⟩ = false ∧ w.frozen? ⟨R.ws, j, none⟩ = false
  st : ∀ (i : Nat) q, d.st[i]? = some q → ∃ v, w.cell? ⟨R.ss, i, none⟩ = some v ∧ Pay w R d.st.length Bad v q
  bf : ∀ i, i < d.st.length → ∃ v, w.cell? ⟨R.bs, i, none⟩ = some v ∧ ∀ p, d.buf i = some p → Pay w R d.st.length Bad v p
  wt : ∀ i, i < d.st.length → w.cell? ⟨R.ws, i, none⟩ = some (.bool (d.buf i).isSome)

section
variable {w w' : World} {R : RB} {d : DK} {Bad : Nat → Prop} {n : Nat}

theorem Pay.keep {v : Value} {l : Page} (h : Pay w R n Bad v l) {F : Nat → Prop} (hc : Chg F w w') (hF : ∀ b, F b → R.has n b ∨ Bad b ∨ w.heap.size ≤ b) : Pay w' R n Bad v l := by
  obtain ⟨hl, b, off, c, e, hc1, hb, h1, h2, hr⟩ := h
  refine ⟨hl, b, off, c, e, hc1, Nat.lt_of_lt_of_le hb hc.size, h1, h2, fun j u hu => (hc.cell (a := ⟨b, off + j, none⟩) ?_ hb).trans (hr j u hu)⟩
  intro hf
  rcases hF b hf with h | h | h
  · exact h1 h
  · exact h2 h
  · omega

theorem Pay.data {v : Value} {l : Page} (h : Pay w R n Bad v l) : Data w v l := by
  obtain ⟨hl, b, off, c, rfl, hc1, hb, _, _, hr⟩ := h
  exact data_of_range hr hb (by omega) hc1

theorem IsRef.rb_lt (h : IsRef w R d Bad) : R.rb < w.heap.size := (h.good _ (.inl rfl)).1

/-- Nothing of the reference's has turned. -/
theorem IsRef.keep (h : IsRef w R d Bad) {F : Nat → Prop} (hc : Chg F w w') (hF : ∀ b, F b → Bad b ∨ w.heap.size ≤ b) : IsRef w' R d Bad := by
  have hno : ∀ b, R.has d.st.length b → ¬ F b := fun b hb hf => by
    have := h.good b hb
    rcases hF b hf with h1 | h1
    · exact this.2 h1
    · omega
  have c : ∀ b, R.has d.st.length b → ∀ j, w'.cell? ⟨b, j, none⟩ = w.cell? ⟨b, j, none⟩ := fun b hb j => hc.cell (a := ⟨b, j, none⟩) (hno b hb) (h.good b hb).1
  have f : ∀ b, R.has d.st.length b → ∀ j, w'.frozen? ⟨b, j, none⟩ = w.frozen? ⟨b, j, none⟩ := fun b hb j => hc.frozen (a := ⟨b, j, none⟩) (hno b hb) (h.good b hb).1
  have hr : R.has d.st.length R.rb := .inl rfl
  have hs : 0 < d.st.length → R.has d.st.length R.ss := fun hn => .inr ⟨hn, .inl rfl⟩
  have hb : 0 < d.st.length → R.has d.st.length R.bs := fun hn => .inr ⟨hn, .inr (.inl rfl)⟩
  have hw : 0 < d.st.length → R.has d.st.length R.ws := fun hn => .inr ⟨hn, .inr (.inr rfl)⟩
  have hFP : ∀ b, F b → R.has d.st.length b ∨ Bad b ∨ w.heap.size ≤ b := fun b hb => .inr (hF b hb)
  refine ⟨h.ok, h.a1, fun b hb => ⟨Nat.lt_of_lt_of_le (h.good b hb).1 hc.size, (h.good b hb).2⟩, ?_, ?_, ?_, ?_, ?_, fun j => (f _ hr j).trans (h.fr j), fun hn j => ?_, fun i q hq => ?_, fun i hi => ?_, fun i hi => ?_⟩
  · rw [c _ hr]; exact h.hs
  · rw [c _ hr]; exact h.hb
  · rw [c _ hr]; exact h.hw
  · rw [c _ hr]; exact h.hd
  · rw [c _ hr]; exact h.hf
  · rw [f _ (hs hn), f _ (hb hn), f _ (hw hn)]; exact h.fs hn j
  · have hn : 0 < d.st.length := by have := (List.getElem?_eq_some_iff.1 hq).1; omega
    obtain ⟨v, h1, h2⟩ := h.st i q hq
    exact ⟨v, (c _ (hs hn) i).trans h1, h2.keep hc hFP⟩
  · have hn : 0 < d.st.length := by omega
    obtain ⟨v, h1, h2⟩ := h.bf i hi
    exact ⟨v, (c _ (hb hn) i).trans h1, fun p hp => (h2 p hp).keep hc hFP⟩
  · have hn : 0 < d.st.length := by omega
    exact (c _ (hw hn) i).trans (h.wt i hi)

theorem IsRef.below (h : IsRef w R d Bad) (hb : Below w.heap.size w w') : IsRef w' R d Bad := h.keep (F := fun _ => False) (Chg.of_below hb) (fun _ h => h.elim)

/-- Other blocks are shunned. -/
theorem IsRef.rebad (h : IsRef w R d Bad) {Bad' : Nat → Prop} (hB : ∀ b, b < w.heap.size → Bad' b → Bad b) : IsRef w R d Bad' := by
  have pay : ∀ v l, Pay w R d.st.length Bad v l → Pay w R d.st.length Bad' v l := fun v l ⟨hl, b, off, c, e, hc1, hb, h1, h2, hr⟩ => ⟨hl, b, off, c, e, hc1, hb, h1, fun h3 => h2 (hB b hb h3), hr⟩
  exact ⟨h.ok, h.a1, fun b hb => ⟨(h.good b hb).1, fun h3 => (h.good b hb).2 (hB b (h.good b hb).1 h3)⟩, h.hs, h.hb, h.hw, h.hd, h.hf, h.fr, h.fs,
    fun i q hq => (h.st i q hq).imp fun v hv => ⟨hv.1, pay _ _ hv.2⟩, fun i hi => (h.bf i hi).imp fun v hv => ⟨hv.1, fun p hp => pay _ _ (hv.2 p hp)⟩, h.wt⟩

/-- A cell of the struct is written that is no slice. -/
theorem IsRef.setRb (h : IsRef w R d Bad) (j : Nat) (u : Value) : Chg (R.has d.st.length) w (w.setCell ⟨R.rb, j, none⟩ u) := Chg.setCell _ _ (.inl rfl)

theorem Pay.own {v : Value} {l : Page} (h : Pay w R n Bad v l) {b : Nat} (hb : R.has n b) (j : Nat) (u : Value) : Pay (w.setCell ⟨b, j, none⟩ u) R n Bad v l :=
  h.keep (F := fun x => x = b) (Chg.setCell _ _ rfl) (fun x hx => .inl (by subst hx; exact hb))

theorem IsRef.setDown (h : IsRef w R d Bad) (b : Bool) : IsRef (w.setCell ⟨R.rb, 3, none⟩ (.bool b)) R { d with down := b } Bad := by
  have hr : R.has d.st.length R.rb := .inl rfl
  have far : ∀ g, R.rb ≠ g → ∀ j, (w.setCell ⟨R.rb, 3, none⟩ (.bool b)).cell? ⟨g, j, none⟩ = w.cell? ⟨g, j, none⟩ := fun g hg j => World.cell?_setCell_other _ _ _ _ (by first | (simp; done) | (simp; intro e; exact absurd e hg))
  refine ⟨⟨h.ok.pages, h.ok.inside, h.ok.few, h.ok.fuse⟩, h.a1, fun x hx => ⟨by simpa using (h.good x hx).1, (h.good x hx).2⟩, ?_, ?_, ?_, ?_, ?_, fun j => ?_, fun hn j => ?_, fun i q hq => ?_, fun i hi => ?_, fun i hi => ?_⟩
  · rw [World.cell?_setCell_other _ _ _ _ (by simp)]; exact h.hs
  · rw [World.cell?_setCell_other _ _ _ _ (by simp)]; exact h.hb
  · rw [World.cell?_setCell_other _ _ _ _ (by simp)]; exact h.hw
  · rw [World.cell?_setCell_same _ _ _ h.hd]
  · rw [World.cell?_setCell_other _ _ _ _ (by simp)]; exact h.hf
  · rw [World.frozen?_setCell]; exact h.fr j
  · simp only [World.frozen?_setCell]; exact h.fs hn j
  · have hn : 0 < d.st.length := Nat.lt_of_le_of_lt (Nat.zero_le _) (List.getElem?_eq_some_iff.1 hq).1
    obtain ⟨v, h1, h2⟩ := h.st i q hq
    exact ⟨v, (far _ (h.a1 hn).1 i).trans h1, h2.own hr _ _⟩
  · obtain ⟨v, h1, h2⟩ := h.bf i hi
    exact ⟨v, (far _ (h.a1 (Nat.lt_of_le_of_lt (Nat.zero_le _) hi)).2.1 i).trans h1, fun p hp => (h2 p hp).own hr _ _⟩
  · exact (far _ (h.a1 (Nat.lt_of_le_of_lt (Nat.zero_le _) hi)).2.2.1 i).trans (h.wt i hi)

theorem IsRef.setFuse (h : IsRef w R d Bad) {m : Nat} (hm : (Lit.int .i64 (m : Int)).wf = true) : IsRef (w.setCell ⟨R.rb, 4, none⟩ (.int .i64 (m : Int))) R { d with fuse := m } Bad := by
  have hr : R.has d.st.length R.rb := .inl rfl
  have far : ∀ g, R.rb ≠ g → ∀ j, (w.setCell ⟨R.rb, 4, none⟩ (.int .i64 (m : Int))).cell? ⟨g, j, none⟩ = w.cell? ⟨g, j, none⟩ := fun g hg j => World.cell?_setCell_other _ _ _ _ (by first | (simp; done) | (simp; intro e; exact absurd e hg))
  refine ⟨⟨h.ok.pages, h.ok.inside, h.ok.few, hm⟩, h.a1, fun x hx => ⟨by simpa using (h.good x hx).1, (h.good x hx).2⟩, ?_, ?_, ?_, ?_, ?_, fun j => ?_, fun hn j => ?_, fun i q hq => ?_, fun i hi => ?_, fun i hi => ?_⟩
  · rw [World.cell?_setCell_other _ _ _ _ (by simp)]; exact h.hs
  · rw [World.cell?_setCell_other _ _ _ _ (by simp)]; exact h.hb
  · rw [World.cell?_setCell_other _ _ _ _ (by simp)]; exact h.hw
  · rw [World.cell?_setCell_other _ _ _ _ (by simp)]; exact h.hd
  · rw [World.cell?_setCell_same _ _ _ h.hf]
  · rw [World.frozen?_setCell]; exact h.fr j
  · simp only [World.frozen?_setCell]; exact h.fs hn j
  · have hn : 0 < d.st.length := Nat.lt_of_le_of_lt (Nat.zero_le _) (List.getElem?_eq_some_iff.1 hq).1
    obtain ⟨v, h1, h2⟩ := h.st i q hq
    exact ⟨v, (far _ (h.a1 hn).1 i).trans h1, h2.own hr _ _⟩
  · obtain ⟨v, h1, h2⟩ := h.bf i hi
    exact ⟨v, (far _ (h.a1 (Nat.lt_of_le_of_lt (Nat.zero_le _) hi)).2.1 i).trans h1, fun p hp => (h2 p hp).own hr _ _⟩
  · exact (far _ (h.a1 (Nat.lt_of_le_of_lt (Nat.zero_le _) hi)).2.2.1 i).trans (h.wt i hi)

theorem cell_set_same {g i j : Nat} {u v : Value} (h : w.cell? ⟨g, i, none⟩ = some v) : (w.setCell ⟨g, i, none⟩ u).cell? ⟨g, j, none⟩ = if j = i then some u else w.cell? ⟨g, j, none⟩ := by
  by_cases e : j = i
  · subst e; rw [if_pos rfl, World.cell?_setCell_same _ _ _ h]
  · rw [if_neg e, World.cell?_setCell_other _ _ _ _ (by first | (simp; done) | (simp; omega))]

theorem cell_set_far {g g' i j : Nat} {u : Value} (h : g ≠ g') : (w.setCell ⟨g, i, none⟩ u).cell? ⟨g', j, none⟩ = w.cell? ⟨g', j, none⟩ := World.cell?_setCell_other _ _ _ _ (by first | (simp; done) | (simp; intro e; exact absurd e h))

/-- Stable[i] is written. -/
theorem IsRef.setStable (h : IsRef w R d Bad) {i : Nat} {v : Value} {q : Page} (hi : i < d.st.length) (hv : Pay w R d.st.length Bad v q) : IsRef (w.setCell ⟨R.ss, i, none⟩ v) R { d with st := d.st.set i q } Bad := by
  have hn : 0 < d.st.length := by omega
  obtain ⟨x1, x2, x3, x4, x5, x6⟩ := h.a1 hn
  have hss : R.has d.st.length R.ss := .inr ⟨hn, .inl rfl⟩
  have hlen : (d.st.set i q).length = d.st.length := List.length_set
  refine ⟨⟨fun p hp => ?_, fun j p hp => ?_, by simpa using h.ok.few, h.ok.fuse⟩, fun _ => h.a1 hn, fun x hx => ⟨?_, ?_⟩, ?_, ?_, ?_, ?_, ?_, fun j => ?_, fun _ j => ?_, fun j p hp => ?_, fun j hj => ?_, fun j hj => ?_⟩
  · rcases List.mem_or_eq_of_mem_set hp with h1 | rfl
    · exact h.ok.pages p h1
    · exact hv.1
  · have := h.ok.inside j p hp
    exact ⟨by simpa using this.1, this.2⟩
  · rw [hlen] at hx; simpa using (h.good x hx).1
  · rw [hlen] at hx; exact (h.good x hx).2
  · rw [hlen, cell_set_far (fun e => x1 e.symm)]; exact h.hs
  · rw [hlen, cell_set_far (fun e => x1 e.symm)]; exact h.hb
  · rw [hlen, cell_set_far (fun e => x1 e.symm)]; exact h.hw
  · rw [cell_set_far (fun e => x1 e.symm)]; exact h.hd
  · rw [cell_set_far (fun e => x1 e.symm)]; exact h.hf
  · rw [World.frozen?_setCell]; exact h.fr j
  · simp only [World.frozen?_setCell]; exact h.fs hn j
  · obtain ⟨v0, h0, _⟩ := h.st i _ (List.getElem?_eq_getElem hi)
    rw [cell_set_same h0, hlen]
    by_cases e : j = i
    · subst e
      rw [List.getElem?_set_self hi] at hp
      cases hp
      rw [if_pos rfl]
      exact ⟨v, rfl, hv.own hss _ _⟩
    · rw [List.getElem?_set_ne (fun e1 => e e1.symm)] at hp
      rw [if_neg e]
      obtain ⟨v1, h1, h2⟩ := h.st j p hp
      exact ⟨v1, h1, h2.own hss _ _⟩
  · rw [hlen] at hj ⊢
    obtain ⟨v1, h1, h2⟩ := h.bf j hj
    rw [cell_set_far x4]
    exact ⟨v1, h1, fun p hp => (h2 p hp).own hss _ _⟩
  · rw [hlen] at hj
    rw [cell_set_far x5]
    exact h.wt j hj

/-- Buffer[i] and Wait[i] are written. -/
theorem IsRef.setBuf (h : IsRef w R d Bad) {i : Nat} {v : Value} {q : Page} (hi : i < d.st.length) (hv : Pay w R d.st.length Bad v q) :
    IsRef ((w.setCell ⟨R.bs, i, none⟩ v).setCell ⟨R.ws, i, none⟩ (.bool true)) R { d with buf := fun j => if j = i then some q else d.buf j } Bad := by
  have hn : 0 < d.st.length := by omega
  obtain ⟨x1, x2, x3, x4, x5, x6⟩ := h.a1 hn
  have hbs : R.has d.st.length R.bs := .inr ⟨hn, .inr (.inl rfl)⟩
  have hws : R.has d.st.length R.ws := .inr ⟨hn, .inr (.inr rfl)⟩
  have far : ∀ g, R.bs ≠ g → R.ws ≠ g → ∀ j, ((w.setCell ⟨R.bs, i, none⟩ v).setCell ⟨R.ws, i, none⟩ (.bool true)).cell? ⟨g, j, none⟩ = w.cell? ⟨g, j, none⟩ := fun g h1 h2 j => by rw [cell_set_far h2, cell_set_far h1]
  refine ⟨⟨h.ok.pages, fun j p hp => ?_, h.ok.few, h.ok.fuse⟩, fun _ => h.a1 hn, fun x hx => ⟨by simpa using (h.good x hx).1, (h.good x hx).2⟩, ?_, ?_, ?_, ?_, ?_, fun j => ?_, fun _ j => ?_, fun j p hp => ?_, fun j hj => ?_, fun j hj => ?_⟩
  · by_cases e : j = i
    · subst e
      have : p = q := by simpa using hp.symm
      subst this
      exact ⟨hi, hv.1⟩
    · exact h.ok.inside j p (by simpa [e] using hp)
  · rw [far _ (fun e => x2 e.symm) (fun e => x3 e.symm)]; exact h.hs
  · rw [far _ (fun e => x2 e.symm) (fun e => x3 e.symm)]; exact h.hb
  · rw [far _ (fun e => x2 e.symm) (fun e => x3 e.symm)]; exact h.hw
  · rw [far _ (fun e => x2 e.symm) (fun e => x3 e.symm)]; exact h.hd
  · rw [far _ (fun e => x2 e.symm) (fun e => x3 e.symm)]; exact h.hf
  · simp only [World.frozen?_setCell]; exact h.fr j
  · simp only [World.frozen?_setCell]; exact h.fs hn j
  · obtain ⟨v1, h1, h2⟩ := h.st j p hp
    exact ⟨v1, (far _ (fun e => x4 e.symm) (fun e => x5 e.symm) j).trans h1, (h2.own hbs _ _).own hws _ _⟩
  · obtain ⟨v1, h1, h2⟩ := h.bf j hj
    obtain ⟨v0, h0, _⟩ := h.bf i hi
    rw [cell_set_far (fun e => x6 e.symm), cell_set_same h0]
    by_cases e : j = i
    · subst e
      rw [if_pos rfl]
      refine ⟨v, rfl, fun p hp => ?_⟩
      have : p = q := by simpa using hp.symm
      subst this
      exact (hv.own hbs _ _).own hws _ _
    · rw [if_neg e]
      exact ⟨v1, h1, fun p hp => ((h2 p (by simpa [e] using hp)).own hbs _ _).own hws _ _⟩
  · have h0 : (w.setCell ⟨R.bs, i, none⟩ v).cell? ⟨R.ws, i, none⟩ = some (.bool (d.buf i).isSome) := (cell_set_far x6).trans (h.wt i hi)
    rw [cell_set_same h0]
    by_cases e : j = i
    · subst e; simp
    · rw [if_neg e, cell_set_far x6, h.wt j hj]; simp [e]

/-- Wait[i] is cleared. -/
theorem IsRef.noBuf (h : IsRef w R d Bad) {i : Nat} (hi : i < d.st.length) : IsRef (w.setCell ⟨R.ws, i, none⟩ (.bool false)) R { d with buf := fun j => if j = i then none else d.buf j } Bad := by
  have hn : 0 < d.st.length := by omega
  obtain ⟨x1, x2, x3, x4, x5, x6⟩ := h.a1 hn
  have hws : R.has d.st.length R.ws := .inr ⟨hn, .inr (.inr rfl)⟩
  refine ⟨⟨h.ok.pages, fun j p hp => ?_, h.ok.few, h.ok.fuse⟩, fun _ => h.a1 hn, fun x hx => ⟨by simpa using (h.good x hx).1, (h.good x hx).2⟩, ?_, ?_, ?_, ?_, ?_, fun j => ?_, fun _ j => ?_, fun j p hp => ?_, fun j hj => ?_, fun j hj => ?_⟩
  · by_cases e : j = i
    · simp [e] at hp
    · exact h.ok.inside j p (by simpa [e] using hp)
  · rw [cell_set_far (fun e => x3 e.symm)]; exact h.hs
  · rw [cell_set_far (fun e => x3 e.symm)]; exact h.hb
  · rw [cell_set_far (fun e => x3 e.symm)]; exact h.hw
  · rw [cell_set_far (fun e => x3 e.symm)]; exact h.hd
  · rw [cell_set_far (fun e => x3 e.symm)]; exact h.hf
  · simp only [World.frozen?_setCell]; exact h.fr j
  · simp only [World.frozen?_setCell]; exact h.fs hn j
  · obtain ⟨v1, h1, h2⟩ := h.st j p hp
    exact ⟨v1, (cell_set_far (fun e => x5 e.symm)).trans h1, h2.own hws _ _⟩
  · obtain ⟨v1, h1, h2⟩ := h.bf j hj
    refine ⟨v1, (cell_set_far (fun e => x6 e.symm)).trans h1, fun p hp => ?_⟩
    by_cases e : j = i
    · simp [e] at hp
    · exact (h2 p (by simpa [e] using hp)).own hws _ _
  · rw [cell_set_same (h.wt i hi)]
    by_cases e : j = i
    · subst e; simp
    · rw [if_neg e, h.wt j hj]; simp [e]

/-- What a call comes to that turns nothing but the reference's disk. -/
def RTurns (R : RB) (Bad : Nat → Prop) (w w' : World) (d d' : DK) : Prop := IsRef w' R d' Bad ∧ Chg (R.has d.st.length) w w' ∧ d'.st.length = d.st.length

end

end Go.Proofs.Ytbolglpbkgmlfaa
