/-
  A disk in memory; the laws of a map of pages at the operations. Nothing of a function's text.
-/
import Derived.Test.YtngddhoolijimaaGreatDoorDkM
namespace Go.Proofs.YtngddhoolijimaaGreatDoor
open Go.RowKit Go.Maps

/-- Nothing but the blocks of F has turned; new ones may have come. -/
structure Chg (F : Nat → Prop) (w w' : World) : Prop where
  os : w'.os = w.os
  tape : w'.tape = w.tape
  output : w'.output = w.output
  size : w.heap.size ≤ w'.heap.size
  block : ∀ b, b < w.heap.size → ¬ F b → w'.heap[b]? = w.heap[b]?

section
variable {F G : Nat → Prop} {w w' w'' : World}
theorem Chg.refl (F : Nat → Prop) (w : World) : Chg F w w := ⟨rfl, rfl, rfl, Nat.le_refl _, fun _ _ _ => rfl⟩
theorem Chg.trans (h : Chg F w w') (k : Chg F w' w'') : Chg F w w'' :=
  ⟨k.os.trans h.os, k.tape.trans h.tape, k.output.trans h.output, Nat.le_trans h.size k.size, fun b hb hF => (k.block b (Nat.lt_of_lt_of_le hb h.size) hF).trans (h.block b hb hF)⟩
theorem Chg.more (h : Chg F w w') (hG : ∀ b, b < w.heap.size → F b → G b) : Chg G w w' := ⟨h.os, h.tape, h.output, h.size, fun b hb hn => h.block b hb (fun hf => hn (hG b hb hf))⟩
theorem Chg.of_below (h : Below w.heap.size w w') : Chg F w w' := ⟨h.os, h.tape, h.output, h.size, fun b hb _ => h.block b hb⟩
theorem Chg.below (h : Chg F w w') {B : Nat} (hB : B ≤ w.heap.size) (hF : ∀ b, F b → B ≤ b) : Below B w w' := ⟨h.os, h.tape, h.output, h.size, fun b hb => h.block b (by omega) (fun hf => by have := hF b hf; omega)⟩
theorem Chg.setCell (a : Addr) (v : Value) (ha : F a.block) : Chg F w (w.setCell a v) :=
  ⟨rfl, rfl, rfl, by simp, fun b _ hF => RowKit.Below.heap_setCell _ _ _ _ (fun e => hF (by rw [e]; exact ha))⟩
theorem Chg.grown {row : Option Nat} (h : w.grownBy w' row) (hr : ∀ b, row = some b → F b) : Chg F w w' :=
  ⟨h.os, h.tape, h.output, h.size, fun b hb hF => h.block b hb (fun e => hF (hr b e.symm))⟩
theorem Chg.drewN (h : Chg F w w') (n : Nat) : Chg F w (w'.drewN n) := ⟨h.os, h.tape, h.output, h.size, h.block⟩
theorem Chg.cell (h : Chg F w w') {a : Addr} (ha : ¬ F a.block) (hl : a.block < w.heap.size) : w'.cell? a = w.cell? a := World.cell?_of_block (h.block _ hl ha)
theorem Chg.frozen (h : Chg F w w') {a : Addr} (ha : ¬ F a.block) (hl : a.block < w.heap.size) : w'.frozen? a = w.frozen? a := by
  unfold World.frozen?; rw [h.block _ hl ha]
end

theorem heap_setCells (b : Nat) : ∀ (vs : List Value) (o : Nat) (w : World) (j : Nat), j ≠ b → (w.setCells b o vs).heap[j]? = w.heap[j]?
  | [], _, _, _, _ => rfl
  | v :: r, o, w, j, h => by
    rw [World.setCells, heap_setCells b r (o + 1) _ j h]
    exact RowKit.Below.heap_setCell _ _ _ _ h

theorem setCells_same (b : Nat) : ∀ (vs : List Value) (o : Nat) (w : World), (w.setCells b o vs).os = w.os ∧ (w.setCells b o vs).tape = w.tape ∧ (w.setCells b o vs).output = w.output ∧ (w.setCells b o vs).heap.size = w.heap.size
  | [], _, _ => ⟨rfl, rfl, rfl, rfl⟩
  | v :: r, o, w => by
    rw [World.setCells]
    obtain ⟨h1, h2, h3, h4⟩ := setCells_same b r (o + 1) (w.setCell ⟨b, o, none⟩ v)
    exact ⟨h1, h2, h3, by rw [h4]; simp⟩

theorem Chg.setCells {F : Nat → Prop} {w : World} (b o : Nat) (vs : List Value) (hb : F b) : Chg F w (w.setCells b o vs) := by
  obtain ⟨h1, h2, h3, h4⟩ := setCells_same b vs o w
  exact ⟨h1, h2, h3, by rw [h4]; exact Nat.le_refl _, fun j _ hF => heap_setCells b vs o w j (fun e => hF (by rw [e]; exact hb))⟩

/-- A disk's blocks: the struct's, the pages', the map's. -/
structure DB where
  db : Nat
  sb : Nat
  mb : Nat

def DB.has (B : DB) (b : Nat) : Prop := b = B.db ∨ b = B.sb ∨ b = B.mb

abbrev kInt : TypeId := 3

/-- The stable pages in memory. -/
def Stable (w : World) (sb : Nat) (st : List Page) : Prop := sb < w.heap.size ∧ (∀ i p, st[i]? = some p → w.rangeAt sb (i * 128) (pc p)) ∧ w.there sb 0 (st.length * 128)

/-- The map in memory. -/
def Buffer (w : World) (mb : Nat) (buf : Nat → Option Page) : Prop := ∃ D n, w.ownsMap Tryz.prog kInt pageR mb n D ∧ MapOf D buf

structure IsDisk (w : World) (B : DB) (d : DK) : Prop where
  ok : d.Ok
  n1 : B.db ≠ B.sb
  n2 : B.db ≠ B.mb
  n3 : B.sb ≠ B.mb
  hs : ∃ c, w.cell? ⟨B.db, 0, none⟩ = some (.slice (some ⟨B.sb, 0, none⟩) d.st.length c) ∧ d.st.length ≤ c
  hm : w.cell? ⟨B.db, 1, none⟩ = some (.map (some B.mb))
  hd : w.cell? ⟨B.db, 2, none⟩ = some (.bool d.down)
  hf : w.cell? ⟨B.db, 3, none⟩ = some (.int .i64 (d.fuse : Int))
  fr : ∀ j, w.frozen? ⟨B.db, j, none⟩ = false
  pg : Stable w B.sb d.st
  mp : Buffer w B.mb d.buf

section
variable {w w' : World} {B : DB} {d : DK}

theorem IsDisk.lt (h : IsDisk w B d) : B.db < w.heap.size ∧ B.sb < w.heap.size ∧ B.mb < w.heap.size := by
  obtain ⟨D, n, ho, _⟩ := h.mp
  exact ⟨World.block_lt_of_cell? w _ h.hm, h.pg.1, ho.lt⟩

theorem Stable.keep {sb : Nat} {st : List Page} (h : Stable w sb st) {F : Nat → Prop} (hc : Chg F w w') (hF : ¬ F sb) : Stable w' sb st := by
  refine ⟨Nat.lt_of_lt_of_le h.1 hc.size, fun i p hp j u hu => (hc.cell (a := ⟨sb, i * 128 + j, none⟩) hF h.1).trans (h.2.1 i p hp j u hu), fun j hj => ?_⟩
  have e1 := hc.cell (a := ⟨sb, 0 + j, none⟩) hF h.1
  have e2 := hc.frozen (a := ⟨sb, 0 + j, none⟩) hF h.1
  rw [e1, e2]; exact h.2.2 j hj

theorem Buffer.keep {mb : Nat} {buf : Nat → Option Page} (h : Buffer w mb buf) {F : Nat → Prop} (hc : Chg F w w') (hF : ¬ F mb) : Buffer w' mb buf := by
  obtain ⟨D, n, ho, hm⟩ := h
  have hlt := ho.lt
  obtain ⟨es, clock, hb, rest⟩ := ho
  exact ⟨D, n, ⟨es, clock, (hc.block mb hlt hF).trans hb, rest⟩, hm⟩

theorem IsDisk.keep (h : IsDisk w B d) {F : Nat → Prop} (hc : Chg F w w') (hF : ∀ b, B.has b → ¬ F b) : IsDisk w' B d := by
  have hl := h.lt
  have c : ∀ j, w'.cell? ⟨B.db, j, none⟩ = w.cell? ⟨B.db, j, none⟩ := fun j => hc.cell (a := ⟨B.db, j, none⟩) (hF _ (.inl rfl)) hl.1
  refine ⟨h.ok, h.n1, h.n2, h.n3, ?_, ?_, ?_, ?_, fun j => ?_, h.pg.keep hc (hF _ (.inr (.inl rfl))), h.mp.keep hc (hF _ (.inr (.inr rfl)))⟩
  · rw [c]; exact h.hs
  · rw [c]; exact h.hm
  · rw [c]; exact h.hd
  · rw [c]; exact h.hf
  · exact (hc.frozen (a := ⟨B.db, j, none⟩) (hF _ (.inl rfl)) hl.1).trans (h.fr j)

theorem IsDisk.below (h : IsDisk w B d) (hb : Below w.heap.size w w') : IsDisk w' B d := h.keep (F := fun _ => False) (Chg.of_below hb) (fun _ _ h => h)

/-- Only the map has turned. -/
theorem IsDisk.newMap (h : IsDisk w B d) {buf : Nat → Option Page} (hc : Chg (fun b => b = B.mb) w w') (hm : Buffer w' B.mb buf) (hok : DK.Ok { d with buf := buf }) : IsDisk w' B { d with buf := buf } := by
  have hl := h.lt
  have c : ∀ j, w'.cell? ⟨B.db, j, none⟩ = w.cell? ⟨B.db, j, none⟩ := fun j => hc.cell (a := ⟨B.db, j, none⟩) h.n2 hl.1
  refine ⟨hok, h.n1, h.n2, h.n3, ?_, ?_, ?_, ?_, fun j => ?_, h.pg.keep hc h.n3, hm⟩
  · rw [c]; exact h.hs
  · rw [c]; exact h.hm
  · rw [c]; exact h.hd
  · rw [c]; exact h.hf
  · exact (hc.frozen (a := ⟨B.db, j, none⟩) h.n2 hl.1).trans (h.fr j)

/-- Only the pages have turned. -/
theorem IsDisk.newPages (h : IsDisk w B d) {st : List Page} (hc : Chg (fun b => b = B.sb) w w') (hlen : st.length = d.st.length) (hm : Stable w' B.sb st) (hok : DK.Ok { d with st := st }) : IsDisk w' B { d with st := st } := by
  have hl := h.lt
  have c : ∀ j, w'.cell? ⟨B.db, j, none⟩ = w.cell? ⟨B.db, j, none⟩ := fun j => hc.cell (a := ⟨B.db, j, none⟩) h.n1 hl.1
  refine ⟨hok, h.n1, h.n2, h.n3, ?_, ?_, ?_, ?_, fun j => ?_, hm, h.mp.keep hc (fun e => h.n3 e.symm)⟩
  · rw [c]
    show ∃ c, w.cell? ⟨B.db, 0, none⟩ = some (.slice (some ⟨B.sb, 0, none⟩) st.length c) ∧ st.length ≤ c
    rw [hlen]; exact h.hs
  · rw [c]; exact h.hm
  · rw [c]; exact h.hd
  · rw [c]; exact h.hf
  · exact (hc.frozen (a := ⟨B.db, j, none⟩) h.n1 hl.1).trans (h.fr j)

theorem IsDisk.setDown (h : IsDisk w B d) (b : Bool) : IsDisk (w.setCell ⟨B.db, 2, none⟩ (.bool b)) B { d with down := b } := by
  have hc : Chg (fun x => x = B.db) w (w.setCell ⟨B.db, 2, none⟩ (.bool b)) := Chg.setCell _ _ rfl
  refine ⟨⟨h.ok.pages, h.ok.inside, h.ok.few, h.ok.fuse⟩, h.n1, h.n2, h.n3, ?_, ?_, ?_, ?_, fun j => ?_, h.pg.keep hc (fun e => h.n1 e.symm), h.mp.keep hc (fun e => h.n2 e.symm)⟩
  · rw [World.cell?_setCell_other _ _ _ _ (by simp)]; exact h.hs
  · rw [World.cell?_setCell_other _ _ _ _ (by simp)]; exact h.hm
  · rw [World.cell?_setCell_same _ _ _ h.hd]
  · rw [World.cell?_setCell_other _ _ _ _ (by simp)]; exact h.hf
  · rw [World.frozen?_setCell]; exact h.fr j

theorem IsDisk.setFuse (h : IsDisk w B d) {n : Nat} (hn : (Lit.int .i64 (n : Int)).wf = true) : IsDisk (w.setCell ⟨B.db, 3, none⟩ (.int .i64 (n : Int))) B { d with fuse := n } := by
  have hc : Chg (fun x => x = B.db) w (w.setCell ⟨B.db, 3, none⟩ (.int .i64 (n : Int))) := Chg.setCell _ _ rfl
  refine ⟨⟨h.ok.pages, h.ok.inside, h.ok.few, hn⟩, h.n1, h.n2, h.n3, ?_, ?_, ?_, ?_, fun j => ?_, h.pg.keep hc (fun e => h.n1 e.symm), h.mp.keep hc (fun e => h.n2 e.symm)⟩
  · rw [World.cell?_setCell_other _ _ _ _ (by simp)]; exact h.hs
  · rw [World.cell?_setCell_other _ _ _ _ (by simp)]; exact h.hm
  · rw [World.cell?_setCell_other _ _ _ _ (by simp)]; exact h.hd
  · rw [World.cell?_setCell_same _ _ _ h.hf]
  · rw [World.frozen?_setCell]; exact h.fr j

/-- A page is stored. -/
theorem Stable.put {sb : Nat} {st : List Page} (h : Stable w sb st) (hp : ∀ q ∈ st, q.length = 128) {i : Nat} (hi : i < st.length) {p : Page} (hl : p.length = 128) : Stable (w.setCells sb (i * 128) (pc p)) sb (st.set i p) := by
  have hth : w.there sb (i * 128) (pc p).length := fun j hj => by
    rw [pc_len, hl] at hj
    have := h.2.2 (i * 128 + j) (by have : (i + 1) * 128 ≤ st.length * 128 := Nat.mul_le_mul_right _ (by omega)
                                    omega)
    rwa [Nat.zero_add] at this
  refine ⟨by rw [(setCells_same _ _ _ _).2.2.2]; exact h.1, fun j q hq => ?_, ?_⟩
  · by_cases e : j = i
    · subst e
      rw [List.getElem?_set_self hi] at hq
      cases hq
      exact World.rangeAt_setCells_same _ _ _ _ hth
    · rw [List.getElem?_set_ne (fun e1 => e e1.symm)] at hq
      have hq128 := hp q (List.mem_of_getElem? hq)
      exact World.rangeAt_setCells_apart (h.2.1 j q hq) _ _ _ (.inr (by rw [pc_len, pc_len, hl, hq128]; omega))
  · rw [List.length_set]; exact World.there_setCells h.2.2 _ _ _

end

/-- The map of no pages. -/
theorem buffer_made (w : World) : Buffer (w.alloc (.map #[] 0)) w.heap.size (fun _ => none) := ⟨_, 0, World.ownsMap_made _ _ _ _, mapOf_empty⟩

section
variable {P : Program} (w : World) {ops : Array Oper} {rest : List Oper} {o : Oper} {a : Act} {Q : Exit → Act → World → Prop}

theorem look_run {P : Program} {w : World} {t k e : TypeId} {b n : Nat} {D : DataW Unit} {buf : Nat → Option Page} (hk : P.underlying k = some (.int .i64)) (ht : P.underlying t = some (.map k e)) {z : Page} (hz : (zeroValue e).run P w = .ok (pv z) w)
    (hown : w.ownsMap P k pageR b n D) (hof : MapOf D buf) {i : Nat} (hw : (Lit.int .i64 (i : Int)).wf = true) (c : Bool) :
    (Instr.lookup t (.map (some b)) (.int .i64 (i : Int)) c).run P w = .ok (if c then .tuple #[pv ((buf i).getD z), .bool (buf i).isSome] else pv ((buf i).getD z)) w := by
  have hkey := keyOf_int_mk (P := P) hk hw
  obtain ⟨v, ps, hrun, hv⟩ := hown.look_ok (int_keyed hk) ht hz (pageR_pv z) hkey
  have hval : v = pv ((buf i).getD z) := by
    obtain ⟨p, rfl, hp⟩ := pageR_inv hv
    cases hb : buf i with
    | some q =>
      rw [hof.at_ i q _ hb] at hp
      cases hp; rfl
    | none =>
      have hh := hof.has i
      rw [hb] at hh
      rw [atKey_of_not_has hh] at hp
      cases hp; rfl
  subst hval
  rw [hof.has] at hrun
  cases c with
  | true => exact hrun
  | false =>
    obtain ⟨v, ps, hrun2, hv⟩ := hown.lookup (int_keyed hk) ht hz (pageR_pv z) hkey
    have hval : v = pv ((buf i).getD z) := by
      obtain ⟨p, rfl, hp⟩ := pageR_inv hv
      cases hb : buf i with
      | some q =>
        rw [hof.at_ i q _ hb] at hp
        cases hp; rfl
      | none =>
        have hh := hof.has i
        rw [hb] at hh
        rw [atKey_of_not_has hh] at hp
        cases hp; rfl
    subst hval
    exact hrun2

theorem update_run {P : Program} {w : World} {t k e : TypeId} {b n : Nat} {D : DataW Unit} {buf : Nat → Option Page} (hk : P.underlying k = some (.int .i64)) (ht : P.underlying t = some (.map k e))
    (hown : w.ownsMap P k pageR b n D) (hof : MapOf D buf) (hn : n < maxLen) {i : Nat} (hw : (Lit.int .i64 (i : Int)).wf = true) (p : Page) :
    ∃ w', (Instr.mapUpdate t (.map (some b)) (.int .i64 (i : Int)) (pv p)).run P w = .ok () w' ∧ (∃ D', w'.ownsMap P k pageR b (n + 1) D' ∧ MapOf D' (fun j => if j = i then some p else buf j)) ∧ w.grownBy w' (some b) := by
  obtain ⟨w', h1, h2, h3⟩ := hown.update (int_keyed hk) ht hn (keyOf_int_mk hk hw) (pageR_pv p)
  exact ⟨w', h1, ⟨_, h2, hof.put hown.isMap i p⟩, h3⟩

theorem clear_run {P : Program} {w : World} {t k e ty : TypeId} {b n : Nat} {D : DataW Unit} (ht : P.underlying t = some (.map k e)) (hown : w.ownsMap P k pageR b n D) :
    ∃ w', (Builtin.clear_ #[t] ty #[.map (some b)]).run P w = .ok (.tuple #[]) w' ∧ w'.ownsMap P k pageR b 0 (.map []) ∧ w.grownBy w' (some b) := by
  obtain ⟨es, clock, hb, F, hs, hD⟩ := hown
  refine ⟨ChangeMaps.setBlock w b (.map #[] clock), ?_, ⟨#[], clock, ChangeMaps.heap_setBlock_same hb _, ⟨by simp, ?_, by simp⟩, Nat.le_refl _, rfl⟩, ⟨rfl, rfl, rfl, by simp [ChangeMaps.setBlock], fun i _ hi => ChangeMaps.heap_setBlock_other hb _ (fun e => hi (by rw [e]))⟩⟩
  · simp [Builtin.clear_, run_underlying ht, MapKept.run_getObj_map hb, MapKept.run_setObj_map _ hb, Result.andThen, ChangeMaps.setBlock]
  · exact MapKept.stamped_empty clock
end

end Go.Proofs.YtngddhoolijimaaGreatDoor
