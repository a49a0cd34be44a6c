/-
  Rows that a law builds: appended, read as arguments of the calls.
-/
import Derived.Test.YtpgaldkedeohaaaLwC
import Derived.SizedLaws
namespace Go.Proofs.Ytpgaldkedeohaaa
open Go.RowKit Go.WideShapes Go.ChangeShapes
set_option linter.unusedVariables false

/-- A nil argument has no room. -/
theorem arg_nil {P : Program} {H : Type} {enc : TypeId × Value → H} {w : World} {base b0 : Nat} {r : Reach} {spare : Nat → Bool} {held : Bool} {t e : TypeId} {v : Value} {d : DataW H} {ps : List MemPlace}
    (ht : P.underlying t = some (.slice e)) (hval : Value.okWide P w r b0 t v) (hd : DataW.Trod enc P w base spare held t v d ps) : ∀ n c, v = .slice none n c → c = 0 := by
  rintro n c rfl
  obtain ⟨fuel, hf⟩ := hd
  rcases Go.Deep.open_slice ht hf with ⟨h, _⟩ | ⟨a, len, cap, m, n', D, Pl, h, _⟩
  · simp [Value.cells] at h; exact h.2
  · simp [Value.cells] at h

/-- The reach of an argument: how many elements it has at most. -/
theorem arg_size {P : Program} {H : Type} {enc : TypeId × Value → H} {w : World} {base b0 : Nat} {r : Reach} {spare : Nat → Bool} {held : Bool} {t e : TypeId} {v : Value} {d : DataW H} {ps : List MemPlace} {ts : List TypeId} {ds : List (DataW H)} {j B : Nat}
    (hsz : (DataW.weightsEach P ts ds).all (· ≤ reachBytes) = true) (htj : ts[j]? = some t) (hdj : ds[j]? = some d) (ht : P.underlying t = some (.slice e)) (hB : P.bytesOf e = B) (hd : DataW.Trod enc P w base spare held t v d ps) : ∀ a n c, v = .slice a n c → n * B ≤ 140737488351232 := by
  rintro a n c rfl
  obtain ⟨fuel, hf⟩ := hd
  rcases Go.Deep.open_slice ht hf with ⟨h, _⟩ | ⟨a', len, cap, m, n', D, Pl, h, _, _, _, _, hx, _⟩
  · simp [Value.cells] at h
    obtain ⟨_, rfl, _⟩ := h
    omega
  · simp [Value.cells] at h
    obtain ⟨_, rfl, _⟩ := h
    have hd' := (Prod.mk.injEq _ _ _ _ ▸ hx).1
    subst hd'
    have := sized_slice hsz htj hdj ht
    rw [hB] at this
    simp only [List.length_map, List.length_range, reachBytes] at this
    have h2 : n * B ≤ (n + (m - n)) * B := Nat.mul_le_mul_right _ (by omega)
    omega

/-- append, in a plain region: onto nil or a row of the call's own, out of any slice that reads as a list. -/
theorem wpList_append_sl {P : Program} {ops : Array Oper} {rest : List Oper} {o : Oper} {a : Act} {w : World} {Q : Exit → Act → World → Prop} (hgd : o.guard = none) (s x : Operand) (t : TypeId)
    (ho : o.op = Op.call { callee := Callee.builtin Builtin.append, args := #[s, x], argTypes := #[t, t] })
    (base : Nat) (e : TypeId) (i : TypeInfo) (z : Value) (size bytes : Nat) (ht : P.underlying t = some (.slice e)) (hi : P.info? e = some i) (hz : i.zero = some z)
    (hsize : i.size = size) (hby : i.bytes = bytes) (hzs : z.cells.size = size) (hsz : 0 < size)
    (v : Value) (n : Nat) (xs : List Value) (hs : a.eval s = v) (hown : w.ownsRow base e size v n xs)
    (xv : Value) (m : Nat) (news : List Value) (hx : a.eval x = xv) (hsl : Sl w size xv m news) (hno : ∀ n c, xv = .slice none n c → c = 0) (h1 : ∀ u ∈ news, u.oneCell' = true)
    (h63 : n + m ≤ maxLen) (hbytes : (n + m) * bytes ≤ 140737488355328) (hbase : base ≤ w.heap.size)
    (h : ∀ v' w', w'.ownsRow base e size v' (n + m) (xs ++ news) → w.grownBy w' v.ownBlock → Below base w w' → wpList P ops Q rest (a.put o.dst v') w') :
    wpList P ops Q (o :: rest) a w := by
  refine wpList_plain hgd fun K hK => ?_
  have := step_append_sl (E := True) (ops := ops) (a := a) (w := w) (K := K) (Q := Q) hgd s x t ho base e i z size bytes ht hi hz hsize hby hzs hsz v n xs hs hown xv m news hx hsl (fun c hc => hno _ c hc) h1 h63 hbytes hbase w (Below.refl _ _) (fun v' w' a1 a2 a3 => hK _ _ (h v' w' a1 a2 a3))
  rw [if_pos (by simp [Region.wanted, hgd])] at this
  exact this

def encV : Enc Vl := enc3 (fun v => .int .i64 v.k) (fun v => .int .i64 v.n) (fun v => .string v.s)
def Vok (x : Vl) : Prop := (Lit.int .i64 x.k).wf = true ∧ (Lit.int .i64 x.n).wf = true ∧ x.s.size ≤ maxLen

theorem vok_rd {w : World} {F : Nat → Prop} {x : Vl} (h : Vok x) : rVal.rd w F (encV.cells x) x := ⟨[_], [_, _], rfl, ⟨rfl, h.1⟩, ⟨[_], [_], rfl, ⟨rfl, h.2.1⟩, ⟨rfl, h.2.2⟩⟩⟩
theorem rd_vok {w : World} {F : Nat → Prop} {cs : List Value} {x : Vl} (h : rVal.rd w F cs x) : Vok x ∧ cs = encV.cells x := by
  obtain ⟨u, u', rfl, h1, h2⟩ := h
  obtain ⟨v1, v2, rfl, h3, h4⟩ := h2
  obtain ⟨rfl, hw1⟩ := rInt_inv h1
  obtain ⟨rfl, hw⟩ := rInt_inv h3
  obtain ⟨rfl, hs⟩ := h4
  exact ⟨⟨hw1, hw, hs⟩, rfl⟩

theorem rowAt_ok {w : World} {B : Nat} {v : Value} {row : List Vl} (h : RowAt w B v row) : ∀ x ∈ row, Vok x := by
  intro x hx
  obtain ⟨i, hi⟩ := List.getElem?_of_mem hx
  obtain ⟨a, n, c, _, hn, _, _, h4⟩ := h
  rcases h4 with h4 | ⟨b, off, _, _, _, h⟩
  · have := (List.getElem?_eq_some_iff.1 hi).1; omega
  · obtain ⟨ys, _, hr⟩ := h i x hi
    exact (rd_vok hr).1

theorem vok_zero : Vok Xp.zero := ⟨by decide, by decide, Nat.zero_le _⟩

/-- A list read cell by cell. -/
theorem sl_of {α : Type} {E : Enc α} {w : World} {b off n c : Nat} {l : List α} (hn : n = l.length) (hnc : n ≤ c) (hb : b < w.heap.size) (h : ∀ (i : Nat) (x : α), l[i]? = some x → ∀ (j : Nat) (u : Value), (E.cells x)[j]? = some u → w.cell? ⟨b, off + i * E.size + j, none⟩ = some u) :
    Sl w E.size (.slice (some ⟨b, off, none⟩) n c) n (E.all l) := by
  refine ⟨by rw [E.all_len, hn], .inr ⟨b, off, c, rfl, hnc, hb, fun j u hu => ?_⟩⟩
  have hj : j < l.length * E.size := by have := (List.getElem?_eq_some_iff.1 hu).1; rwa [E.all_len] at this
  have hq : j / E.size < l.length := Nat.div_lt_of_lt_mul (by rw [Nat.mul_comm]; exact hj)
  have hm : j % E.size < E.size := Nat.mod_lt _ E.pos
  have hd : j / E.size * E.size + j % E.size = j := by rw [Nat.mul_comm]; exact Nat.div_add_mod j E.size
  have hg := E.all_get (List.getElem?_eq_getElem hq) hm
  rw [hd] at hg
  rw [hg] at hu
  have := h _ _ (List.getElem?_eq_getElem hq) _ u hu
  rwa [Nat.add_assoc, hd] at this

theorem RowAt.sl {w : World} {B : Nat} {v : Value} {row : List Vl} (h : RowAt w B v row) : Sl w 3 v row.length (encV.all row) := by
  obtain ⟨a, n, c, e, hn, hnc, _, h4⟩ := h
  obtain rfl : v = .slice a n c := by simpa using e
  rcases h4 with h4 | ⟨b, off, rfl, _, hb, h⟩
  · subst h4
    obtain rfl : row = [] := List.eq_nil_of_length_eq_zero hn.symm
    exact ⟨rfl, .inl ⟨rfl, a, c, rfl⟩⟩
  · rw [← hn]
    exact sl_of (E := encV) hn hnc hb fun i x hx j u hu => by
      obtain ⟨ys, hy, hr⟩ := h i x hx
      obtain ⟨_, rfl⟩ := rd_vok hr
      exact hy j u hu

theorem ExsV.sl {w : World} {v : Value} {L : List Ex} (h : ExsV w v L) : Sl w 7 v L.length (encE.all L) := by
  obtain ⟨a, n, c, rfl, hn, hnc, h4⟩ := h
  rcases h4 with h4 | ⟨b, off, rfl, hb, h⟩
  · subst h4
    obtain rfl : L = [] := List.eq_nil_of_length_eq_zero hn.symm
    exact ⟨rfl, .inl ⟨rfl, a, c, rfl⟩⟩
  · rw [← hn]
    exact sl_of (E := encE) hn hnc hb fun i x hx j u hu => by
      obtain ⟨⟨x0, x1, x2, x3, x4, x5, x6⟩, _⟩ := h i x hx
      have hj : j < 7 := by have := (List.getElem?_eq_some_iff.1 hu).1; rwa [encE.len] at this
      have hc : j = 0 ∨ j = 1 ∨ j = 2 ∨ j = 3 ∨ j = 4 ∨ j = 5 ∨ j = 6 := by omega
      rcases hc with rfl | rfl | rfl | rfl | rfl | rfl | rfl
      all_goals (obtain rfl := Option.some.inj hu; assumption)

/-- An own row of elements, element by element. -/
theorem own_cell {α : Type} {E : Enc α} {w : World} {base g m c : Nat} {t : TypeId} {l : List α} (h : w.ownsRow base t E.size (.slice (some ⟨g, 0, none⟩) m c) m (E.all l)) {i j : Nat} {x : α} {u : Value} (hi : l[i]? = some x) (hu : (E.cells x)[j]? = some u) : w.cell? ⟨g, i * E.size + j, none⟩ = some u := by
  have hj : j < E.size := by have := (List.getElem?_eq_some_iff.1 hu).1; rwa [E.len] at this
  have hl : l.length * E.size = m * E.size := by have := h.1; rwa [E.all_len] at this
  have hil : i < l.length := (List.getElem?_eq_some_iff.1 hi).1
  have h2 : i * E.size + j < m * E.size := by
    have : (i + 1) * E.size ≤ l.length * E.size := Nat.mul_le_mul_right _ (by omega)
    rw [Nat.succ_mul] at this; omega
  have hc : w.cell? ⟨g, i * E.size + j, none⟩ = (E.all l)[i * E.size + j]? := h.cellAt _ h2
  exact hc.trans ((E.all_get hi hj).trans hu)

theorem own_len {α : Type} {E : Enc α} {w : World} {base m : Nat} {t : TypeId} {v : Value} {l : List α} (h : w.ownsRow base t E.size v m (E.all l)) : l.length = m := by
  have := h.1
  rw [E.all_len] at this
  exact Nat.eq_of_mul_eq_mul_right E.pos this

theorem own_form' {w : World} {base : Nat} {t : TypeId} {size : Nat} {v : Value} {n : Nat} {xs : List Value} (h : w.ownsRow base t size v n xs) : (v = .slice none 0 0 ∧ n = 0) ∨ ∃ g cap, v = .slice (some ⟨g, 0, none⟩) n cap ∧ n ≤ cap ∧ cap ≤ maxLen ∧ g < w.heap.size ∧ base ≤ g := by
  rcases h.2 with ⟨h1, h2⟩ | ⟨g, cap, cur, e, hB, hg, hn, hm, _⟩
  · exact .inl ⟨h1, h2⟩
  · exact .inr ⟨g, cap, e, hn, hm, (Array.getElem?_eq_some_iff.1 hg).1, hB⟩

theorem rowAt_own {w : World} {base n : Nat} {t : TypeId} {v : Value} {row : List Vl} (h : w.ownsRow base t 3 v n (encV.all row)) (hok : ∀ x ∈ row, Vok x) : RowAt w w.heap.size v row := by
  have hl := own_len (E := encV) h
  rcases own_form' h with ⟨rfl, rfl⟩ | ⟨g, cap, rfl, hc, hm, hg, _⟩
  · exact ⟨none, 0, 0, rfl, hl.symm, Nat.le_refl _, Nat.zero_le _, .inl rfl⟩
  · refine ⟨_, n, cap, rfl, hl.symm, hc, hm, .inr ⟨g, 0, rfl, hg, hg, fun i x hi => ⟨encV.cells x, fun j u hu => ?_, vok_rd (hok x (List.mem_of_getElem? hi))⟩⟩⟩
    rw [Nat.zero_add]
    exact own_cell (E := encV) h hi hu

theorem intsAt_own {w : World} {base n : Nat} {t : TypeId} {v : Value} {l : List Int} (h : w.ownsRow base t 1 v n (l.map (Value.int .i64))) (hok : ∀ x ∈ l, (Lit.int .i64 x).wf = true) : IntsAt w w.heap.size v l := by
  have hl : l.length = n := by have := h.1; simpa using this
  rcases own_form' h with ⟨rfl, rfl⟩ | ⟨g, cap, rfl, hc, hm, hg, _⟩
  · exact ⟨none, 0, 0, rfl, hl.symm, Nat.le_refl _, Nat.zero_le _, .inl rfl⟩
  · refine ⟨_, n, cap, rfl, hl.symm, hc, hm, .inr ⟨g, 0, rfl, hg, hg, fun i x hi => ⟨[.int .i64 x], fun j u hu => ?_, ⟨rfl, hok x (List.mem_of_getElem? hi)⟩⟩⟩⟩
    have hi' : i < n := by have := (List.getElem?_eq_some_iff.1 hi).1; omega
    have hj : j = 0 := by have := (List.getElem?_eq_some_iff.1 hu).1; simp at this; exact this
    subst hj
    obtain rfl := Option.some.inj hu
    have hcell : w.cell? ⟨g, i, none⟩ = (l.map (Value.int .i64))[i]? := h.cellAt i (by omega)
    rw [show 0 + i * (rInt .i64).size + 0 = i by show 0 + i * 1 + 0 = i; omega, hcell, List.getElem?_map, hi]
    rfl

theorem exsV_own {w : World} {base n : Nat} {t : TypeId} {v : Value} {L : List Ex} (h : w.ownsRow base t 7 v n (encE.all L)) (hwf : ∀ x ∈ L, x.c.wf) : ExsV w v L := by
  have hl := own_len (E := encE) h
  rcases own_form' h with ⟨rfl, rfl⟩ | ⟨g, cap, rfl, hc, hm, hg, _⟩
  · exact ⟨none, 0, 0, rfl, hl.symm, Nat.le_refl _, .inl rfl⟩
  · refine ⟨_, n, cap, rfl, hl.symm, hc, .inr ⟨g, 0, rfl, hg, fun i x hi => ?_⟩⟩
    have cell : ∀ (j : Nat) (u : Value), (encE.cells x)[j]? = some u → w.cell? ⟨g, 0 + i * 7 + j, none⟩ = some u := by
      intro j u hu
      rw [Nat.zero_add]
      exact own_cell (E := encE) h hi hu
    exact ⟨⟨cell 0 _ rfl, cell 1 _ rfl, cell 2 _ rfl, cell 3 _ rfl, cell 4 _ rfl, cell 5 _ rfl, cell 6 _ rfl⟩, hwf x (List.mem_of_getElem? hi)⟩

theorem one_V (row : List Vl) : ∀ u ∈ encV.all row, u.oneCell' = true := by
  intro u hu
  obtain ⟨x, _, hx⟩ := List.mem_flatMap.1 hu
  simp only [encV, enc3, List.mem_cons, List.not_mem_nil, or_false] at hx
  rcases hx with rfl | rfl | rfl <;> rfl

theorem one_E (L : List Ex) : ∀ u ∈ encE.all L, u.oneCell' = true := by
  intro u hu
  obtain ⟨x, _, hx⟩ := List.mem_flatMap.1 hu
  simp only [encE, List.mem_cons, List.not_mem_nil, or_false] at hx
  rcases hx with rfl | rfl | rfl | rfl | rfl | rfl | rfl <;> rfl

theorem expr_info : (Try.prog.info? 44).map (fun i => (i.zero, i.size, i.bytes)) = some (some (.agg #[.int .i64 0, .int .i64 0, .int .i64 0, .int .i64 0, .int .i64 0, .int .i64 0, .string ⟨#[]⟩]), 7, 64) := by kernel_rfl

/-- The reading of a row goes on. -/
theorem RowAt.on {w w' : World} {v : Value} {row : List Vl} (h : RowAt w w.heap.size v row) (hb : Below w.heap.size w w') : RowAt w' w'.heap.size v row := (rSlice rVal).more (fun b hb' => Nat.lt_of_lt_of_le hb' hb.size) (rd_below h hb)
theorem IntsAt.on {w w' : World} {v : Value} {l : List Int} (h : IntsAt w w.heap.size v l) (hb : Below w.heap.size w w') : IntsAt w' w'.heap.size v l := (rSlice (rInt .i64)).more (fun b hb' => Nat.lt_of_lt_of_le hb' hb.size) (rd_below h hb)

end Go.Proofs.Ytpgaldkedeohaaa
