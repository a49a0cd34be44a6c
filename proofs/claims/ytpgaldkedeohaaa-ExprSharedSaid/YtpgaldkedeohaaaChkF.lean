/-
  combine of package expr for all expressions; the checker in memory.
-/
import Derived.Test.YtpgaldkedeohaaaChkE
namespace Go.Proofs.Ytpgaldkedeohaaa
open Go.RowKit
set_option linter.unusedVariables false

/-- The operands' types in memory, one behind the other. -/
def KindsAt (w : World) (kv : Value) (n : Nat) (ka kb : Int) : Prop :=
  1 ≤ n → ∃ g c, kv = .slice (some ⟨g, 0, none⟩) n c ∧ n ≤ c ∧ g < w.heap.size ∧ w.cell? ⟨g, 0, none⟩ = some (.int .i64 ka) ∧ (2 ≤ n → w.cell? ⟨g, 1, none⟩ = some (.int .i64 kb))

def goT (p : Int × Int) : Value := .tuple #[.int .i64 p.1, .int .i64 p.2]

theorem expr_combine (e : Ex) (cols : List Int) (P B : Nat) (cv kv : Value) (ka kb : Int) (w : World) (har : 0 ≤ Xp.arity e.op) (hcol : Xp.badCol e cols.length = false) (hP : P < w.heap.size)
    (p1 : w.cell? ⟨P, 1, none⟩ = some cv) (hc : IntsAt w B cv cols) (hk : KindsAt w kv (nops e.op) ka kb) :
    Calls Try.prog 47 #[.pointer (some ⟨P, 0, none⟩), e.go, kv] w fun e' w' => e' = .returned (goT (Xp.cmb e cols ka kb)) ∧ Below w.heap.size w w' := by
  obtain ⟨op, a, b, col, ck, cn, cs⟩ := e
  unfold Ex.go
  simp only at har hcol hk ⊢
  have two : Xp.arity op = 2 → ∃ g c, kv = .slice (some ⟨g, 0, none⟩) 2 c ∧ 2 ≤ c ∧ g < w.heap.size ∧ w.cell? ⟨g, 0, none⟩ = some (.int .i64 ka) ∧ w.cell? ⟨g, 1, none⟩ = some (.int .i64 kb) := by
    intro h
    have hn : nops op = 2 := by unfold nops; rw [h]; rfl
    rw [hn] at hk
    obtain ⟨g, c, h1, h2, h3, h4, h5⟩ := hk (by omega)
    exact ⟨g, c, h1, h2, h3, h4, h5 (by omega)⟩
  rcases Xp.arity_cases op with ⟨e1, e2⟩ | ⟨e1, e2⟩ | ⟨e1, e2⟩ | ⟨e1, e2⟩ | ⟨e1, e1', e2⟩ | ⟨e1, e2⟩
  · subst e1
    exact calls_of (by unfold Xp.cmb; rfl) (cmb_const a b col ck cn cs (.pointer (some ⟨P, 0, none⟩)) kv w)
  · subst e1
    have h0 : 0 ≤ col ∧ col < cols.length := by
      unfold Xp.badCol at hcol
      simpa using hcol
    obtain ⟨j, rfl⟩ : ∃ j : Nat, col = j := ⟨col.toNat, by omega⟩
    have hj : j < cols.length := by omega
    obtain ⟨qa, qn, qc, rfl, hn1, hn2, hn3, h4⟩ := hc.view
    rcases h4 with h4 | ⟨qb, qo, rfl, _, hqb, h5⟩
    · omega
    · have hq := (h5 j cols[j] (List.getElem?_eq_getElem hj)).1
      refine calls_of ?_ (cmb_col a b ck cn cs kv P cols[j] j qb qo qn qc w (by omega) hP p1 hqb hq)
      unfold Xp.cmb
      simp [List.getElem?_eq_getElem hj]
      rfl
  · subst e1
    obtain ⟨g, c, rfl, h2, h3, h4, _⟩ := hk (by decide)
    cases h1 : Xp.acc ka 3 with
    | true => exact calls_of (by unfold Xp.cmb; simp [h1]; rfl) (cmb_not_yes a b col ck cn cs (.pointer (some ⟨P, 0, none⟩)) ka g c w h3 h2 h4 h1)
    | false => exact calls_of (by unfold Xp.cmb; simp [h1]; rfl) (cmb_not_no a b col ck cn cs (.pointer (some ⟨P, 0, none⟩)) ka g c w h3 h2 h4 h1)
  · subst e1
    exact calls_of (by unfold Xp.cmb; rfl) (cmb_isnull a b col ck cn cs (.pointer (some ⟨P, 0, none⟩)) kv w)
  · obtain ⟨g, c, rfl, h2, h3, h4, h5⟩ := two e2
    have hop : op = 3 ∨ op = 4 ∨ op = 5 ∨ op = 6 ∨ op = 7 ∨ op = 8 ∨ op = 9 := by omega
    rcases hop with rfl | rfl | rfl | rfl | rfl | rfl | rfl
    · cases h6 : Xp.acc ka 1 with
      | false => exact calls_of (by unfold Xp.cmb; simp [h6]; rfl) (cmb_3_no1 a b col ck cn cs (.pointer (some ⟨P, 0, none⟩)) ka kb g c w h3 h2 h4 h5 h6)
      | true =>
        cases h7 : Xp.acc kb 1 with
        | false => exact calls_of (by unfold Xp.cmb; simp [h6, h7]; rfl) (cmb_3_no2 a b col ck cn cs (.pointer (some ⟨P, 0, none⟩)) ka kb g c w h3 h2 h4 h5 h6 h7)
        | true => exact calls_of (by unfold Xp.cmb; simp [h6, h7]; rfl) (cmb_3_yes a b col ck cn cs (.pointer (some ⟨P, 0, none⟩)) ka kb g c w h3 h2 h4 h5 h6 h7)
    · cases h6 : Xp.acc ka 1 with
      | false => exact calls_of (by unfold Xp.cmb; simp [h6]; rfl) (cmb_4_no1 a b col ck cn cs (.pointer (some ⟨P, 0, none⟩)) ka kb g c w h3 h2 h4 h5 h6)
      | true =>
        cases h7 : Xp.acc kb 1 with
        | false => exact calls_of (by unfold Xp.cmb; simp [h6, h7]; rfl) (cmb_4_no2 a b col ck cn cs (.pointer (some ⟨P, 0, none⟩)) ka kb g c w h3 h2 h4 h5 h6 h7)
        | true => exact calls_of (by unfold Xp.cmb; simp [h6, h7]; rfl) (cmb_4_yes a b col ck cn cs (.pointer (some ⟨P, 0, none⟩)) ka kb g c w h3 h2 h4 h5 h6 h7)
    · cases h6 : Xp.acc ka 1 with
      | false => exact calls_of (by unfold Xp.cmb; simp [h6]; rfl) (cmb_5_no1 a b col ck cn cs (.pointer (some ⟨P, 0, none⟩)) ka kb g c w h3 h2 h4 h5 h6)
      | true =>
        cases h7 : Xp.acc kb 1 with
        | false => exact calls_of (by unfold Xp.cmb; simp [h6, h7]; rfl) (cmb_5_no2 a b col ck cn cs (.pointer (some ⟨P, 0, none⟩)) ka kb g c w h3 h2 h4 h5 h6 h7)
        | true => exact calls_of (by unfold Xp.cmb; simp [h6, h7]; rfl) (cmb_5_yes a b col ck cn cs (.pointer (some ⟨P, 0, none⟩)) ka kb g c w h3 h2 h4 h5 h6 h7)
    · cases h6 : Xp.acc ka kb with
      | true => exact calls_of (by unfold Xp.cmb; simp [h6]; rfl) (cmb_6_yes1 a b col ck cn cs (.pointer (some ⟨P, 0, none⟩)) ka kb g c w h3 h2 h4 h5 h6)
      | false =>
        cases h7 : Xp.acc kb ka with
        | true => exact calls_of (by unfold Xp.cmb; simp [h6, h7]; rfl) (cmb_6_yes2 a b col ck cn cs (.pointer (some ⟨P, 0, none⟩)) ka kb g c w h3 h2 h4 h5 h6 h7)
        | false => exact calls_of (by unfold Xp.cmb; simp [h6, h7]; rfl) (cmb_6_no a b col ck cn cs (.pointer (some ⟨P, 0, none⟩)) ka kb g c w h3 h2 h4 h5 h6 h7)
    · cases h6 : Xp.acc ka kb with
      | true => exact calls_of (by unfold Xp.cmb; simp [h6]; rfl) (cmb_7_yes1 a b col ck cn cs (.pointer (some ⟨P, 0, none⟩)) ka kb g c w h3 h2 h4 h5 h6)
      | false =>
        cases h7 : Xp.acc kb ka with
        | true => exact calls_of (by unfold Xp.cmb; simp [h6, h7]; rfl) (cmb_7_yes2 a b col ck cn cs (.pointer (some ⟨P, 0, none⟩)) ka kb g c w h3 h2 h4 h5 h6 h7)
        | false => exact calls_of (by unfold Xp.cmb; simp [h6, h7]; rfl) (cmb_7_no a b col ck cn cs (.pointer (some ⟨P, 0, none⟩)) ka kb g c w h3 h2 h4 h5 h6 h7)
    · cases h6 : Xp.acc ka 3 with
      | false => exact calls_of (by unfold Xp.cmb; simp [h6]; rfl) (cmb_8_no1 a b col ck cn cs (.pointer (some ⟨P, 0, none⟩)) ka kb g c w h3 h2 h4 h5 h6)
      | true =>
        cases h7 : Xp.acc kb 3 with
        | false => exact calls_of (by unfold Xp.cmb; simp [h6, h7]; rfl) (cmb_8_no2 a b col ck cn cs (.pointer (some ⟨P, 0, none⟩)) ka kb g c w h3 h2 h4 h5 h6 h7)
        | true => exact calls_of (by unfold Xp.cmb; simp [h6, h7]; rfl) (cmb_8_yes a b col ck cn cs (.pointer (some ⟨P, 0, none⟩)) ka kb g c w h3 h2 h4 h5 h6 h7)
    · cases h6 : Xp.acc ka 3 with
      | false => exact calls_of (by unfold Xp.cmb; simp [h6]; rfl) (cmb_9_no1 a b col ck cn cs (.pointer (some ⟨P, 0, none⟩)) ka kb g c w h3 h2 h4 h5 h6)
      | true =>
        cases h7 : Xp.acc kb 3 with
        | false => exact calls_of (by unfold Xp.cmb; simp [h6, h7]; rfl) (cmb_9_no2 a b col ck cn cs (.pointer (some ⟨P, 0, none⟩)) ka kb g c w h3 h2 h4 h5 h6 h7)
        | true => exact calls_of (by unfold Xp.cmb; simp [h6, h7]; rfl) (cmb_9_yes a b col ck cn cs (.pointer (some ⟨P, 0, none⟩)) ka kb g c w h3 h2 h4 h5 h6 h7)
  · omega

theorem comb_call (e : Ex) (cols : List Int) (P B : Nat) (cv kv : Value) (ka kb rk re : Int) (w : World) (har : 0 ≤ Xp.arity e.op) (hcol : Xp.badCol e cols.length = false) (hP : P < w.heap.size)
    (p1 : w.cell? ⟨P, 1, none⟩ = some cv) (hc : IntsAt w B cv cols) (hk : KindsAt w kv (nops e.op) ka kb) (h : Xp.cmb e cols ka kb = (rk, re)) :
    Calls Try.prog 47 #[.pointer (some ⟨P, 0, none⟩), e.go, kv] w fun e' w' => e' = .returned (.tuple #[.int .i64 rk, .int .i64 re]) ∧ Below w.heap.size w w' :=
  calls_of (by rw [h]; rfl) (expr_combine e cols P B cv kv ka kb w har hcol hP p1 hc hk)

/-- Below block number S nothing has changed but block G. -/
structure Stir (S G : Nat) (w w' : World) : Prop where
  os : w'.os = w.os
  tape : w'.tape = w.tape
  output : w'.output = w.output
  size : w.heap.size ≤ w'.heap.size
  block : ∀ k, k < S → k ≠ G → w'.heap[k]? = w.heap[k]?

theorem Stir.of {S G : Nat} {w w' : World} (h : Below S w w') : Stir S G w w' := ⟨h.os, h.tape, h.output, h.size, fun k hk _ => h.block k hk⟩
theorem Stir.trans {S G : Nat} {a b c : World} (h : Stir S G a b) (k : Stir S G b c) : Stir S G a c :=
  ⟨k.os.trans h.os, k.tape.trans h.tape, k.output.trans h.output, Nat.le_trans h.size k.size, fun i hi hg => (k.block i hi hg).trans (h.block i hi hg)⟩
theorem Stir.mono {S S' G : Nat} {w w' : World} (h : Stir S G w w') (hs : S' ≤ S) : Stir S' G w w' := ⟨h.os, h.tape, h.output, h.size, fun k hk hg => h.block k (Nat.lt_of_lt_of_le hk hs) hg⟩
theorem Stir.put {S G : Nat} {a w : World} (h : Stir S G a w) {p : Addr} (hp : p.block = G) (u : Value) : Stir S G a (w.setCell p u) :=
  h.trans ⟨rfl, rfl, rfl, by simp [World.setCell], fun k _ hg => Below.heap_setCell _ _ _ _ (by rw [hp]; exact hg)⟩
theorem Stir.to_below {S G B : Nat} {w w' : World} (h : Stir S G w w') (h1 : B ≤ S) (h2 : B ≤ G) : Below B w w' := ⟨h.os, h.tape, h.output, h.size, fun k hk => h.block k (by omega) (by omega)⟩
theorem Stir.cell {S G : Nat} {w w' : World} (h : Stir S G w w') {p : Addr} (h1 : p.block < S) (h2 : p.block ≠ G) : w'.cell? p = w.cell? p := World.cell?_of_block (h.block _ h1 h2)

/-- What a checker looks at. -/
structure CkEnv where
  L : List Ex
  cols : List Int
  b : Nat
  off : Nat
  c : Nat
  P : Nat
  G : Nat
  base : Nat
  cv : Value

structure CkEnv.ok (E : CkEnv) : Prop where
  hb : E.b < E.base
  hG : E.base ≤ E.G
  hP : E.base ≤ E.P
  ne : E.P ≠ E.G
  hc : E.L.length ≤ E.c
  hn : E.L.length ≤ 200

def encC : Enc (Bool × Int × Int) := enc3 (fun p => .bool p.1) (fun p => .int .i64 p.2.1) (fun p => .int .i64 p.2.2)

/-- The checker in memory; each result that it keeps is right. -/
structure Ck (E : CkEnv) (w : World) : Prop where
  sP : E.P < w.heap.size
  sB : E.base ≤ w.heap.size
  p0 : w.cell? ⟨E.P, 0, none⟩ = some (.slice (some ⟨E.b, E.off, none⟩) E.L.length E.c)
  p1 : w.cell? ⟨E.P, 1, none⟩ = some E.cv
  p2 : w.cell? ⟨E.P, 2, none⟩ = some (.slice (some ⟨E.G, 0, none⟩) E.L.length E.L.length)
  xs : ∀ (i : Nat) (e : Ex), E.L[i]? = some e → ExAt w E.b (E.off + i * 7) e
  cs : IntsAt w E.base E.cv E.cols
  own : ∃ l, OwnA encC 67 w E.base E.G E.L.length l ∧ ∀ (j : Nat) (r : Bool × Int × Int), l[j]? = some r → r.1 = true → r.2 = Xp.ck E.L E.cols j

theorem Ck.gl {E : CkEnv} {w : World} (h : Ck E w) : E.G < w.heap.size := by
  obtain ⟨l, ho, _⟩ := h.own
  exact ho.lt.1

theorem Ck.below {E : CkEnv} {w w' : World} {S : Nat} (h : Ck E w) (ok : E.ok) (hB : Below S w w') (h1 : E.P < S) (h2 : E.G < S) (h3 : E.base ≤ S) : Ck E w' := by
  have hb := ok.hb
  have cell : ∀ p : Addr, p.block < S → w'.cell? p = w.cell? p := fun p hp => hB.cell hp
  refine ⟨Nat.lt_of_lt_of_le h.sP hB.size, Nat.le_trans h.sB hB.size, (cell ⟨E.P, 0, none⟩ h1).trans h.p0, (cell ⟨E.P, 1, none⟩ h1).trans h.p1, (cell ⟨E.P, 2, none⟩ h1).trans h.p2, fun i e hi => ?_, rd_below h.cs (hB.mono h3), ?_⟩
  · obtain ⟨x0, x1, x2, x3, x4, x5, x6⟩ := h.xs i e hi
    have hs : E.b < S := by omega
    exact ⟨(cell ⟨E.b, _, none⟩ hs).trans x0, (cell ⟨E.b, _, none⟩ hs).trans x1, (cell ⟨E.b, _, none⟩ hs).trans x2, (cell ⟨E.b, _, none⟩ hs).trans x3, (cell ⟨E.b, _, none⟩ hs).trans x4, (cell ⟨E.b, _, none⟩ hs).trans x5, (cell ⟨E.b, _, none⟩ hs).trans x6⟩
  · obtain ⟨l, ho, hr⟩ := h.own
    exact ⟨l, ho.keep (hB.block _ h2), hr⟩

theorem Ck.put {E : CkEnv} {w : World} (h : Ck E w) (ok : E.ok) {i : Nat} (hi : i < E.L.length) {k e : Int} (hk : Xp.ck E.L E.cols i = (k, e)) :
    Ck E (((w.setCell ⟨E.G, i * 3, none⟩ (.bool true)).setCell ⟨E.G, i * 3 + 1, none⟩ (.int .i64 k)).setCell ⟨E.G, i * 3 + 2, none⟩ (.int .i64 e)) := by
  have hb := ok.hb
  have hG := ok.hG
  have hS : Stir w.heap.size E.G w (((w.setCell ⟨E.G, i * 3, none⟩ (.bool true)).setCell ⟨E.G, i * 3 + 1, none⟩ (.int .i64 k)).setCell ⟨E.G, i * 3 + 2, none⟩ (.int .i64 e)) :=
    Stir.put (p := ⟨E.G, i * 3 + 2, none⟩) (Stir.put (p := ⟨E.G, i * 3 + 1, none⟩) (Stir.put (p := ⟨E.G, i * 3, none⟩) (Stir.of (Below.refl w.heap.size w)) rfl (.bool true)) rfl (.int .i64 k)) rfl (.int .i64 e)
  obtain ⟨l, ho, hr⟩ := h.own
  have hput : OwnA encC 67 (((w.setCell ⟨E.G, i * 3, none⟩ (.bool true)).setCell ⟨E.G, i * 3 + 1, none⟩ (.int .i64 k)).setCell ⟨E.G, i * 3 + 2, none⟩ (.int .i64 e)) E.base E.G E.L.length (l.set i (true, k, e)) := ho.put3 (i := i) (true, k, e) (enc3_set (fun p : Bool × Int × Int => .bool p.1) (fun p => .int .i64 p.2.1) (fun p => .int .i64 p.2.2) (true, k, e)) hi
  generalize hw : (((w.setCell ⟨E.G, i * 3, none⟩ (.bool true)).setCell ⟨E.G, i * 3 + 1, none⟩ (.int .i64 k)).setCell ⟨E.G, i * 3 + 2, none⟩ (.int .i64 e)) = w' at hS hput ⊢
  have hs1 := h.sB
  have hs2 := h.sP
  have hs3 := ok.ne
  have cell : ∀ p : Addr, p.block < w.heap.size → p.block ≠ E.G → w'.cell? p = w.cell? p := fun p hp hq => hS.cell hp hq
  refine ⟨Nat.lt_of_lt_of_le h.sP hS.size, Nat.le_trans h.sB hS.size, (cell ⟨E.P, 0, none⟩ hs2 hs3).trans h.p0, (cell ⟨E.P, 1, none⟩ hs2 hs3).trans h.p1, (cell ⟨E.P, 2, none⟩ hs2 hs3).trans h.p2, fun i e hi => ?_, rd_below h.cs (hS.to_below hs1 hG), ?_⟩
  · obtain ⟨x0, x1, x2, x3, x4, x5, x6⟩ := h.xs i e hi
    have h1 : E.b < w.heap.size := by omega
    have h2 : E.b ≠ E.G := by omega
    exact ⟨(cell ⟨E.b, _, none⟩ h1 h2).trans x0, (cell ⟨E.b, _, none⟩ h1 h2).trans x1, (cell ⟨E.b, _, none⟩ h1 h2).trans x2, (cell ⟨E.b, _, none⟩ h1 h2).trans x3, (cell ⟨E.b, _, none⟩ h1 h2).trans x4, (cell ⟨E.b, _, none⟩ h1 h2).trans x5, (cell ⟨E.b, _, none⟩ h1 h2).trans x6⟩
  · refine ⟨_, hput, fun j r hj hd => ?_⟩
    rw [List.getElem?_set] at hj
    split at hj
    · rename_i hij
      subst hij
      split at hj
      · obtain rfl : (true, k, e) = r := by simpa using hj
        exact hk.symm
      · cases hj
    · exact hr j r hj hd

/-- What check and derive end with. -/
def CkPost (E : CkEnv) (i : Nat) (w : World) (e : Ending) (w' : World) : Prop := e = .returned (goT (Xp.ck E.L E.cols i)) ∧ Ck E w' ∧ Stir w.heap.size E.G w w'

end Go.Proofs.Ytpgaldkedeohaaa
