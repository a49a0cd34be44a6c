/-
  The program's decoder in memory; fail.
-/
import Derived.Test.YtfppjpmflpaffaaGreatCx
namespace Go.Proofs.YtfppjpmflpaffaaGreat
open Go.RowKit
set_option linter.unusedVariables false
set_option linter.unusedSimpArgs false

/-- The bytes lie below. -/
def Low (rb : Nat) (v : Value) : Prop := ∀ x n c, v = .slice (some x) n c → 0 < n → x.block < rb

/-- A reader: what is left of the bytes, or an error. -/
structure Rdr (w : World) (rb : Nat) (s : St) : Prop where
  lt : rb < w.heap.size
  free : ∀ j, w.frozen? ⟨rb, j, none⟩ = false
  ok : ∀ r, s = .ok r → ∃ v, w.cell? ⟨rb, 0, none⟩ = some v ∧ w.cell? ⟨rb, 1, none⟩ = some (.int .i64 0) ∧ Dat w v r ∧ Low rb v
  bad : ∀ e, s = .error e → w.cell? ⟨rb, 0, none⟩ = some (.slice none 0 0) ∧ w.cell? ⟨rb, 1, none⟩ = some (.int .i64 e) ∧ (e = 2 ∨ e = 5)
  max : ∀ r, s = .ok r → r.length ≤ maxLen

section
variable {w w' : World} {rb : Nat} {s : St} {v : Value} {l : List UInt8} {F : Nat → Prop} {a : Option Addr} {n c K M : Nat}

theorem dat_chg (h : Dat w v l) (hl : Low rb v) (hc : Chg F w w') (hF : ∀ b, b < rb → ¬ F b) : Dat w' v l := by
  refine ⟨⟨h.1.1, ?_⟩, h.2⟩
  rcases h.1.2 with h0 | ⟨g, off, c, rfl, h1, h2, h3⟩
  · exact .inl h0
  · by_cases hz : l.length = 0
    · exact .inl ⟨hz, _, c, by rw [hz]⟩
    · have hg : g < rb := hl _ _ _ rfl (by omega)
      exact .inr ⟨g, off, c, rfl, h1, Nat.lt_of_lt_of_le h2 hc.size, fun j u hu => (hc.cell (a := ⟨g, off + j, none⟩) (hF g hg) h2).trans (h3 j u hu)⟩

theorem Rdr.keep (h : Rdr w rb s) (hc : Chg (fun b => rb < b) w w') : Rdr w' rb s := by
  have c : ∀ j, w'.cell? ⟨rb, j, none⟩ = w.cell? ⟨rb, j, none⟩ := fun j => hc.cell (a := ⟨rb, j, none⟩) (Nat.lt_irrefl rb) h.lt
  refine ⟨Nat.lt_of_lt_of_le h.lt hc.size, fun j => (hc.frozen (a := ⟨rb, j, none⟩) (Nat.lt_irrefl rb) h.lt).trans (h.free j), fun r e => ?_, fun e he => ?_, h.max⟩
  · obtain ⟨v, h1, h2, h3, h4⟩ := h.ok r e
    exact ⟨v, (c 0).trans h1, (c 1).trans h2, dat_chg h3 h4 hc (fun b hb => by omega), h4⟩
  · obtain ⟨h1, h2, h3⟩ := h.bad e he
    exact ⟨(c 0).trans h1, (c 1).trans h2, h3⟩

theorem Rdr.below (h : Rdr w rb s) (hb : Below w.heap.size w w') : Rdr w' rb s := h.keep (Chg.of_below hb)

theorem low_nil : Low rb (.slice none 0 0) := fun x n c e => by cases e

theorem low_sliced (h : Low rb (.slice a n c)) (hM : M ≤ n) : Low rb (sliced a K M c 1) := by
  intro x m c' e hm
  unfold sliced at e
  simp only [Value.slice.injEq] at e
  obtain ⟨e1, e2, e3⟩ := e
  cases a with
  | none => split at e1 <;> cases e1
  | some ad =>
    have := h ad n c rfl (by omega)
    split at e1
    · cases e1; exact this
    · simp only [Option.map_some, Option.some.injEq] at e1
      rw [← e1]
      unfold Addr.add
      split
      · exact this
      · exact this
end

/-- s[k:] -/
theorem cutr_l {a : Option Addr} {n c K : Nat} {z1 : Int} (h1 : z1 = (K : Int)) (hK : K ≤ n) (hn : n ≤ c) : ∃ sa sn sc, (∀ W, Sem.run Tryz.prog (Instr.sliceAt 31 (.slice a n c) (some (.int .i64 z1)) none none) W = .ok (.slice sa sn sc) W) ∧
    (∀ W, Sem.run Tryz.prog (Instr.slice 31 (.slice a n c) (some (.int .i64 z1)) none none) W = .ok (.slice sa sn sc) W) ∧ (∀ w l, Dat w (.slice a n c) l → Dat w (.slice sa sn sc) (l.drop K)) ∧ ∀ rb, Low rb (.slice a n c) → Low rb (.slice sa sn sc) := by
  subst h1
  have h2 : ∀ W, Sem.run Tryz.prog (Instr.slice 31 (.slice a n c) (some (.int .i64 (K : Int))) none none) W = .ok (sliced a K n c 1) W := by
    intro W
    rw [run_slice_l W 31 a n c under_bytes .i64 (K : Int) (by omega) (by omega), size_byte]
    rfl
  refine ⟨_, _, _, fun W => (run_sliceAt_slice W 31 _ _ _ _ under_bytes).trans (h2 W), h2, fun w l h => ?_, fun rb h => low_sliced h (Nat.le_refl _)⟩
  have hl := h.le.1
  have := cut_dat (K := K) (M := n) hK (by omega) h
  rw [List.take_of_length_le (by omega)] at this
  exact this

/-- s[:k] -/
theorem cutr_h {a : Option Addr} {n c M : Nat} {z2 : Int} (h2 : z2 = (M : Int)) (hM : M ≤ n) (hn : n ≤ c) : ∃ sa sn sc, (∀ W, Sem.run Tryz.prog (Instr.sliceAt 31 (.slice a n c) none (some (.int .i64 z2)) none) W = .ok (.slice sa sn sc) W) ∧
    (∀ W, Sem.run Tryz.prog (Instr.slice 31 (.slice a n c) none (some (.int .i64 z2)) none) W = .ok (.slice sa sn sc) W) ∧ (∀ w l, Dat w (.slice a n c) l → Dat w (.slice sa sn sc) (l.take M)) ∧ ∀ rb, Low rb (.slice a n c) → Low rb (.slice sa sn sc) := by
  subst h2
  have h3 : ∀ W, Sem.run Tryz.prog (Instr.slice 31 (.slice a n c) none (some (.int .i64 (M : Int))) none) W = .ok (sliced a 0 M c 1) W := by
    intro W
    rw [run_slice_h W 31 a n c under_bytes .i64 (M : Int) (by omega) (by omega), size_byte]
    rfl
  refine ⟨_, _, _, fun W => (run_sliceAt_slice W 31 _ _ _ _ under_bytes).trans (h3 W), h3, fun w l h => ?_, fun rb h => low_sliced h hM⟩
  have hl := h.le.1
  have := cut_dat (K := 0) (M := M) (by omega) (by omega) h
  rw [List.drop_zero] at this
  exact this

def ModMany (P : St → Prop) {α : Type} (f : St → α × St) : Nat → St → Prop
  | 0, _ => True
  | n + 1, s => match s with
    | .error _ => True
    | .ok r => P (.ok r) ∧ ModMany P f n (f (.ok r)).2

/-- No list that is met has more than 2^30 elements. -/
def Mod : (t : Ty) → St → Prop
  | .num, _ => True
  | .str, _ => True
  | .list t, s => (dsize s).1 ≤ 1073741824 ∧ ModMany (Mod t) (dec t) (dsize s).1 (dsize s).2
  | .pair a b, s => Mod a s ∧ Mod b (dec a s).2

theorem mod_error : ∀ (t : Ty) (e : Int), Mod t (.error e)
  | .num, e => trivial
  | .str, e => trivial
  | .list t, e => ⟨Nat.zero_le _, trivial⟩
  | .pair a b, e => ⟨mod_error a e, by rw [dec_error]; exact mod_error b e⟩

theorem dec_len (t : Ty) {b r : List UInt8} (h : (dec t (.ok b)).2 = .ok r) : r.length ≤ b.length := by
  have := (enc_dec t b r (dec t (.ok b)).1 (by rw [← h])).1
  rw [this, List.length_append]; omega

theorem mod_small : ∀ (t : Ty) (r : List UInt8), r.length ≤ 1073741824 → Mod t (.ok r)
  | .num, r, h => trivial
  | .str, r, h => trivial
  | .list t, r, h => by
    have hm : ∀ (n : Nat) (r : List UInt8), r.length ≤ 1073741824 → ModMany (Mod t) (dec t) n (.ok r) := by
      intro n
      induction n with
      | zero => intro r _; trivial
      | succ n ih =>
        intro r hr
        refine ⟨mod_small t r hr, ?_⟩
        cases hd : (dec t (.ok r)).2 with
        | error e => cases n <;> trivial
        | ok r' => exact ih r' (Nat.le_trans (dec_len t hd) hr)
    show (dsize (.ok r)).1 ≤ _ ∧ ModMany (Mod t) (dec t) (dsize (.ok r)).1 (dsize (.ok r)).2
    cases hd : (dsize (.ok r)).2 with
    | error e =>
      refine ⟨?_, ?_⟩
      · unfold dsize at hd ⊢
        split
        · exact Nat.zero_le _
        · split
          · exact Nat.zero_le _
          · split
            · exact Nat.zero_le _
            · rename_i h1 h2 h3
              rw [h1] at hd
              simp only [if_neg h2, if_neg h3] at hd
              cases hd
      · cases (dsize (.ok r)).1 <;> trivial
    | ok r' =>
      obtain ⟨n, hn⟩ : ∃ n, dsize (.ok r) = (n, .ok r') := ⟨(dsize (.ok r)).1, by rw [← hd]⟩
      obtain ⟨h1, h2, _⟩ := dsize_back hn
      have hl : r'.length ≤ r.length := by rw [h1, List.length_append]; omega
      rw [hn]
      exact ⟨by show n ≤ _; omega, hm n r' (by omega)⟩
  | .pair a b, r, h => by
    refine ⟨mod_small a r h, ?_⟩
    cases hd : (dec a (.ok r)).2 with
    | error e => exact mod_error b e
    | ok r' => exact mod_small b r' (Nat.le_trans (dec_len a hd) h)

/-- What a decoder of the program promises of its function. -/
def GetC (f : Nat) (t : Ty) : Prop := ∀ (w : World) (rb : Nat) (s : St), Rdr w rb s → Mod t s →
  Calls Tryz.prog f #[.pointer (some ⟨rb, 0, none⟩)] w fun e w' => ∃ cs : List Value, e = .returned (goV cs) ∧ t.rd.rd w' (w.heap.size ≤ ·) cs (dec t s).1 ∧ Rdr w' rb (dec t s).2 ∧ Chg (fun b => b = rb) w w'

/-- The first error stays. -/
def failS (s : St) (e : Int) : St := match s with
  | .error a => .error a
  | .ok _ => .error e

theorem Rdr.failed {w : World} {rb : Nat} {s : St} {r : List UInt8} (h : Rdr w rb s) {e : Int} (he : e = 2 ∨ e = 5) {v : Value} {u : Value} (h0 : w.cell? ⟨rb, 0, none⟩ = some v) (h1 : w.cell? ⟨rb, 1, none⟩ = some u) :
    Rdr ((w.setCell ⟨rb, 1, none⟩ (.int .i64 e)).setCell ⟨rb, 0, none⟩ (.slice none 0 0)) rb (.error e) ∧ Chg (fun b => b = rb) w ((w.setCell ⟨rb, 1, none⟩ (.int .i64 e)).setCell ⟨rb, 0, none⟩ (.slice none 0 0)) := by
  have g : ∀ (u : World) (k : Nat) (v : Value), Chg (fun b => b = rb) u (u.setCell ⟨rb, k, none⟩ v) := fun u k v => Chg.setCell _ _ rfl
  refine ⟨⟨by have := h.lt; simpa using this, fun j => by rw [World.frozen?_setCell, World.frozen?_setCell]; exact h.free j, fun r e => (by cases e), fun e' he' => ?_, fun r e => (by cases e)⟩, (g _ _ _).trans (g _ _ _)⟩
  cases he'
  refine ⟨?_, ?_, he⟩
  · go_simp
  · go_simp

set_option maxRecDepth 100000 in
theorem cd_fail {w : World} {rb : Nat} {s : St} (h : Rdr w rb s) (e : Int) (he : e = 2 ∨ e = 5) :
    Calls Tryz.prog 114 #[.pointer (some ⟨rb, 0, none⟩), .int .i64 e] w fun e' w' => e' = .returned (.tuple #[]) ∧ Rdr w' rb (failS s e) ∧ Chg (fun b => b = rb) w w' := by
  have f0 := h.free 0
  have f1 := h.free 1
  cases s with
  | error a =>
    obtain ⟨c0, c1, ha⟩ := h.bad a rfl
    have g0 : (a == 0) = false := by rcases ha with rfl | rfl <;> rfl
    have H := Lib.hid h
    clear h ha
    go_enter Tryz.func114, Tryz.ntmps114
    go_wp2
    all_goals (first | go_end0 | refine bodyPost_ret (results_none rfl _ _ _) rfl ?_)
    exact ⟨rfl, H.out, Chg.refl _ _⟩
  | ok r =>
    obtain ⟨v, c0, c1, _, _⟩ := h.ok r rfl
    have HF := Lib.hid (h.failed (r := r) he c0 c1)
    clear h
    go_enter Tryz.func114, Tryz.ntmps114
    go_wp2
    all_goals (first | go_end0 | refine bodyPost_ret (results_none rfl _ _ _) rfl ?_)
    exact ⟨rfl, HF.out.1, HF.out.2⟩
end Go.Proofs.YtfppjpmflpaffaaGreat
