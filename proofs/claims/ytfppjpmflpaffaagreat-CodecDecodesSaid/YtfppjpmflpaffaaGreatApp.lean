/-
  append out of any slice, as a law for a plain region and as one step of a region that draws its order. No program in sight.
-/
import Derived.Test.YtfppjpmflpaffaaGreatBase
import Derived.OwnWalk
import Derived.Deep.RegionLaw
namespace Go.Proofs.YtfppjpmflpaffaaGreat
open Go.RowKit
set_option linter.unusedVariables false

/-- append, as one step of a region that draws its order: onto nil or a row of the call's own, out of any slice that reads as a list. -/
theorem step_append_sl {P : Program} {ops : Array Oper} {o : Oper} {a : Act} {w : World} {K : Act → World → Prop} {Q : Exit → Act → World → Prop} {E : Prop} (hgd : o.guard = none) (s x : Operand) (t : TypeId)
    (ho : o.op = Op.call { callee := Callee.builtin Builtin.append, args := #[s, x], argTypes := #[t, t] })
    (base : Nat) (e : TypeId) (i : TypeInfo) (z : Value) (size bytes : Nat) (ht : P.underlying t = some (.slice e)) (hi : P.info? e = some i) (hz : i.zero = some z)
    (hsize : i.size = size) (hby : i.bytes = bytes) (hzs : z.cells.size = size) (hsz : 0 < size)
    (v : Value) (n : Nat) (xs : List Value) (hs : a.eval s = v) (hown : w.ownsRow base e size v n xs)
    (xv : Value) (m : Nat) (news : List Value) (hx : a.eval x = xv) (hsl : Sl w size xv m news) (hno : ∀ c, xv = .slice none m c → c = 0) (h1 : ∀ u ∈ news, u.oneCell' = true)
    (h63 : n + m ≤ maxLen) (hbytes : (n + m) * bytes ≤ 140737488355328) (hbase : base ≤ w.heap.size) (w0 : World) (hb : Below base w0 w)
    (h : ∀ v' w', w'.ownsRow base e size v' (n + m) (xs ++ news) → w.grownBy w' v.ownBlock → Below base w0 w' → K (a.put o.dst v') w') :
    if Region.wanted o (yielded ops a.tmps) = true then Oper.wp P o a w K Q else E := by
  have hw : Region.wanted o (yielded ops a.tmps) = true := by simp [Region.wanted, hgd]
  rw [if_pos hw]
  obtain ⟨hl, hsl⟩ := hsl
  have hform : (∃ ad c, xv = .slice (some ad) m c ∧ ∀ j u, news[j]? = some u → w.cell? (ad.add j) = some u) ∨ (m = 0 ∧ xv = .slice none 0 0) := by
    rcases hsl with ⟨rfl, ad, c, rfl⟩ | ⟨b, off, c, rfl, hn, hlt, hc⟩
    · cases ad with
      | none => obtain rfl := hno c rfl; exact .inr ⟨rfl, rfl⟩
      | some ad =>
        refine .inl ⟨ad, c, rfl, fun j u hu => ?_⟩
        obtain rfl : news = [] := List.eq_nil_of_length_eq_zero (by simpa using hl)
        cases hu
    · refine .inl ⟨_, c, rfl, fun j u hu => ?_⟩
      have e : (⟨b, off, none⟩ : Addr).add j = ⟨b, off + j, none⟩ := by unfold Addr.add; split <;> simp_all
      rw [e]; exact hc j u hu
  have hown0 := hown
  have hbelow : ∀ w', w.grownBy w' v.ownBlock → Below base w0 w' := fun w' hg => hb.grown hg hbase fun k hk => by
    rcases hown0.2 with ⟨rfl, _⟩ | ⟨g, cap, cur, rfl, hB, _⟩
    · cases hk
    · simp [Value.ownBlock] at hk; omega
  rcases hform with ⟨ad, c, rfl, hc⟩ | ⟨rfl, rfl⟩
  · obtain ⟨v', w', hrun, r1, r2, _⟩ := run_append_own (P := P) w base t o.type e i z size bytes ht hi hz hsize hby hzs hsz v n xs hown ad m c news hl hc h1 h63 hbytes hbase
    unfold Oper.wp
    simp [execOp, ho, resolve, invoke, builtin, hs, hx, hrun, Result.andThen]
    exact h v' w' r1 r2 (hbelow w' r2)
  · have hrun := run_append_owned_none (P := P) (w := w) base t o.type e i size ht hi v n xs hown
    obtain rfl : news = [] := List.eq_nil_of_length_eq_zero (by simpa using hl)
    unfold Oper.wp
    simp [execOp, ho, resolve, invoke, builtin, hs, hx, hrun, Result.andThen]
    exact h v w (by rw [List.append_nil]; exact hown) ⟨rfl, rfl, rfl, Nat.le_refl _, fun _ _ _ => rfl⟩ hb

theorem sl_new (w : World) (x : Value) (t : TypeId) : Sl (w.alloc (.cells #[x] t)) 1 (.slice (some ⟨w.heap.size, 0, none⟩) 1 1) 1 [x] := by
  refine ⟨rfl, .inr ⟨_, 0, 1, rfl, Nat.le_refl _, by simp, fun j u hu => ?_⟩⟩
  have := new_cells w [x] t j u hu
  have e : (⟨w.heap.size, 0, none⟩ : Addr).add j = ⟨w.heap.size, j, none⟩ := by unfold Addr.add; split <;> simp_all
  rw [e] at this
  rw [Nat.zero_add]; exact this

/-- append, in a plain region: onto nil or a row of the call's own, out of any slice that reads as a list. -/
theorem wpList_append_sl {P : Program} {ops : Array Oper} {rest : List Oper} {o : Oper} {a : Act} {w : World} {Q : Exit → Act → World → Prop} (hgd : o.guard = none) (s x : Operand) (t : TypeId)
    (ho : o.op = Op.call { callee := Callee.builtin Builtin.append, args := #[s, x], argTypes := #[t, t] })
    (base : Nat) (e : TypeId) (i : TypeInfo) (z : Value) (size bytes : Nat) (ht : P.underlying t = some (.slice e)) (hi : P.info? e = some i) (hz : i.zero = some z)
    (hsize : i.size = size) (hby : i.bytes = bytes) (hzs : z.cells.size = size) (hsz : 0 < size)
    (v : Value) (n : Nat) (xs : List Value) (hs : a.eval s = v) (hown : w.ownsRow base e size v n xs)
    (xv : Value) (m : Nat) (news : List Value) (hx : a.eval x = xv) (hsl : Sl w size xv m news) (hno : ∀ n c, xv = .slice none n c → c = 0) (h1 : ∀ u ∈ news, u.oneCell' = true)
    (h63 : n + m ≤ maxLen) (hbytes : (n + m) * bytes ≤ 140737488355328) (hbase : base ≤ w.heap.size)
    (h : ∀ v' w', w'.ownsRow base e size v' (n + m) (xs ++ news) → w.grownBy w' v.ownBlock → Below base w w' → wpList P ops Q rest (a.put o.dst v') w') :
    wpList P ops Q (o :: rest) a w := by
  refine wpList_plain hgd fun K hK => ?_
  have := step_append_sl (E := True) (ops := ops) (a := a) (w := w) (K := K) (Q := Q) hgd s x t ho base e i z size bytes ht hi hz hsize hby hzs hsz v n xs hs hown xv m news hx hsl (fun c hc => hno _ c hc) h1 h63 hbytes hbase w (Below.refl _ _) (fun v' w' a1 a2 a3 => hK _ _ (h v' w' a1 a2 a3))
  rw [if_pos (by simp [Region.wanted, hgd])] at this
  exact this

end Go.Proofs.YtfppjpmflpaffaaGreat
