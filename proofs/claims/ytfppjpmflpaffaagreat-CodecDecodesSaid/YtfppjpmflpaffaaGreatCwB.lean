/-
  Law 34: append leaves what was there; awake.
-/
import Derived.Test.YtfppjpmflpaffaaGreatCwA
namespace Go.Proofs.YtfppjpmflpaffaaGreat
open Go.RowKit
set_option linter.unusedVariables false
set_option linter.unusedSimpArgs false

theorem run_append_own3 {P : Program} (w : World) (base : Nat) (t ty e : TypeId) (i : TypeInfo) (z : Value) (size bytes : Nat) (ht : P.underlying t = some (.slice e)) (hi : P.info? e = some i) (hz : i.zero = some z)
    (hsize : i.size = size) (hby : i.bytes = bytes) (hzs : z.cells.size = size) (hsz : 0 < size)
    (v : Value) (n : Nat) (xs : List Value) (hown : w.ownsRow base e size v n xs)
    (a : Addr) (m c : Nat) (news : List Value) (hl : news.length = m * size) (hnews : ∀ j u, news[j]? = some u → w.cell? (a.add j) = some u) (h1 : ∀ u ∈ news, u.oneCell' = true)
    (h63 : n + m ≤ maxLen) (hbytes : (n + m) * bytes ≤ 140737488355328) (hbase : base ≤ w.heap.size) :
    ∃ v' w', (Builtin.append_ #[t, t] ty #[v, .slice (some a) m c]).run P w = .ok v' w' ∧ w'.ownsRow base e size v' (n + m) (xs ++ news) ∧ w.grownBy w' v.ownBlock ∧
      w'.ownsRow base e size v n xs := by
  obtain ⟨v', w', hr, r1, r2, r3⟩ := run_append_own (P := P) w base t ty e i z size bytes ht hi hz hsize hby hzs hsz v n xs hown a m c news hl hnews h1 h63 hbytes hbase
  refine ⟨v', w', hr, r1, r2, ?_⟩
  subst hsize
  subst hby
  have hsmall : n + m ≤ 9223372036854775807 := by simp only [maxLen] at h63; omega
  rcases hown.2 with ⟨rfl, rfl⟩ | ⟨g, cap, cur, rfl, hbg, hg, hnc, hcm, hcs, htake⟩
  · by_cases hm : m = 0
    · obtain rfl : xs = [] := List.eq_nil_of_length_eq_zero (by simpa using hown.1)
      exact World.ownsRow_nil _ _ _ _
    · have hx : xs = [] := List.eq_nil_of_length_eq_zero (by simpa using hown.1)
      have hr2 := run_append_nil (P := P) w t ty e i z ht hi hz a m c news hl hnews (by omega) (by omega) (by have hb := hbytes; simp only [Nat.zero_add] at hb; omega)
      subst hx
      exact World.ownsRow_nil _ _ _ _
  · by_cases hroom : n + m ≤ cap
    · have hfit : n * i.size + news.length ≤ cur.size := by rw [hl, hcs, ← Nat.add_mul]; exact Nat.mul_le_mul_right _ hroom
      have hr2 := run_append_room (P := P) w t ty e i ht hi g n cap cur hg a m c news hl hnews h1 hroom hfit
      have := hr.symm.trans hr2
      simp only [Result.ok.injEq] at this
      rw [this.2]
      have hxl : xs.length = n * i.size := hown.1
      refine ⟨hown.1, .inr ⟨g, cap, _, rfl, hbg, setRow_heap w g cur _ e _ hg, hnc, hcm, ?_, ?_⟩⟩
      · simp only [List.size_toArray, List.length_append, List.length_take, List.length_drop, Array.length_toList]
        omega
      · rw [htake, List.append_assoc, ← hxl]
        exact List.take_left
    · have holds : ∀ j u, xs[j]? = some u → w.cell? ((⟨g, 0, none⟩ : Addr).add j) = some u := hown.cells (g := g) rfl
      have hr2 := run_append_grow (P := P) w t ty e i z ht hi hz ⟨g, 0, none⟩ n cap xs hown.1 holds a m c news hl hnews (by omega) (by omega) (growslice_fits (by omega) hbytes)
      have := hr.symm.trans hr2
      simp only [Result.ok.injEq] at this
      rw [this.2]
      refine ⟨hown.1, .inr ⟨g, cap, cur, rfl, hbg, ?_, hnc, hcm, hcs, htake⟩⟩
      exact (heap_alloc_old w.drew _ (show g < w.drew.heap.size from (Array.getElem?_eq_some_iff.1 hg).1)).trans hg

/-- Bytes onto bytes: what was there stays. -/
theorem wpList_app_k {ops : Array Oper} {rest : List Oper} {o : Oper} {a : Act} {w : World} {Q : Exit → Act → World → Prop} (hgd : o.guard = none) (s x : Operand)
    (ho : o.op = Op.call { callee := Callee.builtin Builtin.append, args := #[s, x], argTypes := #[31, 31] })
    (base : Nat) (v : Value) (l : List UInt8) (hs : a.eval s = v) (hown : Row w base v l) (ad : Addr) (m : List UInt8) (n c : Nat) (hn : m.length = n) (hx : a.eval x = .slice (some ad) n c) (hc : ∀ j u, (pc m)[j]? = some u → w.cell? (ad.add j) = some u) (hl : l.length + m.length ≤ 140737488355328) (hbase : base ≤ w.heap.size)
    (h : ∀ v' w', Row w' base v' (l ++ m) → Row w' base v l → w.grownBy w' v.ownBlock → wpList Tryz.prog ops Q rest (a.put o.dst v') w') : wpList Tryz.prog ops Q (o :: rest) a w := by
  subst hn
  obtain ⟨i0, hi0, hz0, hz1, hz2⟩ := info_parts byte_info2
  refine wpList_plain hgd fun K hK => ?_
  obtain ⟨v', w', hrun, r1, r2, r3⟩ := run_append_own3 (P := Tryz.prog) w base 31 o.type 5 i0 _ 1 1 Tryz.underlying31 hi0 hz0 hz1 hz2 rfl (by decide) v l.length (pc l) hown ad m.length c (pc m) (by rw [pc_len]; omega) hc (pc_one _) (by unfold maxLen; omega) (by omega) hbase
  unfold Oper.wp execOp
  simp only [ho, resolve, invoke, builtin, Sem.run_bind, Sem.run_pure, Result.andThen_ok, List.map_toArray, List.map_cons, List.map_nil, hs, hx, hrun]
  refine hK _ _ (h v' w' ?_ r3 r2)
  unfold Row
  rw [pc_append, List.length_append]; exact r1

theorem numB_s (x : Int) (h : zz x < 128) : numB x = [UInt8.ofNat (zz x)] := vi_one h

abbrev xAw : Ty.T tCommand := (5, -1, [], (0, 0, 0, ByteArray.empty), (0, (0, 0)))
abbrev eAw : List UInt8 := [10, 1, 0, 0, 0, 0, 0, 0, 0, 0]
theorem awake_enc : enc tCommand xAw = eAw := by
  show numB 5 ++ (numB (-1) ++ ((numB ((0 : Nat) : Int) ++ []) ++ ((numB 0 ++ (numB 0 ++ (numB 0 ++ (numB ((0 : Nat) : Int) ++ [])))) ++ (numB 0 ++ (numB 0 ++ numB 0))))) = _
  rw [numB_s 5 (by decide), numB_s (-1) (by decide), numB_s 0 (by decide), show numB ((0 : Nat) : Int) = [UInt8.ofNat (zz 0)] from numB_s 0 (by decide)]
  rfl
theorem awake_enc2 : enc tDatabase (zeroT tDatabase) = [0, 0, 0, 0, 0, 0] := by
  show numB 0 ++ (numB 0 ++ ((numB ((0 : Nat) : Int) ++ []) ++ (numB 0 ++ ((numB ((0 : Nat) : Int) ++ []) ++ (numB ((0 : Nat) : Int) ++ []))))) = _
  rw [numB_s 0 (by decide), show numB ((0 : Nat) : Int) = [UInt8.ofNat (zz 0)] from numB_s 0 (by decide)]
  rfl
theorem awake_rd (w : World) (F : Nat → Prop) : (Ty.rd tCommand).rd w F [.int .i64 5, .int .i64 (-1), .slice none 0 0, .int .i64 0, .int .i64 0, .int .i64 0, .string ⟨#[]⟩, .int .i64 0, .int .i64 0, .int .i64 0] xAw :=
  ⟨[.int .i64 5], _, rfl, ⟨rfl, rfl⟩, [.int .i64 (-1)], _, rfl, ⟨rfl, rfl⟩, [.slice none 0 0], _, rfl, zero_rd (.list tEdit) w F, [.int .i64 0, .int .i64 0, .int .i64 0, .string ⟨#[]⟩], _, rfl, zero_rd tRequest w F, zero_rd tHold w F⟩
theorem awake_dec (r : List UInt8) : dec tCommand (.ok (eAw ++ r)) = (xAw, .ok r) := by
  have h := dec_enc tCommand xAw r (ok_rd tCommand (awake_rd default (fun _ => True)))
  rw [awake_enc] at h; exact h
theorem awake_dec2 : endE (dec tDatabase (.ok [])).2 = 2 := by
  have e : (dec tDatabase (.ok [])).2 = .error 2 := by
    show (dec (.pair .num (.pair (.list tTable) (.pair .num (.pair (.list tHold) (.list tCitation))))) (dnum (.ok [])).2).2 = _
    have : (dnum (.ok [])).2 = .error 2 := by unfold dnum; simp only; rw [getN]
    rw [this, dec_error]
  rw [e]; rfl
end Go.Proofs.YtfppjpmflpaffaaGreat
