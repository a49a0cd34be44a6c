/-
  The reference's SameInts and MergeLineage.
-/
import Derived.Test.YtpgaldkedeohaaaColB
import Derived.Deep.RegionLaw
import Derived.Laws.AppendOwnNone
namespace Go.Proofs.Ytpgaldkedeohaaa
open Go.RowKit
set_option linter.unusedVariables false

/-- append, as one step of a region that draws its order: onto nil or a row of the call's own, out of any slice that reads as a list. -/
theorem step_append_sl {P : Program} {ops : Array Oper} {o : Oper} {a : Act} {w : World} {K : Act → World → Prop} {Q : Exit → Act → World → Prop} {E : Prop} (hgd : o.guard = none) (s x : Operand) (t : TypeId)
    (ho : o.op = Op.call { callee := Callee.builtin Builtin.append, args := #[s, x], argTypes := #[t, t] })
    (base : Nat) (e : TypeId) (i : TypeInfo) (z : Value) (size bytes : Nat) (ht : P.underlying t = some (.slice e)) (hi : P.info? e = some i) (hz : i.zero = some z)
    (hsize : i.size = size) (hby : i.bytes = bytes) (hzs : z.cells.size = size) (hsz : 0 < size)
    (v : Value) (n : Nat) (xs : List Value) (hs : a.eval s = v) (hown : w.ownsRow base e size v n xs)
    (xv : Value) (m : Nat) (news : List Value) (hx : a.eval x = xv) (hsl : Sl w size xv m news) (hno : ∀ c, xv = .slice none m c → c = 0) (h1 : ∀ u ∈ news, u.oneCell' = true)
    (h63 : n + m ≤ maxLen) (hbytes : (n + m) * bytes ≤ 140737488355328) (hbase : base ≤ w.heap.size) (w0 : World) (hb : Below base w0 w)
    (h : ∀ v' w', w'.ownsRow base e size v' (n + m) (xs ++ news) → w.grownBy w' v.ownBlock → Below base w0 w' → K (a.put o.dst v') w') :
    if Region.wanted o (yielded ops a.tmps) = true then Oper.wp P o a w K Q else E := by
  have hw : Region.wanted o (yielded ops a.tmps) = true := by simp [Region.wanted, hgd]
  rw [if_pos hw]
  obtain ⟨hl, hsl⟩ := hsl
  have hform : (∃ ad c, xv = .slice (some ad) m c ∧ ∀ j u, news[j]? = some u → w.cell? (ad.add j) = some u) ∨ (m = 0 ∧ xv = .slice none 0 0) := by
    rcases hsl with ⟨rfl, ad, c, rfl⟩ | ⟨b, off, c, rfl, hn, hlt, hc⟩
    · cases ad with
      | none => obtain rfl := hno c rfl; exact .inr ⟨rfl, rfl⟩
      | some ad =>
        refine .inl ⟨ad, c, rfl, fun j u hu => ?_⟩
        obtain rfl : news = [] := List.eq_nil_of_length_eq_zero (by simpa using hl)
        cases hu
    · refine .inl ⟨_, c, rfl, fun j u hu => ?_⟩
      have e : (⟨b, off, none⟩ : Addr).add j = ⟨b, off + j, none⟩ := by unfold Addr.add; split <;> simp_all
      rw [e]; exact hc j u hu
  have hown0 := hown
  have hbelow : ∀ w', w.grownBy w' v.ownBlock → Below base w0 w' := fun w' hg => hb.grown hg hbase fun k hk => by
    rcases hown0.2 with ⟨rfl, _⟩ | ⟨g, cap, cur, rfl, hB, _⟩
    · cases hk
    · simp [Value.ownBlock] at hk; omega
  rcases hform with ⟨ad, c, rfl, hc⟩ | ⟨rfl, rfl⟩
  · obtain ⟨v', w', hrun, r1, r2, _⟩ := run_append_own (P := P) w base t o.type e i z size bytes ht hi hz hsize hby hzs hsz v n xs hown ad m c news hl hc h1 h63 hbytes hbase
    unfold Oper.wp
    simp [execOp, ho, resolve, invoke, builtin, hs, hx, hrun, Result.andThen]
    exact h v' w' r1 r2 (hbelow w' r2)
  · have hrun := run_append_owned_none (P := P) (w := w) base t o.type e i size ht hi v n xs hown
    obtain rfl : news = [] := List.eq_nil_of_length_eq_zero (by simpa using hl)
    unfold Oper.wp
    simp [execOp, ho, resolve, invoke, builtin, hs, hx, hrun, Result.andThen]
    exact h v w (by rw [List.append_nil]; exact hown) ⟨rfl, rfl, rfl, Nat.le_refl _, fun _ _ _ => rfl⟩ hb

theorem sl_new (w : World) (x : Value) (t : TypeId) : Sl (w.alloc (.cells #[x] t)) 1 (.slice (some ⟨w.heap.size, 0, none⟩) 1 1) 1 [x] := by
  refine ⟨rfl, .inr ⟨_, 0, 1, rfl, Nat.le_refl _, by simp, fun j u hu => ?_⟩⟩
  have := new_cells w [x] t j u hu
  have e : (⟨w.heap.size, 0, none⟩ : Addr).add j = ⟨w.heap.size, j, none⟩ := by unfold Addr.add; split <;> simp_all
  rw [e] at this
  rw [Nat.zero_add]; exact this

set_option maxRecDepth 100000 in
set_option maxHeartbeats 4000000 in
theorem ref_SameInts (a b : Value) (la lb : List Int) (w : World) (ha : Sl w 1 a la.length (la.map (Value.int .i64))) (hb : Sl w 1 b lb.length (lb.map (Value.int .i64))) (hla : la.length ≤ 1000000) :
    Calls Try.prog 17 #[a, b] w fun e w' => e = .returned (.bool (decide (la = lb))) ∧ Below w.heap.size w w' := by
  obtain ⟨aa, ac, rfl⟩ := ha.len
  obtain ⟨ab, bc, rfl⟩ := hb.len
  by_cases hlen : la.length = lb.length
  case neg =>
    have hne : decide (la = lb) = false := by simp; intro e; exact hlen (by rw [e])
    rw [hne]
    have HA := Lib.hid ha
    have HB := Lib.hid hb
    clear ha hb hne
    generalize la.length = n at *
    generalize lb.length = m at *
    have h1 : ((n : Int) != (m : Int)) = true := by simp; omega
    go_enter Try.func17, Try.ntmps17
    go_wp2
    go_ret
    exact ⟨rfl, Below.refl _ _⟩
  rw [← hlen]
  by_cases h0 : la.length = 0
  · obtain rfl : la = [] := List.eq_nil_of_length_eq_zero h0
    obtain rfl : lb = [] := List.eq_nil_of_length_eq_zero (by rw [← hlen]; rfl)
    clear ha hb
    go_enter Try.func17, Try.ntmps17
    go_wp2
    refine wp_loop_rounds 1 ?_
    rw [rounds_succ]
    go_wp2
    go_ret
    exact ⟨rfl, Below.refl _ _⟩
  obtain ⟨ba, oa, ca, ea, _, hla2, hca⟩ := ha.some_ (by omega)
  obtain ⟨bb, ob, cb, eb, _, hlb2, hcb⟩ := hb.some_ (by omega)
  obtain ⟨rfl, rfl⟩ : aa = some ⟨ba, oa, none⟩ ∧ ac = ca := by simpa using ea
  obtain ⟨rfl, rfl⟩ : ab = some ⟨bb, ob, none⟩ ∧ bc = cb := by simpa using eb
  obtain ⟨v, hv⟩ : ∃ v, decide (la = lb) = v := ⟨_, rfl⟩
  rw [hv]
  have HV := Lib.hid hv
  have HLN := Lib.hid hlen
  obtain ⟨n, hn⟩ : ∃ n, la.length = n := ⟨_, rfl⟩
  have HN := Lib.hid hn
  rw [hn] at hla h0 ⊢
  have HCA := Lib.hid hca
  have HCB := Lib.hid hcb
  clear hv hlen hn hca hcb ha hb ea eb
  have hB0 : Below w.heap.size w w := Below.refl _ _
  go_enter Try.func17, Try.ntmps17
  go_wp2
  go_loopg [5] n (fun gk i wr => ∃ k : Nat, gk + k = n ∧ i = .int .i64 k ∧ Below w.heap.size w wr ∧ ∀ j, j < k → la[j]? = lb[j]?)
  case atStart => exact ⟨0, rfl, rfl, hB0, fun j hj => by omega⟩
  case round =>
    obtain ⟨k, hgk, rfl, hB, hpre⟩ := hrel
    clear hB0
    have HP := Lib.hid hpre
    have HK := Lib.hid hgk
    have hkn : k ≤ n := by omega
    clear hpre hgk
    by_cases hk : k < n
    · obtain ⟨x, hx⟩ : ∃ x, la[k]? = some x := ⟨la[k]'(by have := HN.out; omega), List.getElem?_eq_getElem (by have := HN.out; omega)⟩
      obtain ⟨y, hy⟩ : ∃ y, lb[k]? = some y := ⟨lb[k]'(by have := HN.out; have := HLN.out; omega), List.getElem?_eq_getElem (by have := HN.out; have := HLN.out; omega)⟩
      have cx : wr.cell? ⟨ba, oa + k, none⟩ = some (.int .i64 x) := (hB.cell (p := ⟨ba, oa + k, none⟩) hla2).trans (HCA.out k _ (by rw [List.getElem?_map, hx]; rfl))
      have cy : wr.cell? ⟨bb, ob + k, none⟩ = some (.int .i64 y) := (hB.cell (p := ⟨bb, ob + k, none⟩) hlb2).trans (HCB.out k _ (by rw [List.getElem?_map, hy]; rfl))
      have HX := Lib.hid hx
      have HY := Lib.hid hy
      have hk1 : (k : Int) < (n : Int) := by omega
      have hk0 : (0 : Int) ≤ (k : Int) := by omega
      clear hx hy
      by_cases hxy : x = y
      · subst hxy
        go_wp2_with fail
        go_quiet (fail)
        go_wp2_with fail
        go_roundg (gk - 1)
        case measure => have := HK.out; omega
        case rel => exact ⟨k + 1, by have := HK.out; omega, by go_num, below_drewN hB _, fun j hj => by
          by_cases e : j = k
          · subst e; rw [HX.out, HY.out]
          · exact HP.out j (by omega)⟩
      · have hne : (x != y) = true := by simp; exact hxy
        have HF := Lib.hid (show decide (la = lb) = false by
          simp
          intro e
          have := HX.out
          rw [e, HY.out] at this
          exact hxy (Option.some.inj this).symm)
        go_wp2_with fail
        go_quiet (fail)
        go_wp2_with fail
        go_ret
        exact ⟨ret_bool (HF.out.symm.trans HV.out), below_drewN hB _⟩
    · obtain rfl : k = n := by omega
      have HT := Lib.hid (show decide (la = lb) = true by
        simp
        apply List.ext_getElem?
        intro j
        by_cases hj : j < k
        · exact HP.out j hj
        · rw [List.getElem?_eq_none (by have := HN.out; omega), List.getElem?_eq_none (by have := HN.out; have := HLN.out; omega)])
      go_wp2_with fail
      go_ret
      exact ⟨ret_bool (HT.out.symm.trans HV.out), hB⟩

end Go.Proofs.Ytpgaldkedeohaaa
