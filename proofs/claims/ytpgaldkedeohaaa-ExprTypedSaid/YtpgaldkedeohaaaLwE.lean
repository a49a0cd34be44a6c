/-
  The walk of ExprPrefix.
-/
import Derived.Test.YtpgaldkedeohaaaLwD
namespace Go.Proofs.Ytpgaldkedeohaaa
open Go.RowKit
set_option linter.unusedVariables false

namespace Xp
theorem getD_left (L M : List Ex) (i : Nat) (h : i < L.length) : (L ++ M).getD i zeroE = L.getD i zeroE := by
  rw [List.getD_eq_getElem?_getD, List.getD_eq_getElem?_getD, List.getElem?_append_left h]

theorem fl_prefix (L M : List Ex) (r : Nat) (h : r < L.length) : ∀ k j, fl (L ++ M) r k j = fl L r k j := by
  intro k
  induction k with
  | zero => intro j; rfl
  | succ k ih =>
    intro j
    show (fl (L ++ M) r k j || (fl (L ++ M) r k (r - k) && touch ((L ++ M).getD (r - k) zeroE) (r - k) j)) = _
    rw [ih, ih, getD_left L M _ (by omega)]
    rfl

theorem outc_prefix (L M : List Ex) (r : Nat) (h : r < L.length) : ∀ k, outc (L ++ M) r k = outc L r k := by
  intro k
  induction k with
  | zero => rfl
  | succ k ih =>
    show outc (L ++ M) r k ++ (if fl (L ++ M) r k (r - k) = true ∧ ((L ++ M).getD (r - k) zeroE).op = 2 then [((L ++ M).getD (r - k) zeroE).col] else []) = _
    rw [ih, fl_prefix L M r h, getD_left L M _ (by omega)]
    rfl
end Xp

theorem pre_chk {L M : List Ex} {root : Int} {cols : List Int} (h : L.length + M.length ≤ 200) (h1 : ¬ (root < 0 ∨ (L.length : Int) ≤ root)) : chkX (L ++ M) root cols = chkX L root cols := by
  unfold chkX
  have hl : (L ++ M).length = L.length + M.length := List.length_append
  rw [if_neg (by omega), if_neg (by omega), if_neg (by omega), if_neg h1]
  exact Xp.ck_prefix L M cols _ (by omega)

theorem pre_ev {L M : List Ex} {root : Int} {row : List Vl} (h1 : ¬ (root < 0 ∨ (L.length : Int) ≤ root)) : evX (L ++ M) root row = evX L root row := by
  unfold evX
  have hl : (L ++ M).length = L.length + M.length := List.length_append
  rw [if_neg (by omega), if_neg h1]
  exact Xp.ev_prefix L M row _ (by omega)

theorem pre_col {L M : List Ex} {root : Int} (h1 : ¬ (root < 0 ∨ (L.length : Int) ≤ root)) : colX (L ++ M) root = colX L root := by
  unfold colX
  have hl : (L ++ M).length = L.length + M.length := List.length_append
  rw [if_neg (by omega), if_neg h1]
  unfold Xp.colS
  rw [Xp.outc_prefix L M _ (by omega)]

theorem wf_of {w : World} {v : Value} {L : List Ex} (h : ExsV w v L) : ∀ x ∈ L, x.c.wf := by
  intro x hx
  obtain ⟨i, hi⟩ := List.getElem?_of_mem hx
  obtain ⟨a, n, c, _, hn, _, h4⟩ := h
  rcases h4 with h4 | ⟨b, off, _, _, h⟩
  · have := (List.getElem?_eq_some_iff.1 hi).1; omega
  · exact (h i x hi).2

theorem sl_new2 (w : World) (o : Obj) (x : Value) (t : TypeId) : Sl ((w.alloc o).alloc (.cells #[x] t)) 1 (.slice (some ⟨w.heap.size + 1, 0, none⟩) 1 1) 1 [x] := by
  have := sl_new (w.alloc o) x t
  rwa [World.size_alloc] at this

theorem take_map_snoc {row : List Vl} {k : Nat} {x : Vl} (h : row[k]? = some x) : (row.take (k + 1)).map (·.k) = (row.take k).map (·.k) ++ [x.k] := by
  rw [List.take_add_one, h, List.map_append]; rfl

/-- A row's cells, behind steps that leave old memory alone. -/
theorem RowAt.cells {w : World} {v : Value} {row : List Vl} (h : RowAt w w.heap.size v row) {i : Nat} {x : Vl} (hi : row[i]? = some x) : ∃ b off c, v = .slice (some ⟨b, off, none⟩) row.length c ∧ b < w.heap.size ∧ VlAt w b (off + i * 3) x := by
  obtain ⟨a, n, c, rfl, rfl, _, _, h4⟩ := h.view
  rcases h4 with h4 | ⟨b, off, rfl, _, hb, h⟩
  · have := (List.getElem?_eq_some_iff.1 hi).1; omega
  · exact ⟨b, off, c, rfl, hb, (h i x hi).1⟩

set_option maxRecDepth 100000 in
set_option maxHeartbeats 4000000 in
theorem prefix_walk (v v2 rv : Value) (root : Int) (L M : List Ex) (row : List Vl) (w : World) (hL : ExsAt w w.heap.size v L) (hM : ExsAt w w.heap.size v2 M) (hz1 : ∀ n c, v = .slice none n c → c = 0) (hz2 : ∀ n c, v2 = .slice none n c → c = 0) (hsz2 : ∀ a n c, v2 = .slice a n c → n * 64 ≤ 140737488351232) (hc : RowAt w w.heap.size rv row) :
    Calls Try.prog 8 #[v, v2, .int .i64 root, rv] w (Holds w) := by
  have HC := Lib.hid hc
  have hV := hL.v
  have hW := hM.v
  have HV := Lib.hid hV
  have HW := Lib.hid hW
  have HZ1 := Lib.hid hz1
  have HZ2 := Lib.hid hz2
  have hok := rowAt_ok hc
  have HOK := Lib.hid hok
  obtain ⟨a, n, c, rfl, hn, hnc, _⟩ := hV
  obtain ⟨a2, n2, c2, rfl, hn2, hnc2, _⟩ := hW
  obtain ⟨qa, qn, qc, rfl, hqn, _⟩ := hc.view
  have hreach := hsz2 _ _ _ rfl
  clear hsz2
  have HN := Lib.hid hn
  have HN2 := Lib.hid hn2
  have HQ := Lib.hid hqn
  have hq0 : (0 : Int) ≤ (qn : Int) := by omega
  clear hL hM hc hn hn2 hqn hz1 hz2 hok
  have hB0 : Below w.heap.size w w := Below.refl _ _
  cases hf : (decide (n ≤ 220) && decide ((qn : Int) ≤ 60)) with
  | false =>
    have HF := Lib.hid hf
    clear hf
    go_enter Try.func8, Try.ntmps8
    go_wp2_with fail
    refine (few_call a n c qn false _ hq0 HF.out).mono ?_
    rintro e1 w1 ⟨rfl, rfl⟩
    go_wp2_with fail
    refine (awake_call _).mono ?_
    rintro e1 w1 ⟨rfl, hb1⟩
    go_wp2
    go_ret
    exact ⟨rfl, hb1⟩
  | true =>
    have HF := Lib.hid hf
    obtain ⟨hf1, hf2⟩ := few_no hf
    clear hf
    by_cases hbad : ¬ ((n : Int) + n2 ≤ 200 ∧ 0 ≤ root ∧ root < n)
    · have hcs : (200 < (n : Int) + n2) ∨ ((n : Int) + n2 ≤ 200 ∧ root < 0) ∨ ((n : Int) + n2 ≤ 200 ∧ 0 ≤ root ∧ (n : Int) ≤ root) := by omega
      clear hbad
      have hs0 : 0 ≤ (n : Int) + n2 := by omega
      rcases hcs with h | ⟨h, h'⟩ | ⟨h, h', h''⟩
      all_goals
        go_enter Try.func8, Try.ntmps8
        go_wp2_with fail
        refine (few_call a n c qn true _ hq0 HF.out).mono ?_
        rintro e1 w1 ⟨rfl, rfl⟩
        go_wp2_with fail
        refine (awake_call _).mono ?_
        rintro e1 w1 ⟨rfl, hb1⟩
        go_wp2
        go_ret
        exact ⟨rfl, hb1⟩
    · have hgood : (n : Int) + n2 ≤ 200 ∧ 0 ≤ root ∧ root < n := Classical.not_not.1 hbad
      obtain ⟨g1, g2, g3⟩ := hgood
      have HG := Lib.hid (show ¬ (root < 0 ∨ (L.length : Int) ≤ root) by have := HN.out; omega)
      have HG2 := Lib.hid (show L.length + M.length ≤ 200 by have := HN.out; have := HN2.out; omega)
      clear hbad
      obtain ⟨k0, e0, hke⟩ : ∃ k e, chkX L root (row.map (·.k)) = (k, e) := ⟨_, _, rfl⟩
      have HK := Lib.hid hke
      obtain ⟨ek, en, es, hev⟩ : ∃ k m s, evX L root row = ⟨k, m, s⟩ := ⟨_, _, _, rfl⟩
      have HE := Lib.hid hev
      clear hke hev
      obtain ⟨i0, hi0, hz0, hz1, hzb⟩ := info_parts int_info
      obtain ⟨ie, hie, hez0, hez1, hezb⟩ := info_parts expr_info
      go_enter Try.func8, Try.ntmps8
      go_wp2_with fail
      refine (few_call a n c qn true _ hq0 HF.out).mono ?_
      rintro e1 w1 ⟨rfl, rfl⟩
      go_wp2_with fail
      go_loopg [9, 43] qn (fun gk v j wr => ∃ k : Nat, gk + k = qn ∧ j = .int .i64 k ∧ Below w.heap.size w wr ∧ wr.ownsRow w.heap.size 3 1 v k (((row.take k).map (·.k)).map (Value.int .i64)))
      case atStart => exact ⟨0, by omega, by go_num, hB0, World.ownsRow_nil _ _ _ _⟩
      case round =>
        obtain ⟨k, hgk, rfl, hB, hO⟩ := hrel
        clear hB0
        by_cases hk : k < qn
        case neg =>
          obtain rfl : k = qn := by omega
          rw [List.take_of_length_le (Nat.le_of_eq HQ.out.symm)] at hO
          have HO := Lib.hid hO
          have HS1 := Lib.hid (HV.out.keep hB).sl
          have HNL := Lib.hid (show L.length = n from HN.out.symm)
          clear hO hgk hk
          have hS1 : Sl wr 7 (.slice a n c) n (encE.all L) := by have := HS1.out; rwa [HNL.out] at this
          have HS1 := Lib.hid hS1
          clear hS1
          go_wp2_with (at_builtin; refine wpList_append_sl rfl _ _ 22 rfl wr.heap.size 44 ie _ 7 64 Try.underlying22 hie hez0 hez1 hezb rfl (by decide) _ _ _ rfl (World.ownsRow_nil _ _ _ _) _ n (encE.all L) rfl HS1.out HZ1.out (one_E L) (by unfold maxLen; omega) (by omega) (Nat.le_refl _) ?_)
          intro v4 w4 hown4 hg4 hb4
          have hB4 : Below w.heap.size w w4 := hB.trans (hb4.mono hB.size)
          have hown4 : w4.ownsRow wr.heap.size 44 7 v4 n (encE.all L) := by simpa using hown4
          have HW4 := Lib.hid hown4
          have hS2 : Sl w4 7 (.slice a2 n2 c2) n2 (encE.all M) := by have := (HW.out.keep hB4).sl; rwa [← HN2.out] at this
          have HS2 := Lib.hid hS2
          have HO4 := Lib.hid (own_below HO.out hb4)
          have hsz4 := hb4.size
          clear hown4 hg4 hS2
          go_wp2_with (at_builtin; refine wpList_append_sl rfl _ _ 22 rfl wr.heap.size 44 ie _ 7 64 Try.underlying22 hie hez0 hez1 hezb rfl (by decide) _ _ _ rfl HW4.out _ n2 (encE.all M) rfl HS2.out HZ2.out (one_E M) (by unfold maxLen; omega) (by omega) hsz4 ?_)
          intro v5 w5 hown5 hg5 hb5
          have hb5' : Below wr.heap.size wr w5 := hb4.trans hb5
          have hB5 : Below w.heap.size w w5 := hB.trans (hb5'.mono hB.size)
          have HX5 := Lib.hid (exsV_own (L := L ++ M) (w := w5) (base := wr.heap.size) (n := n + n2) (t := 44) (v := v5) (by rw [encE.all_append]; exact hown5) (fun x hx => (List.mem_append.1 hx).elim (wf_of HV.out x) (wf_of HW.out x)))
          have HI5 := Lib.hid (intsAt_own (own_below HO.out hb5') (fun x hx => by obtain ⟨y, hy, rfl⟩ := List.mem_map.1 hx; exact (HOK.out y hy).1))
          have HV5 := Lib.hid (HV.out.keep hB5)
          have HC5 := Lib.hid (HC.out.on hB5)
          clear hown5 hg5 hb5 hb5' hb4 hB4 hsz4 hB
          go_wp2_with fail
          refine (check_any HV5.out HI5.out HK.out).mono ?_
          rintro e1 w6 ⟨rfl, hb6⟩
          have hB6 := below_chain hB5 hb6
          have HX6 := Lib.hid (HX5.out.keep hb6)
          have HI6 := Lib.hid (HI5.out.on hb6)
          have HV6 := Lib.hid (HV5.out.keep hb6)
          have HC6 := Lib.hid (HC5.out.on hb6)
          clear hb6 hB5
          go_wp2_with fail
          refine (check_any HX6.out HI6.out ((pre_chk HG2.out HG.out).trans HK.out)).mono ?_
          rintro e1 w7 ⟨rfl, hb7⟩
          have hB7 := below_chain hB6 hb7
          have HX7 := Lib.hid (HX6.out.keep hb7)
          have HV7 := Lib.hid (HV6.out.keep hb7)
          have HC7 := Lib.hid (HC6.out.on hb7)
          clear hb7 hB6
          go_wp2_with fail
          refine (awake_call _).mono ?_
          rintro e1 w8 ⟨rfl, hb8⟩
          have hB8 := below_chain hB7 hb8
          have HX8 := Lib.hid (HX7.out.keep hb8)
          have HV8 := Lib.hid (HV7.out.keep hb8)
          have HC8 := Lib.hid (HC7.out.on hb8)
          clear hb8 hB7
          go_wp2_with fail
          refine (eval_any HV8.out (by have := HG2.out; omega) HC8.out HE.out).mono ?_
          rintro e1 w9 ⟨rfl, hb9⟩
          have hB9 := below_chain hB8 hb9
          have HX9 := Lib.hid (HX8.out.keep hb9)
          have HV9 := Lib.hid (HV8.out.keep hb9)
          have HC9 := Lib.hid (HC8.out.on hb9)
          clear hb9 hB8
          go_wp2_with fail
          refine (eval_any HX9.out (by have := HG2.out; rw [List.length_append]; omega) HC9.out ((pre_ev HG.out).trans HE.out)).mono ?_
          rintro e1 w10 ⟨rfl, hb10⟩
          have hB10 := below_chain hB9 hb10
          have HX10 := Lib.hid (HX9.out.keep hb10)
          have HV10 := Lib.hid (HV9.out.keep hb10)
          clear hb10 hB9
          go_wp2_with fail
          refine (columns_any (root := root) HV10.out (by have := HG2.out; omega)).mono ?_
          rintro e1 w11 ⟨v11, rfl, hs11, hb11⟩
          have hB11 := below_chain hB10 hb11
          have HX11 := Lib.hid (HX10.out.keep hb11)
          have HS11 := Lib.hid hs11
          clear hb11 hB10 hs11
          go_wp2_with fail
          refine (columns_any (root := root) HX11.out (by have := HG2.out; rw [List.length_append]; omega)).mono ?_
          rintro e1 w12 ⟨v12, rfl, hs12, hb12⟩
          rw [pre_col HG.out] at hs12
          have hB12 := below_chain hB11 hb12
          have HS12 := Lib.hid hs12
          have HS13 := Lib.hid (HS11.out.keep hb12)
          clear hb12 hB11 hs12
          go_wp2_with fail
          refine (same_call v11 v12 (colX L root) _ HS13.out HS12.out (Nat.le_trans (colX_len L root (by have := HG2.out; omega)) (by decide))).mono ?_
          rintro e1 w13 ⟨rfl, hb13⟩
          have hB13 := below_chain hB12 hb13
          clear hb13
          go_wp2
          go_ret
          exact ⟨rfl, hB13⟩
        obtain ⟨x, hx⟩ : ∃ x, row[k]? = some x := ⟨row[k]'(by have := HQ.out; omega), List.getElem?_eq_getElem (by have := HQ.out; omega)⟩
        obtain ⟨b, off, c', hs, hb, hvl⟩ := HC.out.cells hx
        obtain ⟨rfl, hq9, rfl⟩ : qa = some ⟨b, off, none⟩ ∧ qn = row.length ∧ qc = c' := by simpa using hs
        clear hq9
        have HT := Lib.hid (take_map_snoc hx)
        obtain ⟨t0, t1, t2⟩ := hvl.below hb hB
        have HO := Lib.hid hO
        have hk1 : (k : Int) < (qn : Int) := by omega
        have hk0 : (0 : Int) ≤ (k : Int) := by omega
        have hbr : b < wr.heap.size := Nat.lt_of_lt_of_le hb hB.size
        clear hO hx hs hvl
        go_wp2_with (at_builtin; refine wpList_append_sl rfl _ _ 23 rfl w.heap.size 3 i0 _ 1 8 Try.underlying23 hi0 hz0 hz1 hzb rfl (by decide) _ _ _ rfl ((HO.out.alloc _).alloc _) _ 1 [.int .i64 x.k] rfl (sl_new2 _ _ _ _) (fun _ _ h => by cases h) (one_int _) (by unfold maxLen; omega) (by omega) (by simp; have := hB.size; omega) ?_)
        intro v4 w4 hown4 hg4 hb4
        have hB4 : Below w.heap.size w w4 := (below_alloc (below_alloc hB _) _).trans hb4
        have HO4 := Lib.hid (show w4.ownsRow w.heap.size 3 1 v4 (k + 1) (((row.take (k + 1)).map (·.k)).map (Value.int .i64)) by rw [HT.out, List.map_append]; simpa using hown4)
        clear hown4 hg4 hb4
        go_wp2_with fail
        go_roundg (gk - 1)
        case measure => omega
        case rel => exact ⟨k + 1, by omega, by go_num, hB4, HO4.out⟩

end Go.Proofs.Ytpgaldkedeohaaa
