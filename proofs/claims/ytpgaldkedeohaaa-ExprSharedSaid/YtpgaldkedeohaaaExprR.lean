/-
  The reference's eval and Eval, for all expressions.
-/
import Derived.Test.YtpgaldkedeohaaaExprP
import Derived.Test.YtpgaldkedeohaaaExprQ
namespace Go.Proofs.Ytpgaldkedeohaaa
open Go.RowKit
set_option linter.unusedVariables false

theorem ev_at {L : List Ex} {row : List Vl} {k : Nat} {e : Ex} (he : L[k]? = some e) :
    Xp.ev L row k = if Xp.arity e.op < 0 then Xp.zero else if Xp.badIx e k = true then Xp.zero else Xp.ap e row (Xp.ev L row e.a.toNat) (Xp.ev L row e.b.toNat) := by
  have hd : L.getD k Xp.zeroE = e := by rw [List.getD_eq_getElem?_getD, he]; rfl
  rw [Xp.ev_eq]
  unfold Xp.evS
  rw [hd]

theorem calls_of {P : Program} {f : Nat} {args : Array Value} {w : World} {v v' : Value} (h : v = v') (hc : Calls P f args w fun e w' => e = .returned v ∧ Below w.heap.size w w') :
    Calls P f args w fun e w' => e = .returned v' ∧ Below w.heap.size w w' := h ▸ hc

theorem ref_eval (b off n c k dg dn dc B : Nat) (L : List Ex) (row : List Vl) (rv : Value) (e : Ex) (w : World) (hb : b < w.heap.size) (hg : dg < w.heap.size) (hk : k < n) (hnc : n ≤ 100000) (hdn : k < dn)
    (he : L[k]? = some e) (hx : ExAt w b (off + k * 7) e) (hv : ∀ j, j < k → VlAt w dg (j * 3) (Xp.ev L row j)) (hew : ∀ j, (Xp.ev L row j).wf) (hr : RowAt w B rv row) :
    Calls Try.prog 26 #[.slice (some ⟨b, off, none⟩) n c, .int .i64 k, rv, .slice (some ⟨dg, 0, none⟩) dn dc] w fun e' w' => e' = .returned (Xp.ev L row k).go ∧ Below w.heap.size w w' := by
  have hE := ev_at (row := row) he
  obtain ⟨op, ea, eb, col, ck, cn, cs⟩ := e
  simp only at hE
  by_cases har : Xp.arity op < 0
  · have h1 : Xp.arity op = -1 := by rcases Xp.arity_cases op with ⟨_, h⟩ | ⟨_, h⟩ | ⟨_, h⟩ | ⟨_, h⟩ | ⟨_, _, h⟩ | ⟨_, h⟩ <;> omega
    rw [if_pos har] at hE
    rw [hE]
    exact reval_low op ea eb col ck cn cs b off n c k dg dn dc rv w hb hg hk hnc hdn hx h1
  rw [if_neg har] at hE
  by_cases hbad : Xp.badIx ⟨op, ea, eb, col, ⟨ck, cn, cs⟩⟩ k = true
  · rw [if_pos hbad] at hE
    rw [hE]
    exact reval_bad op ea eb col ck cn cs b off n c k dg dn dc rv w hb hg hk hnc hdn hx (by omega) hbad
  rw [if_neg hbad] at hE
  obtain ⟨l1, l2⟩ := Xp.badIx_no (show Xp.badIx ⟨op, ea, eb, col, ⟨ck, cn, cs⟩⟩ k = false by simpa using hbad)
  simp only at l1 l2
  rw [hE]
  have two : Xp.arity op = 2 → ∃ ja jb : Nat, ea = ja ∧ eb = jb ∧ ja < k ∧ jb < k ∧ VlAt w dg (ja * 3) (Xp.ev L row ea.toNat) ∧ VlAt w dg (jb * 3) (Xp.ev L row eb.toNat) := by
    intro h2
    have q1 := l1 (by omega)
    have q2 := l2 (by omega)
    exact ⟨ea.toNat, eb.toNat, by omega, by omega, by omega, by omega, hv _ (by omega), hv _ (by omega)⟩
  have wa := hew ea.toNat
  have wb := hew eb.toNat
  rcases Xp.arity_cases op with ⟨e1, e2⟩ | ⟨e1, e2⟩ | ⟨e1, e2⟩ | ⟨e1, e2⟩ | ⟨e1, e1', e2⟩ | ⟨e1, e2⟩
  · subst e1
    exact reval_const ea eb col ck cn cs b off n c k dg dn dc rv w hb hg hk hnc hdn hx
  · subst e1
    obtain ⟨ra, rn, rc, rfl, hn1, hn2, hn3, h4⟩ := hr.view
    by_cases c1 : col < 0
    · exact calls_of (by unfold Xp.ap; simp [show ¬ 0 ≤ col by omega]) (reval_col_neg ea eb col ck cn cs b off n c k dg dn dc ra rn rc w hb hg hk hnc hdn hx c1)
    · by_cases c2 : (rn : Int) ≤ col
      · exact calls_of (by unfold Xp.ap; simp [show ¬ col < (row.length : Int) by omega]) (reval_col_big ea eb col ck cn cs b off n c k dg dn dc ra rn rc w hb hg hk hnc hdn hx ⟨c2, by omega⟩)
      · obtain ⟨j, rfl⟩ : ∃ j : Nat, col = j := ⟨col.toNat, by omega⟩
        rcases h4 with h4 | ⟨rb, ro, rfl, _, hrb, h5⟩
        · omega
        · have hj : j < row.length := by omega
          have hrow := (h5 j row[j] (List.getElem?_eq_getElem hj)).1
          obtain ⟨k1, n1, s1, h6⟩ : ∃ k1 n1 s1, row[j] = ⟨k1, n1, s1⟩ := ⟨_, _, _, rfl⟩
          rw [h6] at hrow
          refine calls_of ?_ (reval_col ea eb ck cn cs b off n c k dg dn dc k1 n1 s1 j rb ro rn rc w hb hg hk hnc hdn hx (by omega) hrb hrow)
          unfold Xp.ap
          simp only [show ¬ ((2 : Int) = 1) by decide, if_false, if_true]
          rw [if_pos (by omega), List.getD_eq_getElem?_getD, Int.toNat_natCast, List.getElem?_eq_getElem hj, h6]
          rfl
  · subst e1
    have q1 := l1 (by omega)
    obtain ⟨ja, rfl⟩ : ∃ ja : Nat, ea = ja := ⟨ea.toNat, by omega⟩
    have ha := hv ja (by omega)
    rw [show ((ja : Int)).toNat = ja from Int.toNat_natCast ja] at *
    obtain ⟨k1, n1, s1, h6⟩ : ∃ k1 n1 s1, Xp.ev L row ja = ⟨k1, n1, s1⟩ := ⟨_, _, _, rfl⟩
    rw [h6] at ha ⊢
    exact reval_not eb col ck cn cs k1 n1 s1 b off n c k dg dn dc ja rv w hb hg hk hnc hdn (by omega) hx ha
  · subst e1
    have q1 := l1 (by omega)
    obtain ⟨ja, rfl⟩ : ∃ ja : Nat, ea = ja := ⟨ea.toNat, by omega⟩
    have ha := hv ja (by omega)
    rw [show ((ja : Int)).toNat = ja from Int.toNat_natCast ja] at *
    obtain ⟨k1, n1, s1, h6⟩ : ∃ k1 n1 s1, Xp.ev L row ja = ⟨k1, n1, s1⟩ := ⟨_, _, _, rfl⟩
    rw [h6] at ha ⊢
    exact reval_isnull eb col ck cn cs k1 n1 s1 b off n c k dg dn dc ja rv w hb hg hk hnc hdn (by omega) hx ha
  · obtain ⟨ja, jb, rfl, rfl, hja, hjb, ha, hb'⟩ := two e2
    generalize Xp.ev L row ((ja : Int)).toNat = x at *
    generalize Xp.ev L row ((jb : Int)).toNat = y at *
    obtain ⟨k1, n1, s1⟩ := x
    obtain ⟨k2, n2, s2⟩ := y
    have hop : op = 3 ∨ op = 4 ∨ op = 5 ∨ op = 6 ∨ op = 7 ∨ op = 8 ∨ op = 9 := by omega
    rcases hop with rfl | rfl | rfl | rfl | rfl | rfl | rfl
    · exact reval_add col ck cn cs k1 n1 s1 k2 n2 s2 b off n c k dg dn dc ja jb rv w hb hg hk hnc hdn hja hjb hx ha hb' wa.1 wa.2 wb.1 wb.2
    · exact reval_sub col ck cn cs k1 n1 s1 k2 n2 s2 b off n c k dg dn dc ja jb rv w hb hg hk hnc hdn hja hjb hx ha hb' wa.1 wa.2 wb.1 wb.2
    · exact reval_mul col ck cn cs k1 n1 s1 k2 n2 s2 b off n c k dg dn dc ja jb rv w hb hg hk hnc hdn hja hjb hx ha hb' wa.1 wa.2 wb.1 wb.2
    · exact reval_eq col ck cn cs k1 n1 s1 k2 n2 s2 b off n c k dg dn dc ja jb rv w hb hg hk hnc hdn hja hjb hx ha hb'
    · exact reval_less col ck cn cs k1 n1 s1 k2 n2 s2 b off n c k dg dn dc ja jb rv w hb hg hk hnc hdn hja hjb hx ha hb'
    · exact reval_and col ck cn cs k1 n1 s1 k2 n2 s2 b off n c k dg dn dc ja jb rv w hb hg hk hnc hdn hja hjb hx ha hb'
    · exact reval_or col ck cn cs k1 n1 s1 k2 n2 s2 b off n c k dg dn dc ja jb rv w hb hg hk hnc hdn hja hjb hx ha hb'
  · omega

set_option maxRecDepth 100000 in
set_option maxHeartbeats 4000000 in
theorem ref_Eval_out (a : Option Addr) (n c : Nat) (root : Int) (rv : Value) (w : World) (h : root < 0 ∨ (n : Int) ≤ root) :
    Calls Try.prog 16 #[.slice a n c, .int .i64 root, rv] w fun e w' => e = .returned Xp.zero.go ∧ Below w.heap.size w w' := by
  rcases h with h | h
  · go_enter Try.func16, Try.ntmps16
    go_wp2
    refine bodyPost_ret (v := .agg #[.int .i64 0, .int .i64 0, .string ⟨#[]⟩]) (by simp [results, Try.results16, go_sem]) rfl ⟨rfl, below_alloc (Below.refl _ _) _⟩
  · have h0 : 0 ≤ root := by omega
    go_enter Try.func16, Try.ntmps16
    go_wp2
    refine bodyPost_ret (v := .agg #[.int .i64 0, .int .i64 0, .string ⟨#[]⟩]) (by simp [results, Try.results16, go_sem]) rfl ⟨rfl, below_alloc (Below.refl _ _) _⟩

theorem reval_call (b off n c k dg dn dc B : Nat) (L : List Ex) (row : List Vl) (rv : Value) (e : Ex) (rk rn : Int) (rs : ByteArray) (w : World) (hb : b < w.heap.size) (hg : dg < w.heap.size) (hk : k < n) (hnc : n ≤ 100000) (hdn : k < dn)
    (he : L[k]? = some e) (hx : ExAt w b (off + k * 7) e) (hv : ∀ j, j < k → VlAt w dg (j * 3) (Xp.ev L row j)) (hew : ∀ j, (Xp.ev L row j).wf) (hr : RowAt w B rv row) (h : Xp.ev L row k = ⟨rk, rn, rs⟩) :
    Calls Try.prog 26 #[.slice (some ⟨b, off, none⟩) n c, .int .i64 k, rv, .slice (some ⟨dg, 0, none⟩) dn dc] w fun e' w' => e' = .returned (.agg #[.int .i64 rk, .int .i64 rn, .string rs]) ∧ Below w.heap.size w w' :=
  calls_of (by rw [h]; rfl) (ref_eval b off n c k dg dn dc B L row rv e w hb hg hk hnc hdn he hx hv hew hr)

set_option maxRecDepth 100000 in
set_option maxHeartbeats 4000000 in
theorem ref_Eval_in (b off c r : Nat) (L : List Ex) (rv : Value) (row : List Vl) (w : World) (hb : b < w.heap.size) (hr : r < L.length) (hlc : L.length ≤ c) (hlen : L.length ≤ 100000)
    (hL : ∀ (i : Nat) (x : Ex), L[i]? = some x → ExAt w b (off + i * 7) x ∧ x.c.wf) (hrow : RowAt w w.heap.size rv row) :
    Calls Try.prog 16 #[.slice (some ⟨b, off, none⟩) L.length c, .int .i64 r, rv] w fun e w' => e = .returned (Xp.ev L row r).go ∧ Below w.heap.size w w' := by
  obtain ⟨N, hN⟩ : ∃ N, N = L.length := ⟨_, rfl⟩
  rw [← hN] at hr hlc hlen ⊢
  have HN := Lib.hid hN
  clear hN
  have HL := Lib.hid hL
  have HR := Lib.hid hrow
  have HEW := Lib.hid (fun j => ev_wf L row j (fun i e h => (hL i e h).2) (row_wf hrow))
  clear hL hrow
  obtain ⟨i0, hi0, hz0, hz1, hz2⟩ := info_parts val_info
  generalize hV : (Xp.ev L row r).go = V
  have HV := Lib.hid hV
  clear hV
  have hr0 : (0 : Int) ≤ (r : Int) := by omega
  have hr1 : (r : Int) < (N : Int) := by omega
  have hr2 : ¬ N ≤ r := by omega
  have hr3 : decide (N ≤ r) = false := decide_eq_false hr2
  go_enter Try.func16, Try.ntmps16
  go_wp2_with (refine wpList_make_full _ rfl _ _ 32 rfl (w.heap.size + 1) 34 i0 _ 3 Try.underlying32 hi0 hz0 hz1 _ _ _ _ (r + 1) rfl rfl ?c1 ?c2 ?c3 ?c4 ?c5 ?_)
  case c1 => omega
  case c2 => omega
  case c3 => rw [hz2]; omega
  case c4 => unfold maxLen; omega
  case c5 => simp
  intro w1 hown hg1
  have hbw1 := below_none hg1
  have hO1 : OwnV w1 (w.heap.size + 1) (w.heap.size + 1) (r + 1) (vals (Xp.ev L row) (r + 1) 0) := ⟨by rw [vals_len], by rw [vals_zero, ← made_zero]; exact hown⟩
  have hR1 : RetV w1 w.heap.size := (RetV.new w _).below hbw1
  have hB1 : Below w.heap.size w w1 := below_new hbw1
  have HO1 := Lib.hid hO1
  have HR1 := Lib.hid hR1
  clear hown hg1 hbw1 hO1 hR1
  go_wp2
  go_loopg [8] (r + 1) (fun gk i wr => ∃ k : Nat, k ≤ r + 1 ∧ gk + k = r + 1 ∧ i = .int .i64 k ∧ Below w.heap.size w wr ∧ RetV wr w.heap.size ∧ OwnV wr (w.heap.size + 1) (w.heap.size + 1) (r + 1) (vals (Xp.ev L row) (r + 1) k))
  case atStart => exact ⟨0, by omega, by omega, rfl, hB1, HR1.out, HO1.out⟩
  case round =>
    obtain ⟨k, hk, hgk, rfl, hB, hRet, hO⟩ := hrel
    clear HO1 HR1 hB1
    have HRet := Lib.hid hRet
    have HO := Lib.hid hO
    have hgk := Lib.hid hgk
    have hlt0 := hRet.lt
    have hlt1 := hO.lt.1
    clear hRet hO
    by_cases hkr : k < r + 1
    · obtain ⟨e, he⟩ : ∃ e, L[k]? = some e := ⟨L[k]'(by have := HN.out; omega), List.getElem?_eq_getElem (by have := HN.out; omega)⟩
      have HE := Lib.hid he
      have HX := Lib.hid ((HL.out k e he).1.below hb hB)
      have hbr : b < wr.heap.size := Nat.lt_of_lt_of_le hb hB.size
      obtain ⟨rk, rn, rs, hres⟩ : ∃ rk rn rs, Xp.ev L row k = ⟨rk, rn, rs⟩ := ⟨_, _, _, rfl⟩
      have HRES := Lib.hid hres
      have HVS := Lib.hid (show ∀ j, j < k → VlAt wr (w.heap.size + 1) (j * 3) (Xp.ev L row j) from fun j hj => by
        have := HO.out.at_ (i := j) (vals_get (by omega))
        rwa [if_pos hj] at this)
      clear he hres
      go_wp2_with fail
      refine (reval_call b off N c k (w.heap.size + 1) (r + 1) (r + 1) w.heap.size L row rv e rk rn rs _ hbr hlt1 (by omega) hlen hkr HE.out HX.out HVS.out HEW.out (rd_below HR.out hB) HRES.out).mono ?_
      rintro e2 w9 ⟨rfl, hb9⟩
      have hB3 : Below w.heap.size w w9 := below_chain hB hb9
      have hO3 := HO.out.below hb9
      have hR3 := HRet.out.below hb9
      obtain ⟨s0, s1, s2⟩ := hO3.at_ (i := k) (vals_get hkr)
      have f0 := hO3.free (k * 3)
      have f1 := hO3.free (k * 3 + 1)
      have f2 := hO3.free (k * 3 + 2)
      have hl3 := hO3.lt.1
      have hput := hO3.step hkr HRES.out
      have HPUT := Lib.hid hput
      have hret := (((hR3.far (p := ⟨w.heap.size + 1, k * 3, none⟩) (by simp) (.int .i64 rk)).far (p := ⟨w.heap.size + 1, k * 3 + 1, none⟩) (by simp) (.int .i64 rn)).far (p := ⟨w.heap.size + 1, k * 3 + 2, none⟩) (by simp) (.string rs))
      have HRET := Lib.hid hret
      clear hput hret hO3 hR3 hb9
      go_wp2_with fail
      go_roundg (gk - 1)
      case measure => have := hgk.out; omega
      case rel => exact ⟨k + 1, by omega, by have := hgk.out; omega, by go_num, ((hB3.setCell (by simp) _).setCell (by simp) _).setCell (by simp) _, HRET.out, HPUT.out⟩
    · obtain rfl : k = r + 1 := by omega
      obtain ⟨rk, rn, rs, hres⟩ : ∃ rk rn rs, Xp.ev L row r = ⟨rk, rn, rs⟩ := ⟨_, _, _, rfl⟩
      have HW := Lib.hid (HV.out.symm.trans (congrArg Vl.go hres))
      have hget := HO.out.at_ (i := r) (vals_get (by omega))
      rw [if_pos (by omega), hres] at hget
      obtain ⟨t0, t1, t2⟩ := hget
      simp only at t0 t1 t2
      obtain ⟨_, rc0, rc1, rc2, rf0, rf1, rf2⟩ := HRet.out
      clear hres
      go_wp2_with fail
      have sc := two_ops rc0 rc1 rc2 (.int .i64 rk) (.int .i64 rn) (.string rs)
      obtain ⟨sc0, sc1, sc2⟩ := sc
      refine bodyPost_ret (v := .agg #[.int .i64 rk, .int .i64 rn, .string rs]) (by simp [sc0, sc1, sc2, results, Try.results16, go_sem]) rfl ⟨by rw [HW.out]; rfl, ?_⟩
      exact ((hB.setCell (Nat.le_refl _) _).setCell (Nat.le_refl _) _).setCell (Nat.le_refl _) _

end Go.Proofs.Ytpgaldkedeohaaa
