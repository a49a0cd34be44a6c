/-
  Columns of package expr.
-/
import Derived.Test.YtpgaldkedeohaaaColA
namespace Go.Proofs.Ytpgaldkedeohaaa
open Go.RowKit
set_option linter.unusedVariables false

def encB : Enc Bool := enc1 Value.bool

theorem bool_info : (Try.prog.info? 4).map (fun i => (i.zero, i.size, i.bytes)) = some (some (.bool false), 1, 1) := by kernel_rfl

/-- The marks lie in the call's own array. -/
def Marks (w : World) (g n : Nat) (l : List Bool) : Prop := OwnA encB 4 w g g n l

theorem Marks.at_ {w : World} {g n j : Nat} {l : List Bool} {b : Bool} (h : Marks w g n l) (hj : l[j]? = some b) : w.cell? ⟨g, j, none⟩ = some (.bool b) ∧ w.frozen? ⟨g, j, none⟩ = false := by
  have h1 := OwnA.cell (j := 0) h hj rfl
  have h2 := h.free j
  rw [Nat.add_zero, show j * encB.size = j from Nat.mul_one j] at h1
  exact ⟨h1, h2⟩

theorem Marks.put {w : World} {g n j : Nat} {l : List Bool} (h : Marks w g n l) (hj : j < n) : Marks (w.setCell ⟨g, j, none⟩ (.bool true)) g n (l.set j true) := by
  have := OwnA.put1 (i := j) h true (enc1_set Value.bool true) hj
  rw [show j * encB.size = j from Nat.mul_one j] at this
  exact this

theorem far_cell {w : World} {p q : Addr} {u v : Value} (h : w.cell? q = some u) (hp : q.block ≠ p.block) : (w.setCell p v).cell? q = some u := by
  rw [World.cell?_setCell_other _ _ _ _ (by intro e; exact hp (by rw [e]))]; exact h

theorem own_far {w : World} {S n size : Nat} {t : TypeId} {v : Value} {xs : List Value} {p : Addr} (u : Value) (h : w.ownsRow S t size v n xs) (hp : p.block < S) : (w.setCell p u).ownsRow S t size v n xs := by
  refine ⟨h.1, ?_⟩
  rcases h.2 with h2 | ⟨g', cap, cur, e, hB, hg, rest⟩
  · exact .inl h2
  · exact .inr ⟨g', cap, cur, e, hB, by rw [Below.heap_setCell _ _ _ _ (by omega)]; exact hg, rest⟩

set_option maxRecDepth 100000 in
set_option maxHeartbeats 4000000 in
theorem expr_Columns_out (a : Option Addr) (n c : Nat) (root : Int) (w : World) (h : root < 0 ∨ (n : Int) ≤ root) :
    Calls Try.prog 18 #[.slice a n c, .int .i64 root] w (IntsPost [] w) := by
  rcases h with h | h
  · go_enter Try.func18, Try.ntmps18
    go_wp2
    go_ret
    exact ⟨_, rfl, ⟨rfl, .inl ⟨rfl, none, 0, rfl⟩⟩, Below.refl _ _⟩
  · have h0 : 0 ≤ root := by omega
    go_enter Try.func18, Try.ntmps18
    go_wp2
    go_ret
    exact ⟨_, rfl, ⟨rfl, .inl ⟨rfl, none, 0, rfl⟩⟩, Below.refl _ _⟩


set_option maxRecDepth 100000 in
set_option maxHeartbeats 8000000 in
theorem expr_Columns_in (b off c r : Nat) (L : List Ex) (w : World) (hb : b < w.heap.size) (hr : r < L.length) (hlc : L.length ≤ c) (hlen : L.length ≤ 100000)
    (hL : ∀ (i : Nat) (x : Ex), L[i]? = some x → ExAt w b (off + i * 7) x) :
    Calls Try.prog 18 #[.slice (some ⟨b, off, none⟩) L.length c, .int .i64 r] w (IntsPost (Xp.colS L r) w) := by
  obtain ⟨N, hN⟩ : ∃ N, N = L.length := ⟨_, rfl⟩
  rw [← hN] at hr hlc hlen ⊢
  have HN := Lib.hid hN
  clear hN
  have HL := Lib.hid hL
  clear hL
  obtain ⟨ib, hib, hbz0, hbz1, hbz2⟩ := info_parts bool_info
  obtain ⟨i0, hi0, hz0, hz1, hzb⟩ := info_parts int_info
  have hr0 : (0 : Int) ≤ (r : Int) := by omega
  have hr1 : (r : Int) < (N : Int) := by omega
  have hr2 : ¬ N ≤ r := by omega
  have hr3 : decide (N ≤ r) = false := decide_eq_false hr2
  have hr4 : (r : Int) < (r : Int) + 1 := by omega
  go_enter Try.func18, Try.ntmps18
  go_wp2_with (refine wpList_make_full _ rfl _ _ 39 rfl w.heap.size 4 ib _ 1 Try.underlying39 hib hbz0 hbz1 _ _ _ _ (r + 1) rfl rfl ?c1 ?c2 ?c3 ?c4 ?c5 ?_)
  case c1 => omega
  case c2 => omega
  case c3 => rw [hbz2]; omega
  case c4 => unfold maxLen; omega
  case c5 => simp
  intro w1 hown hg1
  have hB1 := below_grown hg1
  have hO1 : Marks w1 w.heap.size (r + 1) (List.replicate (r + 1) false) := ⟨by simp, by rw [← made_all encB false (.bool false) rfl]; show w1.ownsRow _ _ 1 _ _ (madeCells (Value.bool false).cells ((r + 1) * 1)).toList; rw [Nat.mul_one]; exact hown⟩
  have hl1 := OwnA.lt hO1
  obtain ⟨t0, t1⟩ := hO1.at_ (j := r) (b := false) (by simp)
  have hO2 := hO1.put (j := r) (by omega)
  rw [Xp.used_zero L r] at hO2
  have HO2 := Lib.hid hO2
  clear hown hg1 hO1 hO2
  go_wp2_with fail
  have hB2 : Below w.heap.size w (w1.setCell ⟨w.heap.size, r, none⟩ (.bool true)) := hB1.setCell (Nat.le_refl _) _
  have hsz2 : w.heap.size + 1 ≤ (w1.setCell ⟨w.heap.size, r, none⟩ (.bool true)).heap.size := by have := hl1.1; simp [World.setCell]; omega
  have HO2' := HO2.out
  have HO2 := HO2'
  generalize (w1.setCell ⟨w.heap.size, r, none⟩ (.bool true)) = w2 at *
  have HO2 := Lib.hid HO2
  clear HO2' hB1 hl1 t0 t1
  go_loopg [6, 7] (r + 1) (fun gk v i wr => gk ≤ r + 1 ∧ i = .int .i64 ((gk : Int) - 1) ∧ Below w.heap.size w wr ∧ w.heap.size + 1 ≤ wr.heap.size ∧ Marks wr w.heap.size (r + 1) (Xp.usedL L r (r + 1 - gk)) ∧ wr.ownsRow (w.heap.size + 1) 3 1 v (Xp.outc L r (r + 1 - gk)).length ((Xp.outc L r (r + 1 - gk)).map (Value.int .i64)) ∧ (Xp.outc L r (r + 1 - gk)).length ≤ r + 1 - gk)
  case atStart => exact ⟨Nat.le_refl _, by go_num, hB2, hsz2, by rw [Nat.sub_self]; exact HO2.out, by rw [Nat.sub_self]; exact World.ownsRow_nil _ _ _ _, by rw [Nat.sub_self]; exact Nat.le_refl _⟩
  case round =>
    obtain ⟨hgk, hi, hB, hsz, hM, hO, hlo⟩ := hrel
    clear HO2 hB2 hsz2
    cases gk with
    | zero =>
      rw [show ((0 : Nat) : Int) - 1 = -1 by omega] at hi
      subst hi
      rw [Nat.sub_zero] at hO hlo
      have HO := Lib.hid hO
      clear hO hM
      go_wp2_with fail
      refine (sort_own _ u6 (Xp.outc L r (r + 1)) _ HO.out hsz (by omega)).mono ?_
      rintro e1 w3 ⟨rfl, hb3, hs3⟩
      have HS := Lib.hid hs3
      clear hs3
      go_wp2_with fail
      refine (compact_own _ u6 (Xp.outc L r (r + 1)) _ HS.out (by omega)).mono ?_
      rintro e1 w4 ⟨v', rfl, hs4, hb4⟩
      have HS4 := Lib.hid hs4
      clear hs4
      go_wp2_with fail
      go_ret
      exact ⟨_, rfl, HS4.out, hB.trans ((hb3.trans hb4).mono (Nat.le_succ _))⟩
    | succ m =>
      rw [show ((m + 1 : Nat) : Int) - 1 = (m : Int) by omega] at hi
      subst hi
      obtain ⟨k, hk⟩ : ∃ k, m + k = r := ⟨r - m, by omega⟩
      rw [show r + 1 - (m + 1) = k by omega] at hM hO hlo
      have hkm : m = r - k := by omega
      have h0 : (0 : Int) ≤ (m : Int) := by omega
      have h1 : (m : Int) < (r : Int) + 1 := by omega
      obtain ⟨t0, t1⟩ := hM.at_ (Xp.used_get (L := L) (root := r) (k := k) (j := m) (by omega))
      have HM := Lib.hid hM
      have HO := Lib.hid hO
      have HK := Lib.hid hkm
      clear hM hO hkm
      cases hf : Xp.fl L r k m with
      | false =>
        rw [hf] at t0
        have hfk : Xp.fl L r k (r - k) = false := by rw [← HK.out]; exact hf
        have HM1 := Lib.hid (show Marks wr w.heap.size (r + 1) (Xp.usedL L r (k + 1)) by rw [Xp.used_skip hfk]; exact HM.out)
        have HO1 := Lib.hid (show wr.ownsRow (w.heap.size + 1) 3 1 u6 (Xp.outc L r (k + 1)).length ((Xp.outc L r (k + 1)).map (Value.int .i64)) by rw [Xp.out_skip hfk]; exact HO.out)
        have HL1 := Lib.hid (show (Xp.outc L r (k + 1)).length ≤ k + 1 by rw [Xp.out_skip hfk]; omega)
        clear hf hfk hlo
        go_wp2_with fail
        go_roundg m
        case measure => omega
        case rel => exact ⟨by omega, by go_num, hB, hsz, by rw [show r + 1 - m = k + 1 by omega]; exact HM1.out, by rw [show r + 1 - m = k + 1 by omega]; exact HO1.out, by rw [show r + 1 - m = k + 1 by omega]; exact HL1.out⟩
      | true =>
        rw [hf] at t0
        obtain ⟨e, he⟩ : ∃ e, L[m]? = some e := ⟨L[m]'(by have := HN.out; omega), List.getElem?_eq_getElem (by have := HN.out; omega)⟩
        have HE := Lib.hid he
        have hx := (HL.out m e he).below hb hB
        have HF := Lib.hid hf
        clear he hf
        obtain ⟨op, ea, eb, col, ck, cn, cs⟩ := e
        obtain ⟨x0, x1, x2, x3, x4, x5, x6⟩ := hx
        simp only at x0 x1 x2 x3 x4 x5 x6
        have h2 : (m : Int) < (N : Int) := by omega
        obtain ⟨n, hn⟩ : ∃ n, nops op = n := ⟨_, rfl⟩
        have HN2 := Lib.hid hn
        have hn2 := nops_le op
        rw [hn] at hn2
        have hbr : b < wr.heap.size := Nat.lt_of_lt_of_le hb hB.size
        have hgr : w.heap.size < wr.heap.size := by omega
        clear hn
        go_wp2_with fail
        refine (ops_call ⟨op, ea, eb, col, ck, cn, cs⟩ n _ HN2.out).mono ?_
        rintro e1 w3 ⟨g, rfl, hg1, hg2, hgc0, hgc1, hb3⟩
        have hgc0 : w3.cell? ⟨g, 0, none⟩ = some (.int .i64 ea) := hgc0
        have hgc1 : w3.cell? ⟨g, 1, none⟩ = some (.int .i64 eb) := hgc1
        have hz3 := hb3.size
        have z0 : w3.cell? ⟨b, off + m * 7, none⟩ = some (.int .i64 op) := (hb3.cell (p := ⟨b, off + m * 7, none⟩) hbr).trans x0
        have z3 : w3.cell? ⟨b, off + m * 7 + 3, none⟩ = some (.int .i64 col) := (hb3.cell (p := ⟨b, off + m * 7 + 3, none⟩) hbr).trans x3
        have hB3 : Below w.heap.size w w3 := below_chain hB hb3
        have HM3 := Lib.hid (show Marks w3 w.heap.size (r + 1) (Xp.usedL L r k) from OwnA.below HM.out hb3)
        have HO3 := Lib.hid (own_below HO.out hb3)
        have hne : g ≠ w.heap.size := by omega
        have hbne : b ≠ w.heap.size := by omega
        have hs3 : w.heap.size + 1 ≤ w3.heap.size := by omega
        clear x0 x1 x2 x3 x4 x5 x6 t0 t1 hb3
        have hnn : n = 0 ∨ n = 1 ∨ n = 2 := by omega
        rcases hnn with rfl | rfl | rfl
        · have har : Xp.arity op ≤ 0 := by have := HN2.out; unfold nops at this; rcases Xp.arity_cases op with ⟨_, h⟩ | ⟨_, h⟩ | ⟨_, h⟩ | ⟨_, h⟩ | ⟨_, _, h⟩ | ⟨_, h⟩ <;> omega
          have HMN := Lib.hid (show Marks w3 w.heap.size (r + 1) (Xp.usedL L r (k + 1)) by rw [Xp.used_0 HK.out HF.out HE.out har]; exact HM3.out)
          clear har
          by_cases hop2 : op = 2
          · subst hop2
            have HOC := Lib.hid (Xp.out_col HK.out HF.out HE.out rfl)
            go_wp2_with fail
            refine wp_loop_rounds 1 ?_
            rw [rounds_succ]
            go_wp2_with (at_builtin; refine wpList_append_own _ rfl _ _ 23 rfl (w.heap.size + 1) 3 i0 _ 1 8 Try.underlying23 hi0 hz0 hz1 hzb rfl (by decide) _ _ _ rfl (HO3.out.alloc _) ⟨w3.heap.size, 0, none⟩ 1 1 [.int .i64 col] rfl rfl ?c1 ?c2 ?c3 ?c4 ?c5 ?_)
            case c1 => exact new_cells _ _ _
            case c2 => intro u hu; simp at hu; subst hu; rfl
            case c3 => unfold maxLen; omega
            case c4 => omega
            case c5 => simp; omega
            intro v4 w4 hown4 hg4 _
            have hb4 : Below (w.heap.size + 1) w3 w4 := ((Below.refl (w.heap.size + 1) w3).alloc (by omega) _).grown hg4 (by simp; omega) (fun g' hg' => by
              rcases HO3.out.2 with ⟨rfl, _⟩ | ⟨g, cap, cur, rfl, hB', _⟩
              · cases hg'
              · simp [Value.ownBlock] at hg'; omega)
            have HM4 := Lib.hid (show Marks w4 w.heap.size (r + 1) (Xp.usedL L r (k + 1)) from OwnA.keep HMN.out (hb4.block _ (Nat.lt_succ_self _)))
            have HO4 := Lib.hid (show w4.ownsRow (w.heap.size + 1) 3 1 v4 (Xp.outc L r (k + 1)).length ((Xp.outc L r (k + 1)).map (Value.int .i64)) by rw [HOC.out]; simpa using hown4)
            have HL4 := Lib.hid (show (Xp.outc L r (k + 1)).length ≤ k + 1 by rw [HOC.out]; simp; omega)
            have hB4 : Below w.heap.size w w4 := hB3.trans (hb4.mono (Nat.le_succ _))
            have hs4 : w.heap.size + 1 ≤ w4.heap.size := by have := hb4.size; omega
            clear hown4 hg4 hb4 hlo
            go_wp2_with fail
            go_roundg m
            case measure => omega
            case rel => exact ⟨by omega, by go_num, hB4, hs4, by rw [show r + 1 - m = k + 1 by omega]; exact HM4.out, by rw [show r + 1 - m = k + 1 by omega]; exact HO4.out, by rw [show r + 1 - m = k + 1 by omega]; exact HL4.out⟩
          · skip
            have hop2e : (op == 2) = false := by simp; exact hop2
            have HON := Lib.hid (show w3.ownsRow (w.heap.size + 1) 3 1 u6 (Xp.outc L r (k + 1)).length ((Xp.outc L r (k + 1)).map (Value.int .i64)) by rw [Xp.out_no HK.out HE.out hop2]; exact HO3.out)
            have HLN := Lib.hid (show (Xp.outc L r (k + 1)).length ≤ k + 1 by rw [Xp.out_no HK.out HE.out hop2]; omega)
            clear hlo
            go_wp2_with fail
            refine wp_loop_rounds 1 ?_
            rw [rounds_succ]
            go_wp2_with fail
            go_roundg m
            case measure => omega
            case rel => exact ⟨by omega, by go_num, hB3, hs3, by rw [show r + 1 - m = k + 1 by omega]; exact HMN.out, by rw [show r + 1 - m = k + 1 by omega]; exact HON.out, by rw [show r + 1 - m = k + 1 by omega]; exact HLN.out⟩
        · cases la : Xp.lgl m ea with
          | false =>
            have har : Xp.arity op = 1 := by have := HN2.out; unfold nops at this; rcases Xp.arity_cases op with ⟨_, h⟩ | ⟨_, h⟩ | ⟨_, h⟩ | ⟨_, h⟩ | ⟨_, _, h⟩ | ⟨_, h⟩ <;> omega
            have hop2 : op ≠ 2 := by intro e; subst e; have := HN2.out; revert this; decide
            have hop2e : (op == 2) = false := by simp; exact hop2
            have HON := Lib.hid (show w3.ownsRow (w.heap.size + 1) 3 1 u6 (Xp.outc L r (k + 1)).length ((Xp.outc L r (k + 1)).map (Value.int .i64)) by rw [Xp.out_no HK.out HE.out hop2]; exact HO3.out)
            have HLN := Lib.hid (show (Xp.outc L r (k + 1)).length ≤ k + 1 by rw [Xp.out_no HK.out HE.out hop2]; omega)
            clear hlo
            have HU := Lib.hid (Xp.used_1n HK.out HF.out HE.out har la)
            have LA := Lib.hid la
            clear la har
            go_wp2_with fail
            refine wp_loop_rounds 2 ?_
            rw [rounds_succ]
            go_wp2_with fail
            refine (lg_call m _ false _ LA.out).mono ?_
            rintro e3 w' ⟨rfl, rfl⟩
            go_wp2_with fail
            rw [rounds_succ]
            go_wp2_with fail
            go_roundg m
            case measure => omega
            case rel => exact ⟨by omega, by go_num, hB3, hs3, by rw [show r + 1 - m = k + 1 by omega]; exact (show Marks _ w.heap.size (r + 1) (Xp.usedL L r (k + 1)) by rw [HU.out]; exact HM3.out), by rw [show r + 1 - m = k + 1 by omega]; exact HON.out, by rw [show r + 1 - m = k + 1 by omega]; exact HLN.out⟩
          | true =>
            have har : Xp.arity op = 1 := by have := HN2.out; unfold nops at this; rcases Xp.arity_cases op with ⟨_, h⟩ | ⟨_, h⟩ | ⟨_, h⟩ | ⟨_, h⟩ | ⟨_, _, h⟩ | ⟨_, h⟩ <;> omega
            have hop2 : op ≠ 2 := by intro e; subst e; have := HN2.out; revert this; decide
            have hop2e : (op == 2) = false := by simp; exact hop2
            have HON := Lib.hid (show w3.ownsRow (w.heap.size + 1) 3 1 u6 (Xp.outc L r (k + 1)).length ((Xp.outc L r (k + 1)).map (Value.int .i64)) by rw [Xp.out_no HK.out HE.out hop2]; exact HO3.out)
            have HLN := Lib.hid (show (Xp.outc L r (k + 1)).length ≤ k + 1 by rw [Xp.out_no HK.out HE.out hop2]; omega)
            clear hlo
            obtain ⟨la0, la1⟩ := (Xp.lgl_iff _ _).1 la
            obtain ⟨ja, rfl⟩ : ∃ j : Nat, ea = j := ⟨ea.toNat, by omega⟩
            have h3a : (ja : Int) < (r : Int) + 1 := by omega
            have h4a : (0 : Int) ≤ (ja : Int) := by omega
            have HU := Lib.hid (Xp.used_1y HK.out HF.out HE.out har rfl la)
            have LA := Lib.hid la
            clear la har
            obtain ⟨ta0, ta1⟩ := HM3.out.at_ (Xp.used_get (L := L) (root := r) (k := k) (j := ja) (by omega))
            go_wp2_with fail
            refine wp_loop_rounds 2 ?_
            rw [rounds_succ]
            go_wp2_with fail
            refine (lg_call m _ true _ LA.out).mono ?_
            rintro e3 w' ⟨rfl, rfl⟩
            go_wp2_with fail
            rw [rounds_succ]
            go_wp2_with fail
            go_roundg m
            case measure => omega
            case rel => exact ⟨by omega, by go_num, hB3.setCell (Nat.le_refl _) _, by simp [World.setCell]; omega, by rw [show r + 1 - m = k + 1 by omega]; exact (show Marks _ w.heap.size (r + 1) (Xp.usedL L r (k + 1)) by rw [HU.out]; exact HM3.out.put (j := ja) (by omega)), by rw [show r + 1 - m = k + 1 by omega]; exact (own_far (p := ⟨w.heap.size, ja, none⟩) (.bool true) HON.out (Nat.lt_succ_self _)), by rw [show r + 1 - m = k + 1 by omega]; exact HLN.out⟩
        · cases la : Xp.lgl m ea with
          | false =>
            cases lb : Xp.lgl m eb with
            | false =>
              have har : Xp.arity op = 2 := by have := HN2.out; unfold nops at this; rcases Xp.arity_cases op with ⟨_, h⟩ | ⟨_, h⟩ | ⟨_, h⟩ | ⟨_, h⟩ | ⟨_, _, h⟩ | ⟨_, h⟩ <;> omega
              have hop2 : op ≠ 2 := by intro e; subst e; have := HN2.out; revert this; decide
              have hop2e : (op == 2) = false := by simp; exact hop2
              have HON := Lib.hid (show w3.ownsRow (w.heap.size + 1) 3 1 u6 (Xp.outc L r (k + 1)).length ((Xp.outc L r (k + 1)).map (Value.int .i64)) by rw [Xp.out_no HK.out HE.out hop2]; exact HO3.out)
              have HLN := Lib.hid (show (Xp.outc L r (k + 1)).length ≤ k + 1 by rw [Xp.out_no HK.out HE.out hop2]; omega)
              clear hlo
              have HU := Lib.hid (Xp.used_2nn HK.out HF.out HE.out har la lb)
              have LA := Lib.hid la
              clear la har
              have LB := Lib.hid lb
              clear lb
              go_wp2_with fail
              refine wp_loop_rounds 3 ?_
              rw [rounds_succ]
              go_wp2_with fail
              refine (lg_call m _ false _ LA.out).mono ?_
              rintro e3 w' ⟨rfl, rfl⟩
              go_wp2_with fail
              rw [rounds_succ]
              go_wp2_with fail
              refine (lg_call m _ false _ LB.out).mono ?_
              rintro e3 w' ⟨rfl, rfl⟩
              go_wp2_with fail
              rw [rounds_succ]
              go_wp2_with fail
              go_roundg m
              case measure => omega
              case rel => exact ⟨by omega, by go_num, hB3, hs3, by rw [show r + 1 - m = k + 1 by omega]; exact (show Marks _ w.heap.size (r + 1) (Xp.usedL L r (k + 1)) by rw [HU.out]; exact HM3.out), by rw [show r + 1 - m = k + 1 by omega]; exact HON.out, by rw [show r + 1 - m = k + 1 by omega]; exact HLN.out⟩
            | true =>
              have har : Xp.arity op = 2 := by have := HN2.out; unfold nops at this; rcases Xp.arity_cases op with ⟨_, h⟩ | ⟨_, h⟩ | ⟨_, h⟩ | ⟨_, h⟩ | ⟨_, _, h⟩ | ⟨_, h⟩ <;> omega
              have hop2 : op ≠ 2 := by intro e; subst e; have := HN2.out; revert this; decide
              have hop2e : (op == 2) = false := by simp; exact hop2
              have HON := Lib.hid (show w3.ownsRow (w.heap.size + 1) 3 1 u6 (Xp.outc L r (k + 1)).length ((Xp.outc L r (k + 1)).map (Value.int .i64)) by rw [Xp.out_no HK.out HE.out hop2]; exact HO3.out)
              have HLN := Lib.hid (show (Xp.outc L r (k + 1)).length ≤ k + 1 by rw [Xp.out_no HK.out HE.out hop2]; omega)
              clear hlo
              obtain ⟨lb0, lb1⟩ := (Xp.lgl_iff _ _).1 lb
              obtain ⟨jb, rfl⟩ : ∃ j : Nat, eb = j := ⟨eb.toNat, by omega⟩
              have h3b : (jb : Int) < (r : Int) + 1 := by omega
              have h4b : (0 : Int) ≤ (jb : Int) := by omega
              have HU := Lib.hid (Xp.used_2ny HK.out HF.out HE.out har rfl la lb)
              have LA := Lib.hid la
              clear la har
              have LB := Lib.hid lb
              clear lb
              obtain ⟨tb0, tb1⟩ := HM3.out.at_ (Xp.used_get (L := L) (root := r) (k := k) (j := jb) (by omega))
              go_wp2_with fail
              refine wp_loop_rounds 3 ?_
              rw [rounds_succ]
              go_wp2_with fail
              refine (lg_call m _ false _ LA.out).mono ?_
              rintro e3 w' ⟨rfl, rfl⟩
              go_wp2_with fail
              rw [rounds_succ]
              go_wp2_with fail
              refine (lg_call m _ true _ LB.out).mono ?_
              rintro e3 w' ⟨rfl, rfl⟩
              go_wp2_with fail
              rw [rounds_succ]
              go_wp2_with fail
              go_roundg m
              case measure => omega
              case rel => exact ⟨by omega, by go_num, hB3.setCell (Nat.le_refl _) _, by simp [World.setCell]; omega, by rw [show r + 1 - m = k + 1 by omega]; exact (show Marks _ w.heap.size (r + 1) (Xp.usedL L r (k + 1)) by rw [HU.out]; exact HM3.out.put (j := jb) (by omega)), by rw [show r + 1 - m = k + 1 by omega]; exact (own_far (p := ⟨w.heap.size, jb, none⟩) (.bool true) HON.out (Nat.lt_succ_self _)), by rw [show r + 1 - m = k + 1 by omega]; exact HLN.out⟩
          | true =>
            cases lb : Xp.lgl m eb with
            | false =>
              have har : Xp.arity op = 2 := by have := HN2.out; unfold nops at this; rcases Xp.arity_cases op with ⟨_, h⟩ | ⟨_, h⟩ | ⟨_, h⟩ | ⟨_, h⟩ | ⟨_, _, h⟩ | ⟨_, h⟩ <;> omega
              have hop2 : op ≠ 2 := by intro e; subst e; have := HN2.out; revert this; decide
              have hop2e : (op == 2) = false := by simp; exact hop2
              have HON := Lib.hid (show w3.ownsRow (w.heap.size + 1) 3 1 u6 (Xp.outc L r (k + 1)).length ((Xp.outc L r (k + 1)).map (Value.int .i64)) by rw [Xp.out_no HK.out HE.out hop2]; exact HO3.out)
              have HLN := Lib.hid (show (Xp.outc L r (k + 1)).length ≤ k + 1 by rw [Xp.out_no HK.out HE.out hop2]; omega)
              clear hlo
              obtain ⟨la0, la1⟩ := (Xp.lgl_iff _ _).1 la
              obtain ⟨ja, rfl⟩ : ∃ j : Nat, ea = j := ⟨ea.toNat, by omega⟩
              have h3a : (ja : Int) < (r : Int) + 1 := by omega
              have h4a : (0 : Int) ≤ (ja : Int) := by omega
              have HU := Lib.hid (Xp.used_2yn HK.out HF.out HE.out har rfl la lb)
              have LA := Lib.hid la
              clear la har
              have LB := Lib.hid lb
              clear lb
              obtain ⟨ta0, ta1⟩ := HM3.out.at_ (Xp.used_get (L := L) (root := r) (k := k) (j := ja) (by omega))
              go_wp2_with fail
              refine wp_loop_rounds 3 ?_
              rw [rounds_succ]
              go_wp2_with fail
              refine (lg_call m _ true _ LA.out).mono ?_
              rintro e3 w' ⟨rfl, rfl⟩
              go_wp2_with fail
              have HM4 := Lib.hid (HM3.out.put (j := ja) (by omega))
              have HON4 := Lib.hid (own_far (p := ⟨w.heap.size, ja, none⟩) (.bool true) HON.out (Nat.lt_succ_self _))
              have hB4 : Below w.heap.size w (w3.setCell ⟨w.heap.size, ja, none⟩ (.bool true)) := hB3.setCell (Nat.le_refl _) _
              have hs4 : w.heap.size + 1 ≤ (w3.setCell ⟨w.heap.size, ja, none⟩ (.bool true)).heap.size := by simp [World.setCell]; omega
              have gc1 : (w3.setCell ⟨w.heap.size, ja, none⟩ (.bool true)).cell? ⟨g, 1, none⟩ = some _ := far_cell hgc1 hne
              have zz0 : (w3.setCell ⟨w.heap.size, ja, none⟩ (.bool true)).cell? ⟨b, off + m * 7, none⟩ = some (.int .i64 op) := far_cell z0 hbne
              have HMX := HM4.out
              have HOX := HON4.out
              clear HM4 HON4 z0 hgc0 hgc1 ta0 ta1 HM3 HON HO3 hB3 hs3
              generalize (w3.setCell ⟨w.heap.size, ja, none⟩ (.bool true)) = w4 at *
              have HM4 := Lib.hid HMX
              have HON := Lib.hid HOX
              clear HMX HOX
              rw [rounds_succ]
              go_wp2_with fail
              refine (lg_call m _ false _ LB.out).mono ?_
              rintro e3 w' ⟨rfl, rfl⟩
              go_wp2_with fail
              rw [rounds_succ]
              go_wp2_with fail
              go_roundg m
              case measure => omega
              case rel => exact ⟨by omega, by go_num, hB4, hs4, by rw [show r + 1 - m = k + 1 by omega]; exact (show Marks _ w.heap.size (r + 1) (Xp.usedL L r (k + 1)) by rw [HU.out]; exact HM4.out), by rw [show r + 1 - m = k + 1 by omega]; exact HON.out, by rw [show r + 1 - m = k + 1 by omega]; exact HLN.out⟩
            | true =>
              have har : Xp.arity op = 2 := by have := HN2.out; unfold nops at this; rcases Xp.arity_cases op with ⟨_, h⟩ | ⟨_, h⟩ | ⟨_, h⟩ | ⟨_, h⟩ | ⟨_, _, h⟩ | ⟨_, h⟩ <;> omega
              have hop2 : op ≠ 2 := by intro e; subst e; have := HN2.out; revert this; decide
              have hop2e : (op == 2) = false := by simp; exact hop2
              have HON := Lib.hid (show w3.ownsRow (w.heap.size + 1) 3 1 u6 (Xp.outc L r (k + 1)).length ((Xp.outc L r (k + 1)).map (Value.int .i64)) by rw [Xp.out_no HK.out HE.out hop2]; exact HO3.out)
              have HLN := Lib.hid (show (Xp.outc L r (k + 1)).length ≤ k + 1 by rw [Xp.out_no HK.out HE.out hop2]; omega)
              clear hlo
              obtain ⟨la0, la1⟩ := (Xp.lgl_iff _ _).1 la
              obtain ⟨ja, rfl⟩ : ∃ j : Nat, ea = j := ⟨ea.toNat, by omega⟩
              have h3a : (ja : Int) < (r : Int) + 1 := by omega
              have h4a : (0 : Int) ≤ (ja : Int) := by omega
              obtain ⟨lb0, lb1⟩ := (Xp.lgl_iff _ _).1 lb
              obtain ⟨jb, rfl⟩ : ∃ j : Nat, eb = j := ⟨eb.toNat, by omega⟩
              have h3b : (jb : Int) < (r : Int) + 1 := by omega
              have h4b : (0 : Int) ≤ (jb : Int) := by omega
              have HU := Lib.hid (Xp.used_2yy HK.out HF.out HE.out har rfl rfl la lb)
              have LA := Lib.hid la
              clear la har
              have LB := Lib.hid lb
              clear lb
              obtain ⟨ta0, ta1⟩ := HM3.out.at_ (Xp.used_get (L := L) (root := r) (k := k) (j := ja) (by omega))
              obtain ⟨tb0, tb1⟩ := HM3.out.at_ (Xp.used_get (L := L) (root := r) (k := k) (j := jb) (by omega))
              go_wp2_with fail
              refine wp_loop_rounds 3 ?_
              rw [rounds_succ]
              go_wp2_with fail
              refine (lg_call m _ true _ LA.out).mono ?_
              rintro e3 w' ⟨rfl, rfl⟩
              go_wp2_with fail
              have HM4 := Lib.hid (HM3.out.put (j := ja) (by omega))
              have HON4 := Lib.hid (own_far (p := ⟨w.heap.size, ja, none⟩) (.bool true) HON.out (Nat.lt_succ_self _))
              have hB4 : Below w.heap.size w (w3.setCell ⟨w.heap.size, ja, none⟩ (.bool true)) := hB3.setCell (Nat.le_refl _) _
              have hs4 : w.heap.size + 1 ≤ (w3.setCell ⟨w.heap.size, ja, none⟩ (.bool true)).heap.size := by simp [World.setCell]; omega
              have gc1 : (w3.setCell ⟨w.heap.size, ja, none⟩ (.bool true)).cell? ⟨g, 1, none⟩ = some _ := far_cell hgc1 hne
              have zz0 : (w3.setCell ⟨w.heap.size, ja, none⟩ (.bool true)).cell? ⟨b, off + m * 7, none⟩ = some (.int .i64 op) := far_cell z0 hbne
              obtain ⟨tc, htc⟩ : ∃ tc, ((Xp.usedL L r k).set ja true)[jb]? = some tc := ⟨_, List.getElem?_eq_getElem (by rw [List.length_set, Xp.used_len]; omega)⟩
              obtain ⟨tb4, tf4⟩ := HM4.out.at_ htc
              clear htc tb0 tb1
              have HMX := HM4.out
              have HOX := HON4.out
              clear HM4 HON4 z0 hgc0 hgc1 ta0 ta1 HM3 HON HO3 hB3 hs3
              generalize (w3.setCell ⟨w.heap.size, ja, none⟩ (.bool true)) = w4 at *
              have HM4 := Lib.hid HMX
              have HON := Lib.hid HOX
              clear HMX HOX
              rw [rounds_succ]
              go_wp2_with fail
              refine (lg_call m _ true _ LB.out).mono ?_
              rintro e3 w' ⟨rfl, rfl⟩
              go_wp2_with fail
              rw [rounds_succ]
              go_wp2_with fail
              go_roundg m
              case measure => omega
              case rel => exact ⟨by omega, by go_num, hB4.setCell (Nat.le_refl _) _, by simp [World.setCell]; omega, by rw [show r + 1 - m = k + 1 by omega]; exact (show Marks _ w.heap.size (r + 1) (Xp.usedL L r (k + 1)) by rw [HU.out]; exact HM4.out.put (j := jb) (by omega)), by rw [show r + 1 - m = k + 1 by omega]; exact (own_far (p := ⟨w.heap.size, jb, none⟩) (.bool true) HON.out (Nat.lt_succ_self _)), by rw [show r + 1 - m = k + 1 by omega]; exact HLN.out⟩

end Go.Proofs.Ytpgaldkedeohaaa
