/-
  The reference's Columns.
-/
import Derived.Test.YtpgaldkedeohaaaColD
namespace Go.Proofs.Ytpgaldkedeohaaa
open Go.RowKit
set_option linter.unusedVariables false

theorem lgl_no {m : Nat} {o : Int} (h : Xp.lgl m o = false) : o < 0 ∨ (m : Int) ≤ o := by
  by_cases h1 : o < 0
  · exact .inl h1
  · by_cases h2 : (m : Int) ≤ o
    · exact .inr h2
    · have := (Xp.lgl_iff m o).2 ⟨by omega, by omega⟩
      rw [this] at h; cases h

set_option maxRecDepth 100000 in
set_option maxHeartbeats 4000000 in
theorem ref_Columns_out (a : Option Addr) (n c : Nat) (root : Int) (w : World) (h : root < 0 ∨ (n : Int) ≤ root) :
    Calls Try.prog 19 #[.slice a n c, .int .i64 root] w (IntsPost [] w) := by
  rcases h with h | h
  · go_enter Try.func19, Try.ntmps19
    go_wp2
    go_ret
    exact ⟨_, rfl, ⟨rfl, .inl ⟨rfl, none, 0, rfl⟩⟩, Below.refl _ _⟩
  · have h0 : 0 ≤ root := by omega
    go_enter Try.func19, Try.ntmps19
    go_wp2
    go_ret
    exact ⟨_, rfl, ⟨rfl, .inl ⟨rfl, none, 0, rfl⟩⟩, Below.refl _ _⟩


set_option maxRecDepth 100000 in
set_option maxHeartbeats 8000000 in
theorem ref_Columns_in (b off c r : Nat) (L : List Ex) (w : World) (hb : b < w.heap.size) (hr : r < L.length) (hlc : L.length ≤ c) (hlen : L.length ≤ 100000)
    (hL : ∀ (i : Nat) (x : Ex), L[i]? = some x → ExAt w b (off + i * 7) x) :
    Calls Try.prog 19 #[.slice (some ⟨b, off, none⟩) L.length c, .int .i64 r] w (IntsPost (Xp.colS L r) w) := by
  obtain ⟨N, hN⟩ : ∃ N, N = L.length := ⟨_, rfl⟩
  rw [← hN] at hr hlc hlen ⊢
  have HN := Lib.hid hN
  clear hN
  have HL := Lib.hid hL
  clear hL
  obtain ⟨ib, hib, hbz0, hbz1, hbz2⟩ := info_parts bool_info
  obtain ⟨i0, hi0, hz0, hz1, hzb⟩ := info_parts int_info
  have hr0 : (0 : Int) ≤ (r : Int) := by omega
  have hr1 : (r : Int) < (N : Int) := by omega
  have hr2 : ¬ N ≤ r := by omega
  have hr3 : decide (N ≤ r) = false := decide_eq_false hr2
  have hr4 : (r : Int) < (r : Int) + 1 := by omega
  go_enter Try.func19, Try.ntmps19
  go_wp2_with (refine wpList_make_full _ rfl _ _ 39 rfl w.heap.size 4 ib _ 1 Try.underlying39 hib hbz0 hbz1 _ _ _ _ (r + 1) rfl rfl ?c1 ?c2 ?c3 ?c4 ?c5 ?_)
  case c1 => omega
  case c2 => omega
  case c3 => rw [hbz2]; omega
  case c4 => unfold maxLen; omega
  case c5 => simp
  intro w1 hown hg1
  have hB1 := below_grown hg1
  have hO1 : Marks w1 w.heap.size (r + 1) (List.replicate (r + 1) false) := ⟨by simp, by rw [← made_all encB false (.bool false) rfl]; show w1.ownsRow _ _ 1 _ _ (madeCells (Value.bool false).cells ((r + 1) * 1)).toList; rw [Nat.mul_one]; exact hown⟩
  have hl1 := OwnA.lt hO1
  obtain ⟨t0, t1⟩ := hO1.at_ (j := r) (b := false) (by simp)
  have hO2 := hO1.put (j := r) (by omega)
  rw [Xp.used_zero L r] at hO2
  have HO2 := Lib.hid hO2
  clear hown hg1 hO1 hO2
  go_wp2_with fail
  have hB2 : Below w.heap.size w (w1.setCell ⟨w.heap.size, r, none⟩ (.bool true)) := hB1.setCell (Nat.le_refl _) _
  have hsz2 : w.heap.size + 1 ≤ (w1.setCell ⟨w.heap.size, r, none⟩ (.bool true)).heap.size := by have := hl1.1; simp [World.setCell]; omega
  have HO2' := HO2.out
  have HO2 := HO2'
  generalize (w1.setCell ⟨w.heap.size, r, none⟩ (.bool true)) = w2 at *
  have HO2 := Lib.hid HO2
  clear HO2' hB1 hl1 t0 t1
  go_loopg [6, 7] (r + 1) (fun gk v i wr => gk ≤ r + 1 ∧ i = .int .i64 ((gk : Int) - 1) ∧ Below w.heap.size w wr ∧ w.heap.size + 1 ≤ wr.heap.size ∧ Marks wr w.heap.size (r + 1) (Xp.usedL L r (r + 1 - gk)) ∧ wr.ownsRow (w.heap.size + 1) 3 1 v (Xp.mrg (Xp.outc L r (r + 1 - gk))).length ((Xp.mrg (Xp.outc L r (r + 1 - gk))).map (Value.int .i64)) ∧ (Xp.outc L r (r + 1 - gk)).length ≤ r + 1 - gk)
  case atStart => exact ⟨Nat.le_refl _, by go_num, hB2, hsz2, by rw [Nat.sub_self]; exact HO2.out, by rw [Nat.sub_self]; exact World.ownsRow_nil _ _ _ _, by rw [Nat.sub_self]; exact Nat.le_refl _⟩
  case round =>
    obtain ⟨hgk, hi, hB, hsz, hM, hO, hlo⟩ := hrel
    clear HO2 hB2 hsz2
    cases gk with
    | zero =>
      rw [show ((0 : Nat) : Int) - 1 = -1 by omega] at hi
      subst hi
      rw [Nat.sub_zero] at hO hlo
      have HO := Lib.hid hO
      clear hO hM
      go_wp2_with fail
      go_ret
      exact ⟨_, rfl, Sl.of_own HO.out, hB⟩
    | succ m =>
      rw [show ((m + 1 : Nat) : Int) - 1 = (m : Int) by omega] at hi
      subst hi
      obtain ⟨k, hk⟩ : ∃ k, m + k = r := ⟨r - m, by omega⟩
      rw [show r + 1 - (m + 1) = k by omega] at hM hO hlo
      have hkm : m = r - k := by omega
      have h0 : (0 : Int) ≤ (m : Int) := by omega
      have h1 : (m : Int) < (r : Int) + 1 := by omega
      obtain ⟨t0, t1⟩ := hM.at_ (Xp.used_get (L := L) (root := r) (k := k) (j := m) (by omega))
      have HM := Lib.hid hM
      have HO := Lib.hid hO
      have HK := Lib.hid hkm
      clear hM hO hkm
      cases hf : Xp.fl L r k m with
      | false =>
        rw [hf] at t0
        have hfk : Xp.fl L r k (r - k) = false := by rw [← HK.out]; exact hf
        have HM1 := Lib.hid (show Marks wr w.heap.size (r + 1) (Xp.usedL L r (k + 1)) by rw [Xp.used_skip hfk]; exact HM.out)
        have HO1 := Lib.hid (show wr.ownsRow (w.heap.size + 1) 3 1 u6 (Xp.mrg (Xp.outc L r (k + 1))).length ((Xp.mrg (Xp.outc L r (k + 1))).map (Value.int .i64)) by rw [Xp.out_skip hfk]; exact HO.out)
        have HL1 := Lib.hid (show (Xp.outc L r (k + 1)).length ≤ k + 1 by rw [Xp.out_skip hfk]; omega)
        clear hf hfk hlo
        go_wp2_with fail
        go_roundg m
        case measure => omega
        case rel => exact ⟨by omega, by go_num, hB, hsz, by rw [show r + 1 - m = k + 1 by omega]; exact HM1.out, by rw [show r + 1 - m = k + 1 by omega]; exact HO1.out, by rw [show r + 1 - m = k + 1 by omega]; exact HL1.out⟩
      | true =>
        rw [hf] at t0
        obtain ⟨e, he⟩ : ∃ e, L[m]? = some e := ⟨L[m]'(by have := HN.out; omega), List.getElem?_eq_getElem (by have := HN.out; omega)⟩
        have HE := Lib.hid he
        have hx := (HL.out m e he).below hb hB
        have HF := Lib.hid hf
        clear he hf
        obtain ⟨op, ea, eb, col, ck, cn, cs⟩ := e
        obtain ⟨x0, x1, x2, x3, x4, x5, x6⟩ := hx
        simp only at x0 x1 x2 x3 x4 x5 x6
        have h2 : (m : Int) < (N : Int) := by omega
        have hbr : b < wr.heap.size := Nat.lt_of_lt_of_le hb hB.size
        have hgr : w.heap.size < wr.heap.size := by omega
        have hbne : b ≠ w.heap.size := by omega
        clear x4 x5 x6
        have hbl := hlo
        rcases (show Xp.arity op ≤ 0 ∨ Xp.arity op = 1 ∨ Xp.arity op = 2 by rcases Xp.arity_cases op with ⟨_, h⟩ | ⟨_, h⟩ | ⟨_, h⟩ | ⟨_, h⟩ | ⟨_, _, h⟩ | ⟨_, h⟩ <;> omega) with har | har | har
        · obtain ⟨ar, hare⟩ : ∃ ar, Xp.arity op = ar := ⟨_, rfl⟩
          have HAR := Lib.hid hare
          have har1 : ar ≤ 0 := by omega
          have HMN := Lib.hid (show Marks wr w.heap.size (r + 1) (Xp.usedL L r (k + 1)) by rw [Xp.used_0 HK.out HF.out HE.out har]; exact HM.out)
          clear har hare
          by_cases hop2 : op = 2
          · subst hop2
            have HOC := Lib.hid (Xp.out_col HK.out HF.out HE.out rfl)
            go_wp2_with fail
            refine (ropn_call 2 ar _ HAR.out).mono ?_
            rintro e1 w3 ⟨rfl, rfl⟩
            go_wp2_with fail
            have HA := Lib.hid (show Sl (wr.alloc (.cells #[.int .i64 col] 3)) 1 u6 (Xp.mrg (Xp.outc L r k)).length ((Xp.mrg (Xp.outc L r k)).map (Value.int .i64)) from (Sl.of_own HO.out).keep (below_alloc (Below.refl _ _) _))
            have HB := Lib.hid (show Sl (wr.alloc (.cells #[.int .i64 col] 3)) 1 (.slice (some ⟨wr.heap.size, 0, none⟩) 1 1) ([col] : List Int).length (([col] : List Int).map (Value.int .i64)) from sl_new _ _ _)
            refine (ref_MergeLineage u6 _ (Xp.mrg (Xp.outc L r k)) [col] _ HA.out HB.out (by have := Xp.mrg_len (Xp.outc L r k); simp; omega)).mono ?_
            rintro e1 w4 ⟨v4, rfl, hown4, hb4⟩
            have hb4' : Below wr.heap.size wr w4 := (below_alloc (Below.refl _ _) _).trans (hb4.mono (by simp))
            have HM4 := Lib.hid (show Marks w4 w.heap.size (r + 1) (Xp.usedL L r (k + 1)) from OwnA.below HMN.out hb4')
            have HO4 := Lib.hid (show w4.ownsRow (w.heap.size + 1) 3 1 v4 (Xp.mrg (Xp.outc L r (k + 1))).length ((Xp.mrg (Xp.outc L r (k + 1))).map (Value.int .i64)) by rw [HOC.out, Xp.mrg_snoc, ← Xp.mrg_mrg_snoc]; exact own_mono hown4 (by simp; omega))
            have HL4 := Lib.hid (show (Xp.outc L r (k + 1)).length ≤ k + 1 by rw [HOC.out]; simp; omega)
            have hB4 : Below w.heap.size w w4 := below_chain hB hb4'
            have hs4 : w.heap.size + 1 ≤ w4.heap.size := by have := hb4'.size; omega
            clear hown4 hb4 hb4' hlo hbl
            go_wp2_with fail
            go_roundg m
            case measure => omega
            case rel => exact ⟨by omega, by go_num, hB4, hs4, by rw [show r + 1 - m = k + 1 by omega]; exact HM4.out, by rw [show r + 1 - m = k + 1 by omega]; exact HO4.out, by rw [show r + 1 - m = k + 1 by omega]; exact HL4.out⟩
          · skip
            have hop2e : (op == 2) = false := by simp; exact hop2
            have HON := Lib.hid (show wr.ownsRow (w.heap.size + 1) 3 1 u6 (Xp.mrg (Xp.outc L r (k + 1))).length ((Xp.mrg (Xp.outc L r (k + 1))).map (Value.int .i64)) by rw [Xp.out_no HK.out HE.out hop2]; exact HO.out)
            have HLN := Lib.hid (show (Xp.outc L r (k + 1)).length ≤ k + 1 by rw [Xp.out_no HK.out HE.out hop2]; omega)
            clear hlo hbl
            go_wp2_with fail
            refine (ropn_call op ar _ HAR.out).mono ?_
            rintro e1 w3 ⟨rfl, rfl⟩
            go_wp2_with fail
            go_roundg m
            case measure => omega
            case rel => exact ⟨by omega, by go_num, hB, hsz, by rw [show r + 1 - m = k + 1 by omega]; exact HMN.out, by rw [show r + 1 - m = k + 1 by omega]; exact HON.out, by rw [show r + 1 - m = k + 1 by omega]; exact HLN.out⟩
        · cases la : Xp.lgl m ea with
          | false =>
            have hop2 : op ≠ 2 := by intro e; subst e; revert har; decide
            have hop2e : (op == 2) = false := by simp; exact hop2
            have HON := Lib.hid (show wr.ownsRow (w.heap.size + 1) 3 1 u6 (Xp.mrg (Xp.outc L r (k + 1))).length ((Xp.mrg (Xp.outc L r (k + 1))).map (Value.int .i64)) by rw [Xp.out_no HK.out HE.out hop2]; exact HO.out)
            have HLN := Lib.hid (show (Xp.outc L r (k + 1)).length ≤ k + 1 by rw [Xp.out_no HK.out HE.out hop2]; omega)
            clear hlo hbl
            have na := lgl_no la
            have HU := Lib.hid (Xp.used_1n HK.out HF.out HE.out har la)
            have HAR := Lib.hid har
            clear la har
            rcases na with na | na
            all_goals
              go_wp2_with fail
              refine (ropn_call op 1 _ HAR.out).mono ?_
              rintro e1 w3 ⟨rfl, rfl⟩
              go_wp2_with fail
              go_roundg m
              case measure => omega
              case rel => exact ⟨by omega, by go_num, hB, hsz, by rw [show r + 1 - m = k + 1 by omega]; exact (show Marks _ w.heap.size (r + 1) (Xp.usedL L r (k + 1)) by rw [HU.out]; exact HM.out), by rw [show r + 1 - m = k + 1 by omega]; exact HON.out, by rw [show r + 1 - m = k + 1 by omega]; exact HLN.out⟩
          | true =>
            have hop2 : op ≠ 2 := by intro e; subst e; revert har; decide
            have hop2e : (op == 2) = false := by simp; exact hop2
            have HON := Lib.hid (show wr.ownsRow (w.heap.size + 1) 3 1 u6 (Xp.mrg (Xp.outc L r (k + 1))).length ((Xp.mrg (Xp.outc L r (k + 1))).map (Value.int .i64)) by rw [Xp.out_no HK.out HE.out hop2]; exact HO.out)
            have HLN := Lib.hid (show (Xp.outc L r (k + 1)).length ≤ k + 1 by rw [Xp.out_no HK.out HE.out hop2]; omega)
            clear hlo hbl
            obtain ⟨la0, la1⟩ := (Xp.lgl_iff _ _).1 la
            obtain ⟨ja, rfl⟩ : ∃ j : Nat, ea = j := ⟨ea.toNat, by omega⟩
            have h3a : (ja : Int) < (r : Int) + 1 := by omega
            have h4a : (0 : Int) ≤ (ja : Int) := by omega
            have HU := Lib.hid (Xp.used_1y HK.out HF.out HE.out har rfl la)
            have HAR := Lib.hid har
            clear la har
            obtain ⟨ta0, ta1⟩ := HM.out.at_ (Xp.used_get (L := L) (root := r) (k := k) (j := ja) (by omega))
            have y0ja : (wr.setCell ⟨w.heap.size, ja, none⟩ (.bool true)).cell? ⟨b, off + m * 7, none⟩ = some _ := far_cell x0 hbne
            have y2ja : (wr.setCell ⟨w.heap.size, ja, none⟩ (.bool true)).cell? ⟨b, off + m * 7 + 2, none⟩ = some _ := far_cell x2 hbne
            all_goals
              go_wp2_with fail
              refine (ropn_call op 1 _ HAR.out).mono ?_
              rintro e1 w3 ⟨rfl, rfl⟩
              go_wp2_with fail
              go_roundg m
              case measure => omega
              case rel => exact ⟨by omega, by go_num, hB.setCell (Nat.le_refl _) _, by simp [World.setCell]; omega, by rw [show r + 1 - m = k + 1 by omega]; exact (show Marks _ w.heap.size (r + 1) (Xp.usedL L r (k + 1)) by rw [HU.out]; exact HM.out.put (j := ja) (by omega)), by rw [show r + 1 - m = k + 1 by omega]; exact own_far (p := ⟨w.heap.size, ja, none⟩) (.bool true) (HON.out) (Nat.lt_succ_self _), by rw [show r + 1 - m = k + 1 by omega]; exact HLN.out⟩
        · cases la : Xp.lgl m ea with
          | false =>
            cases lb : Xp.lgl m eb with
            | false =>
              have hop2 : op ≠ 2 := by intro e; subst e; revert har; decide
              have hop2e : (op == 2) = false := by simp; exact hop2
              have HON := Lib.hid (show wr.ownsRow (w.heap.size + 1) 3 1 u6 (Xp.mrg (Xp.outc L r (k + 1))).length ((Xp.mrg (Xp.outc L r (k + 1))).map (Value.int .i64)) by rw [Xp.out_no HK.out HE.out hop2]; exact HO.out)
              have HLN := Lib.hid (show (Xp.outc L r (k + 1)).length ≤ k + 1 by rw [Xp.out_no HK.out HE.out hop2]; omega)
              clear hlo hbl
              have na := lgl_no la
              have nb := lgl_no lb
              have HU := Lib.hid (Xp.used_2nn HK.out HF.out HE.out har la lb)
              have HAR := Lib.hid har
              clear la har
              clear lb
              rcases na with na | na
              all_goals rcases nb with nb | nb
              all_goals
                go_wp2_with fail
                refine (ropn_call op 2 _ HAR.out).mono ?_
                rintro e1 w3 ⟨rfl, rfl⟩
                go_wp2_with fail
                go_roundg m
                case measure => omega
                case rel => exact ⟨by omega, by go_num, hB, hsz, by rw [show r + 1 - m = k + 1 by omega]; exact (show Marks _ w.heap.size (r + 1) (Xp.usedL L r (k + 1)) by rw [HU.out]; exact HM.out), by rw [show r + 1 - m = k + 1 by omega]; exact HON.out, by rw [show r + 1 - m = k + 1 by omega]; exact HLN.out⟩
            | true =>
              have hop2 : op ≠ 2 := by intro e; subst e; revert har; decide
              have hop2e : (op == 2) = false := by simp; exact hop2
              have HON := Lib.hid (show wr.ownsRow (w.heap.size + 1) 3 1 u6 (Xp.mrg (Xp.outc L r (k + 1))).length ((Xp.mrg (Xp.outc L r (k + 1))).map (Value.int .i64)) by rw [Xp.out_no HK.out HE.out hop2]; exact HO.out)
              have HLN := Lib.hid (show (Xp.outc L r (k + 1)).length ≤ k + 1 by rw [Xp.out_no HK.out HE.out hop2]; omega)
              clear hlo hbl
              have na := lgl_no la
              obtain ⟨lb0, lb1⟩ := (Xp.lgl_iff _ _).1 lb
              obtain ⟨jb, rfl⟩ : ∃ j : Nat, eb = j := ⟨eb.toNat, by omega⟩
              have h3b : (jb : Int) < (r : Int) + 1 := by omega
              have h4b : (0 : Int) ≤ (jb : Int) := by omega
              have HU := Lib.hid (Xp.used_2ny HK.out HF.out HE.out har rfl la lb)
              have HAR := Lib.hid har
              clear la har
              clear lb
              obtain ⟨tb0, tb1⟩ := HM.out.at_ (Xp.used_get (L := L) (root := r) (k := k) (j := jb) (by omega))
              have y0jb : (wr.setCell ⟨w.heap.size, jb, none⟩ (.bool true)).cell? ⟨b, off + m * 7, none⟩ = some _ := far_cell x0 hbne
              have y2jb : (wr.setCell ⟨w.heap.size, jb, none⟩ (.bool true)).cell? ⟨b, off + m * 7 + 2, none⟩ = some _ := far_cell x2 hbne
              rcases na with na | na
              all_goals
                go_wp2_with fail
                refine (ropn_call op 2 _ HAR.out).mono ?_
                rintro e1 w3 ⟨rfl, rfl⟩
                go_wp2_with fail
                go_roundg m
                case measure => omega
                case rel => exact ⟨by omega, by go_num, hB.setCell (Nat.le_refl _) _, by simp [World.setCell]; omega, by rw [show r + 1 - m = k + 1 by omega]; exact (show Marks _ w.heap.size (r + 1) (Xp.usedL L r (k + 1)) by rw [HU.out]; exact HM.out.put (j := jb) (by omega)), by rw [show r + 1 - m = k + 1 by omega]; exact own_far (p := ⟨w.heap.size, jb, none⟩) (.bool true) (HON.out) (Nat.lt_succ_self _), by rw [show r + 1 - m = k + 1 by omega]; exact HLN.out⟩
          | true =>
            cases lb : Xp.lgl m eb with
            | false =>
              have hop2 : op ≠ 2 := by intro e; subst e; revert har; decide
              have hop2e : (op == 2) = false := by simp; exact hop2
              have HON := Lib.hid (show wr.ownsRow (w.heap.size + 1) 3 1 u6 (Xp.mrg (Xp.outc L r (k + 1))).length ((Xp.mrg (Xp.outc L r (k + 1))).map (Value.int .i64)) by rw [Xp.out_no HK.out HE.out hop2]; exact HO.out)
              have HLN := Lib.hid (show (Xp.outc L r (k + 1)).length ≤ k + 1 by rw [Xp.out_no HK.out HE.out hop2]; omega)
              clear hlo hbl
              obtain ⟨la0, la1⟩ := (Xp.lgl_iff _ _).1 la
              obtain ⟨ja, rfl⟩ : ∃ j : Nat, ea = j := ⟨ea.toNat, by omega⟩
              have h3a : (ja : Int) < (r : Int) + 1 := by omega
              have h4a : (0 : Int) ≤ (ja : Int) := by omega
              have nb := lgl_no lb
              have HU := Lib.hid (Xp.used_2yn HK.out HF.out HE.out har rfl la lb)
              have HAR := Lib.hid har
              clear la har
              clear lb
              obtain ⟨ta0, ta1⟩ := HM.out.at_ (Xp.used_get (L := L) (root := r) (k := k) (j := ja) (by omega))
              have y0ja : (wr.setCell ⟨w.heap.size, ja, none⟩ (.bool true)).cell? ⟨b, off + m * 7, none⟩ = some _ := far_cell x0 hbne
              have y2ja : (wr.setCell ⟨w.heap.size, ja, none⟩ (.bool true)).cell? ⟨b, off + m * 7 + 2, none⟩ = some _ := far_cell x2 hbne
              all_goals rcases nb with nb | nb
              all_goals
                go_wp2_with fail
                refine (ropn_call op 2 _ HAR.out).mono ?_
                rintro e1 w3 ⟨rfl, rfl⟩
                go_wp2_with fail
                go_roundg m
                case measure => omega
                case rel => exact ⟨by omega, by go_num, hB.setCell (Nat.le_refl _) _, by simp [World.setCell]; omega, by rw [show r + 1 - m = k + 1 by omega]; exact (show Marks _ w.heap.size (r + 1) (Xp.usedL L r (k + 1)) by rw [HU.out]; exact HM.out.put (j := ja) (by omega)), by rw [show r + 1 - m = k + 1 by omega]; exact own_far (p := ⟨w.heap.size, ja, none⟩) (.bool true) (HON.out) (Nat.lt_succ_self _), by rw [show r + 1 - m = k + 1 by omega]; exact HLN.out⟩
            | true =>
              have hop2 : op ≠ 2 := by intro e; subst e; revert har; decide
              have hop2e : (op == 2) = false := by simp; exact hop2
              have HON := Lib.hid (show wr.ownsRow (w.heap.size + 1) 3 1 u6 (Xp.mrg (Xp.outc L r (k + 1))).length ((Xp.mrg (Xp.outc L r (k + 1))).map (Value.int .i64)) by rw [Xp.out_no HK.out HE.out hop2]; exact HO.out)
              have HLN := Lib.hid (show (Xp.outc L r (k + 1)).length ≤ k + 1 by rw [Xp.out_no HK.out HE.out hop2]; omega)
              clear hlo hbl
              obtain ⟨la0, la1⟩ := (Xp.lgl_iff _ _).1 la
              obtain ⟨ja, rfl⟩ : ∃ j : Nat, ea = j := ⟨ea.toNat, by omega⟩
              have h3a : (ja : Int) < (r : Int) + 1 := by omega
              have h4a : (0 : Int) ≤ (ja : Int) := by omega
              obtain ⟨lb0, lb1⟩ := (Xp.lgl_iff _ _).1 lb
              obtain ⟨jb, rfl⟩ : ∃ j : Nat, eb = j := ⟨eb.toNat, by omega⟩
              have h3b : (jb : Int) < (r : Int) + 1 := by omega
              have h4b : (0 : Int) ≤ (jb : Int) := by omega
              have HU := Lib.hid (Xp.used_2yy HK.out HF.out HE.out har rfl rfl la lb)
              have HAR := Lib.hid har
              clear la har
              clear lb
              obtain ⟨ta0, ta1⟩ := HM.out.at_ (Xp.used_get (L := L) (root := r) (k := k) (j := ja) (by omega))
              obtain ⟨tb0, tb1⟩ := HM.out.at_ (Xp.used_get (L := L) (root := r) (k := k) (j := jb) (by omega))
              have hM4 := HM.out.put (j := ja) (by omega)
              obtain ⟨tc, htc⟩ : ∃ tc, ((Xp.usedL L r k).set ja true)[jb]? = some tc := ⟨_, List.getElem?_eq_getElem (by rw [List.length_set, Xp.used_len]; omega)⟩
              obtain ⟨tb4, tf4⟩ := hM4.at_ htc
              have HM4 := Lib.hid hM4
              clear htc hM4
              have y0ja : (wr.setCell ⟨w.heap.size, ja, none⟩ (.bool true)).cell? ⟨b, off + m * 7, none⟩ = some _ := far_cell x0 hbne
              have y2ja : (wr.setCell ⟨w.heap.size, ja, none⟩ (.bool true)).cell? ⟨b, off + m * 7 + 2, none⟩ = some _ := far_cell x2 hbne
              have y0jb : (wr.setCell ⟨w.heap.size, jb, none⟩ (.bool true)).cell? ⟨b, off + m * 7, none⟩ = some _ := far_cell x0 hbne
              have y2jb : (wr.setCell ⟨w.heap.size, jb, none⟩ (.bool true)).cell? ⟨b, off + m * 7 + 2, none⟩ = some _ := far_cell x2 hbne
              have yy0 : ((wr.setCell ⟨w.heap.size, ja, none⟩ (.bool true)).setCell ⟨w.heap.size, jb, none⟩ (.bool true)).cell? ⟨b, off + m * 7, none⟩ = some _ := far_cell y0ja hbne
              all_goals
                go_wp2_with fail
                refine (ropn_call op 2 _ HAR.out).mono ?_
                rintro e1 w3 ⟨rfl, rfl⟩
                go_wp2_with fail
                go_roundg m
                case measure => omega
                case rel => exact ⟨by omega, by go_num, (hB.setCell (Nat.le_refl _) _).setCell (Nat.le_refl _) _, by simp [World.setCell]; omega, by rw [show r + 1 - m = k + 1 by omega]; exact (show Marks _ w.heap.size (r + 1) (Xp.usedL L r (k + 1)) by rw [HU.out]; exact HM4.out.put (j := jb) (by omega)), by rw [show r + 1 - m = k + 1 by omega]; exact own_far (p := ⟨w.heap.size, jb, none⟩) (.bool true) (own_far (p := ⟨w.heap.size, ja, none⟩) (.bool true) (HON.out) (Nat.lt_succ_self _)) (Nat.lt_succ_self _), by rw [show r + 1 - m = k + 1 by omega]; exact HLN.out⟩

end Go.Proofs.Ytpgaldkedeohaaa
