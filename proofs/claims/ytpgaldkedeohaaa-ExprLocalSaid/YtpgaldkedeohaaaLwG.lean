/-
  The walk of ExprLocal.
-/
import Derived.Test.YtpgaldkedeohaaaLwF
namespace Go.Proofs.Ytpgaldkedeohaaa
open Go.RowKit
set_option linter.unusedVariables false

/-- The row with other values where no column is used. -/
def locF (U : List Int) (row other : List Vl) (i : Nat) : Vl := if (i : Int) ∈ U then row.getD i Xp.zero else if i < other.length then other.getD i Xp.zero else row.getD i Xp.zero

theorem localX {L : List Ex} {root : Int} {row other : List Vl} : evX L root (mixL row (locF (colX L root) row other) row.length) = evX L root row := by
  unfold evX colX
  by_cases h : root < 0 ∨ (L.length : Int) ≤ root
  · rw [if_pos h, if_pos h]
  rw [if_neg h, if_neg h, if_neg h]
  refine Xp.local_ (fun c hc => ?_) root.toNat (Nat.le_refl _) (by rw [Nat.sub_self]; simp [Xp.fl])
  have hm : c ∈ Xp.colS L root.toNat := (Xp.mem_mrg _ _).2 hc
  unfold Xp.colOf
  rw [mix_len]
  by_cases hr : 0 ≤ c ∧ c < row.length
  · rw [if_pos hr, if_pos hr]
    obtain ⟨i, rfl⟩ : ∃ i : Nat, c = i := ⟨c.toNat, by omega⟩
    rw [Int.toNat_natCast, mix_at (by omega)]
    unfold locF
    rw [if_pos hm]
  · rw [if_neg hr, if_neg hr]

theorem locF_ok {U : List Int} {row other : List Vl} (h1 : ∀ x ∈ row, Vok x) (h2 : ∀ x ∈ other, Vok x) (i : Nat) : Vok (locF U row other i) := by
  have g : ∀ (l : List Vl), (∀ x ∈ l, Vok x) → Vok (l.getD i Xp.zero) := fun l hl => by
    rw [List.getD_eq_getElem?_getD]
    cases h : l[i]? with
    | none => exact vok_zero
    | some x => exact hl x (List.mem_of_getElem? h)
  unfold locF
  split
  · exact g _ h1
  · split
    · exact g _ h2
    · exact g _ h1

theorem mem_take_succ {U : List Int} {j : Nat} {c i : Int} (h : U[j]? = some c) : decide (i ∈ U.take (j + 1)) = (decide (i ∈ U.take j) || decide (c = i)) := by
  rw [List.take_add_one, h]
  show decide (i ∈ U.take j ++ [c]) = _
  rw [Bool.eq_iff_iff]
  simp only [decide_eq_true_eq, Bool.or_eq_true, List.mem_append, List.mem_singleton]
  constructor
  · rintro (h | h)
    · exact .inl h
    · exact .inr h.symm
  · rintro (h | h)
    · exact .inl h
    · exact .inr h.symm

set_option maxRecDepth 100000 in
set_option maxHeartbeats 8000000 in
theorem local_walk (v rv ov : Value) (root : Int) (L : List Ex) (row other : List Vl) (w : World) (hL : ExsAt w w.heap.size v L) (hc : RowAt w w.heap.size rv row) (hz : ∀ n c, rv = .slice none n c → c = 0) (ho : RowAt w w.heap.size ov other) :
    Calls Try.prog 7 #[v, .int .i64 root, rv, ov] w (Holds w) := by
  have HC := Lib.hid hc
  have HO := Lib.hid ho
  have hV := hL.v
  have HV := Lib.hid hV
  have HZ := Lib.hid hz
  have HOK := Lib.hid (rowAt_ok hc)
  have HOK2 := Lib.hid (rowAt_ok ho)
  obtain ⟨a, n, c, rfl, hn, hnc, _⟩ := hV
  obtain ⟨qa, qn, qc, rfl, hqn, _⟩ := hc.view
  obtain ⟨oa, on, oc, rfl, hon, _⟩ := ho.view
  have HN := Lib.hid hn
  have HQ := Lib.hid hqn
  have HON := Lib.hid hon
  have hq0 : (0 : Int) ≤ (qn : Int) := by omega
  clear hL hc hn hqn hz ho hon
  have hB0 : Below w.heap.size w w := Below.refl _ _
  cases hf : (decide (n ≤ 220) && decide ((qn : Int) ≤ 60)) with
  | false =>
    have HF := Lib.hid hf
    clear hf
    go_enter Try.func7, Try.ntmps7
    go_wp2_with fail
    refine (few_call a n c qn false _ hq0 HF.out).mono ?_
    rintro e1 w1 ⟨rfl, rfl⟩
    go_wp2_with fail
    refine (awake_call _).mono ?_
    rintro e1 w1 ⟨rfl, hb1⟩
    go_wp2
    go_ret
    exact ⟨rfl, hb1⟩
  | true =>
    have HF := Lib.hid hf
    obtain ⟨hf1, hf2⟩ := few_no hf
    clear hf
    by_cases hon60 : 60 < on
    · have h60 : (60 : Int) < (on : Int) := by omega
      go_enter Try.func7, Try.ntmps7
      go_wp2_with fail
      refine (few_call a n c qn true _ hq0 HF.out).mono ?_
      rintro e1 w1 ⟨rfl, rfl⟩
      go_wp2_with fail
      refine (awake_call _).mono ?_
      rintro e1 w1 ⟨rfl, hb1⟩
      go_wp2
      go_ret
      exact ⟨rfl, hb1⟩
    have h60 : (on : Int) ≤ 60 := by omega
    have HLL := Lib.hid (show L.length ≤ 100000 by have := HN.out; omega)
    obtain ⟨U, hU⟩ : ∃ U, colX L root = U := ⟨_, rfl⟩
    have HU := Lib.hid hU
    have hul : U.length ≤ 100000 := by rw [← hU]; exact colX_len L root HLL.out
    obtain ⟨ul, hul2⟩ : ∃ ul, U.length = ul := ⟨_, rfl⟩
    rw [hul2] at hul
    have HUL := Lib.hid hul2
    obtain ⟨F, hF⟩ : ∃ F : Nat → Vl, locF U row other = F := ⟨_, rfl⟩
    have HFD := Lib.hid hF
    obtain ⟨ek, en, es, hev⟩ : ∃ k m s, evX L root row = ⟨k, m, s⟩ := ⟨_, _, _, rfl⟩
    have HE := Lib.hid hev
    have HE2 := Lib.hid (show evX L root (mixL row F row.length) = ⟨ek, en, es⟩ by rw [← hF, ← hU, localX]; exact hev)
    have HMOK := Lib.hid (show ∀ x ∈ mixL row F row.length, Vok x from mix_ok (fun j => by rw [← hF]; exact locF_ok HOK.out HOK2.out j) HOK.out)
    clear hev hU hF hul2 hon60
    obtain ⟨iv, hiv, hvz0, hvz1, hvzb⟩ := info_parts val_info
    go_enter Try.func7, Try.ntmps7
    go_wp2_with fail
    refine (few_call a n c qn true _ hq0 HF.out).mono ?_
    rintro e1 w0 ⟨rfl, rfl⟩
    go_wp2_with fail
    refine (columns_any (root := root) HV.out HLL.out).mono ?_
    rintro e1 w1 ⟨uv, rfl, hsu, hb1⟩
    rw [HU.out, HUL.out] at hsu
    have HSU := Lib.hid hsu
    obtain ⟨ua, uc, rfl⟩ := hsu.len
    have HC1 := Lib.hid (HC.out.on hb1)
    have HV1 := Lib.hid (HV.out.keep hb1)
    have HO1 := Lib.hid (HO.out.on hb1)
    have HSR := Lib.hid (show Sl w1 3 (.slice qa qn qc) qn (encV.all row) by have := HC1.out.sl; rwa [← HQ.out] at this)
    clear hsu
    go_wp2_with (at_builtin; refine wpList_append_sl rfl _ _ 32 rfl w1.heap.size 34 iv _ 3 32 Try.underlying32 hiv hvz0 hvz1 hvzb rfl (by decide) _ _ _ rfl (World.ownsRow_nil _ _ _ _) _ qn (encV.all row) rfl HSR.out HZ.out (one_V row) (by unfold maxLen; omega) (by omega) (Nat.le_refl _) ?_)
    intro vv w4 hown4 hg4 hb4
    have hown4 : w4.ownsRow w1.heap.size 34 3 vv qn (encV.all (mixL row F 0)) := by rw [mix_zero]; simpa using hown4
    have HVF := Lib.hid (show (vv = .slice none 0 0 ∧ qn = 0) ∨ ∃ g cap, vv = .slice (some ⟨g, 0, none⟩) qn cap ∧ w1.heap.size ≤ g by
      rcases own_form' hown4 with h | ⟨g, cap, h1, _, _, h2, h3⟩
      · exact .inl h
      · exact .inr ⟨g, cap, h1, h3⟩)
    obtain ⟨va, vc, rfl⟩ : ∃ va vc, vv = .slice va qn vc := by
      rcases HVF.out with ⟨h1, h2⟩ | ⟨g, cap, h1, _⟩
      · exact ⟨none, 0, by rw [h1, h2]⟩
      · exact ⟨_, cap, h1⟩
    have HOV := Lib.hid hown4
    clear hown4 hg4
    go_wp2_with fail
    go_loopg [33] qn (fun gk j wr => ∃ k : Nat, gk + k = qn ∧ j = .int .i64 k ∧ Below w1.heap.size w1 wr ∧ wr.ownsRow w1.heap.size 34 3 (.slice va qn vc) qn (encV.all (mixL row F k)))
    case atStart => exact ⟨0, by omega, by go_num, hb4, HOV.out⟩
    case round =>
      obtain ⟨k, hgk, rfl, hB, hOV⟩ := hrel
      clear hb4 HOV
      by_cases hk : k < qn
      case neg =>
        obtain rfl : k = qn := by omega
        rw [show mixL row F k = mixL row F row.length by rw [← HQ.out]] at hOV
        have HR := Lib.hid (rowAt_own hOV HMOK.out)
        have HV2 := Lib.hid (HV1.out.keep hB)
        have HC2 := Lib.hid (HC1.out.on hB)
        have hB2 : Below w.heap.size w wr := below_chain hb1 hB
        clear hOV hgk hk hB hb1
        go_wp2_with fail
        refine (awake_call _).mono ?_
        rintro e1 w6 ⟨rfl, hb6⟩
        have hB6 := below_chain hB2 hb6
        have HR6 := Lib.hid (HR.out.on hb6)
        have HV6 := Lib.hid (HV2.out.keep hb6)
        have HC6 := Lib.hid (HC2.out.on hb6)
        clear hb6 hB2
        go_wp2_with fail
        refine (eval_any HV6.out HLL.out HR6.out HE2.out).mono ?_
        rintro e1 w7 ⟨rfl, hb7⟩
        have hB7 := below_chain hB6 hb7
        have HV7 := Lib.hid (HV6.out.keep hb7)
        have HC7 := Lib.hid (HC6.out.on hb7)
        clear hb7 hB6
        go_wp2_with fail
        refine (eval_any HV7.out HLL.out HC7.out HE.out).mono ?_
        rintro e1 w8 ⟨rfl, hb8⟩
        have hB8 := below_chain hB7 hb8
        clear hb8
        go_wp2
        go_ret
        exact ⟨rfl, hB8⟩
      obtain ⟨gv, hva, hgw⟩ : ∃ g, va = some ⟨g, 0, none⟩ ∧ w1.heap.size ≤ g := by
        rcases HVF.out with ⟨_, h⟩ | ⟨g, cap, h1, h2⟩
        · omega
        · simp only [Value.slice.injEq] at h1
          exact ⟨g, h1.1, h2⟩
      subst hva
      have HOV := Lib.hid hOV
      have hk1 : (k : Int) < (qn : Int) := by omega
      have hk0 : (0 : Int) ≤ (k : Int) := by omega
      clear hOV
      go_wp2_with fail
      go_loop [12, 38] (fun kp jv => ∃ jj : Nat, jj ≤ ul ∧ jv = .int .i64 jj ∧ kp = .bool (decide ((k : Int) ∈ U.take jj))) (fun _ jv => ul - (intOf jv).toNat)
      case atStart => exact ⟨0, Nat.zero_le _, by go_num, by simp⟩
      case round =>
        obtain ⟨jj, hjj, rfl, hkp⟩ := hrel
        by_cases hj : jj < ul
        · obtain ⟨cv, hcv⟩ : ∃ cv, U[jj]? = some cv := ⟨U[jj]'(by have := HUL.out; omega), List.getElem?_eq_getElem (by have := HUL.out; omega)⟩
          obtain ⟨ub, uo, uc', hus, _, hub, hucell⟩ := (HSU.out.keep hB).some_ (by omega)
          obtain ⟨rfl, hu9⟩ : ua = some ⟨ub, uo, none⟩ ∧ uc = uc' := by simpa using hus
          have cc : wr.cell? ⟨ub, uo + jj, none⟩ = some (.int .i64 cv) := hucell jj _ (by rw [List.getElem?_map, hcv]; rfl)
          have HT := Lib.hid (mem_take_succ (i := (k : Int)) hcv)
          have hj1 : (jj : Int) < (ul : Int) := by omega
          have hj0 : (0 : Int) ≤ (jj : Int) := by omega
          clear hcv hus hucell hu9
          cases hb : decide ((k : Int) ∈ U.take jj) with
          | true =>
            rw [hb] at hkp
            subst hkp
            have HB := Lib.hid hb
            clear hb
            go_wp2_with fail
            go_round
            case rel => exact ⟨jj + 1, by omega, by go_num, by rw [HT.out, HB.out]; rfl⟩
            case measure => simp [intOf]; omega
          | false =>
            rw [hb] at hkp
            subst hkp
            have HB := Lib.hid hb
            clear hb
            by_cases hce : cv = (k : Int)
            · have h1 : (cv == (k : Int)) = true := by simp; exact hce
              have HD := Lib.hid (show decide (cv = (k : Int)) = true by simp; exact hce)
              clear hce
              go_wp2_with fail
              go_round
              case rel => exact ⟨jj + 1, by omega, by go_num, by rw [HT.out, HB.out, HD.out]; rfl⟩
              case measure => simp [intOf]; omega
            · have h1 : (cv == (k : Int)) = false := by simp; exact hce
              have HD := Lib.hid (show decide (cv = (k : Int)) = false by simp; exact hce)
              clear hce
              go_wp2_with fail
              go_round
              case rel => exact ⟨jj + 1, by omega, by go_num, by rw [HT.out, HB.out, HD.out]; rfl⟩
              case measure => simp [intOf]; omega
        · obtain rfl : jj = ul := by omega
          rw [List.take_of_length_le (Nat.le_of_eq HUL.out)] at hkp
          clear hj hjj
          cases hb : decide ((k : Int) ∈ U) with
          | true =>
            rw [hb] at hkp
            subst hkp
            have hskip : mixL row F (k + 1) = mixL row F k := mix_skip (by rw [← HFD.out]; unfold locF; rw [if_pos (of_decide_eq_true hb)])
            have HSK := Lib.hid (show wr.ownsRow w1.heap.size 34 3 (.slice (some ⟨gv, 0, none⟩) qn vc) qn (encV.all (mixL row F (k + 1))) by rw [hskip]; exact HOV.out)
            clear hskip hb
            go_wp2_with fail
            go_roundg (gk - 1)
            case measure => omega
            case rel => exact ⟨k + 1, by omega, by go_num, hB, HSK.out⟩
          | false =>
            rw [hb] at hkp
            subst hkp
            by_cases hko : k < on
            · obtain ⟨x, hx⟩ : ∃ x, other[k]? = some x := ⟨other[k]'(by have := HON.out; omega), List.getElem?_eq_getElem (by have := HON.out; omega)⟩
              obtain ⟨b, off, c', hs, hbb, hvl⟩ := HO1.out.cells hx
              obtain ⟨rfl, hq9, rfl⟩ : oa = some ⟨b, off, none⟩ ∧ on = other.length ∧ oc = c' := by simpa using hs
              obtain ⟨t0, t1, t2⟩ := hvl.below hbb hB
              have hFk : F k = x := by
                rw [← HFD.out]; unfold locF
                rw [if_neg (of_decide_eq_false hb), if_pos (by have := HON.out; omega), List.getD_eq_getElem?_getD, hx]; rfl
              obtain ⟨xk, xn, xs⟩ := x
              simp only at t0 t1 t2
              have hO5 := HOV.out
              have hgl5 : gv < wr.heap.size := by
                rcases own_form' hO5 with ⟨h, _⟩ | ⟨g, cap, h1, _, _, h2, _⟩
                · cases h
                · simp only [Value.slice.injEq, Option.some.injEq, Addr.mk.injEq] at h1; have := h1.1.1; omega
              obtain ⟨y, hy⟩ : ∃ y, (mixL row F k)[k]? = some y := ⟨_, mix_get (by have := HQ.out; omega)⟩
              have s0 : wr.cell? ⟨gv, k * 3, none⟩ = some (.int .i64 y.k) := own_cell (E := encV) (j := 0) hO5 hy rfl
              have s1 : wr.cell? ⟨gv, k * 3 + 1, none⟩ = some (.int .i64 y.n) := own_cell (E := encV) (j := 1) hO5 hy rfl
              have s2 : wr.cell? ⟨gv, k * 3 + 2, none⟩ = some (.string y.s) := own_cell (E := encV) (j := 2) hO5 hy rfl
              have f0 := hO5.frozenAt (k * 3)
              have f1 := hO5.frozenAt (k * 3 + 1)
              have f2 := hO5.frozenAt (k * 3 + 2)
              have hput := own_put3 hO5 hk hFk
              rw [mix_set] at hput
              have HPUT := Lib.hid hput
              have hk2 : (k : Int) < (on : Int) := by omega
              have hbr : b < wr.heap.size := Nat.lt_of_lt_of_le hbb hB.size
              clear hput hFk hx hs hvl hq9 hO5 hy hb
              go_wp2_with fail
              go_roundg (gk - 1)
              case measure => omega
              case rel => exact ⟨k + 1, by omega, by go_num, ((hB.setCell (by simp; omega) _).setCell (by simp; omega) _).setCell (by simp; omega) _, HPUT.out⟩
            · have hskip : mixL row F (k + 1) = mixL row F k := mix_skip (by rw [← HFD.out]; unfold locF; rw [if_neg (of_decide_eq_false hb), if_neg (by have := HON.out; omega)])
              have HSK := Lib.hid (show wr.ownsRow w1.heap.size 34 3 (.slice (some ⟨gv, 0, none⟩) qn vc) qn (encV.all (mixL row F (k + 1))) by rw [hskip]; exact HOV.out)
              have hk2 : (on : Int) ≤ (k : Int) := by omega
              clear hskip hb
              go_wp2_with fail
              go_roundg (gk - 1)
              case measure => omega
              case rel => exact ⟨k + 1, by omega, by go_num, hB, HSK.out⟩

end Go.Proofs.Ytpgaldkedeohaaa
