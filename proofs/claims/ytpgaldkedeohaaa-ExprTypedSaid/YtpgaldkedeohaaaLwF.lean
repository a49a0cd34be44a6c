/-
  The walk of ExprTyped.
-/
import Derived.Test.YtpgaldkedeohaaaLwE
namespace Go.Proofs.Ytpgaldkedeohaaa
open Go.RowKit
set_option linter.unusedVariables false

/-- A row of which the first k places have been put anew. -/
def mixL (row : List Vl) (F : Nat → Vl) (k : Nat) : List Vl := (List.range row.length).map fun j => if j < k then F j else row.getD j Xp.zero

section
variable {row : List Vl} {F : Nat → Vl} {k j : Nat}
theorem mix_len : (mixL row F k).length = row.length := by simp [mixL]
theorem mix_get (h : j < row.length) : (mixL row F k)[j]? = some (if j < k then F j else row.getD j Xp.zero) := by unfold mixL; simp [h]
theorem mix_zero : mixL row F 0 = row := by
  apply List.ext_getElem?
  intro j
  by_cases h : j < row.length
  · rw [mix_get h, if_neg (by omega), List.getD_eq_getElem?_getD, List.getElem?_eq_getElem h]; rfl
  · rw [List.getElem?_eq_none (by rw [mix_len]; omega), List.getElem?_eq_none (by omega)]
theorem mix_set : (mixL row F k).set k (F k) = mixL row F (k + 1) := by
  apply List.ext_getElem?
  intro j
  by_cases h : j < row.length
  · rw [List.getElem?_set, mix_get h, mix_get h, mix_len]
    by_cases e : k = j
    · subst e; rw [if_pos rfl, if_pos h, if_pos (by omega)]
    · rw [if_neg e]
      by_cases g : j < k
      · rw [if_pos g, if_pos (by omega)]
      · rw [if_neg g, if_neg (by omega)]
  · rw [List.getElem?_eq_none (by rw [List.length_set, mix_len]; omega), List.getElem?_eq_none (by rw [mix_len]; omega)]
theorem mix_skip (h : F k = row.getD k Xp.zero) : mixL row F (k + 1) = mixL row F k := by
  apply List.ext_getElem?
  intro j
  by_cases hj : j < row.length
  · rw [mix_get hj, mix_get hj]
    by_cases g : j < k
    · rw [if_pos g, if_pos (by omega)]
    · by_cases e : j = k
      · subst e; rw [if_neg g, if_pos (by omega), h]
      · rw [if_neg g, if_neg (by omega)]
  · rw [List.getElem?_eq_none (by rw [mix_len]; omega), List.getElem?_eq_none (by rw [mix_len]; omega)]
theorem mix_ok (hF : ∀ j, Vok (F j)) (hr : ∀ x ∈ row, Vok x) : ∀ x ∈ mixL row F k, Vok x := by
  intro x hx
  unfold mixL at hx
  obtain ⟨j, hj, rfl⟩ := List.mem_map.1 hx
  have hj := List.mem_range.1 hj
  split
  · exact hF j
  · rw [List.getD_eq_getElem?_getD, List.getElem?_eq_getElem hj]; exact hr _ (List.getElem_mem hj)
theorem mix_at (h : j < row.length) : (mixL row F row.length).getD j Xp.zero = F j := by
  rw [List.getD_eq_getElem?_getD, mix_get h, if_pos h]; rfl
end

theorem own_put3 {w : World} {base g n c : Nat} {t : TypeId} {l : List Vl} (h : w.ownsRow base t 3 (.slice (some ⟨g, 0, none⟩) n c) n (encV.all l)) {i : Nat} {a : Vl} (hi : i < n) {k m : Int} {s : ByteArray} (ha : a = ⟨k, m, s⟩) :
    (((w.setCell ⟨g, i * 3, none⟩ (.int .i64 k)).setCell ⟨g, i * 3 + 1, none⟩ (.int .i64 m)).setCell ⟨g, i * 3 + 2, none⟩ (.string s)).ownsRow base t 3 (.slice (some ⟨g, 0, none⟩) n c) n (encV.all (l.set i a)) := by
  subst ha
  have hl := own_len (E := encV) h
  have := enc3_set (fun v : Vl => .int .i64 v.k) (fun v => .int .i64 v.n) (fun v => .string v.s) ⟨k, m, s⟩ l i (by omega)
  have e : encV.all (l.set i ⟨k, m, s⟩) = (((encV.all l).set (i * 3) (.int .i64 k)).set (i * 3 + 1) (.int .i64 m)).set (i * 3 + 2) (.string s) := this.symm
  rw [e]
  exact (((h.stored _ _).1.stored _ _).1.stored _ _).1

theorem own_keep2 {w w' : World} {base g n c m size : Nat} {t : TypeId} {xs : List Value} (h : w.ownsRow base t size (.slice (some ⟨g, 0, none⟩) n c) m xs) (hb : w'.heap[g]? = w.heap[g]?) : w'.ownsRow base t size (.slice (some ⟨g, 0, none⟩) n c) m xs := own_same h hb

def BoolsAt (w : World) (B : Nat) (v : Value) (l : List Bool) : Prop := (rSlice rBool).rd w (· < B) [v] l

theorem BoolsAt.view {w : World} {B : Nat} {v : Value} {l : List Bool} (h : BoolsAt w B v l) : ∃ a n c, v = .slice a n c ∧ n = l.length ∧ ∀ i, i < n → ∃ b off, a = some ⟨b, off, none⟩ ∧ b < w.heap.size ∧ w.cell? ⟨b, off + i, none⟩ = some (.bool (l.getD i false)) := by
  obtain ⟨a, n, c, e, h1, h2, h3, h4⟩ := h
  refine ⟨a, n, c, by simpa using e, h1, fun i hi => ?_⟩
  rcases h4 with h4 | ⟨b, off, ea, hB, hb, h⟩
  · omega
  · obtain ⟨ys, hy, hr⟩ := h i (l[i]'(by omega)) (List.getElem?_eq_getElem (by omega))
    obtain rfl : ys = [.bool (l[i]'(by omega))] := hr
    have := hy 0 _ rfl
    rw [show i * rBool.size = i from Nat.mul_one i, Nat.add_zero] at this
    refine ⟨b, off, ea, hb, ?_⟩
    rw [this, List.getD_eq_getElem?_getD, List.getElem?_eq_getElem (by omega)]; rfl

theorem val_info3 : (Try.prog.info? 34).map (fun i => (i.zero, i.size, i.bytes)) = some (some (.agg #[.int .i64 0, .int .i64 0, .string ⟨#[]⟩]), 3, 32) := val_info

/-- The law, for any root. -/
theorem typedX {L : List Ex} {root : Int} {cols : List Int} {row : List Vl} {k e : Int} {v : Vl} (hl : cols.length = row.length) (hr : ∀ i, i < row.length → (row.getD i Xp.zero).k = cols.getD i 0 ∨ (row.getD i Xp.zero).k = 0) (hc : chkX L root cols = (k, e)) (hv : evX L root row = v) :
    e ≠ 0 ∨ v.k = k ∨ v.k = 0 := by
  by_cases he : e = 0
  · subst he
    unfold chkX at hc
    unfold evX at hv
    by_cases c1 : 200 < L.length
    · rw [if_pos c1] at hc; cases hc
    rw [if_neg c1] at hc
    by_cases c2 : root < 0 ∨ (L.length : Int) ≤ root
    · rw [if_pos c2] at hc; cases hc
    rw [if_neg c2] at hc hv
    have := Xp.typed hl hr root.toNat (by rw [hc])
    rw [hc, hv] at this
    exact .inr this
  · exact .inl he

set_option maxRecDepth 100000 in
set_option maxHeartbeats 8000000 in
theorem typed_walk (v rv kv : Value) (root : Int) (L : List Ex) (row : List Vl) (known : List Bool) (w : World) (hL : ExsAt w w.heap.size v L) (hc : RowAt w w.heap.size rv row) (hz : ∀ n c, rv = .slice none n c → c = 0) (hk : BoolsAt w w.heap.size kv known) :
    Calls Try.prog 6 #[v, .int .i64 root, rv, kv] w (Holds w) := by
  have HC := Lib.hid hc
  have hV := hL.v
  have HV := Lib.hid hV
  have HZ := Lib.hid hz
  have HOK := Lib.hid (rowAt_ok hc)
  obtain ⟨a, n, c, rfl, hn, hnc, _⟩ := hV
  obtain ⟨qa, qn, qc, rfl, hqn, _⟩ := hc.view
  obtain ⟨ka, kn, kc, rfl, hkn, hkc⟩ := hk.view
  have HN := Lib.hid hn
  have HQ := Lib.hid hqn
  have HKN := Lib.hid hkn
  have HKC := Lib.hid hkc
  have hq0 : (0 : Int) ≤ (qn : Int) := by omega
  clear hL hc hn hqn hz hk hkn hkc
  have hB0 : Below w.heap.size w w := Below.refl _ _
  cases hf : (decide (n ≤ 220) && decide ((qn : Int) ≤ 60)) with
  | false =>
    have HF := Lib.hid hf
    clear hf
    go_enter Try.func6, Try.ntmps6
    go_wp2_with fail
    refine (few_call a n c qn false _ hq0 HF.out).mono ?_
    rintro e1 w1 ⟨rfl, rfl⟩
    go_wp2_with fail
    refine (awake_call _).mono ?_
    rintro e1 w1 ⟨rfl, hb1⟩
    go_wp2
    go_ret
    exact ⟨rfl, hb1⟩
  | true =>
    have HF := Lib.hid hf
    obtain ⟨hf1, hf2⟩ := few_no hf
    clear hf
    have HLL := Lib.hid (show L.length ≤ 100000 by have := HN.out; omega)
    obtain ⟨F, hF⟩ : ∃ F : Nat → Vl, F = fun j => if known.getD j false = true then Xp.zero else row.getD j Xp.zero := ⟨_, rfl⟩
    have HFD := Lib.hid hF
    clear hF
    obtain ⟨k0, e0, hke⟩ : ∃ k e, chkX L root (row.map (·.k)) = (k, e) := ⟨_, _, rfl⟩
    have HK := Lib.hid hke
    obtain ⟨ek, en, es, hev⟩ : ∃ k m s, evX L root (mixL row F row.length) = ⟨k, m, s⟩ := ⟨_, _, _, rfl⟩
    have HE := Lib.hid hev
    have HLAW := Lib.hid (typedX (cols := row.map (·.k)) (row := mixL row F row.length) (by simp [mix_len]) (fun i hi => by
      rw [mix_len] at hi
      rw [mix_at hi, HFD.out]
      have e1 : (row.map (·.k)).getD i 0 = (row.getD i Xp.zero).k := by
        rw [List.getD_eq_getElem?_getD, List.getD_eq_getElem?_getD, List.getElem?_map, List.getElem?_eq_getElem hi]; rfl
      rw [e1]
      show (if known.getD i false = true then Xp.zero else row.getD i Xp.zero).k = _ ∨ (if known.getD i false = true then Xp.zero else row.getD i Xp.zero).k = 0
      by_cases hb : known.getD i false = true
      · rw [if_pos hb]; exact .inr rfl
      · rw [if_neg hb]; exact .inl rfl) hke hev)
    have HMOK := Lib.hid (show ∀ x ∈ mixL row F row.length, Vok x from mix_ok (fun j => by
      rw [HFD.out]
      show Vok (if known.getD j false = true then Xp.zero else row.getD j Xp.zero)
      split
      · exact vok_zero
      · rw [List.getD_eq_getElem?_getD]
        cases h : row[j]? with
        | none => exact vok_zero
        | some x => exact HOK.out x (List.mem_of_getElem? h)) HOK.out)
    clear hke hev
    obtain ⟨i0, hi0, hz0, hz1, hzb⟩ := info_parts int_info
    obtain ⟨iv, hiv, hvz0, hvz1, hvzb⟩ := info_parts val_info
    have HSR := Lib.hid (show Sl w 3 (.slice qa qn qc) qn (encV.all row) by have := HC.out.sl; rwa [← HQ.out] at this)
    go_enter Try.func6, Try.ntmps6
    go_wp2_with fail
    refine (few_call a n c qn true _ hq0 HF.out).mono ?_
    rintro e1 w1 ⟨rfl, rfl⟩
    go_wp2_with (at_builtin; refine wpList_append_sl rfl _ _ 32 rfl w.heap.size 34 iv _ 3 32 Try.underlying32 hiv hvz0 hvz1 hvzb rfl (by decide) _ _ _ rfl (World.ownsRow_nil _ _ _ _) _ qn (encV.all row) rfl HSR.out HZ.out (one_V row) (by unfold maxLen; omega) (by omega) (Nat.le_refl _) ?_)
    intro vv w4 hown4 hg4 hb4
    have hown4 : w4.ownsRow w.heap.size 34 3 vv qn (encV.all (mixL row F 0)) := by rw [mix_zero]; simpa using hown4
    obtain ⟨S2, hS2⟩ : ∃ S, S = w4.heap.size := ⟨_, rfl⟩
    have hS2w : w.heap.size ≤ S2 := by have := hb4.size; omega
    have HOF := Lib.hid (own_form' hown4)
    have HOV := Lib.hid hown4
    have hS2' : S2 ≤ w4.heap.size := by omega
    have HVF := Lib.hid (show (vv = .slice none 0 0 ∧ qn = 0) ∨ ∃ g cap, vv = .slice (some ⟨g, 0, none⟩) qn cap ∧ g < S2 ∧ w.heap.size ≤ g by
      rcases HOF.out with h | ⟨g, cap, h1, _, _, h2, h3⟩
      · exact .inl h
      · exact .inr ⟨g, cap, h1, by omega, h3⟩)
    clear hown4 hg4 HOF hS2
    go_wp2_with fail
    go_loopg [9, 26] qn (fun gk v j wr => ∃ k : Nat, gk + k = qn ∧ j = .int .i64 k ∧ Below w.heap.size w wr ∧ S2 ≤ wr.heap.size ∧ wr.ownsRow S2 3 1 v k (((row.take k).map (·.k)).map (Value.int .i64)) ∧ wr.ownsRow w.heap.size 34 3 vv qn (encV.all (mixL row F k)))
    case atStart => exact ⟨0, by omega, by go_num, hb4, hS2', World.ownsRow_nil _ _ _ _, HOV.out⟩
    case round =>
      obtain ⟨k, hgk, rfl, hB, hSr, hO, hOV⟩ := hrel
      clear hb4 hS2' HOV
      by_cases hk : k < qn
      case neg =>
        obtain rfl : k = qn := by omega
        rw [List.take_of_length_le (Nat.le_of_eq HQ.out.symm)] at hO
        rw [show mixL row F k = mixL row F row.length by rw [← HQ.out]] at hOV
        have HI := Lib.hid (intsAt_own hO (fun x hx => by obtain ⟨y, hy, rfl⟩ := List.mem_map.1 hx; exact (HOK.out y hy).1))
        have HR := Lib.hid (rowAt_own hOV HMOK.out)
        have HV1 := Lib.hid (HV.out.keep hB)
        clear hO hOV hgk hk
        go_wp2_with fail
        refine (check_any HV1.out HI.out HK.out).mono ?_
        rintro e1 w6 ⟨rfl, hb6⟩
        have hB6 := below_chain hB hb6
        have HR6 := Lib.hid (HR.out.on hb6)
        have HV6 := Lib.hid (HV1.out.keep hb6)
        clear hb6 hB
        go_wp2_with fail
        refine (eval_any HV6.out HLL.out HR6.out HE.out).mono ?_
        rintro e1 w7 ⟨rfl, hb7⟩
        have hB7 := below_chain hB6 hb7
        clear hb7 hB6
        go_wp2_with fail
        refine (awake_call _).mono ?_
        rintro e1 w8 ⟨rfl, hb8⟩
        have hl7 : w7.heap.size < w8.heap.size := by have := hb8.size; simp at this; omega
        have t0 : w8.cell? ⟨w7.heap.size, 0, none⟩ = some (.int .i64 ek) := (hb8.cell (p := ⟨w7.heap.size, 0, none⟩) (by simp)).trans (by go_simp)
        have hB8 : Below w.heap.size w w8 := below_chain (below_alloc hB7 _) hb8
        clear hb8 hB7
        by_cases h1 : e0 = 0
        · subst h1
          rcases HLAW.out with h | h | h
          · exact absurd rfl h
          · have h : ek = k0 := h
            subst h
            go_wp2
            go_ret
            exact ⟨rfl, hB8⟩
          · have h : ek = 0 := h
            subst h
            by_cases h2 : k0 = 0
            · subst h2
              go_wp2
              go_ret
              exact ⟨rfl, hB8⟩
            · have h3 : ((0 : Int) == k0) = false := by simp; omega
              go_wp2
              go_ret
              exact ⟨rfl, hB8⟩
        · have h3 : (e0 != 0) = true := by simp; exact h1
          go_wp2
          go_ret
          exact ⟨rfl, hB8⟩
      obtain ⟨x, hx⟩ : ∃ x, row[k]? = some x := ⟨row[k]'(by have := HQ.out; omega), List.getElem?_eq_getElem (by have := HQ.out; omega)⟩
      obtain ⟨b, off, c', hs, hb, hvl⟩ := HC.out.cells hx
      obtain ⟨rfl, hq9, rfl⟩ : qa = some ⟨b, off, none⟩ ∧ qn = row.length ∧ qc = c' := by simpa using hs
      obtain ⟨gv, cv, rfl, hgv, hgw⟩ : ∃ g cap, vv = .slice (some ⟨g, 0, none⟩) qn cap ∧ g < S2 ∧ w.heap.size ≤ g := by
        rcases HVF.out with ⟨_, h⟩ | h
        · omega
        · exact h
      have HT := Lib.hid (take_map_snoc hx)
      have HX := Lib.hid hx
      obtain ⟨t0, t1, t2⟩ := hvl.below hb hB
      have hk1 : (k : Int) < (qn : Int) := by omega
      have hk0 : (0 : Int) ≤ (k : Int) := by omega
      have hbr : b < wr.heap.size := Nat.lt_of_lt_of_le hb hB.size
      have HO := Lib.hid hO
      have HOV := Lib.hid hOV
      clear hO hOV hx hs hvl hq9
      go_wp2_with (at_builtin; refine wpList_append_sl rfl _ _ 23 rfl S2 3 i0 _ 1 8 Try.underlying23 hi0 hz0 hz1 hzb rfl (by decide) _ _ _ rfl ((HO.out.alloc _).alloc _) _ 1 [.int .i64 x.k] rfl (sl_new2 _ _ _ _) (fun _ _ h => by cases h) (one_int _) (by unfold maxLen; omega) (by omega) (by simp; omega) ?_)
      intro v5 w5 hown5 hg5 hb5
      have hb5' : Below S2 wr w5 := (((Below.refl S2 wr).alloc hSr _).alloc (by simp; omega) _).trans hb5
      have hB5 : Below w.heap.size w w5 := hB.trans (hb5'.mono hS2w)
      have hS5 : S2 ≤ w5.heap.size := Nat.le_trans hSr hb5'.size
      have HO5 := Lib.hid (show w5.ownsRow S2 3 1 v5 (k + 1) (((row.take (k + 1)).map (·.k)).map (Value.int .i64)) by rw [HT.out, List.map_append]; simpa using hown5)
      have hOV5 := own_keep2 HOV.out (hb5'.block _ hgv)
      have HOV5 := Lib.hid hOV5
      have hgl5 : gv < w5.heap.size := by omega
      obtain ⟨y, hy⟩ : ∃ y, (mixL row F k)[k]? = some y := ⟨_, mix_get (by have := HQ.out; omega)⟩
      have s0 : w5.cell? ⟨gv, k * 3, none⟩ = some (.int .i64 y.k) := own_cell (E := encV) (j := 0) hOV5 hy rfl
      have s1 : w5.cell? ⟨gv, k * 3 + 1, none⟩ = some (.int .i64 y.n) := own_cell (E := encV) (j := 1) hOV5 hy rfl
      have s2 : w5.cell? ⟨gv, k * 3 + 2, none⟩ = some (.string y.s) := own_cell (E := encV) (j := 2) hOV5 hy rfl
      have f0 := hOV5.frozenAt (k * 3)
      have f1 := hOV5.frozenAt (k * 3 + 1)
      have f2 := hOV5.frozenAt (k * 3 + 2)
      clear hown5 hg5 hb5 hy hOV5
      by_cases hkk : k < kn
      · obtain ⟨kb, ko, hka, hkb, hkcell⟩ := HKC.out k hkk
        subst hka
        have kcell := (hB5.cell (p := ⟨kb, ko + k, none⟩) hkb).trans hkcell
        have hk2 : (k : Int) < (kn : Int) := by omega
        clear hkcell hb5'
        cases hkn : known.getD k false with
        | true =>
          rw [hkn] at kcell
          have hFk : F k = ⟨0, 0, ⟨#[]⟩⟩ := by rw [HFD.out]; show (if known.getD k false = true then Xp.zero else _) = _; rw [hkn]; rfl
          have hput := own_put3 HOV5.out hk hFk
          rw [mix_set] at hput
          have HPUT := Lib.hid hput
          have HO6 := Lib.hid (own_far (p := ⟨gv, k * 3 + 2, none⟩) (.string ⟨#[]⟩) (own_far (p := ⟨gv, k * 3 + 1, none⟩) (.int .i64 0) (own_far (p := ⟨gv, k * 3, none⟩) (.int .i64 0) HO5.out hgv) hgv) hgv)
          clear hput hFk hkn
          go_wp2_with fail
          go_roundg (gk - 1)
          case measure => omega
          case rel => exact ⟨k + 1, by omega, by go_num, ((hB5.setCell (by simp; omega) _).setCell (by simp; omega) _).setCell (by simp; omega) _, by simp [World.setCell]; omega, HO6.out, HPUT.out⟩
        | false =>
          rw [hkn] at kcell
          have hskip : mixL row F (k + 1) = mixL row F k := mix_skip (by rw [HFD.out]; show (if known.getD k false = true then Xp.zero else _) = _; rw [hkn]; rfl)
          have HSK := Lib.hid (show w5.ownsRow w.heap.size 34 3 (.slice (some ⟨gv, 0, none⟩) qn cv) qn (encV.all (mixL row F (k + 1))) by rw [hskip]; exact HOV5.out)
          clear hskip hkn
          go_wp2_with fail
          go_roundg (gk - 1)
          case measure => omega
          case rel => exact ⟨k + 1, by omega, by go_num, hB5, hS5, HO5.out, HSK.out⟩
      · have hk2 : (kn : Int) ≤ (k : Int) := by omega
        have hskip : mixL row F (k + 1) = mixL row F k := mix_skip (by rw [HFD.out]; show (if known.getD k false = true then Xp.zero else _) = _; rw [List.getD_eq_getElem?_getD, List.getElem?_eq_none (by have := HKN.out; omega)]; rfl)
        have HSK := Lib.hid (show w5.ownsRow w.heap.size 34 3 (.slice (some ⟨gv, 0, none⟩) qn cv) qn (encV.all (mixL row F (k + 1))) by rw [hskip]; exact HOV5.out)
        clear hskip hb5'
        go_wp2_with fail
        go_roundg (gk - 1)
        case measure => omega
        case rel => exact ⟨k + 1, by omega, by go_num, hB5, hS5, HO5.out, HSK.out⟩

end Go.Proofs.Ytpgaldkedeohaaa
