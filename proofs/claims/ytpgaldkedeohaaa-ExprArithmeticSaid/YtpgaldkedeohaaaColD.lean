/-
  The reference's MergeLineage.
-/
import Derived.Test.YtpgaldkedeohaaaColC
namespace Go.Proofs.Ytpgaldkedeohaaa
open Go.RowKit
set_option linter.unusedVariables false

namespace Xp
theorem ins_end {x : Int} : ∀ {l : List Int}, (∀ y ∈ l, y < x) → ins x l = l ++ [x] := by
  intro l
  induction l with
  | nil => intro _; rfl
  | cons y l ih =>
    intro h
    unfold ins
    rw [if_pos (h y (by simp)), ih fun z hz => h z (by simp [hz])]
    rfl
theorem ins_at {x y : Int} : ∀ {l : List Int} {k : Nat}, (∀ j z, j < k → l[j]? = some z → z < x) → l[k]? = some y → ¬ y < x → ins x l = if y = x then l else l.take k ++ x :: l.drop k := by
  intro l
  induction l with
  | nil => intro k _ h; cases h
  | cons z l ih =>
    intro k h hk hy
    cases k with
    | zero =>
      obtain rfl : z = y := by simpa using hk
      unfold ins
      rw [if_neg hy]
      rfl
    | succ k =>
      unfold ins
      rw [if_pos (h 0 z (by omega) rfl), ih (k := k) (fun j u hj hu => h (j + 1) u (by omega) (by simpa using hu)) (by simpa using hk) hy]
      split <;> rfl
end Xp

/-- The result is a fresh slice of these ints. -/
def OwnPost (l : List Int) (w : World) (e : Ending) (w' : World) : Prop := ∃ v, e = .returned v ∧ w'.ownsRow w.heap.size 3 1 v l.length (l.map (Value.int .i64)) ∧ Below w.heap.size w w'

theorem sl_zero (w : World) (a : Option Addr) (c : Nat) : Sl w 1 (.slice a 0 c) 0 [] := ⟨rfl, .inl ⟨rfl, a, c, rfl⟩⟩

theorem sl_keep2 {w w' : World} {size : Nat} {v : Value} {n : Nat} {xs : List Value} (hb : Below w.heap.size w w') (h : Sl w size v n xs) : Sl w' size v n xs := h.keep hb
theorem one_nil : ∀ u ∈ ([] : List Value), u.oneCell' = true := fun u hu => by cases hu
theorem one_int (x : Int) : ∀ u ∈ [Value.int .i64 x], u.oneCell' = true := fun u hu => by obtain rfl := List.mem_singleton.1 hu; rfl
theorem one_ints (l : List Int) : ∀ u ∈ l.map (Value.int .i64), u.oneCell' = true := fun u hu => by obtain ⟨z, _, rfl⟩ := List.mem_map.1 hu; rfl

theorem own_mono {w : World} {base base' : Nat} {e : TypeId} {size : Nat} {v : Value} {n : Nat} {xs : List Value} (h : w.ownsRow base e size v n xs) (hb : base' ≤ base) : w.ownsRow base' e size v n xs := by
  refine ⟨h.1, ?_⟩
  rcases h.2 with h2 | ⟨g, cap, cur, e, hB, rest⟩
  · exact .inl h2
  · exact .inr ⟨g, cap, cur, e, by omega, rest⟩

theorem own_cases {w : World} {base : Nat} {t : TypeId} {v : Value} {n : Nat} {xs : List Value} (h : w.ownsRow base t 1 v n xs) : (v = .slice none 0 0 ∧ n = 0) ∨ ∃ g cap, v = .slice (some ⟨g, 0, none⟩) n cap ∧ n ≤ cap ∧ cap ≤ maxLen ∧ g < w.heap.size ∧ base ≤ g := by
  rcases h.2 with ⟨h1, h2⟩ | ⟨g, cap, cur, e, hB, hg, hn, hm, _⟩
  · exact .inl ⟨h1, h2⟩
  · exact .inr ⟨g, cap, e, hn, hm, (Array.getElem?_eq_some_iff.1 hg).1, hB⟩

/-- The part of a row up to k, and from k on. -/
theorem row_take {w : World} {base g cap n k : Nat} {t : TypeId} {l : List Int} (h : w.ownsRow base t 1 (.slice (some ⟨g, 0, none⟩) n cap) n (l.map (Value.int .i64))) (hk : k ≤ n) (hg : g < w.heap.size) : ∀ W, Below w.heap.size w W → Sl W 1 (.slice (some ⟨g, 0, none⟩) k cap) k ((l.take k).map (Value.int .i64)) := by
  intro W hB
  have hl : l.length = n := by have := h.1; simpa using this
  have hc := own_len_cap h
  refine Sl.keep ?_ hB
  refine ⟨by simp; omega, .inr ⟨g, 0, cap, rfl, by omega, hg, fun j u hu => ?_⟩⟩
  have hj : j < k := by have := (List.getElem?_eq_some_iff.1 hu).1; simp at this; omega
  rw [Nat.zero_add]
  have hcell : w.cell? ⟨g, j, none⟩ = (l.map (Value.int .i64))[j]? := h.cellAt j (by omega)
  rw [hcell]
  rw [List.getElem?_map, List.getElem?_take, if_pos hj] at hu
  rw [List.getElem?_map]; exact hu

theorem row_drop {w : World} {base g cap n k : Nat} {t : TypeId} {l : List Int} (h : w.ownsRow base t 1 (.slice (some ⟨g, 0, none⟩) n cap) n (l.map (Value.int .i64))) (hk : k ≤ n) (hg : g < w.heap.size) : ∀ W, Below w.heap.size w W → Sl W 1 (.slice (some ⟨g, k, none⟩) (n - k) (cap - k)) (n - k) ((l.drop k).map (Value.int .i64)) := by
  intro W hB
  have hl : l.length = n := by have := h.1; simpa using this
  have hc := own_len_cap h
  refine Sl.keep ?_ hB
  refine ⟨by simp; omega, .inr ⟨g, k, cap - k, rfl, by omega, hg, fun j u hu => ?_⟩⟩
  have hj : k + j < n := by have := (List.getElem?_eq_some_iff.1 hu).1; simp at this; omega
  have hcell : w.cell? ⟨g, k + j, none⟩ = (l.map (Value.int .i64))[k + j]? := h.cellAt (k + j) (by omega)
  rw [hcell]
  rw [List.getElem?_map, List.getElem?_drop] at hu
  rw [List.getElem?_map]; exact hu

theorem own_list {w : World} {S S' m : Nat} {t : TypeId} {v : Value} {xs : List Value} {l : List Int} (h : w.ownsRow S t 1 v m xs) (hx : xs = l.map (Value.int .i64)) (hS : S' ≤ S) : w.ownsRow S' t 1 v l.length (l.map (Value.int .i64)) := by
  subst hx
  have h1 : l.length = m := by have := h.1; simpa using this
  rw [h1]; exact own_mono h hS

set_option maxRecDepth 100000 in
set_option maxHeartbeats 8000000 in
theorem ref_MergeLineage (a b : Value) (la lb : List Int) (w : World) (ha : Sl w 1 a la.length (la.map (Value.int .i64))) (hb : Sl w 1 b lb.length (lb.map (Value.int .i64))) (hl : la.length + lb.length ≤ 1000000) :
    Calls Try.prog 30 #[a, b] w (OwnPost (Xp.mrg (la ++ lb)) w) := by
  obtain ⟨na, hna⟩ : ∃ n, la.length = n := ⟨_, rfl⟩
  obtain ⟨nb, hnb⟩ : ∃ n, lb.length = n := ⟨_, rfl⟩
  rw [hna] at ha hl
  rw [hnb] at hb hl
  have HNA := Lib.hid hna
  have HNB := Lib.hid hnb
  obtain ⟨aa, ac, rfl⟩ := ha.len
  obtain ⟨ab, bc, rfl⟩ := hb.len
  have HA := Lib.hid ha
  have HB := Lib.hid hb
  clear ha hb hna hnb
  obtain ⟨i0, hi0, hz0, hz1, hzb⟩ := info_parts int_info
  have hB0 : Below w.heap.size w w := Below.refl _ _
  have hix0 : ∀ W : World, Sem.run Try.prog (Instr.index 75 (.agg #[.slice aa na ac, .slice ab nb bc]) (.int .i64 0)) W = .ok (.slice aa na ac) W := fun W => rfl
  have hix1 : ∀ W : World, Sem.run Try.prog (Instr.index 75 (.agg #[.slice aa na ac, .slice ab nb bc]) (.int .i64 1)) W = .ok (.slice ab nb bc) W := fun W => rfl
  go_enter Try.func30, Try.ntmps30
  go_wp2_with fail
  refine wp_loop_rounds 3 ?_
  rw [rounds_succ]
  go_wp2_with fail
  go_loopg [5, 19] na (fun gk v j wr => ∃ jj : Nat, gk + jj = na ∧ j = .int .i64 jj ∧ Below w.heap.size w wr ∧ wr.ownsRow w.heap.size 3 1 v (Xp.mrg ([] ++ la.take jj)).length ((Xp.mrg ([] ++ la.take jj)).map (Value.int .i64)))
  case atStart => exact ⟨0, by omega, by go_num, hB0, World.ownsRow_nil _ _ _ _⟩
  case round =>
    obtain ⟨jj, hgk, rfl, hB, hO⟩ := hrel
    have hjn : jj ≤ na := by omega
    by_cases hj : jj < na
    case neg =>
      obtain rfl : jj = na := by omega
      clear hB0
      have HO0 := Lib.hid (show wr.ownsRow w.heap.size 3 1 u5 (Xp.mrg (la ++ lb.take 0)).length ((Xp.mrg (la ++ lb.take 0)).map (Value.int .i64)) by rw [List.take_of_length_le (Nat.le_of_eq HNA.out)] at hO; simpa using hO)
      have hB1 := hB
      clear hO hB
      generalize wr = wr1 at *
      generalize u5 = v1 at *
      clear hgk hjn hj
      go_wp2_with fail
      rw [rounds_succ]
      go_wp2_with fail
      go_loopg [5, 19] nb (fun gk v j wr => ∃ jj : Nat, gk + jj = nb ∧ j = .int .i64 jj ∧ Below w.heap.size w wr ∧ wr.ownsRow w.heap.size 3 1 v (Xp.mrg (la ++ lb.take jj)).length ((Xp.mrg (la ++ lb.take jj)).map (Value.int .i64)))
      case atStart => exact ⟨0, by omega, by go_num, hB1, HO0.out⟩
      case round =>
        obtain ⟨jj, hgk, rfl, hB, hO⟩ := hrel
        have hjn : jj ≤ nb := by omega
        by_cases hj : jj < nb
        case neg =>
          obtain rfl : jj = nb := by omega
          clear HO0 hB1
          have HO4 := Lib.hid (show wr.ownsRow w.heap.size 3 1 u5 (Xp.mrg (la ++ lb)).length ((Xp.mrg (la ++ lb)).map (Value.int .i64)) from (by rw [List.take_of_length_le (Nat.le_of_eq HNB.out)] at hO; exact hO))
          clear hO
          go_wp2_with fail
          rw [rounds_succ]
          go_wp2_with fail
          go_ret
          exact ⟨_, rfl, HO4.out, hB⟩
        obtain ⟨x, hx⟩ : ∃ x, lb[jj]? = some x := ⟨lb[jj]'(by have := HNB.out; omega), List.getElem?_eq_getElem (by have := HNB.out; omega)⟩
        obtain ⟨bs, os, cs, es, _, hbs, hcs⟩ := HB.out.some_ (by omega)
        obtain ⟨rfl, rfl⟩ : ab = some ⟨bs, os, none⟩ ∧ bc = cs := by simpa using es
        have cx : wr.cell? ⟨bs, os + jj, none⟩ = some (.int .i64 x) := (hB.cell (p := ⟨bs, os + jj, none⟩) hbs).trans (hcs jj _ (by rw [List.getElem?_map, hx]; rfl))
        obtain ⟨M, hM⟩ : ∃ M, Xp.mrg (la ++ lb.take jj) = M := ⟨_, rfl⟩
        have HNX := Lib.hid (show Xp.mrg (la ++ lb.take (jj + 1)) = Xp.ins x M by rw [List.take_add_one, hx, ← hM]; show Xp.mrg (la ++ (_ ++ [x])) = _; rw [← List.append_assoc, Xp.mrg_snoc])
        have hlen : M.length ≤ 1000000 := by rw [← hM]; refine Nat.le_trans (Xp.mrg_len _) ?_; rw [List.length_append, List.length_take]; have := HNA.out; have := HNB.out; simp; omega
        rw [hM] at hO
        obtain ⟨n, hn⟩ : ∃ n, M.length = n := ⟨_, rfl⟩
        rw [hn] at hO hlen
        have HLn := Lib.hid hn
        clear hx hcs es hM hn HO0 hB1
        have h0 : (0 : Int) ≤ (jj : Int) := by omega
        have h1 : (jj : Int) < (nb : Int) := by omega
        rcases own_cases hO with ⟨rfl, rfl⟩ | ⟨g, cap, rfl, hcap, hmax, hgl, hgb⟩
        · obtain rfl : M = [] := List.eq_nil_of_length_eq_zero HLn.out
          clear hO
          go_wp2_with fail
          refine wp_loop_rounds 1 ?_
          rw [rounds_succ]
          go_wp2_with fail
          go_region_law (first | (refine step_append_sl (by rfl) (.const (.slice none 0 0)) (.tmp 51) 23 (by rfl) wr.heap.size 3 i0 (.int .i64 0) 1 8 Try.underlying23 hi0 hz0 hz1 hzb rfl (by decide) (.slice none 0 0) (0) ([]) (by simp [Act.eval]) (World.ownsRow_nil _ _ _ _) (.slice none 0 0) (0) ([]) (by simp [Act.eval, Act.put]) (sl_zero _ _ _) (fun c h => by simp at h; omega) (one_nil) (by unfold maxLen; omega) (by omega) (by simp) wr ((by first | exact (Below.refl _ _).drew | exact (Below.refl wr.heap.size wr).drew.alloc (by simp) _)) ?_; intro v1 w1 hown1 hg1 hb1) | (refine step_append_sl (by rfl) (.tmp 52) (.tmp 54) 23 (by rfl) wr.heap.size 3 i0 (.int .i64 0) 1 8 Try.underlying23 hi0 hz0 hz1 hzb rfl (by decide) (v1) (0) ([] ++ []) (by simp [Act.eval]) (by first | exact (by simpa using hown1) | exact (by simpa using hown1.alloc _)) (_) (1) ([.int .i64 x]) (by simp [Act.eval]; rfl) (by first | exact sl_new _ _ _ | exact sl_keep2 (below_grown hg1) (sl_new _ _ _)) (fun c h => by cases h) (one_int _) (by unfold maxLen; omega) (by omega) (by have := hb1.size; first | omega | (simp; omega)) wr ((by first | exact hb1 | exact hb1.alloc hb1.size _)) ?_; intro v2 w2 hown2 hg2 hb2) | (refine step_append_sl (by rfl) (.tmp 55) (.tmp 58) 23 (by rfl) wr.heap.size 3 i0 (.int .i64 0) 1 8 Try.underlying23 hi0 hz0 hz1 hzb rfl (by decide) (v2) (0 + 1) (([] ++ []) ++ [.int .i64 x]) (by simp [Act.eval]) (by simpa using hown2) (.slice none 0 0) (0) ([]) (by simp [Act.eval]) (sl_zero _ _ _) (fun c h => by simp at h; omega) (one_nil) (by unfold maxLen; omega) (by omega) (by have := hb2.size; omega) wr (hb2) ?_; intro v3 w3 hown3 hg3 hb3) | fail)
          all_goals
            have HO3 := Lib.hid (show w3.ownsRow w.heap.size 3 1 v3 (Xp.mrg (la ++ lb.take (jj + 1))).length ((Xp.mrg (la ++ lb.take (jj + 1))).map (Value.int .i64)) from own_list hown3 (by rw [HNX.out, show Xp.ins x [] = [x] from rfl]; simp) hB.size)
            have hB3 : Below w.heap.size w w3 := hB.trans (hb3.mono hB.size)
            clear hown1 hg1 hb1 hown2 hg2 hb2 hown3 hg3 hb3
            go_wp2_with fail
            go_roundg (gk - 1)
            case measure => omega
            case rel => exact ⟨jj + 1, by omega, by go_num, hB3, HO3.out⟩
        · have HOW := Lib.hid hO
          have HC := Lib.hid (show ∀ (j : Nat) (y : Int), M[j]? = some y → wr.cell? ⟨g, j, none⟩ = some (.int .i64 y) from fun j y hy => by
            have hjM : j < n := by have := (List.getElem?_eq_some_iff.1 hy).1; have := HLn.out; omega
            have e : wr.cell? ⟨g, j, none⟩ = (M.map (Value.int .i64))[j]? := HOW.out.cellAt j (by omega)
            rw [e, List.getElem?_map, hy]; rfl)
          clear hO
          unfold maxLen at hmax
          go_wp2_with fail
          go_loop [10] (fun k => ∃ kk : Nat, k = .int .i64 kk ∧ kk ≤ n ∧ ∀ (j : Nat) (z : Int), j < kk → M[j]? = some z → z < x) (fun k => n - (intOf k).toNat)
          case atStart => exact ⟨0, rfl, Nat.zero_le _, fun j z hj => by omega⟩
          case round =>
            obtain ⟨kk, rfl, hkn, hpre⟩ := hrel
            have HP := Lib.hid hpre
            clear hpre
            have hk0 : (0 : Int) ≤ (kk : Int) := by omega
            by_cases hk : kk < n
            · obtain ⟨y, hy⟩ : ∃ y, M[kk]? = some y := ⟨M[kk]'(by have := HLn.out; omega), List.getElem?_eq_getElem (by have := HLn.out; omega)⟩
              have cy := HC.out kk y hy
              have HY := Lib.hid hy
              clear hy
              have hk1 : (kk : Int) < (n : Int) := by omega
              have hk2 : ((kk : Int) == (n : Int)) = false := by simp; omega
              by_cases hyx : y < x
              · go_wp2_with fail
                go_round
                case rel => exact ⟨kk + 1, by go_num, by omega, fun j z hj hz => by
                  by_cases e : j = kk
                  · subst e; rw [HY.out] at hz; obtain rfl := Option.some.inj hz; exact hyx
                  · exact HP.out j z (by omega) hz⟩
                case measure => simp [intOf]; omega
              by_cases heq : y = x
              · subst heq
                have HI := Lib.hid (show Xp.ins y M = M by rw [Xp.ins_at HP.out HY.out hyx, if_pos rfl])
                have HO3 := Lib.hid (show wr.ownsRow w.heap.size 3 1 (.slice (some ⟨g, 0, none⟩) n cap) (Xp.mrg (la ++ lb.take (jj + 1))).length ((Xp.mrg (la ++ lb.take (jj + 1))).map (Value.int .i64)) by rw [HNX.out, HI.out, HLn.out]; exact HOW.out)
                go_wp2_with fail
                go_roundg (gk - 1)
                case measure => omega
                case rel => exact ⟨jj + 1, by omega, by go_num, hB, HO3.out⟩
              have hne : (y != x) = true := by simp; exact heq
              have HI := Lib.hid (show Xp.ins x M = M.take kk ++ x :: M.drop kk by rw [Xp.ins_at HP.out HY.out hyx, if_neg heq])
              have SA := Lib.hid (row_take HOW.out hkn hgl)
              have SB := Lib.hid (row_drop HOW.out hkn hgl)
              have hkc : (kk : Int) ≤ (cap : Int) := by omega
              have hkc2 : ¬ cap = kk := by omega
              have hkc3 : ¬ kk = cap := by omega
              have hkc4 : kk ≤ n := by omega
              go_wp2_with fail
              go_region_law (first | (refine step_append_sl (by rfl) (.const (.slice none 0 0)) (.tmp 51) 23 (by rfl) wr.heap.size 3 i0 (.int .i64 0) 1 8 Try.underlying23 hi0 hz0 hz1 hzb rfl (by decide) (.slice none 0 0) (0) ([]) (by simp [Act.eval]) (World.ownsRow_nil _ _ _ _) (.slice (some ⟨g, 0, none⟩) kk cap) (kk) ((M.take kk).map (Value.int .i64)) (by simp [Act.eval, Act.put]) (SA.out _ (by first | exact (Below.refl _ _).drew | exact (Below.refl wr.heap.size wr).drew.alloc (by simp) _)) (fun c h => by cases h) (one_ints _) (by unfold maxLen; omega) (by omega) (by simp) wr ((by first | exact (Below.refl _ _).drew | exact (Below.refl wr.heap.size wr).drew.alloc (by simp) _)) ?_; intro v1 w1 hown1 hg1 hb1) | (refine step_append_sl (by rfl) (.tmp 52) (.tmp 54) 23 (by rfl) wr.heap.size 3 i0 (.int .i64 0) 1 8 Try.underlying23 hi0 hz0 hz1 hzb rfl (by decide) (v1) (kk) ([] ++ (M.take kk).map (Value.int .i64)) (by simp [Act.eval]) (by first | exact (by simpa using hown1) | exact (by simpa using hown1.alloc _)) (_) (1) ([.int .i64 x]) (by simp [Act.eval]; rfl) (by first | exact sl_new _ _ _ | exact sl_keep2 (below_grown hg1) (sl_new _ _ _)) (fun c h => by cases h) (one_int _) (by unfold maxLen; omega) (by omega) (by have := hb1.size; first | omega | (simp; omega)) wr ((by first | exact hb1 | exact hb1.alloc hb1.size _)) ?_; intro v2 w2 hown2 hg2 hb2) | (refine step_append_sl (by rfl) (.tmp 55) (.tmp 58) 23 (by rfl) wr.heap.size 3 i0 (.int .i64 0) 1 8 Try.underlying23 hi0 hz0 hz1 hzb rfl (by decide) (v2) (kk + 1) (([] ++ (M.take kk).map (Value.int .i64)) ++ [.int .i64 x]) (by simp [Act.eval]) (by simpa using hown2) (.slice (some ⟨g, kk, none⟩) (n - kk) (cap - kk)) (n - kk) ((M.drop kk).map (Value.int .i64)) (by simp [Act.eval]) (SB.out _ hb2) (fun c h => by cases h) (one_ints _) (by unfold maxLen; omega) (by omega) (by have := hb2.size; omega) wr (hb2) ?_; intro v3 w3 hown3 hg3 hb3) | fail)
              all_goals
                have HO3 := Lib.hid (show w3.ownsRow w.heap.size 3 1 v3 (Xp.mrg (la ++ lb.take (jj + 1))).length ((Xp.mrg (la ++ lb.take (jj + 1))).map (Value.int .i64)) from own_list hown3 (by rw [HNX.out, HI.out]; simp) hB.size)
                have hB3 : Below w.heap.size w w3 := hB.trans (hb3.mono hB.size)
                clear hown1 hg1 hb1 hown2 hg2 hb2 hown3 hg3 hb3
                go_wp2_with fail
                go_roundg (gk - 1)
                case measure => omega
                case rel => exact ⟨jj + 1, by omega, by go_num, hB3, HO3.out⟩
            · obtain rfl : kk = n := by omega
              have HI := Lib.hid (show Xp.ins x M = M.take kk ++ x :: M.drop kk by rw [Xp.ins_end (fun y hy => by obtain ⟨j, hj, rfl⟩ := List.getElem_of_mem hy; exact HP.out j _ (by have := HLn.out; omega) (List.getElem?_eq_getElem hj)), ← HLn.out]; simp)
              have SA := Lib.hid (row_take HOW.out hkn hgl)
              have hdrop : M.drop kk = [] := by rw [← HLn.out]; simp
              have HD := Lib.hid hdrop
              clear hdrop
              have hkc : (kk : Int) ≤ (cap : Int) := by omega
              by_cases hkc2 : kk = cap
              · subst hkc2
                have HI2 := Lib.hid (show Xp.ins x M = M.take kk ++ x :: [] by rw [HI.out, HD.out])
                go_wp2_with fail
                go_region_law (first | (refine step_append_sl (by rfl) (.const (.slice none 0 0)) (.tmp 51) 23 (by rfl) wr.heap.size 3 i0 (.int .i64 0) 1 8 Try.underlying23 hi0 hz0 hz1 hzb rfl (by decide) (.slice none 0 0) (0) ([]) (by simp [Act.eval]) (World.ownsRow_nil _ _ _ _) (.slice (some ⟨g, 0, none⟩) kk kk) (kk) ((M.take kk).map (Value.int .i64)) (by simp [Act.eval, Act.put]) (SA.out _ (by first | exact (Below.refl _ _).drew | exact (Below.refl wr.heap.size wr).drew.alloc (by simp) _)) (fun c h => by cases h) (one_ints _) (by unfold maxLen; omega) (by omega) (by simp) wr ((by first | exact (Below.refl _ _).drew | exact (Below.refl wr.heap.size wr).drew.alloc (by simp) _)) ?_; intro v1 w1 hown1 hg1 hb1) | (refine step_append_sl (by rfl) (.tmp 52) (.tmp 54) 23 (by rfl) wr.heap.size 3 i0 (.int .i64 0) 1 8 Try.underlying23 hi0 hz0 hz1 hzb rfl (by decide) (v1) (kk) ([] ++ (M.take kk).map (Value.int .i64)) (by simp [Act.eval]) (by first | exact (by simpa using hown1) | exact (by simpa using hown1.alloc _)) (_) (1) ([.int .i64 x]) (by simp [Act.eval]; rfl) (by first | exact sl_new _ _ _ | exact sl_keep2 (below_grown hg1) (sl_new _ _ _)) (fun c h => by cases h) (one_int _) (by unfold maxLen; omega) (by omega) (by have := hb1.size; first | omega | (simp; omega)) wr ((by first | exact hb1 | exact hb1.alloc hb1.size _)) ?_; intro v2 w2 hown2 hg2 hb2) | (refine step_append_sl (by rfl) (.tmp 55) (.tmp 58) 23 (by rfl) wr.heap.size 3 i0 (.int .i64 0) 1 8 Try.underlying23 hi0 hz0 hz1 hzb rfl (by decide) (v2) (kk + 1) (([] ++ (M.take kk).map (Value.int .i64)) ++ [.int .i64 x]) (by simp [Act.eval]) (by simpa using hown2) (.slice (some ⟨g, 0, none⟩) 0 0) (0) ([]) (by simp [Act.eval]) (sl_zero _ _ _) (fun c h => by cases h) (one_nil) (by unfold maxLen; omega) (by omega) (by have := hb2.size; omega) wr (hb2) ?_; intro v3 w3 hown3 hg3 hb3) | fail)
                all_goals
                  have HO3 := Lib.hid (show w3.ownsRow w.heap.size 3 1 v3 (Xp.mrg (la ++ lb.take (jj + 1))).length ((Xp.mrg (la ++ lb.take (jj + 1))).map (Value.int .i64)) from own_list hown3 (by rw [HNX.out, HI2.out]; simp) hB.size)
                  have hB3 : Below w.heap.size w w3 := hB.trans (hb3.mono hB.size)
                  clear hown1 hg1 hb1 hown2 hg2 hb2 hown3 hg3 hb3
                  go_wp2_with fail
                  go_roundg (gk - 1)
                  case measure => omega
                  case rel => exact ⟨jj + 1, by omega, by go_num, hB3, HO3.out⟩
              have hkc3 : ¬ cap = kk := by omega
              have SB := Lib.hid (row_drop HOW.out hkn hgl)
              go_wp2_with fail
              go_region_law (first | (refine step_append_sl (by rfl) (.const (.slice none 0 0)) (.tmp 51) 23 (by rfl) wr.heap.size 3 i0 (.int .i64 0) 1 8 Try.underlying23 hi0 hz0 hz1 hzb rfl (by decide) (.slice none 0 0) (0) ([]) (by simp [Act.eval]) (World.ownsRow_nil _ _ _ _) (.slice (some ⟨g, 0, none⟩) kk cap) (kk) ((M.take kk).map (Value.int .i64)) (by simp [Act.eval, Act.put]) (SA.out _ (by first | exact (Below.refl _ _).drew | exact (Below.refl wr.heap.size wr).drew.alloc (by simp) _)) (fun c h => by cases h) (one_ints _) (by unfold maxLen; omega) (by omega) (by simp) wr ((by first | exact (Below.refl _ _).drew | exact (Below.refl wr.heap.size wr).drew.alloc (by simp) _)) ?_; intro v1 w1 hown1 hg1 hb1) | (refine step_append_sl (by rfl) (.tmp 52) (.tmp 54) 23 (by rfl) wr.heap.size 3 i0 (.int .i64 0) 1 8 Try.underlying23 hi0 hz0 hz1 hzb rfl (by decide) (v1) (kk) ([] ++ (M.take kk).map (Value.int .i64)) (by simp [Act.eval]) (by first | exact (by simpa using hown1) | exact (by simpa using hown1.alloc _)) (_) (1) ([.int .i64 x]) (by simp [Act.eval]; rfl) (by first | exact sl_new _ _ _ | exact sl_keep2 (below_grown hg1) (sl_new _ _ _)) (fun c h => by cases h) (one_int _) (by unfold maxLen; omega) (by omega) (by have := hb1.size; first | omega | (simp; omega)) wr ((by first | exact hb1 | exact hb1.alloc hb1.size _)) ?_; intro v2 w2 hown2 hg2 hb2) | (refine step_append_sl (by rfl) (.tmp 55) (.tmp 58) 23 (by rfl) wr.heap.size 3 i0 (.int .i64 0) 1 8 Try.underlying23 hi0 hz0 hz1 hzb rfl (by decide) (v2) (kk + 1) (([] ++ (M.take kk).map (Value.int .i64)) ++ [.int .i64 x]) (by simp [Act.eval]) (by simpa using hown2) (.slice (some ⟨g, kk, none⟩) (kk - kk) (cap - kk)) (kk - kk) ((M.drop kk).map (Value.int .i64)) (by simp [Act.eval]) (SB.out _ hb2) (fun c h => by cases h) (one_ints _) (by unfold maxLen; omega) (by omega) (by have := hb2.size; omega) wr (hb2) ?_; intro v3 w3 hown3 hg3 hb3) | fail)
              all_goals
                have HO3 := Lib.hid (show w3.ownsRow w.heap.size 3 1 v3 (Xp.mrg (la ++ lb.take (jj + 1))).length ((Xp.mrg (la ++ lb.take (jj + 1))).map (Value.int .i64)) from own_list hown3 (by rw [HNX.out, HI.out]; simp) hB.size)
                have hB3 : Below w.heap.size w w3 := hB.trans (hb3.mono hB.size)
                clear hown1 hg1 hb1 hown2 hg2 hb2 hown3 hg3 hb3
                go_wp2_with fail
                go_roundg (gk - 1)
                case measure => omega
                case rel => exact ⟨jj + 1, by omega, by go_num, hB3, HO3.out⟩
    obtain ⟨x, hx⟩ : ∃ x, la[jj]? = some x := ⟨la[jj]'(by have := HNA.out; omega), List.getElem?_eq_getElem (by have := HNA.out; omega)⟩
    obtain ⟨bs, os, cs, es, _, hbs, hcs⟩ := HA.out.some_ (by omega)
    obtain ⟨rfl, rfl⟩ : aa = some ⟨bs, os, none⟩ ∧ ac = cs := by simpa using es
    have cx : wr.cell? ⟨bs, os + jj, none⟩ = some (.int .i64 x) := (hB.cell (p := ⟨bs, os + jj, none⟩) hbs).trans (hcs jj _ (by rw [List.getElem?_map, hx]; rfl))
    obtain ⟨M, hM⟩ : ∃ M, Xp.mrg ([] ++ la.take jj) = M := ⟨_, rfl⟩
    have HNX := Lib.hid (show Xp.mrg ([] ++ la.take (jj + 1)) = Xp.ins x M by rw [List.take_add_one, hx, ← hM]; show Xp.mrg ([] ++ (_ ++ [x])) = _; rw [← List.append_assoc, Xp.mrg_snoc])
    have hlen : M.length ≤ 1000000 := by rw [← hM]; refine Nat.le_trans (Xp.mrg_len _) ?_; rw [List.length_append, List.length_take]; have := HNA.out; have := HNB.out; simp; omega
    rw [hM] at hO
    obtain ⟨n, hn⟩ : ∃ n, M.length = n := ⟨_, rfl⟩
    rw [hn] at hO hlen
    have HLn := Lib.hid hn
    clear hx hcs es hM hn hB0
    have h0 : (0 : Int) ≤ (jj : Int) := by omega
    have h1 : (jj : Int) < (na : Int) := by omega
    rcases own_cases hO with ⟨rfl, rfl⟩ | ⟨g, cap, rfl, hcap, hmax, hgl, hgb⟩
    · obtain rfl : M = [] := List.eq_nil_of_length_eq_zero HLn.out
      clear hO
      go_wp2_with fail
      refine wp_loop_rounds 1 ?_
      rw [rounds_succ]
      go_wp2_with fail
      go_region_law (first | (refine step_append_sl (by rfl) (.const (.slice none 0 0)) (.tmp 51) 23 (by rfl) wr.heap.size 3 i0 (.int .i64 0) 1 8 Try.underlying23 hi0 hz0 hz1 hzb rfl (by decide) (.slice none 0 0) (0) ([]) (by simp [Act.eval]) (World.ownsRow_nil _ _ _ _) (.slice none 0 0) (0) ([]) (by simp [Act.eval, Act.put]) (sl_zero _ _ _) (fun c h => by simp at h; omega) (one_nil) (by unfold maxLen; omega) (by omega) (by simp) wr ((by first | exact (Below.refl _ _).drew | exact (Below.refl wr.heap.size wr).drew.alloc (by simp) _)) ?_; intro v1 w1 hown1 hg1 hb1) | (refine step_append_sl (by rfl) (.tmp 52) (.tmp 54) 23 (by rfl) wr.heap.size 3 i0 (.int .i64 0) 1 8 Try.underlying23 hi0 hz0 hz1 hzb rfl (by decide) (v1) (0) ([] ++ []) (by simp [Act.eval]) (by first | exact (by simpa using hown1) | exact (by simpa using hown1.alloc _)) (_) (1) ([.int .i64 x]) (by simp [Act.eval]; rfl) (by first | exact sl_new _ _ _ | exact sl_keep2 (below_grown hg1) (sl_new _ _ _)) (fun c h => by cases h) (one_int _) (by unfold maxLen; omega) (by omega) (by have := hb1.size; first | omega | (simp; omega)) wr ((by first | exact hb1 | exact hb1.alloc hb1.size _)) ?_; intro v2 w2 hown2 hg2 hb2) | (refine step_append_sl (by rfl) (.tmp 55) (.tmp 58) 23 (by rfl) wr.heap.size 3 i0 (.int .i64 0) 1 8 Try.underlying23 hi0 hz0 hz1 hzb rfl (by decide) (v2) (0 + 1) (([] ++ []) ++ [.int .i64 x]) (by simp [Act.eval]) (by simpa using hown2) (.slice none 0 0) (0) ([]) (by simp [Act.eval]) (sl_zero _ _ _) (fun c h => by simp at h; omega) (one_nil) (by unfold maxLen; omega) (by omega) (by have := hb2.size; omega) wr (hb2) ?_; intro v3 w3 hown3 hg3 hb3) | fail)
      all_goals
        have HO3 := Lib.hid (show w3.ownsRow w.heap.size 3 1 v3 (Xp.mrg ([] ++ la.take (jj + 1))).length ((Xp.mrg ([] ++ la.take (jj + 1))).map (Value.int .i64)) from own_list hown3 (by rw [HNX.out, show Xp.ins x [] = [x] from rfl]; simp) hB.size)
        have hB3 : Below w.heap.size w w3 := hB.trans (hb3.mono hB.size)
        clear hown1 hg1 hb1 hown2 hg2 hb2 hown3 hg3 hb3
        go_wp2_with fail
        go_roundg (gk - 1)
        case measure => omega
        case rel => exact ⟨jj + 1, by omega, by go_num, hB3, HO3.out⟩
    · have HOW := Lib.hid hO
      have HC := Lib.hid (show ∀ (j : Nat) (y : Int), M[j]? = some y → wr.cell? ⟨g, j, none⟩ = some (.int .i64 y) from fun j y hy => by
        have hjM : j < n := by have := (List.getElem?_eq_some_iff.1 hy).1; have := HLn.out; omega
        have e : wr.cell? ⟨g, j, none⟩ = (M.map (Value.int .i64))[j]? := HOW.out.cellAt j (by omega)
        rw [e, List.getElem?_map, hy]; rfl)
      clear hO
      unfold maxLen at hmax
      go_wp2_with fail
      go_loop [10] (fun k => ∃ kk : Nat, k = .int .i64 kk ∧ kk ≤ n ∧ ∀ (j : Nat) (z : Int), j < kk → M[j]? = some z → z < x) (fun k => n - (intOf k).toNat)
      case atStart => exact ⟨0, rfl, Nat.zero_le _, fun j z hj => by omega⟩
      case round =>
        obtain ⟨kk, rfl, hkn, hpre⟩ := hrel
        have HP := Lib.hid hpre
        clear hpre
        have hk0 : (0 : Int) ≤ (kk : Int) := by omega
        by_cases hk : kk < n
        · obtain ⟨y, hy⟩ : ∃ y, M[kk]? = some y := ⟨M[kk]'(by have := HLn.out; omega), List.getElem?_eq_getElem (by have := HLn.out; omega)⟩
          have cy := HC.out kk y hy
          have HY := Lib.hid hy
          clear hy
          have hk1 : (kk : Int) < (n : Int) := by omega
          have hk2 : ((kk : Int) == (n : Int)) = false := by simp; omega
          by_cases hyx : y < x
          · go_wp2_with fail
            go_round
            case rel => exact ⟨kk + 1, by go_num, by omega, fun j z hj hz => by
              by_cases e : j = kk
              · subst e; rw [HY.out] at hz; obtain rfl := Option.some.inj hz; exact hyx
              · exact HP.out j z (by omega) hz⟩
            case measure => simp [intOf]; omega
          by_cases heq : y = x
          · subst heq
            have HI := Lib.hid (show Xp.ins y M = M by rw [Xp.ins_at HP.out HY.out hyx, if_pos rfl])
            have HO3 := Lib.hid (show wr.ownsRow w.heap.size 3 1 (.slice (some ⟨g, 0, none⟩) n cap) (Xp.mrg ([] ++ la.take (jj + 1))).length ((Xp.mrg ([] ++ la.take (jj + 1))).map (Value.int .i64)) by rw [HNX.out, HI.out, HLn.out]; exact HOW.out)
            go_wp2_with fail
            go_roundg (gk - 1)
            case measure => omega
            case rel => exact ⟨jj + 1, by omega, by go_num, hB, HO3.out⟩
          have hne : (y != x) = true := by simp; exact heq
          have HI := Lib.hid (show Xp.ins x M = M.take kk ++ x :: M.drop kk by rw [Xp.ins_at HP.out HY.out hyx, if_neg heq])
          have SA := Lib.hid (row_take HOW.out hkn hgl)
          have SB := Lib.hid (row_drop HOW.out hkn hgl)
          have hkc : (kk : Int) ≤ (cap : Int) := by omega
          have hkc2 : ¬ cap = kk := by omega
          have hkc3 : ¬ kk = cap := by omega
          have hkc4 : kk ≤ n := by omega
          go_wp2_with fail
          go_region_law (first | (refine step_append_sl (by rfl) (.const (.slice none 0 0)) (.tmp 51) 23 (by rfl) wr.heap.size 3 i0 (.int .i64 0) 1 8 Try.underlying23 hi0 hz0 hz1 hzb rfl (by decide) (.slice none 0 0) (0) ([]) (by simp [Act.eval]) (World.ownsRow_nil _ _ _ _) (.slice (some ⟨g, 0, none⟩) kk cap) (kk) ((M.take kk).map (Value.int .i64)) (by simp [Act.eval, Act.put]) (SA.out _ (by first | exact (Below.refl _ _).drew | exact (Below.refl wr.heap.size wr).drew.alloc (by simp) _)) (fun c h => by cases h) (one_ints _) (by unfold maxLen; omega) (by omega) (by simp) wr ((by first | exact (Below.refl _ _).drew | exact (Below.refl wr.heap.size wr).drew.alloc (by simp) _)) ?_; intro v1 w1 hown1 hg1 hb1) | (refine step_append_sl (by rfl) (.tmp 52) (.tmp 54) 23 (by rfl) wr.heap.size 3 i0 (.int .i64 0) 1 8 Try.underlying23 hi0 hz0 hz1 hzb rfl (by decide) (v1) (kk) ([] ++ (M.take kk).map (Value.int .i64)) (by simp [Act.eval]) (by first | exact (by simpa using hown1) | exact (by simpa using hown1.alloc _)) (_) (1) ([.int .i64 x]) (by simp [Act.eval]; rfl) (by first | exact sl_new _ _ _ | exact sl_keep2 (below_grown hg1) (sl_new _ _ _)) (fun c h => by cases h) (one_int _) (by unfold maxLen; omega) (by omega) (by have := hb1.size; first | omega | (simp; omega)) wr ((by first | exact hb1 | exact hb1.alloc hb1.size _)) ?_; intro v2 w2 hown2 hg2 hb2) | (refine step_append_sl (by rfl) (.tmp 55) (.tmp 58) 23 (by rfl) wr.heap.size 3 i0 (.int .i64 0) 1 8 Try.underlying23 hi0 hz0 hz1 hzb rfl (by decide) (v2) (kk + 1) (([] ++ (M.take kk).map (Value.int .i64)) ++ [.int .i64 x]) (by simp [Act.eval]) (by simpa using hown2) (.slice (some ⟨g, kk, none⟩) (n - kk) (cap - kk)) (n - kk) ((M.drop kk).map (Value.int .i64)) (by simp [Act.eval]) (SB.out _ hb2) (fun c h => by cases h) (one_ints _) (by unfold maxLen; omega) (by omega) (by have := hb2.size; omega) wr (hb2) ?_; intro v3 w3 hown3 hg3 hb3) | fail)
          all_goals
            have HO3 := Lib.hid (show w3.ownsRow w.heap.size 3 1 v3 (Xp.mrg ([] ++ la.take (jj + 1))).length ((Xp.mrg ([] ++ la.take (jj + 1))).map (Value.int .i64)) from own_list hown3 (by rw [HNX.out, HI.out]; simp) hB.size)
            have hB3 : Below w.heap.size w w3 := hB.trans (hb3.mono hB.size)
            clear hown1 hg1 hb1 hown2 hg2 hb2 hown3 hg3 hb3
            go_wp2_with fail
            go_roundg (gk - 1)
            case measure => omega
            case rel => exact ⟨jj + 1, by omega, by go_num, hB3, HO3.out⟩
        · obtain rfl : kk = n := by omega
          have HI := Lib.hid (show Xp.ins x M = M.take kk ++ x :: M.drop kk by rw [Xp.ins_end (fun y hy => by obtain ⟨j, hj, rfl⟩ := List.getElem_of_mem hy; exact HP.out j _ (by have := HLn.out; omega) (List.getElem?_eq_getElem hj)), ← HLn.out]; simp)
          have SA := Lib.hid (row_take HOW.out hkn hgl)
          have hdrop : M.drop kk = [] := by rw [← HLn.out]; simp
          have HD := Lib.hid hdrop
          clear hdrop
          have hkc : (kk : Int) ≤ (cap : Int) := by omega
          by_cases hkc2 : kk = cap
          · subst hkc2
            have HI2 := Lib.hid (show Xp.ins x M = M.take kk ++ x :: [] by rw [HI.out, HD.out])
            go_wp2_with fail
            go_region_law (first | (refine step_append_sl (by rfl) (.const (.slice none 0 0)) (.tmp 51) 23 (by rfl) wr.heap.size 3 i0 (.int .i64 0) 1 8 Try.underlying23 hi0 hz0 hz1 hzb rfl (by decide) (.slice none 0 0) (0) ([]) (by simp [Act.eval]) (World.ownsRow_nil _ _ _ _) (.slice (some ⟨g, 0, none⟩) kk kk) (kk) ((M.take kk).map (Value.int .i64)) (by simp [Act.eval, Act.put]) (SA.out _ (by first | exact (Below.refl _ _).drew | exact (Below.refl wr.heap.size wr).drew.alloc (by simp) _)) (fun c h => by cases h) (one_ints _) (by unfold maxLen; omega) (by omega) (by simp) wr ((by first | exact (Below.refl _ _).drew | exact (Below.refl wr.heap.size wr).drew.alloc (by simp) _)) ?_; intro v1 w1 hown1 hg1 hb1) | (refine step_append_sl (by rfl) (.tmp 52) (.tmp 54) 23 (by rfl) wr.heap.size 3 i0 (.int .i64 0) 1 8 Try.underlying23 hi0 hz0 hz1 hzb rfl (by decide) (v1) (kk) ([] ++ (M.take kk).map (Value.int .i64)) (by simp [Act.eval]) (by first | exact (by simpa using hown1) | exact (by simpa using hown1.alloc _)) (_) (1) ([.int .i64 x]) (by simp [Act.eval]; rfl) (by first | exact sl_new _ _ _ | exact sl_keep2 (below_grown hg1) (sl_new _ _ _)) (fun c h => by cases h) (one_int _) (by unfold maxLen; omega) (by omega) (by have := hb1.size; first | omega | (simp; omega)) wr ((by first | exact hb1 | exact hb1.alloc hb1.size _)) ?_; intro v2 w2 hown2 hg2 hb2) | (refine step_append_sl (by rfl) (.tmp 55) (.tmp 58) 23 (by rfl) wr.heap.size 3 i0 (.int .i64 0) 1 8 Try.underlying23 hi0 hz0 hz1 hzb rfl (by decide) (v2) (kk + 1) (([] ++ (M.take kk).map (Value.int .i64)) ++ [.int .i64 x]) (by simp [Act.eval]) (by simpa using hown2) (.slice (some ⟨g, 0, none⟩) 0 0) (0) ([]) (by simp [Act.eval]) (sl_zero _ _ _) (fun c h => by cases h) (one_nil) (by unfold maxLen; omega) (by omega) (by have := hb2.size; omega) wr (hb2) ?_; intro v3 w3 hown3 hg3 hb3) | fail)
            all_goals
              have HO3 := Lib.hid (show w3.ownsRow w.heap.size 3 1 v3 (Xp.mrg ([] ++ la.take (jj + 1))).length ((Xp.mrg ([] ++ la.take (jj + 1))).map (Value.int .i64)) from own_list hown3 (by rw [HNX.out, HI2.out]; simp) hB.size)
              have hB3 : Below w.heap.size w w3 := hB.trans (hb3.mono hB.size)
              clear hown1 hg1 hb1 hown2 hg2 hb2 hown3 hg3 hb3
              go_wp2_with fail
              go_roundg (gk - 1)
              case measure => omega
              case rel => exact ⟨jj + 1, by omega, by go_num, hB3, HO3.out⟩
          have hkc3 : ¬ cap = kk := by omega
          have SB := Lib.hid (row_drop HOW.out hkn hgl)
          go_wp2_with fail
          go_region_law (first | (refine step_append_sl (by rfl) (.const (.slice none 0 0)) (.tmp 51) 23 (by rfl) wr.heap.size 3 i0 (.int .i64 0) 1 8 Try.underlying23 hi0 hz0 hz1 hzb rfl (by decide) (.slice none 0 0) (0) ([]) (by simp [Act.eval]) (World.ownsRow_nil _ _ _ _) (.slice (some ⟨g, 0, none⟩) kk cap) (kk) ((M.take kk).map (Value.int .i64)) (by simp [Act.eval, Act.put]) (SA.out _ (by first | exact (Below.refl _ _).drew | exact (Below.refl wr.heap.size wr).drew.alloc (by simp) _)) (fun c h => by cases h) (one_ints _) (by unfold maxLen; omega) (by omega) (by simp) wr ((by first | exact (Below.refl _ _).drew | exact (Below.refl wr.heap.size wr).drew.alloc (by simp) _)) ?_; intro v1 w1 hown1 hg1 hb1) | (refine step_append_sl (by rfl) (.tmp 52) (.tmp 54) 23 (by rfl) wr.heap.size 3 i0 (.int .i64 0) 1 8 Try.underlying23 hi0 hz0 hz1 hzb rfl (by decide) (v1) (kk) ([] ++ (M.take kk).map (Value.int .i64)) (by simp [Act.eval]) (by first | exact (by simpa using hown1) | exact (by simpa using hown1.alloc _)) (_) (1) ([.int .i64 x]) (by simp [Act.eval]; rfl) (by first | exact sl_new _ _ _ | exact sl_keep2 (below_grown hg1) (sl_new _ _ _)) (fun c h => by cases h) (one_int _) (by unfold maxLen; omega) (by omega) (by have := hb1.size; first | omega | (simp; omega)) wr ((by first | exact hb1 | exact hb1.alloc hb1.size _)) ?_; intro v2 w2 hown2 hg2 hb2) | (refine step_append_sl (by rfl) (.tmp 55) (.tmp 58) 23 (by rfl) wr.heap.size 3 i0 (.int .i64 0) 1 8 Try.underlying23 hi0 hz0 hz1 hzb rfl (by decide) (v2) (kk + 1) (([] ++ (M.take kk).map (Value.int .i64)) ++ [.int .i64 x]) (by simp [Act.eval]) (by simpa using hown2) (.slice (some ⟨g, kk, none⟩) (kk - kk) (cap - kk)) (kk - kk) ((M.drop kk).map (Value.int .i64)) (by simp [Act.eval]) (SB.out _ hb2) (fun c h => by cases h) (one_ints _) (by unfold maxLen; omega) (by omega) (by have := hb2.size; omega) wr (hb2) ?_; intro v3 w3 hown3 hg3 hb3) | fail)
          all_goals
            have HO3 := Lib.hid (show w3.ownsRow w.heap.size 3 1 v3 (Xp.mrg ([] ++ la.take (jj + 1))).length ((Xp.mrg ([] ++ la.take (jj + 1))).map (Value.int .i64)) from own_list hown3 (by rw [HNX.out, HI.out]; simp) hB.size)
            have hB3 : Below w.heap.size w w3 := hB.trans (hb3.mono hB.size)
            clear hown1 hg1 hb1 hown2 hg2 hb2 hown3 hg3 hb3
            go_wp2_with fail
            go_roundg (gk - 1)
            case measure => omega
            case rel => exact ⟨jj + 1, by omega, by go_num, hB3, HO3.out⟩

end Go.Proofs.Ytpgaldkedeohaaa
