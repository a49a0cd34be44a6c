/-
  The reference's eval, operator by operator.
-/
import Derived.Test.YtpgaldkedeohaaaExprO
namespace Go.Proofs.Ytpgaldkedeohaaa
open Go.RowKit
set_option linter.unusedVariables false


set_option maxRecDepth 100000 in
set_option maxHeartbeats 2000000 in
theorem reval_eq (col ck cn : Int) (cs : ByteArray) (k1 n1 : Int) (s1 : ByteArray) (k2 n2 : Int) (s2 : ByteArray) (b off n c k dg dn dc ja jb : Nat) (rv : Value) (w : World) (hb : b < w.heap.size) (hg : dg < w.heap.size) (hk : k < n) (hnc : n ≤ 100000) (hdn : k < dn) (hja : ja < k) (hjb : jb < k)
    (hx : ExAt w b (off + k * 7) ⟨6, ja, jb, col, ⟨ck, cn, cs⟩⟩) (hva : VlAt w dg (ja * 3) ⟨k1, n1, s1⟩) (hvb : VlAt w dg (jb * 3) ⟨k2, n2, s2⟩) :
    Calls Try.prog 26 #[.slice (some ⟨b, off, none⟩) n c, .int .i64 k, rv, .slice (some ⟨dg, 0, none⟩) dn dc] w fun e' w' => e' = .returned ((Xp.bool (decide (k1 ≠ 0) && (decide (k2 ≠ 0) && decide (Xp.vcmp ⟨k1, n1, s1⟩ ⟨k2, n2, s2⟩ = 0)))).go) ∧ Below w.heap.size w w' := by
  obtain ⟨v, hv⟩ : ∃ v, Xp.vcmp ⟨k1, n1, s1⟩ ⟨k2, n2, s2⟩ = v := ⟨_, rfl⟩
  rw [hv]
  have HC := Lib.hid hv
  clear hv
  generalize hV : (Xp.bool _).go = V
  have HV := Lib.hid hV
  clear hV
  by_cases z1 : k1 = 0
  · subst z1
    have HW := Lib.hid (HV.out.symm.trans (show (Xp.bool _).go = (Xp.bool false).go by simp))
    have HX := Lib.hid hx
    have HL := Lib.hid (show (!Xp.badIx ⟨6, ja, jb, col, ⟨ck, cn, cs⟩⟩ k) = true by unfold Xp.badIx Xp.lgl; simp [hja, hjb])
    obtain ⟨x0, x1, x2, x3, x4, x5, x6⟩ := hx
    simp only at x0 x1 x2 x3 x4 x5 x6
    obtain ⟨u0, u1, u2⟩ := hva
    simp only at u0 u1 u2
    obtain ⟨v0, v1, v2⟩ := hvb
    simp only at v0 v1 v2
    have h0 : (0 : Int) ≤ (k : Int) := by omega
    have h1 : (k : Int) < (n : Int) := by omega
    have h2ja : (0 : Int) ≤ (ja : Int) := by omega
    have h3ja : (ja : Int) < (dn : Int) := by omega
    have h2jb : (0 : Int) ≤ (jb : Int) := by omega
    have h3jb : (jb : Int) < (dn : Int) := by omega
    have hb1 : b < w.heap.size + 1 := by omega
    have hb2 : b < w.heap.size + 1 + 1 := by omega
    have hg1 : dg < w.heap.size + 1 := by omega
    have hg2 : dg < w.heap.size + 1 + 1 := by omega
    have hg3 : dg < w.heap.size + 1 + 1 + 1 := by omega
    have hB0 : Below w.heap.size w w := Below.refl _ _
    go_enter Try.func26, Try.ntmps26
    go_wp2_with fail
    refine (ropn_call _ 2 _ rfl).mono ?_
    rintro e1 w1 ⟨rfl, rfl⟩
    go_wp2_with fail
    refine (legal_call true b off n c k _ w _ hb (below_alloc (below_alloc (Below.refl _ _) _) _) hk hnc HX.out HL.out).mono ?_
    rintro e1 w1 ⟨rfl, rfl⟩
    go_wp2_with fail
    have hB0' : Below w.heap.size w ((((w.alloc (.cells #[.int .i64 0, .int .i64 0, .string ⟨#[]⟩] 34)).alloc (.cells #[.int .i64 6, .int .i64 ja, .int .i64 jb, .int .i64 col, .int .i64 ck, .int .i64 cn, .string cs] 44)).alloc (.cells #[.int .i64 0, .int .i64 n1, .string s1] 34)).alloc (.cells #[.int .i64 k2, .int .i64 n2, .string s2] 34)) := below_alloc (below_alloc (below_alloc (below_alloc (Below.refl _ _) _) _) _) _
    have hn0 : ((((w.alloc (.cells #[.int .i64 0, .int .i64 0, .string ⟨#[]⟩] 34)).alloc (.cells #[.int .i64 6, .int .i64 ja, .int .i64 jb, .int .i64 col, .int .i64 ck, .int .i64 cn, .string cs] 44)).alloc (.cells #[.int .i64 0, .int .i64 n1, .string s1] 34)).alloc (.cells #[.int .i64 k2, .int .i64 n2, .string s2] 34)).cell? ⟨w.heap.size, 0, none⟩ = some (.int .i64 0) := by go_simp
    have hn1 : ((((w.alloc (.cells #[.int .i64 0, .int .i64 0, .string ⟨#[]⟩] 34)).alloc (.cells #[.int .i64 6, .int .i64 ja, .int .i64 jb, .int .i64 col, .int .i64 ck, .int .i64 cn, .string cs] 44)).alloc (.cells #[.int .i64 0, .int .i64 n1, .string s1] 34)).alloc (.cells #[.int .i64 k2, .int .i64 n2, .string s2] 34)).cell? ⟨w.heap.size, 1, none⟩ = some (.int .i64 0) := by go_simp
    have hn2 : ((((w.alloc (.cells #[.int .i64 0, .int .i64 0, .string ⟨#[]⟩] 34)).alloc (.cells #[.int .i64 6, .int .i64 ja, .int .i64 jb, .int .i64 col, .int .i64 ck, .int .i64 cn, .string cs] 44)).alloc (.cells #[.int .i64 0, .int .i64 n1, .string s1] 34)).alloc (.cells #[.int .i64 k2, .int .i64 n2, .string s2] 34)).cell? ⟨w.heap.size, 2, none⟩ = some (.string ⟨#[]⟩) := by go_simp
    have hn3 : ((((w.alloc (.cells #[.int .i64 0, .int .i64 0, .string ⟨#[]⟩] 34)).alloc (.cells #[.int .i64 6, .int .i64 ja, .int .i64 jb, .int .i64 col, .int .i64 ck, .int .i64 cn, .string cs] 44)).alloc (.cells #[.int .i64 0, .int .i64 n1, .string s1] 34)).alloc (.cells #[.int .i64 k2, .int .i64 n2, .string s2] 34)).cell? ⟨w.heap.size + 1, 0, none⟩ = some (.int .i64 6) := by go_simp
    have hn4 : ((((w.alloc (.cells #[.int .i64 0, .int .i64 0, .string ⟨#[]⟩] 34)).alloc (.cells #[.int .i64 6, .int .i64 ja, .int .i64 jb, .int .i64 col, .int .i64 ck, .int .i64 cn, .string cs] 44)).alloc (.cells #[.int .i64 0, .int .i64 n1, .string s1] 34)).alloc (.cells #[.int .i64 k2, .int .i64 n2, .string s2] 34)).cell? ⟨w.heap.size + 1 + 1, 0, none⟩ = some (.int .i64 0) := by go_simp
    have hn5 : ((((w.alloc (.cells #[.int .i64 0, .int .i64 0, .string ⟨#[]⟩] 34)).alloc (.cells #[.int .i64 6, .int .i64 ja, .int .i64 jb, .int .i64 col, .int .i64 ck, .int .i64 cn, .string cs] 44)).alloc (.cells #[.int .i64 0, .int .i64 n1, .string s1] 34)).alloc (.cells #[.int .i64 k2, .int .i64 n2, .string s2] 34)).cell? ⟨w.heap.size + 1 + 1, 1, none⟩ = some (.int .i64 n1) := by go_simp
    have hn6 : ((((w.alloc (.cells #[.int .i64 0, .int .i64 0, .string ⟨#[]⟩] 34)).alloc (.cells #[.int .i64 6, .int .i64 ja, .int .i64 jb, .int .i64 col, .int .i64 ck, .int .i64 cn, .string cs] 44)).alloc (.cells #[.int .i64 0, .int .i64 n1, .string s1] 34)).alloc (.cells #[.int .i64 k2, .int .i64 n2, .string s2] 34)).cell? ⟨w.heap.size + 1 + 1, 2, none⟩ = some (.string s1) := by go_simp
    have hn7 : ((((w.alloc (.cells #[.int .i64 0, .int .i64 0, .string ⟨#[]⟩] 34)).alloc (.cells #[.int .i64 6, .int .i64 ja, .int .i64 jb, .int .i64 col, .int .i64 ck, .int .i64 cn, .string cs] 44)).alloc (.cells #[.int .i64 0, .int .i64 n1, .string s1] 34)).alloc (.cells #[.int .i64 k2, .int .i64 n2, .string s2] 34)).cell? ⟨w.heap.size + 1 + 1 + 1, 0, none⟩ = some (.int .i64 k2) := by go_simp
    have hn8 : ((((w.alloc (.cells #[.int .i64 0, .int .i64 0, .string ⟨#[]⟩] 34)).alloc (.cells #[.int .i64 6, .int .i64 ja, .int .i64 jb, .int .i64 col, .int .i64 ck, .int .i64 cn, .string cs] 44)).alloc (.cells #[.int .i64 0, .int .i64 n1, .string s1] 34)).alloc (.cells #[.int .i64 k2, .int .i64 n2, .string s2] 34)).cell? ⟨w.heap.size + 1 + 1 + 1, 1, none⟩ = some (.int .i64 n2) := by go_simp
    have hn9 : ((((w.alloc (.cells #[.int .i64 0, .int .i64 0, .string ⟨#[]⟩] 34)).alloc (.cells #[.int .i64 6, .int .i64 ja, .int .i64 jb, .int .i64 col, .int .i64 ck, .int .i64 cn, .string cs] 44)).alloc (.cells #[.int .i64 0, .int .i64 n1, .string s1] 34)).alloc (.cells #[.int .i64 k2, .int .i64 n2, .string s2] 34)).cell? ⟨w.heap.size + 1 + 1 + 1, 2, none⟩ = some (.string s2) := by go_simp
    have hnf0 : ((((w.alloc (.cells #[.int .i64 0, .int .i64 0, .string ⟨#[]⟩] 34)).alloc (.cells #[.int .i64 6, .int .i64 ja, .int .i64 jb, .int .i64 col, .int .i64 ck, .int .i64 cn, .string cs] 44)).alloc (.cells #[.int .i64 0, .int .i64 n1, .string s1] 34)).alloc (.cells #[.int .i64 k2, .int .i64 n2, .string s2] 34)).frozen? ⟨w.heap.size, 0, none⟩ = false := by go_simp
    have hnf1 : ((((w.alloc (.cells #[.int .i64 0, .int .i64 0, .string ⟨#[]⟩] 34)).alloc (.cells #[.int .i64 6, .int .i64 ja, .int .i64 jb, .int .i64 col, .int .i64 ck, .int .i64 cn, .string cs] 44)).alloc (.cells #[.int .i64 0, .int .i64 n1, .string s1] 34)).alloc (.cells #[.int .i64 k2, .int .i64 n2, .string s2] 34)).frozen? ⟨w.heap.size, 1, none⟩ = false := by go_simp
    have hnf2 : ((((w.alloc (.cells #[.int .i64 0, .int .i64 0, .string ⟨#[]⟩] 34)).alloc (.cells #[.int .i64 6, .int .i64 ja, .int .i64 jb, .int .i64 col, .int .i64 ck, .int .i64 cn, .string cs] 44)).alloc (.cells #[.int .i64 0, .int .i64 n1, .string s1] 34)).alloc (.cells #[.int .i64 k2, .int .i64 n2, .string s2] 34)).frozen? ⟨w.heap.size, 2, none⟩ = false := by go_simp
    have hsz0 : ((((w.alloc (.cells #[.int .i64 0, .int .i64 0, .string ⟨#[]⟩] 34)).alloc (.cells #[.int .i64 6, .int .i64 ja, .int .i64 jb, .int .i64 col, .int .i64 ck, .int .i64 cn, .string cs] 44)).alloc (.cells #[.int .i64 0, .int .i64 n1, .string s1] 34)).alloc (.cells #[.int .i64 k2, .int .i64 n2, .string s2] 34)).heap.size = w.heap.size + 4 := by simp only [World.size_alloc]
    generalize hw0 : ((((w.alloc (.cells #[.int .i64 0, .int .i64 0, .string ⟨#[]⟩] 34)).alloc (.cells #[.int .i64 6, .int .i64 ja, .int .i64 jb, .int .i64 col, .int .i64 ck, .int .i64 cn, .string cs] 44)).alloc (.cells #[.int .i64 0, .int .i64 n1, .string s1] 34)).alloc (.cells #[.int .i64 k2, .int .i64 n2, .string s2] 34)) = w0 at *
    clear hw0
    have hq0 : w.heap.size < w0.heap.size := by omega
    have hr0 : w.heap.size ≤ w0.heap.size := by omega
    have hq1 : w.heap.size + 1 < w0.heap.size := by omega
    have hr1 : w.heap.size + 1 ≤ w0.heap.size := by omega
    have hq2 : w.heap.size + 1 + 1 < w0.heap.size := by omega
    have hr2 : w.heap.size + 1 + 1 ≤ w0.heap.size := by omega
    have hq3 : w.heap.size + 1 + 1 + 1 < w0.heap.size := by omega
    have hr3 : w.heap.size + 1 + 1 + 1 ≤ w0.heap.size := by omega
    clear hsz0
    refine (ref_bool_call false 0 _ rfl).mono ?_
    rintro e w1 ⟨rfl, hb1⟩
    have hB1 : Below w.heap.size w w1 := below_chain (hB0') hb1
    have hz1 := hb1.size
    have hl1_0 : w.heap.size < w1.heap.size := by omega
    have hm1_0 : w.heap.size ≤ w1.heap.size := by omega
    have hl1_1 : w.heap.size + 1 < w1.heap.size := by omega
    have hm1_1 : w.heap.size + 1 ≤ w1.heap.size := by omega
    have hl1_2 : w.heap.size + 1 + 1 < w1.heap.size := by omega
    have hm1_2 : w.heap.size + 1 + 1 ≤ w1.heap.size := by omega
    have hl1_3 : w.heap.size + 1 + 1 + 1 < w1.heap.size := by omega
    have hm1_3 : w.heap.size + 1 + 1 + 1 ≤ w1.heap.size := by omega
    obtain ⟨hc1, hf1⟩ := bcell hb1
    clear hb1
    go_wp2_with fail
    have sc := two_ops (w := w1) (B := w.heap.size) (a := .int .i64 0) (b := .int .i64 0) (c := .string ⟨#[]⟩) (by go_simp) (by go_simp) (by go_simp) (.int .i64 3) (.int .i64 0) (.string ⟨#[]⟩)
    obtain ⟨sc0, sc1, sc2⟩ := sc
    refine bodyPost_ret (v := .agg #[.int .i64 3, .int .i64 0, .string ⟨#[]⟩]) (by simp [sc0, sc1, sc2, results, Try.results26, go_sem]) rfl ⟨by rw [HW.out]; rfl, ?_⟩
    exact (((hB1).setCell (by simp) _).setCell (by simp) _).setCell (by simp) _
  by_cases z2 : k2 = 0
  · subst z2
    have ek1 : (k1 == 0) = false := by simp; exact z1
    have fk1 : (k1 != 0) = true := by simp; exact z1
    have HW := Lib.hid (HV.out.symm.trans (show (Xp.bool _).go = (Xp.bool false).go by simp))
    have HX := Lib.hid hx
    have HL := Lib.hid (show (!Xp.badIx ⟨6, ja, jb, col, ⟨ck, cn, cs⟩⟩ k) = true by unfold Xp.badIx Xp.lgl; simp [hja, hjb])
    obtain ⟨x0, x1, x2, x3, x4, x5, x6⟩ := hx
    simp only at x0 x1 x2 x3 x4 x5 x6
    obtain ⟨u0, u1, u2⟩ := hva
    simp only at u0 u1 u2
    obtain ⟨v0, v1, v2⟩ := hvb
    simp only at v0 v1 v2
    have h0 : (0 : Int) ≤ (k : Int) := by omega
    have h1 : (k : Int) < (n : Int) := by omega
    have h2ja : (0 : Int) ≤ (ja : Int) := by omega
    have h3ja : (ja : Int) < (dn : Int) := by omega
    have h2jb : (0 : Int) ≤ (jb : Int) := by omega
    have h3jb : (jb : Int) < (dn : Int) := by omega
    have hb1 : b < w.heap.size + 1 := by omega
    have hb2 : b < w.heap.size + 1 + 1 := by omega
    have hg1 : dg < w.heap.size + 1 := by omega
    have hg2 : dg < w.heap.size + 1 + 1 := by omega
    have hg3 : dg < w.heap.size + 1 + 1 + 1 := by omega
    have hB0 : Below w.heap.size w w := Below.refl _ _
    go_enter Try.func26, Try.ntmps26
    go_wp2_with fail
    refine (ropn_call _ 2 _ rfl).mono ?_
    rintro e1 w1 ⟨rfl, rfl⟩
    go_wp2_with fail
    refine (legal_call true b off n c k _ w _ hb (below_alloc (below_alloc (Below.refl _ _) _) _) hk hnc HX.out HL.out).mono ?_
    rintro e1 w1 ⟨rfl, rfl⟩
    go_wp2_with fail
    have hB0' : Below w.heap.size w ((((w.alloc (.cells #[.int .i64 0, .int .i64 0, .string ⟨#[]⟩] 34)).alloc (.cells #[.int .i64 6, .int .i64 ja, .int .i64 jb, .int .i64 col, .int .i64 ck, .int .i64 cn, .string cs] 44)).alloc (.cells #[.int .i64 k1, .int .i64 n1, .string s1] 34)).alloc (.cells #[.int .i64 0, .int .i64 n2, .string s2] 34)) := below_alloc (below_alloc (below_alloc (below_alloc (Below.refl _ _) _) _) _) _
    have hn0 : ((((w.alloc (.cells #[.int .i64 0, .int .i64 0, .string ⟨#[]⟩] 34)).alloc (.cells #[.int .i64 6, .int .i64 ja, .int .i64 jb, .int .i64 col, .int .i64 ck, .int .i64 cn, .string cs] 44)).alloc (.cells #[.int .i64 k1, .int .i64 n1, .string s1] 34)).alloc (.cells #[.int .i64 0, .int .i64 n2, .string s2] 34)).cell? ⟨w.heap.size, 0, none⟩ = some (.int .i64 0) := by go_simp
    have hn1 : ((((w.alloc (.cells #[.int .i64 0, .int .i64 0, .string ⟨#[]⟩] 34)).alloc (.cells #[.int .i64 6, .int .i64 ja, .int .i64 jb, .int .i64 col, .int .i64 ck, .int .i64 cn, .string cs] 44)).alloc (.cells #[.int .i64 k1, .int .i64 n1, .string s1] 34)).alloc (.cells #[.int .i64 0, .int .i64 n2, .string s2] 34)).cell? ⟨w.heap.size, 1, none⟩ = some (.int .i64 0) := by go_simp
    have hn2 : ((((w.alloc (.cells #[.int .i64 0, .int .i64 0, .string ⟨#[]⟩] 34)).alloc (.cells #[.int .i64 6, .int .i64 ja, .int .i64 jb, .int .i64 col, .int .i64 ck, .int .i64 cn, .string cs] 44)).alloc (.cells #[.int .i64 k1, .int .i64 n1, .string s1] 34)).alloc (.cells #[.int .i64 0, .int .i64 n2, .string s2] 34)).cell? ⟨w.heap.size, 2, none⟩ = some (.string ⟨#[]⟩) := by go_simp
    have hn3 : ((((w.alloc (.cells #[.int .i64 0, .int .i64 0, .string ⟨#[]⟩] 34)).alloc (.cells #[.int .i64 6, .int .i64 ja, .int .i64 jb, .int .i64 col, .int .i64 ck, .int .i64 cn, .string cs] 44)).alloc (.cells #[.int .i64 k1, .int .i64 n1, .string s1] 34)).alloc (.cells #[.int .i64 0, .int .i64 n2, .string s2] 34)).cell? ⟨w.heap.size + 1, 0, none⟩ = some (.int .i64 6) := by go_simp
    have hn4 : ((((w.alloc (.cells #[.int .i64 0, .int .i64 0, .string ⟨#[]⟩] 34)).alloc (.cells #[.int .i64 6, .int .i64 ja, .int .i64 jb, .int .i64 col, .int .i64 ck, .int .i64 cn, .string cs] 44)).alloc (.cells #[.int .i64 k1, .int .i64 n1, .string s1] 34)).alloc (.cells #[.int .i64 0, .int .i64 n2, .string s2] 34)).cell? ⟨w.heap.size + 1 + 1, 0, none⟩ = some (.int .i64 k1) := by go_simp
    have hn5 : ((((w.alloc (.cells #[.int .i64 0, .int .i64 0, .string ⟨#[]⟩] 34)).alloc (.cells #[.int .i64 6, .int .i64 ja, .int .i64 jb, .int .i64 col, .int .i64 ck, .int .i64 cn, .string cs] 44)).alloc (.cells #[.int .i64 k1, .int .i64 n1, .string s1] 34)).alloc (.cells #[.int .i64 0, .int .i64 n2, .string s2] 34)).cell? ⟨w.heap.size + 1 + 1, 1, none⟩ = some (.int .i64 n1) := by go_simp
    have hn6 : ((((w.alloc (.cells #[.int .i64 0, .int .i64 0, .string ⟨#[]⟩] 34)).alloc (.cells #[.int .i64 6, .int .i64 ja, .int .i64 jb, .int .i64 col, .int .i64 ck, .int .i64 cn, .string cs] 44)).alloc (.cells #[.int .i64 k1, .int .i64 n1, .string s1] 34)).alloc (.cells #[.int .i64 0, .int .i64 n2, .string s2] 34)).cell? ⟨w.heap.size + 1 + 1, 2, none⟩ = some (.string s1) := by go_simp
    have hn7 : ((((w.alloc (.cells #[.int .i64 0, .int .i64 0, .string ⟨#[]⟩] 34)).alloc (.cells #[.int .i64 6, .int .i64 ja, .int .i64 jb, .int .i64 col, .int .i64 ck, .int .i64 cn, .string cs] 44)).alloc (.cells #[.int .i64 k1, .int .i64 n1, .string s1] 34)).alloc (.cells #[.int .i64 0, .int .i64 n2, .string s2] 34)).cell? ⟨w.heap.size + 1 + 1 + 1, 0, none⟩ = some (.int .i64 0) := by go_simp
    have hn8 : ((((w.alloc (.cells #[.int .i64 0, .int .i64 0, .string ⟨#[]⟩] 34)).alloc (.cells #[.int .i64 6, .int .i64 ja, .int .i64 jb, .int .i64 col, .int .i64 ck, .int .i64 cn, .string cs] 44)).alloc (.cells #[.int .i64 k1, .int .i64 n1, .string s1] 34)).alloc (.cells #[.int .i64 0, .int .i64 n2, .string s2] 34)).cell? ⟨w.heap.size + 1 + 1 + 1, 1, none⟩ = some (.int .i64 n2) := by go_simp
    have hn9 : ((((w.alloc (.cells #[.int .i64 0, .int .i64 0, .string ⟨#[]⟩] 34)).alloc (.cells #[.int .i64 6, .int .i64 ja, .int .i64 jb, .int .i64 col, .int .i64 ck, .int .i64 cn, .string cs] 44)).alloc (.cells #[.int .i64 k1, .int .i64 n1, .string s1] 34)).alloc (.cells #[.int .i64 0, .int .i64 n2, .string s2] 34)).cell? ⟨w.heap.size + 1 + 1 + 1, 2, none⟩ = some (.string s2) := by go_simp
    have hnf0 : ((((w.alloc (.cells #[.int .i64 0, .int .i64 0, .string ⟨#[]⟩] 34)).alloc (.cells #[.int .i64 6, .int .i64 ja, .int .i64 jb, .int .i64 col, .int .i64 ck, .int .i64 cn, .string cs] 44)).alloc (.cells #[.int .i64 k1, .int .i64 n1, .string s1] 34)).alloc (.cells #[.int .i64 0, .int .i64 n2, .string s2] 34)).frozen? ⟨w.heap.size, 0, none⟩ = false := by go_simp
    have hnf1 : ((((w.alloc (.cells #[.int .i64 0, .int .i64 0, .string ⟨#[]⟩] 34)).alloc (.cells #[.int .i64 6, .int .i64 ja, .int .i64 jb, .int .i64 col, .int .i64 ck, .int .i64 cn, .string cs] 44)).alloc (.cells #[.int .i64 k1, .int .i64 n1, .string s1] 34)).alloc (.cells #[.int .i64 0, .int .i64 n2, .string s2] 34)).frozen? ⟨w.heap.size, 1, none⟩ = false := by go_simp
    have hnf2 : ((((w.alloc (.cells #[.int .i64 0, .int .i64 0, .string ⟨#[]⟩] 34)).alloc (.cells #[.int .i64 6, .int .i64 ja, .int .i64 jb, .int .i64 col, .int .i64 ck, .int .i64 cn, .string cs] 44)).alloc (.cells #[.int .i64 k1, .int .i64 n1, .string s1] 34)).alloc (.cells #[.int .i64 0, .int .i64 n2, .string s2] 34)).frozen? ⟨w.heap.size, 2, none⟩ = false := by go_simp
    have hsz0 : ((((w.alloc (.cells #[.int .i64 0, .int .i64 0, .string ⟨#[]⟩] 34)).alloc (.cells #[.int .i64 6, .int .i64 ja, .int .i64 jb, .int .i64 col, .int .i64 ck, .int .i64 cn, .string cs] 44)).alloc (.cells #[.int .i64 k1, .int .i64 n1, .string s1] 34)).alloc (.cells #[.int .i64 0, .int .i64 n2, .string s2] 34)).heap.size = w.heap.size + 4 := by simp only [World.size_alloc]
    generalize hw0 : ((((w.alloc (.cells #[.int .i64 0, .int .i64 0, .string ⟨#[]⟩] 34)).alloc (.cells #[.int .i64 6, .int .i64 ja, .int .i64 jb, .int .i64 col, .int .i64 ck, .int .i64 cn, .string cs] 44)).alloc (.cells #[.int .i64 k1, .int .i64 n1, .string s1] 34)).alloc (.cells #[.int .i64 0, .int .i64 n2, .string s2] 34)) = w0 at *
    clear hw0
    have hq0 : w.heap.size < w0.heap.size := by omega
    have hr0 : w.heap.size ≤ w0.heap.size := by omega
    have hq1 : w.heap.size + 1 < w0.heap.size := by omega
    have hr1 : w.heap.size + 1 ≤ w0.heap.size := by omega
    have hq2 : w.heap.size + 1 + 1 < w0.heap.size := by omega
    have hr2 : w.heap.size + 1 + 1 ≤ w0.heap.size := by omega
    have hq3 : w.heap.size + 1 + 1 + 1 < w0.heap.size := by omega
    have hr3 : w.heap.size + 1 + 1 + 1 ≤ w0.heap.size := by omega
    clear hsz0
    refine (ref_bool_call false 0 _ rfl).mono ?_
    rintro e w1 ⟨rfl, hb1⟩
    have hB1 : Below w.heap.size w w1 := below_chain (hB0') hb1
    have hz1 := hb1.size
    have hl1_0 : w.heap.size < w1.heap.size := by omega
    have hm1_0 : w.heap.size ≤ w1.heap.size := by omega
    have hl1_1 : w.heap.size + 1 < w1.heap.size := by omega
    have hm1_1 : w.heap.size + 1 ≤ w1.heap.size := by omega
    have hl1_2 : w.heap.size + 1 + 1 < w1.heap.size := by omega
    have hm1_2 : w.heap.size + 1 + 1 ≤ w1.heap.size := by omega
    have hl1_3 : w.heap.size + 1 + 1 + 1 < w1.heap.size := by omega
    have hm1_3 : w.heap.size + 1 + 1 + 1 ≤ w1.heap.size := by omega
    obtain ⟨hc1, hf1⟩ := bcell hb1
    clear hb1
    go_wp2_with fail
    have sc := two_ops (w := w1) (B := w.heap.size) (a := .int .i64 0) (b := .int .i64 0) (c := .string ⟨#[]⟩) (by go_simp) (by go_simp) (by go_simp) (.int .i64 3) (.int .i64 0) (.string ⟨#[]⟩)
    obtain ⟨sc0, sc1, sc2⟩ := sc
    refine bodyPost_ret (v := .agg #[.int .i64 3, .int .i64 0, .string ⟨#[]⟩]) (by simp [sc0, sc1, sc2, results, Try.results26, go_sem]) rfl ⟨by rw [HW.out]; rfl, ?_⟩
    exact (((hB1).setCell (by simp) _).setCell (by simp) _).setCell (by simp) _
  by_cases z3 : v = 0
  · subst z3
    have ek1 : (k1 == 0) = false := by simp; exact z1
    have fk1 : (k1 != 0) = true := by simp; exact z1
    have ek2 : (k2 == 0) = false := by simp; exact z2
    have fk2 : (k2 != 0) = true := by simp; exact z2
    have HW := Lib.hid (HV.out.symm.trans (show (Xp.bool _).go = (Xp.bool true).go by simp [z1, z2]))
    have HX := Lib.hid hx
    have HL := Lib.hid (show (!Xp.badIx ⟨6, ja, jb, col, ⟨ck, cn, cs⟩⟩ k) = true by unfold Xp.badIx Xp.lgl; simp [hja, hjb])
    obtain ⟨x0, x1, x2, x3, x4, x5, x6⟩ := hx
    simp only at x0 x1 x2 x3 x4 x5 x6
    obtain ⟨u0, u1, u2⟩ := hva
    simp only at u0 u1 u2
    obtain ⟨v0, v1, v2⟩ := hvb
    simp only at v0 v1 v2
    have h0 : (0 : Int) ≤ (k : Int) := by omega
    have h1 : (k : Int) < (n : Int) := by omega
    have h2ja : (0 : Int) ≤ (ja : Int) := by omega
    have h3ja : (ja : Int) < (dn : Int) := by omega
    have h2jb : (0 : Int) ≤ (jb : Int) := by omega
    have h3jb : (jb : Int) < (dn : Int) := by omega
    have hb1 : b < w.heap.size + 1 := by omega
    have hb2 : b < w.heap.size + 1 + 1 := by omega
    have hg1 : dg < w.heap.size + 1 := by omega
    have hg2 : dg < w.heap.size + 1 + 1 := by omega
    have hg3 : dg < w.heap.size + 1 + 1 + 1 := by omega
    have hB0 : Below w.heap.size w w := Below.refl _ _
    go_enter Try.func26, Try.ntmps26
    go_wp2_with fail
    refine (ropn_call _ 2 _ rfl).mono ?_
    rintro e1 w1 ⟨rfl, rfl⟩
    go_wp2_with fail
    refine (legal_call true b off n c k _ w _ hb (below_alloc (below_alloc (Below.refl _ _) _) _) hk hnc HX.out HL.out).mono ?_
    rintro e1 w1 ⟨rfl, rfl⟩
    go_wp2_with fail
    have hB0' : Below w.heap.size w ((((w.alloc (.cells #[.int .i64 0, .int .i64 0, .string ⟨#[]⟩] 34)).alloc (.cells #[.int .i64 6, .int .i64 ja, .int .i64 jb, .int .i64 col, .int .i64 ck, .int .i64 cn, .string cs] 44)).alloc (.cells #[.int .i64 k1, .int .i64 n1, .string s1] 34)).alloc (.cells #[.int .i64 k2, .int .i64 n2, .string s2] 34)) := below_alloc (below_alloc (below_alloc (below_alloc (Below.refl _ _) _) _) _) _
    have hn0 : ((((w.alloc (.cells #[.int .i64 0, .int .i64 0, .string ⟨#[]⟩] 34)).alloc (.cells #[.int .i64 6, .int .i64 ja, .int .i64 jb, .int .i64 col, .int .i64 ck, .int .i64 cn, .string cs] 44)).alloc (.cells #[.int .i64 k1, .int .i64 n1, .string s1] 34)).alloc (.cells #[.int .i64 k2, .int .i64 n2, .string s2] 34)).cell? ⟨w.heap.size, 0, none⟩ = some (.int .i64 0) := by go_simp
    have hn1 : ((((w.alloc (.cells #[.int .i64 0, .int .i64 0, .string ⟨#[]⟩] 34)).alloc (.cells #[.int .i64 6, .int .i64 ja, .int .i64 jb, .int .i64 col, .int .i64 ck, .int .i64 cn, .string cs] 44)).alloc (.cells #[.int .i64 k1, .int .i64 n1, .string s1] 34)).alloc (.cells #[.int .i64 k2, .int .i64 n2, .string s2] 34)).cell? ⟨w.heap.size, 1, none⟩ = some (.int .i64 0) := by go_simp
    have hn2 : ((((w.alloc (.cells #[.int .i64 0, .int .i64 0, .string ⟨#[]⟩] 34)).alloc (.cells #[.int .i64 6, .int .i64 ja, .int .i64 jb, .int .i64 col, .int .i64 ck, .int .i64 cn, .string cs] 44)).alloc (.cells #[.int .i64 k1, .int .i64 n1, .string s1] 34)).alloc (.cells #[.int .i64 k2, .int .i64 n2, .string s2] 34)).cell? ⟨w.heap.size, 2, none⟩ = some (.string ⟨#[]⟩) := by go_simp
    have hn3 : ((((w.alloc (.cells #[.int .i64 0, .int .i64 0, .string ⟨#[]⟩] 34)).alloc (.cells #[.int .i64 6, .int .i64 ja, .int .i64 jb, .int .i64 col, .int .i64 ck, .int .i64 cn, .string cs] 44)).alloc (.cells #[.int .i64 k1, .int .i64 n1, .string s1] 34)).alloc (.cells #[.int .i64 k2, .int .i64 n2, .string s2] 34)).cell? ⟨w.heap.size + 1, 0, none⟩ = some (.int .i64 6) := by go_simp
    have hn4 : ((((w.alloc (.cells #[.int .i64 0, .int .i64 0, .string ⟨#[]⟩] 34)).alloc (.cells #[.int .i64 6, .int .i64 ja, .int .i64 jb, .int .i64 col, .int .i64 ck, .int .i64 cn, .string cs] 44)).alloc (.cells #[.int .i64 k1, .int .i64 n1, .string s1] 34)).alloc (.cells #[.int .i64 k2, .int .i64 n2, .string s2] 34)).cell? ⟨w.heap.size + 1 + 1, 0, none⟩ = some (.int .i64 k1) := by go_simp
    have hn5 : ((((w.alloc (.cells #[.int .i64 0, .int .i64 0, .string ⟨#[]⟩] 34)).alloc (.cells #[.int .i64 6, .int .i64 ja, .int .i64 jb, .int .i64 col, .int .i64 ck, .int .i64 cn, .string cs] 44)).alloc (.cells #[.int .i64 k1, .int .i64 n1, .string s1] 34)).alloc (.cells #[.int .i64 k2, .int .i64 n2, .string s2] 34)).cell? ⟨w.heap.size + 1 + 1, 1, none⟩ = some (.int .i64 n1) := by go_simp
    have hn6 : ((((w.alloc (.cells #[.int .i64 0, .int .i64 0, .string ⟨#[]⟩] 34)).alloc (.cells #[.int .i64 6, .int .i64 ja, .int .i64 jb, .int .i64 col, .int .i64 ck, .int .i64 cn, .string cs] 44)).alloc (.cells #[.int .i64 k1, .int .i64 n1, .string s1] 34)).alloc (.cells #[.int .i64 k2, .int .i64 n2, .string s2] 34)).cell? ⟨w.heap.size + 1 + 1, 2, none⟩ = some (.string s1) := by go_simp
    have hn7 : ((((w.alloc (.cells #[.int .i64 0, .int .i64 0, .string ⟨#[]⟩] 34)).alloc (.cells #[.int .i64 6, .int .i64 ja, .int .i64 jb, .int .i64 col, .int .i64 ck, .int .i64 cn, .string cs] 44)).alloc (.cells #[.int .i64 k1, .int .i64 n1, .string s1] 34)).alloc (.cells #[.int .i64 k2, .int .i64 n2, .string s2] 34)).cell? ⟨w.heap.size + 1 + 1 + 1, 0, none⟩ = some (.int .i64 k2) := by go_simp
    have hn8 : ((((w.alloc (.cells #[.int .i64 0, .int .i64 0, .string ⟨#[]⟩] 34)).alloc (.cells #[.int .i64 6, .int .i64 ja, .int .i64 jb, .int .i64 col, .int .i64 ck, .int .i64 cn, .string cs] 44)).alloc (.cells #[.int .i64 k1, .int .i64 n1, .string s1] 34)).alloc (.cells #[.int .i64 k2, .int .i64 n2, .string s2] 34)).cell? ⟨w.heap.size + 1 + 1 + 1, 1, none⟩ = some (.int .i64 n2) := by go_simp
    have hn9 : ((((w.alloc (.cells #[.int .i64 0, .int .i64 0, .string ⟨#[]⟩] 34)).alloc (.cells #[.int .i64 6, .int .i64 ja, .int .i64 jb, .int .i64 col, .int .i64 ck, .int .i64 cn, .string cs] 44)).alloc (.cells #[.int .i64 k1, .int .i64 n1, .string s1] 34)).alloc (.cells #[.int .i64 k2, .int .i64 n2, .string s2] 34)).cell? ⟨w.heap.size + 1 + 1 + 1, 2, none⟩ = some (.string s2) := by go_simp
    have hnf0 : ((((w.alloc (.cells #[.int .i64 0, .int .i64 0, .string ⟨#[]⟩] 34)).alloc (.cells #[.int .i64 6, .int .i64 ja, .int .i64 jb, .int .i64 col, .int .i64 ck, .int .i64 cn, .string cs] 44)).alloc (.cells #[.int .i64 k1, .int .i64 n1, .string s1] 34)).alloc (.cells #[.int .i64 k2, .int .i64 n2, .string s2] 34)).frozen? ⟨w.heap.size, 0, none⟩ = false := by go_simp
    have hnf1 : ((((w.alloc (.cells #[.int .i64 0, .int .i64 0, .string ⟨#[]⟩] 34)).alloc (.cells #[.int .i64 6, .int .i64 ja, .int .i64 jb, .int .i64 col, .int .i64 ck, .int .i64 cn, .string cs] 44)).alloc (.cells #[.int .i64 k1, .int .i64 n1, .string s1] 34)).alloc (.cells #[.int .i64 k2, .int .i64 n2, .string s2] 34)).frozen? ⟨w.heap.size, 1, none⟩ = false := by go_simp
    have hnf2 : ((((w.alloc (.cells #[.int .i64 0, .int .i64 0, .string ⟨#[]⟩] 34)).alloc (.cells #[.int .i64 6, .int .i64 ja, .int .i64 jb, .int .i64 col, .int .i64 ck, .int .i64 cn, .string cs] 44)).alloc (.cells #[.int .i64 k1, .int .i64 n1, .string s1] 34)).alloc (.cells #[.int .i64 k2, .int .i64 n2, .string s2] 34)).frozen? ⟨w.heap.size, 2, none⟩ = false := by go_simp
    have hsz0 : ((((w.alloc (.cells #[.int .i64 0, .int .i64 0, .string ⟨#[]⟩] 34)).alloc (.cells #[.int .i64 6, .int .i64 ja, .int .i64 jb, .int .i64 col, .int .i64 ck, .int .i64 cn, .string cs] 44)).alloc (.cells #[.int .i64 k1, .int .i64 n1, .string s1] 34)).alloc (.cells #[.int .i64 k2, .int .i64 n2, .string s2] 34)).heap.size = w.heap.size + 4 := by simp only [World.size_alloc]
    generalize hw0 : ((((w.alloc (.cells #[.int .i64 0, .int .i64 0, .string ⟨#[]⟩] 34)).alloc (.cells #[.int .i64 6, .int .i64 ja, .int .i64 jb, .int .i64 col, .int .i64 ck, .int .i64 cn, .string cs] 44)).alloc (.cells #[.int .i64 k1, .int .i64 n1, .string s1] 34)).alloc (.cells #[.int .i64 k2, .int .i64 n2, .string s2] 34)) = w0 at *
    clear hw0
    have hq0 : w.heap.size < w0.heap.size := by omega
    have hr0 : w.heap.size ≤ w0.heap.size := by omega
    have hq1 : w.heap.size + 1 < w0.heap.size := by omega
    have hr1 : w.heap.size + 1 ≤ w0.heap.size := by omega
    have hq2 : w.heap.size + 1 + 1 < w0.heap.size := by omega
    have hr2 : w.heap.size + 1 + 1 ≤ w0.heap.size := by omega
    have hq3 : w.heap.size + 1 + 1 + 1 < w0.heap.size := by omega
    have hr3 : w.heap.size + 1 + 1 + 1 ≤ w0.heap.size := by omega
    clear hsz0
    refine (ref_cmp_call _ _ _ _ _ _ 0 _ HC.out).mono ?_
    rintro e w1 ⟨rfl, hb1⟩
    have hB1 : Below w.heap.size w w1 := below_chain (hB0') hb1
    have hz1 := hb1.size
    have hl1_0 : w.heap.size < w1.heap.size := by omega
    have hm1_0 : w.heap.size ≤ w1.heap.size := by omega
    have hl1_1 : w.heap.size + 1 < w1.heap.size := by omega
    have hm1_1 : w.heap.size + 1 ≤ w1.heap.size := by omega
    have hl1_2 : w.heap.size + 1 + 1 < w1.heap.size := by omega
    have hm1_2 : w.heap.size + 1 + 1 ≤ w1.heap.size := by omega
    have hl1_3 : w.heap.size + 1 + 1 + 1 < w1.heap.size := by omega
    have hm1_3 : w.heap.size + 1 + 1 + 1 ≤ w1.heap.size := by omega
    obtain ⟨hc1, hf1⟩ := bcell hb1
    clear hb1
    go_wp2_with fail
    refine (ref_bool_call true 1 _ rfl).mono ?_
    rintro e w2 ⟨rfl, hb2⟩
    have hB2 : Below w.heap.size w w2 := below_chain (hB1) hb2
    have hz2 := hb2.size
    have hl2_0 : w.heap.size < w2.heap.size := by omega
    have hm2_0 : w.heap.size ≤ w2.heap.size := by omega
    have hl2_1 : w.heap.size + 1 < w2.heap.size := by omega
    have hm2_1 : w.heap.size + 1 ≤ w2.heap.size := by omega
    have hl2_2 : w.heap.size + 1 + 1 < w2.heap.size := by omega
    have hm2_2 : w.heap.size + 1 + 1 ≤ w2.heap.size := by omega
    have hl2_3 : w.heap.size + 1 + 1 + 1 < w2.heap.size := by omega
    have hm2_3 : w.heap.size + 1 + 1 + 1 ≤ w2.heap.size := by omega
    obtain ⟨hc2, hf2⟩ := bcell hb2
    clear hb2
    go_wp2_with fail
    have sc := two_ops (w := w2) (B := w.heap.size) (a := .int .i64 0) (b := .int .i64 0) (c := .string ⟨#[]⟩) (by go_simp) (by go_simp) (by go_simp) (.int .i64 3) (.int .i64 1) (.string ⟨#[]⟩)
    obtain ⟨sc0, sc1, sc2⟩ := sc
    refine bodyPost_ret (v := .agg #[.int .i64 3, .int .i64 1, .string ⟨#[]⟩]) (by simp [sc0, sc1, sc2, results, Try.results26, go_sem]) rfl ⟨by rw [HW.out]; rfl, ?_⟩
    exact (((hB2).setCell (by simp) _).setCell (by simp) _).setCell (by simp) _
  · have ek1 : (k1 == 0) = false := by simp; exact z1
    have fk1 : (k1 != 0) = true := by simp; exact z1
    have ek2 : (k2 == 0) = false := by simp; exact z2
    have fk2 : (k2 != 0) = true := by simp; exact z2
    have ev : (v == 0) = false := by simp; exact z3
    have fv : (v != 0) = true := by simp; exact z3
    have HW := Lib.hid (HV.out.symm.trans (show (Xp.bool _).go = (Xp.bool false).go by simp [z3]))
    have HX := Lib.hid hx
    have HL := Lib.hid (show (!Xp.badIx ⟨6, ja, jb, col, ⟨ck, cn, cs⟩⟩ k) = true by unfold Xp.badIx Xp.lgl; simp [hja, hjb])
    obtain ⟨x0, x1, x2, x3, x4, x5, x6⟩ := hx
    simp only at x0 x1 x2 x3 x4 x5 x6
    obtain ⟨u0, u1, u2⟩ := hva
    simp only at u0 u1 u2
    obtain ⟨v0, v1, v2⟩ := hvb
    simp only at v0 v1 v2
    have h0 : (0 : Int) ≤ (k : Int) := by omega
    have h1 : (k : Int) < (n : Int) := by omega
    have h2ja : (0 : Int) ≤ (ja : Int) := by omega
    have h3ja : (ja : Int) < (dn : Int) := by omega
    have h2jb : (0 : Int) ≤ (jb : Int) := by omega
    have h3jb : (jb : Int) < (dn : Int) := by omega
    have hb1 : b < w.heap.size + 1 := by omega
    have hb2 : b < w.heap.size + 1 + 1 := by omega
    have hg1 : dg < w.heap.size + 1 := by omega
    have hg2 : dg < w.heap.size + 1 + 1 := by omega
    have hg3 : dg < w.heap.size + 1 + 1 + 1 := by omega
    have hB0 : Below w.heap.size w w := Below.refl _ _
    go_enter Try.func26, Try.ntmps26
    go_wp2_with fail
    refine (ropn_call _ 2 _ rfl).mono ?_
    rintro e1 w1 ⟨rfl, rfl⟩
    go_wp2_with fail
    refine (legal_call true b off n c k _ w _ hb (below_alloc (below_alloc (Below.refl _ _) _) _) hk hnc HX.out HL.out).mono ?_
    rintro e1 w1 ⟨rfl, rfl⟩
    go_wp2_with fail
    have hB0' : Below w.heap.size w ((((w.alloc (.cells #[.int .i64 0, .int .i64 0, .string ⟨#[]⟩] 34)).alloc (.cells #[.int .i64 6, .int .i64 ja, .int .i64 jb, .int .i64 col, .int .i64 ck, .int .i64 cn, .string cs] 44)).alloc (.cells #[.int .i64 k1, .int .i64 n1, .string s1] 34)).alloc (.cells #[.int .i64 k2, .int .i64 n2, .string s2] 34)) := below_alloc (below_alloc (below_alloc (below_alloc (Below.refl _ _) _) _) _) _
    have hn0 : ((((w.alloc (.cells #[.int .i64 0, .int .i64 0, .string ⟨#[]⟩] 34)).alloc (.cells #[.int .i64 6, .int .i64 ja, .int .i64 jb, .int .i64 col, .int .i64 ck, .int .i64 cn, .string cs] 44)).alloc (.cells #[.int .i64 k1, .int .i64 n1, .string s1] 34)).alloc (.cells #[.int .i64 k2, .int .i64 n2, .string s2] 34)).cell? ⟨w.heap.size, 0, none⟩ = some (.int .i64 0) := by go_simp
    have hn1 : ((((w.alloc (.cells #[.int .i64 0, .int .i64 0, .string ⟨#[]⟩] 34)).alloc (.cells #[.int .i64 6, .int .i64 ja, .int .i64 jb, .int .i64 col, .int .i64 ck, .int .i64 cn, .string cs] 44)).alloc (.cells #[.int .i64 k1, .int .i64 n1, .string s1] 34)).alloc (.cells #[.int .i64 k2, .int .i64 n2, .string s2] 34)).cell? ⟨w.heap.size, 1, none⟩ = some (.int .i64 0) := by go_simp
    have hn2 : ((((w.alloc (.cells #[.int .i64 0, .int .i64 0, .string ⟨#[]⟩] 34)).alloc (.cells #[.int .i64 6, .int .i64 ja, .int .i64 jb, .int .i64 col, .int .i64 ck, .int .i64 cn, .string cs] 44)).alloc (.cells #[.int .i64 k1, .int .i64 n1, .string s1] 34)).alloc (.cells #[.int .i64 k2, .int .i64 n2, .string s2] 34)).cell? ⟨w.heap.size, 2, none⟩ = some (.string ⟨#[]⟩) := by go_simp
    have hn3 : ((((w.alloc (.cells #[.int .i64 0, .int .i64 0, .string ⟨#[]⟩] 34)).alloc (.cells #[.int .i64 6, .int .i64 ja, .int .i64 jb, .int .i64 col, .int .i64 ck, .int .i64 cn, .string cs] 44)).alloc (.cells #[.int .i64 k1, .int .i64 n1, .string s1] 34)).alloc (.cells #[.int .i64 k2, .int .i64 n2, .string s2] 34)).cell? ⟨w.heap.size + 1, 0, none⟩ = some (.int .i64 6) := by go_simp
    have hn4 : ((((w.alloc (.cells #[.int .i64 0, .int .i64 0, .string ⟨#[]⟩] 34)).alloc (.cells #[.int .i64 6, .int .i64 ja, .int .i64 jb, .int .i64 col, .int .i64 ck, .int .i64 cn, .string cs] 44)).alloc (.cells #[.int .i64 k1, .int .i64 n1, .string s1] 34)).alloc (.cells #[.int .i64 k2, .int .i64 n2, .string s2] 34)).cell? ⟨w.heap.size + 1 + 1, 0, none⟩ = some (.int .i64 k1) := by go_simp
    have hn5 : ((((w.alloc (.cells #[.int .i64 0, .int .i64 0, .string ⟨#[]⟩] 34)).alloc (.cells #[.int .i64 6, .int .i64 ja, .int .i64 jb, .int .i64 col, .int .i64 ck, .int .i64 cn, .string cs] 44)).alloc (.cells #[.int .i64 k1, .int .i64 n1, .string s1] 34)).alloc (.cells #[.int .i64 k2, .int .i64 n2, .string s2] 34)).cell? ⟨w.heap.size + 1 + 1, 1, none⟩ = some (.int .i64 n1) := by go_simp
    have hn6 : ((((w.alloc (.cells #[.int .i64 0, .int .i64 0, .string ⟨#[]⟩] 34)).alloc (.cells #[.int .i64 6, .int .i64 ja, .int .i64 jb, .int .i64 col, .int .i64 ck, .int .i64 cn, .string cs] 44)).alloc (.cells #[.int .i64 k1, .int .i64 n1, .string s1] 34)).alloc (.cells #[.int .i64 k2, .int .i64 n2, .string s2] 34)).cell? ⟨w.heap.size + 1 + 1, 2, none⟩ = some (.string s1) := by go_simp
    have hn7 : ((((w.alloc (.cells #[.int .i64 0, .int .i64 0, .string ⟨#[]⟩] 34)).alloc (.cells #[.int .i64 6, .int .i64 ja, .int .i64 jb, .int .i64 col, .int .i64 ck, .int .i64 cn, .string cs] 44)).alloc (.cells #[.int .i64 k1, .int .i64 n1, .string s1] 34)).alloc (.cells #[.int .i64 k2, .int .i64 n2, .string s2] 34)).cell? ⟨w.heap.size + 1 + 1 + 1, 0, none⟩ = some (.int .i64 k2) := by go_simp
    have hn8 : ((((w.alloc (.cells #[.int .i64 0, .int .i64 0, .string ⟨#[]⟩] 34)).alloc (.cells #[.int .i64 6, .int .i64 ja, .int .i64 jb, .int .i64 col, .int .i64 ck, .int .i64 cn, .string cs] 44)).alloc (.cells #[.int .i64 k1, .int .i64 n1, .string s1] 34)).alloc (.cells #[.int .i64 k2, .int .i64 n2, .string s2] 34)).cell? ⟨w.heap.size + 1 + 1 + 1, 1, none⟩ = some (.int .i64 n2) := by go_simp
    have hn9 : ((((w.alloc (.cells #[.int .i64 0, .int .i64 0, .string ⟨#[]⟩] 34)).alloc (.cells #[.int .i64 6, .int .i64 ja, .int .i64 jb, .int .i64 col, .int .i64 ck, .int .i64 cn, .string cs] 44)).alloc (.cells #[.int .i64 k1, .int .i64 n1, .string s1] 34)).alloc (.cells #[.int .i64 k2, .int .i64 n2, .string s2] 34)).cell? ⟨w.heap.size + 1 + 1 + 1, 2, none⟩ = some (.string s2) := by go_simp
    have hnf0 : ((((w.alloc (.cells #[.int .i64 0, .int .i64 0, .string ⟨#[]⟩] 34)).alloc (.cells #[.int .i64 6, .int .i64 ja, .int .i64 jb, .int .i64 col, .int .i64 ck, .int .i64 cn, .string cs] 44)).alloc (.cells #[.int .i64 k1, .int .i64 n1, .string s1] 34)).alloc (.cells #[.int .i64 k2, .int .i64 n2, .string s2] 34)).frozen? ⟨w.heap.size, 0, none⟩ = false := by go_simp
    have hnf1 : ((((w.alloc (.cells #[.int .i64 0, .int .i64 0, .string ⟨#[]⟩] 34)).alloc (.cells #[.int .i64 6, .int .i64 ja, .int .i64 jb, .int .i64 col, .int .i64 ck, .int .i64 cn, .string cs] 44)).alloc (.cells #[.int .i64 k1, .int .i64 n1, .string s1] 34)).alloc (.cells #[.int .i64 k2, .int .i64 n2, .string s2] 34)).frozen? ⟨w.heap.size, 1, none⟩ = false := by go_simp
    have hnf2 : ((((w.alloc (.cells #[.int .i64 0, .int .i64 0, .string ⟨#[]⟩] 34)).alloc (.cells #[.int .i64 6, .int .i64 ja, .int .i64 jb, .int .i64 col, .int .i64 ck, .int .i64 cn, .string cs] 44)).alloc (.cells #[.int .i64 k1, .int .i64 n1, .string s1] 34)).alloc (.cells #[.int .i64 k2, .int .i64 n2, .string s2] 34)).frozen? ⟨w.heap.size, 2, none⟩ = false := by go_simp
    have hsz0 : ((((w.alloc (.cells #[.int .i64 0, .int .i64 0, .string ⟨#[]⟩] 34)).alloc (.cells #[.int .i64 6, .int .i64 ja, .int .i64 jb, .int .i64 col, .int .i64 ck, .int .i64 cn, .string cs] 44)).alloc (.cells #[.int .i64 k1, .int .i64 n1, .string s1] 34)).alloc (.cells #[.int .i64 k2, .int .i64 n2, .string s2] 34)).heap.size = w.heap.size + 4 := by simp only [World.size_alloc]
    generalize hw0 : ((((w.alloc (.cells #[.int .i64 0, .int .i64 0, .string ⟨#[]⟩] 34)).alloc (.cells #[.int .i64 6, .int .i64 ja, .int .i64 jb, .int .i64 col, .int .i64 ck, .int .i64 cn, .string cs] 44)).alloc (.cells #[.int .i64 k1, .int .i64 n1, .string s1] 34)).alloc (.cells #[.int .i64 k2, .int .i64 n2, .string s2] 34)) = w0 at *
    clear hw0
    have hq0 : w.heap.size < w0.heap.size := by omega
    have hr0 : w.heap.size ≤ w0.heap.size := by omega
    have hq1 : w.heap.size + 1 < w0.heap.size := by omega
    have hr1 : w.heap.size + 1 ≤ w0.heap.size := by omega
    have hq2 : w.heap.size + 1 + 1 < w0.heap.size := by omega
    have hr2 : w.heap.size + 1 + 1 ≤ w0.heap.size := by omega
    have hq3 : w.heap.size + 1 + 1 + 1 < w0.heap.size := by omega
    have hr3 : w.heap.size + 1 + 1 + 1 ≤ w0.heap.size := by omega
    clear hsz0
    refine (ref_cmp_call _ _ _ _ _ _ v _ HC.out).mono ?_
    rintro e w1 ⟨rfl, hb1⟩
    have hB1 : Below w.heap.size w w1 := below_chain (hB0') hb1
    have hz1 := hb1.size
    have hl1_0 : w.heap.size < w1.heap.size := by omega
    have hm1_0 : w.heap.size ≤ w1.heap.size := by omega
    have hl1_1 : w.heap.size + 1 < w1.heap.size := by omega
    have hm1_1 : w.heap.size + 1 ≤ w1.heap.size := by omega
    have hl1_2 : w.heap.size + 1 + 1 < w1.heap.size := by omega
    have hm1_2 : w.heap.size + 1 + 1 ≤ w1.heap.size := by omega
    have hl1_3 : w.heap.size + 1 + 1 + 1 < w1.heap.size := by omega
    have hm1_3 : w.heap.size + 1 + 1 + 1 ≤ w1.heap.size := by omega
    obtain ⟨hc1, hf1⟩ := bcell hb1
    clear hb1
    go_wp2_with fail
    refine (ref_bool_call false 0 _ rfl).mono ?_
    rintro e w2 ⟨rfl, hb2⟩
    have hB2 : Below w.heap.size w w2 := below_chain (hB1) hb2
    have hz2 := hb2.size
    have hl2_0 : w.heap.size < w2.heap.size := by omega
    have hm2_0 : w.heap.size ≤ w2.heap.size := by omega
    have hl2_1 : w.heap.size + 1 < w2.heap.size := by omega
    have hm2_1 : w.heap.size + 1 ≤ w2.heap.size := by omega
    have hl2_2 : w.heap.size + 1 + 1 < w2.heap.size := by omega
    have hm2_2 : w.heap.size + 1 + 1 ≤ w2.heap.size := by omega
    have hl2_3 : w.heap.size + 1 + 1 + 1 < w2.heap.size := by omega
    have hm2_3 : w.heap.size + 1 + 1 + 1 ≤ w2.heap.size := by omega
    obtain ⟨hc2, hf2⟩ := bcell hb2
    clear hb2
    go_wp2_with fail
    have sc := two_ops (w := w2) (B := w.heap.size) (a := .int .i64 0) (b := .int .i64 0) (c := .string ⟨#[]⟩) (by go_simp) (by go_simp) (by go_simp) (.int .i64 3) (.int .i64 0) (.string ⟨#[]⟩)
    obtain ⟨sc0, sc1, sc2⟩ := sc
    refine bodyPost_ret (v := .agg #[.int .i64 3, .int .i64 0, .string ⟨#[]⟩]) (by simp [sc0, sc1, sc2, results, Try.results26, go_sem]) rfl ⟨by rw [HW.out]; rfl, ?_⟩
    exact (((hB2).setCell (by simp) _).setCell (by simp) _).setCell (by simp) _


set_option maxRecDepth 100000 in
set_option maxHeartbeats 2000000 in
theorem reval_less (col ck cn : Int) (cs : ByteArray) (k1 n1 : Int) (s1 : ByteArray) (k2 n2 : Int) (s2 : ByteArray) (b off n c k dg dn dc ja jb : Nat) (rv : Value) (w : World) (hb : b < w.heap.size) (hg : dg < w.heap.size) (hk : k < n) (hnc : n ≤ 100000) (hdn : k < dn) (hja : ja < k) (hjb : jb < k)
    (hx : ExAt w b (off + k * 7) ⟨7, ja, jb, col, ⟨ck, cn, cs⟩⟩) (hva : VlAt w dg (ja * 3) ⟨k1, n1, s1⟩) (hvb : VlAt w dg (jb * 3) ⟨k2, n2, s2⟩) :
    Calls Try.prog 26 #[.slice (some ⟨b, off, none⟩) n c, .int .i64 k, rv, .slice (some ⟨dg, 0, none⟩) dn dc] w fun e' w' => e' = .returned ((Xp.bool (decide (k1 ≠ 0) && (decide (k1 = k2) && decide (Xp.vcmp ⟨k1, n1, s1⟩ ⟨k2, n2, s2⟩ < 0)))).go) ∧ Below w.heap.size w w' := by
  obtain ⟨v, hv⟩ : ∃ v, Xp.vcmp ⟨k1, n1, s1⟩ ⟨k2, n2, s2⟩ = v := ⟨_, rfl⟩
  rw [hv]
  have HC := Lib.hid hv
  clear hv
  generalize hV : (Xp.bool _).go = V
  have HV := Lib.hid hV
  clear hV
  by_cases z1 : k1 = 0
  · subst z1
    have HW := Lib.hid (HV.out.symm.trans (show (Xp.bool _).go = (Xp.bool false).go by simp))
    have HX := Lib.hid hx
    have HL := Lib.hid (show (!Xp.badIx ⟨7, ja, jb, col, ⟨ck, cn, cs⟩⟩ k) = true by unfold Xp.badIx Xp.lgl; simp [hja, hjb])
    obtain ⟨x0, x1, x2, x3, x4, x5, x6⟩ := hx
    simp only at x0 x1 x2 x3 x4 x5 x6
    obtain ⟨u0, u1, u2⟩ := hva
    simp only at u0 u1 u2
    obtain ⟨v0, v1, v2⟩ := hvb
    simp only at v0 v1 v2
    have h0 : (0 : Int) ≤ (k : Int) := by omega
    have h1 : (k : Int) < (n : Int) := by omega
    have h2ja : (0 : Int) ≤ (ja : Int) := by omega
    have h3ja : (ja : Int) < (dn : Int) := by omega
    have h2jb : (0 : Int) ≤ (jb : Int) := by omega
    have h3jb : (jb : Int) < (dn : Int) := by omega
    have hb1 : b < w.heap.size + 1 := by omega
    have hb2 : b < w.heap.size + 1 + 1 := by omega
    have hg1 : dg < w.heap.size + 1 := by omega
    have hg2 : dg < w.heap.size + 1 + 1 := by omega
    have hg3 : dg < w.heap.size + 1 + 1 + 1 := by omega
    have hB0 : Below w.heap.size w w := Below.refl _ _
    go_enter Try.func26, Try.ntmps26
    go_wp2_with fail
    refine (ropn_call _ 2 _ rfl).mono ?_
    rintro e1 w1 ⟨rfl, rfl⟩
    go_wp2_with fail
    refine (legal_call true b off n c k _ w _ hb (below_alloc (below_alloc (Below.refl _ _) _) _) hk hnc HX.out HL.out).mono ?_
    rintro e1 w1 ⟨rfl, rfl⟩
    go_wp2_with fail
    have hB0' : Below w.heap.size w ((((w.alloc (.cells #[.int .i64 0, .int .i64 0, .string ⟨#[]⟩] 34)).alloc (.cells #[.int .i64 7, .int .i64 ja, .int .i64 jb, .int .i64 col, .int .i64 ck, .int .i64 cn, .string cs] 44)).alloc (.cells #[.int .i64 0, .int .i64 n1, .string s1] 34)).alloc (.cells #[.int .i64 k2, .int .i64 n2, .string s2] 34)) := below_alloc (below_alloc (below_alloc (below_alloc (Below.refl _ _) _) _) _) _
    have hn0 : ((((w.alloc (.cells #[.int .i64 0, .int .i64 0, .string ⟨#[]⟩] 34)).alloc (.cells #[.int .i64 7, .int .i64 ja, .int .i64 jb, .int .i64 col, .int .i64 ck, .int .i64 cn, .string cs] 44)).alloc (.cells #[.int .i64 0, .int .i64 n1, .string s1] 34)).alloc (.cells #[.int .i64 k2, .int .i64 n2, .string s2] 34)).cell? ⟨w.heap.size, 0, none⟩ = some (.int .i64 0) := by go_simp
    have hn1 : ((((w.alloc (.cells #[.int .i64 0, .int .i64 0, .string ⟨#[]⟩] 34)).alloc (.cells #[.int .i64 7, .int .i64 ja, .int .i64 jb, .int .i64 col, .int .i64 ck, .int .i64 cn, .string cs] 44)).alloc (.cells #[.int .i64 0, .int .i64 n1, .string s1] 34)).alloc (.cells #[.int .i64 k2, .int .i64 n2, .string s2] 34)).cell? ⟨w.heap.size, 1, none⟩ = some (.int .i64 0) := by go_simp
    have hn2 : ((((w.alloc (.cells #[.int .i64 0, .int .i64 0, .string ⟨#[]⟩] 34)).alloc (.cells #[.int .i64 7, .int .i64 ja, .int .i64 jb, .int .i64 col, .int .i64 ck, .int .i64 cn, .string cs] 44)).alloc (.cells #[.int .i64 0, .int .i64 n1, .string s1] 34)).alloc (.cells #[.int .i64 k2, .int .i64 n2, .string s2] 34)).cell? ⟨w.heap.size, 2, none⟩ = some (.string ⟨#[]⟩) := by go_simp
    have hn3 : ((((w.alloc (.cells #[.int .i64 0, .int .i64 0, .string ⟨#[]⟩] 34)).alloc (.cells #[.int .i64 7, .int .i64 ja, .int .i64 jb, .int .i64 col, .int .i64 ck, .int .i64 cn, .string cs] 44)).alloc (.cells #[.int .i64 0, .int .i64 n1, .string s1] 34)).alloc (.cells #[.int .i64 k2, .int .i64 n2, .string s2] 34)).cell? ⟨w.heap.size + 1, 0, none⟩ = some (.int .i64 7) := by go_simp
    have hn4 : ((((w.alloc (.cells #[.int .i64 0, .int .i64 0, .string ⟨#[]⟩] 34)).alloc (.cells #[.int .i64 7, .int .i64 ja, .int .i64 jb, .int .i64 col, .int .i64 ck, .int .i64 cn, .string cs] 44)).alloc (.cells #[.int .i64 0, .int .i64 n1, .string s1] 34)).alloc (.cells #[.int .i64 k2, .int .i64 n2, .string s2] 34)).cell? ⟨w.heap.size + 1 + 1, 0, none⟩ = some (.int .i64 0) := by go_simp
    have hn5 : ((((w.alloc (.cells #[.int .i64 0, .int .i64 0, .string ⟨#[]⟩] 34)).alloc (.cells #[.int .i64 7, .int .i64 ja, .int .i64 jb, .int .i64 col, .int .i64 ck, .int .i64 cn, .string cs] 44)).alloc (.cells #[.int .i64 0, .int .i64 n1, .string s1] 34)).alloc (.cells #[.int .i64 k2, .int .i64 n2, .string s2] 34)).cell? ⟨w.heap.size + 1 + 1, 1, none⟩ = some (.int .i64 n1) := by go_simp
    have hn6 : ((((w.alloc (.cells #[.int .i64 0, .int .i64 0, .string ⟨#[]⟩] 34)).alloc (.cells #[.int .i64 7, .int .i64 ja, .int .i64 jb, .int .i64 col, .int .i64 ck, .int .i64 cn, .string cs] 44)).alloc (.cells #[.int .i64 0, .int .i64 n1, .string s1] 34)).alloc (.cells #[.int .i64 k2, .int .i64 n2, .string s2] 34)).cell? ⟨w.heap.size + 1 + 1, 2, none⟩ = some (.string s1) := by go_simp
    have hn7 : ((((w.alloc (.cells #[.int .i64 0, .int .i64 0, .string ⟨#[]⟩] 34)).alloc (.cells #[.int .i64 7, .int .i64 ja, .int .i64 jb, .int .i64 col, .int .i64 ck, .int .i64 cn, .string cs] 44)).alloc (.cells #[.int .i64 0, .int .i64 n1, .string s1] 34)).alloc (.cells #[.int .i64 k2, .int .i64 n2, .string s2] 34)).cell? ⟨w.heap.size + 1 + 1 + 1, 0, none⟩ = some (.int .i64 k2) := by go_simp
    have hn8 : ((((w.alloc (.cells #[.int .i64 0, .int .i64 0, .string ⟨#[]⟩] 34)).alloc (.cells #[.int .i64 7, .int .i64 ja, .int .i64 jb, .int .i64 col, .int .i64 ck, .int .i64 cn, .string cs] 44)).alloc (.cells #[.int .i64 0, .int .i64 n1, .string s1] 34)).alloc (.cells #[.int .i64 k2, .int .i64 n2, .string s2] 34)).cell? ⟨w.heap.size + 1 + 1 + 1, 1, none⟩ = some (.int .i64 n2) := by go_simp
    have hn9 : ((((w.alloc (.cells #[.int .i64 0, .int .i64 0, .string ⟨#[]⟩] 34)).alloc (.cells #[.int .i64 7, .int .i64 ja, .int .i64 jb, .int .i64 col, .int .i64 ck, .int .i64 cn, .string cs] 44)).alloc (.cells #[.int .i64 0, .int .i64 n1, .string s1] 34)).alloc (.cells #[.int .i64 k2, .int .i64 n2, .string s2] 34)).cell? ⟨w.heap.size + 1 + 1 + 1, 2, none⟩ = some (.string s2) := by go_simp
    have hnf0 : ((((w.alloc (.cells #[.int .i64 0, .int .i64 0, .string ⟨#[]⟩] 34)).alloc (.cells #[.int .i64 7, .int .i64 ja, .int .i64 jb, .int .i64 col, .int .i64 ck, .int .i64 cn, .string cs] 44)).alloc (.cells #[.int .i64 0, .int .i64 n1, .string s1] 34)).alloc (.cells #[.int .i64 k2, .int .i64 n2, .string s2] 34)).frozen? ⟨w.heap.size, 0, none⟩ = false := by go_simp
    have hnf1 : ((((w.alloc (.cells #[.int .i64 0, .int .i64 0, .string ⟨#[]⟩] 34)).alloc (.cells #[.int .i64 7, .int .i64 ja, .int .i64 jb, .int .i64 col, .int .i64 ck, .int .i64 cn, .string cs] 44)).alloc (.cells #[.int .i64 0, .int .i64 n1, .string s1] 34)).alloc (.cells #[.int .i64 k2, .int .i64 n2, .string s2] 34)).frozen? ⟨w.heap.size, 1, none⟩ = false := by go_simp
    have hnf2 : ((((w.alloc (.cells #[.int .i64 0, .int .i64 0, .string ⟨#[]⟩] 34)).alloc (.cells #[.int .i64 7, .int .i64 ja, .int .i64 jb, .int .i64 col, .int .i64 ck, .int .i64 cn, .string cs] 44)).alloc (.cells #[.int .i64 0, .int .i64 n1, .string s1] 34)).alloc (.cells #[.int .i64 k2, .int .i64 n2, .string s2] 34)).frozen? ⟨w.heap.size, 2, none⟩ = false := by go_simp
    have hsz0 : ((((w.alloc (.cells #[.int .i64 0, .int .i64 0, .string ⟨#[]⟩] 34)).alloc (.cells #[.int .i64 7, .int .i64 ja, .int .i64 jb, .int .i64 col, .int .i64 ck, .int .i64 cn, .string cs] 44)).alloc (.cells #[.int .i64 0, .int .i64 n1, .string s1] 34)).alloc (.cells #[.int .i64 k2, .int .i64 n2, .string s2] 34)).heap.size = w.heap.size + 4 := by simp only [World.size_alloc]
    generalize hw0 : ((((w.alloc (.cells #[.int .i64 0, .int .i64 0, .string ⟨#[]⟩] 34)).alloc (.cells #[.int .i64 7, .int .i64 ja, .int .i64 jb, .int .i64 col, .int .i64 ck, .int .i64 cn, .string cs] 44)).alloc (.cells #[.int .i64 0, .int .i64 n1, .string s1] 34)).alloc (.cells #[.int .i64 k2, .int .i64 n2, .string s2] 34)) = w0 at *
    clear hw0
    have hq0 : w.heap.size < w0.heap.size := by omega
    have hr0 : w.heap.size ≤ w0.heap.size := by omega
    have hq1 : w.heap.size + 1 < w0.heap.size := by omega
    have hr1 : w.heap.size + 1 ≤ w0.heap.size := by omega
    have hq2 : w.heap.size + 1 + 1 < w0.heap.size := by omega
    have hr2 : w.heap.size + 1 + 1 ≤ w0.heap.size := by omega
    have hq3 : w.heap.size + 1 + 1 + 1 < w0.heap.size := by omega
    have hr3 : w.heap.size + 1 + 1 + 1 ≤ w0.heap.size := by omega
    clear hsz0
    refine (ref_bool_call false 0 _ rfl).mono ?_
    rintro e w1 ⟨rfl, hb1⟩
    have hB1 : Below w.heap.size w w1 := below_chain (hB0') hb1
    have hz1 := hb1.size
    have hl1_0 : w.heap.size < w1.heap.size := by omega
    have hm1_0 : w.heap.size ≤ w1.heap.size := by omega
    have hl1_1 : w.heap.size + 1 < w1.heap.size := by omega
    have hm1_1 : w.heap.size + 1 ≤ w1.heap.size := by omega
    have hl1_2 : w.heap.size + 1 + 1 < w1.heap.size := by omega
    have hm1_2 : w.heap.size + 1 + 1 ≤ w1.heap.size := by omega
    have hl1_3 : w.heap.size + 1 + 1 + 1 < w1.heap.size := by omega
    have hm1_3 : w.heap.size + 1 + 1 + 1 ≤ w1.heap.size := by omega
    obtain ⟨hc1, hf1⟩ := bcell hb1
    clear hb1
    go_wp2_with fail
    have sc := two_ops (w := w1) (B := w.heap.size) (a := .int .i64 0) (b := .int .i64 0) (c := .string ⟨#[]⟩) (by go_simp) (by go_simp) (by go_simp) (.int .i64 3) (.int .i64 0) (.string ⟨#[]⟩)
    obtain ⟨sc0, sc1, sc2⟩ := sc
    refine bodyPost_ret (v := .agg #[.int .i64 3, .int .i64 0, .string ⟨#[]⟩]) (by simp [sc0, sc1, sc2, results, Try.results26, go_sem]) rfl ⟨by rw [HW.out]; rfl, ?_⟩
    exact (((hB1).setCell (by simp) _).setCell (by simp) _).setCell (by simp) _
  by_cases z2 : k1 = k2
  case neg =>
    have ek1 : (k1 == 0) = false := by simp; exact z1
    have fk1 : (k1 != 0) = true := by simp; exact z1
    have hkk : (k1 == k2) = false := by simp; exact z2
    have HW := Lib.hid (HV.out.symm.trans (show (Xp.bool _).go = (Xp.bool false).go by simp [z2]))
    have HX := Lib.hid hx
    have HL := Lib.hid (show (!Xp.badIx ⟨7, ja, jb, col, ⟨ck, cn, cs⟩⟩ k) = true by unfold Xp.badIx Xp.lgl; simp [hja, hjb])
    obtain ⟨x0, x1, x2, x3, x4, x5, x6⟩ := hx
    simp only at x0 x1 x2 x3 x4 x5 x6
    obtain ⟨u0, u1, u2⟩ := hva
    simp only at u0 u1 u2
    obtain ⟨v0, v1, v2⟩ := hvb
    simp only at v0 v1 v2
    have h0 : (0 : Int) ≤ (k : Int) := by omega
    have h1 : (k : Int) < (n : Int) := by omega
    have h2ja : (0 : Int) ≤ (ja : Int) := by omega
    have h3ja : (ja : Int) < (dn : Int) := by omega
    have h2jb : (0 : Int) ≤ (jb : Int) := by omega
    have h3jb : (jb : Int) < (dn : Int) := by omega
    have hb1 : b < w.heap.size + 1 := by omega
    have hb2 : b < w.heap.size + 1 + 1 := by omega
    have hg1 : dg < w.heap.size + 1 := by omega
    have hg2 : dg < w.heap.size + 1 + 1 := by omega
    have hg3 : dg < w.heap.size + 1 + 1 + 1 := by omega
    have hB0 : Below w.heap.size w w := Below.refl _ _
    go_enter Try.func26, Try.ntmps26
    go_wp2_with fail
    refine (ropn_call _ 2 _ rfl).mono ?_
    rintro e1 w1 ⟨rfl, rfl⟩
    go_wp2_with fail
    refine (legal_call true b off n c k _ w _ hb (below_alloc (below_alloc (Below.refl _ _) _) _) hk hnc HX.out HL.out).mono ?_
    rintro e1 w1 ⟨rfl, rfl⟩
    go_wp2_with fail
    have hB0' : Below w.heap.size w ((((w.alloc (.cells #[.int .i64 0, .int .i64 0, .string ⟨#[]⟩] 34)).alloc (.cells #[.int .i64 7, .int .i64 ja, .int .i64 jb, .int .i64 col, .int .i64 ck, .int .i64 cn, .string cs] 44)).alloc (.cells #[.int .i64 k1, .int .i64 n1, .string s1] 34)).alloc (.cells #[.int .i64 k2, .int .i64 n2, .string s2] 34)) := below_alloc (below_alloc (below_alloc (below_alloc (Below.refl _ _) _) _) _) _
    have hn0 : ((((w.alloc (.cells #[.int .i64 0, .int .i64 0, .string ⟨#[]⟩] 34)).alloc (.cells #[.int .i64 7, .int .i64 ja, .int .i64 jb, .int .i64 col, .int .i64 ck, .int .i64 cn, .string cs] 44)).alloc (.cells #[.int .i64 k1, .int .i64 n1, .string s1] 34)).alloc (.cells #[.int .i64 k2, .int .i64 n2, .string s2] 34)).cell? ⟨w.heap.size, 0, none⟩ = some (.int .i64 0) := by go_simp
    have hn1 : ((((w.alloc (.cells #[.int .i64 0, .int .i64 0, .string ⟨#[]⟩] 34)).alloc (.cells #[.int .i64 7, .int .i64 ja, .int .i64 jb, .int .i64 col, .int .i64 ck, .int .i64 cn, .string cs] 44)).alloc (.cells #[.int .i64 k1, .int .i64 n1, .string s1] 34)).alloc (.cells #[.int .i64 k2, .int .i64 n2, .string s2] 34)).cell? ⟨w.heap.size, 1, none⟩ = some (.int .i64 0) := by go_simp
    have hn2 : ((((w.alloc (.cells #[.int .i64 0, .int .i64 0, .string ⟨#[]⟩] 34)).alloc (.cells #[.int .i64 7, .int .i64 ja, .int .i64 jb, .int .i64 col, .int .i64 ck, .int .i64 cn, .string cs] 44)).alloc (.cells #[.int .i64 k1, .int .i64 n1, .string s1] 34)).alloc (.cells #[.int .i64 k2, .int .i64 n2, .string s2] 34)).cell? ⟨w.heap.size, 2, none⟩ = some (.string ⟨#[]⟩) := by go_simp
    have hn3 : ((((w.alloc (.cells #[.int .i64 0, .int .i64 0, .string ⟨#[]⟩] 34)).alloc (.cells #[.int .i64 7, .int .i64 ja, .int .i64 jb, .int .i64 col, .int .i64 ck, .int .i64 cn, .string cs] 44)).alloc (.cells #[.int .i64 k1, .int .i64 n1, .string s1] 34)).alloc (.cells #[.int .i64 k2, .int .i64 n2, .string s2] 34)).cell? ⟨w.heap.size + 1, 0, none⟩ = some (.int .i64 7) := by go_simp
    have hn4 : ((((w.alloc (.cells #[.int .i64 0, .int .i64 0, .string ⟨#[]⟩] 34)).alloc (.cells #[.int .i64 7, .int .i64 ja, .int .i64 jb, .int .i64 col, .int .i64 ck, .int .i64 cn, .string cs] 44)).alloc (.cells #[.int .i64 k1, .int .i64 n1, .string s1] 34)).alloc (.cells #[.int .i64 k2, .int .i64 n2, .string s2] 34)).cell? ⟨w.heap.size + 1 + 1, 0, none⟩ = some (.int .i64 k1) := by go_simp
    have hn5 : ((((w.alloc (.cells #[.int .i64 0, .int .i64 0, .string ⟨#[]⟩] 34)).alloc (.cells #[.int .i64 7, .int .i64 ja, .int .i64 jb, .int .i64 col, .int .i64 ck, .int .i64 cn, .string cs] 44)).alloc (.cells #[.int .i64 k1, .int .i64 n1, .string s1] 34)).alloc (.cells #[.int .i64 k2, .int .i64 n2, .string s2] 34)).cell? ⟨w.heap.size + 1 + 1, 1, none⟩ = some (.int .i64 n1) := by go_simp
    have hn6 : ((((w.alloc (.cells #[.int .i64 0, .int .i64 0, .string ⟨#[]⟩] 34)).alloc (.cells #[.int .i64 7, .int .i64 ja, .int .i64 jb, .int .i64 col, .int .i64 ck, .int .i64 cn, .string cs] 44)).alloc (.cells #[.int .i64 k1, .int .i64 n1, .string s1] 34)).alloc (.cells #[.int .i64 k2, .int .i64 n2, .string s2] 34)).cell? ⟨w.heap.size + 1 + 1, 2, none⟩ = some (.string s1) := by go_simp
    have hn7 : ((((w.alloc (.cells #[.int .i64 0, .int .i64 0, .string ⟨#[]⟩] 34)).alloc (.cells #[.int .i64 7, .int .i64 ja, .int .i64 jb, .int .i64 col, .int .i64 ck, .int .i64 cn, .string cs] 44)).alloc (.cells #[.int .i64 k1, .int .i64 n1, .string s1] 34)).alloc (.cells #[.int .i64 k2, .int .i64 n2, .string s2] 34)).cell? ⟨w.heap.size + 1 + 1 + 1, 0, none⟩ = some (.int .i64 k2) := by go_simp
    have hn8 : ((((w.alloc (.cells #[.int .i64 0, .int .i64 0, .string ⟨#[]⟩] 34)).alloc (.cells #[.int .i64 7, .int .i64 ja, .int .i64 jb, .int .i64 col, .int .i64 ck, .int .i64 cn, .string cs] 44)).alloc (.cells #[.int .i64 k1, .int .i64 n1, .string s1] 34)).alloc (.cells #[.int .i64 k2, .int .i64 n2, .string s2] 34)).cell? ⟨w.heap.size + 1 + 1 + 1, 1, none⟩ = some (.int .i64 n2) := by go_simp
    have hn9 : ((((w.alloc (.cells #[.int .i64 0, .int .i64 0, .string ⟨#[]⟩] 34)).alloc (.cells #[.int .i64 7, .int .i64 ja, .int .i64 jb, .int .i64 col, .int .i64 ck, .int .i64 cn, .string cs] 44)).alloc (.cells #[.int .i64 k1, .int .i64 n1, .string s1] 34)).alloc (.cells #[.int .i64 k2, .int .i64 n2, .string s2] 34)).cell? ⟨w.heap.size + 1 + 1 + 1, 2, none⟩ = some (.string s2) := by go_simp
    have hnf0 : ((((w.alloc (.cells #[.int .i64 0, .int .i64 0, .string ⟨#[]⟩] 34)).alloc (.cells #[.int .i64 7, .int .i64 ja, .int .i64 jb, .int .i64 col, .int .i64 ck, .int .i64 cn, .string cs] 44)).alloc (.cells #[.int .i64 k1, .int .i64 n1, .string s1] 34)).alloc (.cells #[.int .i64 k2, .int .i64 n2, .string s2] 34)).frozen? ⟨w.heap.size, 0, none⟩ = false := by go_simp
    have hnf1 : ((((w.alloc (.cells #[.int .i64 0, .int .i64 0, .string ⟨#[]⟩] 34)).alloc (.cells #[.int .i64 7, .int .i64 ja, .int .i64 jb, .int .i64 col, .int .i64 ck, .int .i64 cn, .string cs] 44)).alloc (.cells #[.int .i64 k1, .int .i64 n1, .string s1] 34)).alloc (.cells #[.int .i64 k2, .int .i64 n2, .string s2] 34)).frozen? ⟨w.heap.size, 1, none⟩ = false := by go_simp
    have hnf2 : ((((w.alloc (.cells #[.int .i64 0, .int .i64 0, .string ⟨#[]⟩] 34)).alloc (.cells #[.int .i64 7, .int .i64 ja, .int .i64 jb, .int .i64 col, .int .i64 ck, .int .i64 cn, .string cs] 44)).alloc (.cells #[.int .i64 k1, .int .i64 n1, .string s1] 34)).alloc (.cells #[.int .i64 k2, .int .i64 n2, .string s2] 34)).frozen? ⟨w.heap.size, 2, none⟩ = false := by go_simp
    have hsz0 : ((((w.alloc (.cells #[.int .i64 0, .int .i64 0, .string ⟨#[]⟩] 34)).alloc (.cells #[.int .i64 7, .int .i64 ja, .int .i64 jb, .int .i64 col, .int .i64 ck, .int .i64 cn, .string cs] 44)).alloc (.cells #[.int .i64 k1, .int .i64 n1, .string s1] 34)).alloc (.cells #[.int .i64 k2, .int .i64 n2, .string s2] 34)).heap.size = w.heap.size + 4 := by simp only [World.size_alloc]
    generalize hw0 : ((((w.alloc (.cells #[.int .i64 0, .int .i64 0, .string ⟨#[]⟩] 34)).alloc (.cells #[.int .i64 7, .int .i64 ja, .int .i64 jb, .int .i64 col, .int .i64 ck, .int .i64 cn, .string cs] 44)).alloc (.cells #[.int .i64 k1, .int .i64 n1, .string s1] 34)).alloc (.cells #[.int .i64 k2, .int .i64 n2, .string s2] 34)) = w0 at *
    clear hw0
    have hq0 : w.heap.size < w0.heap.size := by omega
    have hr0 : w.heap.size ≤ w0.heap.size := by omega
    have hq1 : w.heap.size + 1 < w0.heap.size := by omega
    have hr1 : w.heap.size + 1 ≤ w0.heap.size := by omega
    have hq2 : w.heap.size + 1 + 1 < w0.heap.size := by omega
    have hr2 : w.heap.size + 1 + 1 ≤ w0.heap.size := by omega
    have hq3 : w.heap.size + 1 + 1 + 1 < w0.heap.size := by omega
    have hr3 : w.heap.size + 1 + 1 + 1 ≤ w0.heap.size := by omega
    clear hsz0
    refine (ref_bool_call false 0 _ rfl).mono ?_
    rintro e w1 ⟨rfl, hb1⟩
    have hB1 : Below w.heap.size w w1 := below_chain (hB0') hb1
    have hz1 := hb1.size
    have hl1_0 : w.heap.size < w1.heap.size := by omega
    have hm1_0 : w.heap.size ≤ w1.heap.size := by omega
    have hl1_1 : w.heap.size + 1 < w1.heap.size := by omega
    have hm1_1 : w.heap.size + 1 ≤ w1.heap.size := by omega
    have hl1_2 : w.heap.size + 1 + 1 < w1.heap.size := by omega
    have hm1_2 : w.heap.size + 1 + 1 ≤ w1.heap.size := by omega
    have hl1_3 : w.heap.size + 1 + 1 + 1 < w1.heap.size := by omega
    have hm1_3 : w.heap.size + 1 + 1 + 1 ≤ w1.heap.size := by omega
    obtain ⟨hc1, hf1⟩ := bcell hb1
    clear hb1
    go_wp2_with fail
    have sc := two_ops (w := w1) (B := w.heap.size) (a := .int .i64 0) (b := .int .i64 0) (c := .string ⟨#[]⟩) (by go_simp) (by go_simp) (by go_simp) (.int .i64 3) (.int .i64 0) (.string ⟨#[]⟩)
    obtain ⟨sc0, sc1, sc2⟩ := sc
    refine bodyPost_ret (v := .agg #[.int .i64 3, .int .i64 0, .string ⟨#[]⟩]) (by simp [sc0, sc1, sc2, results, Try.results26, go_sem]) rfl ⟨by rw [HW.out]; rfl, ?_⟩
    exact (((hB1).setCell (by simp) _).setCell (by simp) _).setCell (by simp) _
  subst z2
  by_cases z3 : v < 0
  · have ek1 : (k1 == 0) = false := by simp; exact z1
    have fk1 : (k1 != 0) = true := by simp; exact z1
    have hd : decide (v < 0) = true := by simp; exact z3
    have HW := Lib.hid (HV.out.symm.trans (show (Xp.bool _).go = (Xp.bool true).go by simp [z1, z3]))
    have HX := Lib.hid hx
    have HL := Lib.hid (show (!Xp.badIx ⟨7, ja, jb, col, ⟨ck, cn, cs⟩⟩ k) = true by unfold Xp.badIx Xp.lgl; simp [hja, hjb])
    obtain ⟨x0, x1, x2, x3, x4, x5, x6⟩ := hx
    simp only at x0 x1 x2 x3 x4 x5 x6
    obtain ⟨u0, u1, u2⟩ := hva
    simp only at u0 u1 u2
    obtain ⟨v0, v1, v2⟩ := hvb
    simp only at v0 v1 v2
    have h0 : (0 : Int) ≤ (k : Int) := by omega
    have h1 : (k : Int) < (n : Int) := by omega
    have h2ja : (0 : Int) ≤ (ja : Int) := by omega
    have h3ja : (ja : Int) < (dn : Int) := by omega
    have h2jb : (0 : Int) ≤ (jb : Int) := by omega
    have h3jb : (jb : Int) < (dn : Int) := by omega
    have hb1 : b < w.heap.size + 1 := by omega
    have hb2 : b < w.heap.size + 1 + 1 := by omega
    have hg1 : dg < w.heap.size + 1 := by omega
    have hg2 : dg < w.heap.size + 1 + 1 := by omega
    have hg3 : dg < w.heap.size + 1 + 1 + 1 := by omega
    have hB0 : Below w.heap.size w w := Below.refl _ _
    go_enter Try.func26, Try.ntmps26
    go_wp2_with fail
    refine (ropn_call _ 2 _ rfl).mono ?_
    rintro e1 w1 ⟨rfl, rfl⟩
    go_wp2_with fail
    refine (legal_call true b off n c k _ w _ hb (below_alloc (below_alloc (Below.refl _ _) _) _) hk hnc HX.out HL.out).mono ?_
    rintro e1 w1 ⟨rfl, rfl⟩
    go_wp2_with fail
    have hB0' : Below w.heap.size w ((((w.alloc (.cells #[.int .i64 0, .int .i64 0, .string ⟨#[]⟩] 34)).alloc (.cells #[.int .i64 7, .int .i64 ja, .int .i64 jb, .int .i64 col, .int .i64 ck, .int .i64 cn, .string cs] 44)).alloc (.cells #[.int .i64 k1, .int .i64 n1, .string s1] 34)).alloc (.cells #[.int .i64 k1, .int .i64 n2, .string s2] 34)) := below_alloc (below_alloc (below_alloc (below_alloc (Below.refl _ _) _) _) _) _
    have hn0 : ((((w.alloc (.cells #[.int .i64 0, .int .i64 0, .string ⟨#[]⟩] 34)).alloc (.cells #[.int .i64 7, .int .i64 ja, .int .i64 jb, .int .i64 col, .int .i64 ck, .int .i64 cn, .string cs] 44)).alloc (.cells #[.int .i64 k1, .int .i64 n1, .string s1] 34)).alloc (.cells #[.int .i64 k1, .int .i64 n2, .string s2] 34)).cell? ⟨w.heap.size, 0, none⟩ = some (.int .i64 0) := by go_simp
    have hn1 : ((((w.alloc (.cells #[.int .i64 0, .int .i64 0, .string ⟨#[]⟩] 34)).alloc (.cells #[.int .i64 7, .int .i64 ja, .int .i64 jb, .int .i64 col, .int .i64 ck, .int .i64 cn, .string cs] 44)).alloc (.cells #[.int .i64 k1, .int .i64 n1, .string s1] 34)).alloc (.cells #[.int .i64 k1, .int .i64 n2, .string s2] 34)).cell? ⟨w.heap.size, 1, none⟩ = some (.int .i64 0) := by go_simp
    have hn2 : ((((w.alloc (.cells #[.int .i64 0, .int .i64 0, .string ⟨#[]⟩] 34)).alloc (.cells #[.int .i64 7, .int .i64 ja, .int .i64 jb, .int .i64 col, .int .i64 ck, .int .i64 cn, .string cs] 44)).alloc (.cells #[.int .i64 k1, .int .i64 n1, .string s1] 34)).alloc (.cells #[.int .i64 k1, .int .i64 n2, .string s2] 34)).cell? ⟨w.heap.size, 2, none⟩ = some (.string ⟨#[]⟩) := by go_simp
    have hn3 : ((((w.alloc (.cells #[.int .i64 0, .int .i64 0, .string ⟨#[]⟩] 34)).alloc (.cells #[.int .i64 7, .int .i64 ja, .int .i64 jb, .int .i64 col, .int .i64 ck, .int .i64 cn, .string cs] 44)).alloc (.cells #[.int .i64 k1, .int .i64 n1, .string s1] 34)).alloc (.cells #[.int .i64 k1, .int .i64 n2, .string s2] 34)).cell? ⟨w.heap.size + 1, 0, none⟩ = some (.int .i64 7) := by go_simp
    have hn4 : ((((w.alloc (.cells #[.int .i64 0, .int .i64 0, .string ⟨#[]⟩] 34)).alloc (.cells #[.int .i64 7, .int .i64 ja, .int .i64 jb, .int .i64 col, .int .i64 ck, .int .i64 cn, .string cs] 44)).alloc (.cells #[.int .i64 k1, .int .i64 n1, .string s1] 34)).alloc (.cells #[.int .i64 k1, .int .i64 n2, .string s2] 34)).cell? ⟨w.heap.size + 1 + 1, 0, none⟩ = some (.int .i64 k1) := by go_simp
    have hn5 : ((((w.alloc (.cells #[.int .i64 0, .int .i64 0, .string ⟨#[]⟩] 34)).alloc (.cells #[.int .i64 7, .int .i64 ja, .int .i64 jb, .int .i64 col, .int .i64 ck, .int .i64 cn, .string cs] 44)).alloc (.cells #[.int .i64 k1, .int .i64 n1, .string s1] 34)).alloc (.cells #[.int .i64 k1, .int .i64 n2, .string s2] 34)).cell? ⟨w.heap.size + 1 + 1, 1, none⟩ = some (.int .i64 n1) := by go_simp
    have hn6 : ((((w.alloc (.cells #[.int .i64 0, .int .i64 0, .string ⟨#[]⟩] 34)).alloc (.cells #[.int .i64 7, .int .i64 ja, .int .i64 jb, .int .i64 col, .int .i64 ck, .int .i64 cn, .string cs] 44)).alloc (.cells #[.int .i64 k1, .int .i64 n1, .string s1] 34)).alloc (.cells #[.int .i64 k1, .int .i64 n2, .string s2] 34)).cell? ⟨w.heap.size + 1 + 1, 2, none⟩ = some (.string s1) := by go_simp
    have hn7 : ((((w.alloc (.cells #[.int .i64 0, .int .i64 0, .string ⟨#[]⟩] 34)).alloc (.cells #[.int .i64 7, .int .i64 ja, .int .i64 jb, .int .i64 col, .int .i64 ck, .int .i64 cn, .string cs] 44)).alloc (.cells #[.int .i64 k1, .int .i64 n1, .string s1] 34)).alloc (.cells #[.int .i64 k1, .int .i64 n2, .string s2] 34)).cell? ⟨w.heap.size + 1 + 1 + 1, 0, none⟩ = some (.int .i64 k1) := by go_simp
    have hn8 : ((((w.alloc (.cells #[.int .i64 0, .int .i64 0, .string ⟨#[]⟩] 34)).alloc (.cells #[.int .i64 7, .int .i64 ja, .int .i64 jb, .int .i64 col, .int .i64 ck, .int .i64 cn, .string cs] 44)).alloc (.cells #[.int .i64 k1, .int .i64 n1, .string s1] 34)).alloc (.cells #[.int .i64 k1, .int .i64 n2, .string s2] 34)).cell? ⟨w.heap.size + 1 + 1 + 1, 1, none⟩ = some (.int .i64 n2) := by go_simp
    have hn9 : ((((w.alloc (.cells #[.int .i64 0, .int .i64 0, .string ⟨#[]⟩] 34)).alloc (.cells #[.int .i64 7, .int .i64 ja, .int .i64 jb, .int .i64 col, .int .i64 ck, .int .i64 cn, .string cs] 44)).alloc (.cells #[.int .i64 k1, .int .i64 n1, .string s1] 34)).alloc (.cells #[.int .i64 k1, .int .i64 n2, .string s2] 34)).cell? ⟨w.heap.size + 1 + 1 + 1, 2, none⟩ = some (.string s2) := by go_simp
    have hnf0 : ((((w.alloc (.cells #[.int .i64 0, .int .i64 0, .string ⟨#[]⟩] 34)).alloc (.cells #[.int .i64 7, .int .i64 ja, .int .i64 jb, .int .i64 col, .int .i64 ck, .int .i64 cn, .string cs] 44)).alloc (.cells #[.int .i64 k1, .int .i64 n1, .string s1] 34)).alloc (.cells #[.int .i64 k1, .int .i64 n2, .string s2] 34)).frozen? ⟨w.heap.size, 0, none⟩ = false := by go_simp
    have hnf1 : ((((w.alloc (.cells #[.int .i64 0, .int .i64 0, .string ⟨#[]⟩] 34)).alloc (.cells #[.int .i64 7, .int .i64 ja, .int .i64 jb, .int .i64 col, .int .i64 ck, .int .i64 cn, .string cs] 44)).alloc (.cells #[.int .i64 k1, .int .i64 n1, .string s1] 34)).alloc (.cells #[.int .i64 k1, .int .i64 n2, .string s2] 34)).frozen? ⟨w.heap.size, 1, none⟩ = false := by go_simp
    have hnf2 : ((((w.alloc (.cells #[.int .i64 0, .int .i64 0, .string ⟨#[]⟩] 34)).alloc (.cells #[.int .i64 7, .int .i64 ja, .int .i64 jb, .int .i64 col, .int .i64 ck, .int .i64 cn, .string cs] 44)).alloc (.cells #[.int .i64 k1, .int .i64 n1, .string s1] 34)).alloc (.cells #[.int .i64 k1, .int .i64 n2, .string s2] 34)).frozen? ⟨w.heap.size, 2, none⟩ = false := by go_simp
    have hsz0 : ((((w.alloc (.cells #[.int .i64 0, .int .i64 0, .string ⟨#[]⟩] 34)).alloc (.cells #[.int .i64 7, .int .i64 ja, .int .i64 jb, .int .i64 col, .int .i64 ck, .int .i64 cn, .string cs] 44)).alloc (.cells #[.int .i64 k1, .int .i64 n1, .string s1] 34)).alloc (.cells #[.int .i64 k1, .int .i64 n2, .string s2] 34)).heap.size = w.heap.size + 4 := by simp only [World.size_alloc]
    generalize hw0 : ((((w.alloc (.cells #[.int .i64 0, .int .i64 0, .string ⟨#[]⟩] 34)).alloc (.cells #[.int .i64 7, .int .i64 ja, .int .i64 jb, .int .i64 col, .int .i64 ck, .int .i64 cn, .string cs] 44)).alloc (.cells #[.int .i64 k1, .int .i64 n1, .string s1] 34)).alloc (.cells #[.int .i64 k1, .int .i64 n2, .string s2] 34)) = w0 at *
    clear hw0
    have hq0 : w.heap.size < w0.heap.size := by omega
    have hr0 : w.heap.size ≤ w0.heap.size := by omega
    have hq1 : w.heap.size + 1 < w0.heap.size := by omega
    have hr1 : w.heap.size + 1 ≤ w0.heap.size := by omega
    have hq2 : w.heap.size + 1 + 1 < w0.heap.size := by omega
    have hr2 : w.heap.size + 1 + 1 ≤ w0.heap.size := by omega
    have hq3 : w.heap.size + 1 + 1 + 1 < w0.heap.size := by omega
    have hr3 : w.heap.size + 1 + 1 + 1 ≤ w0.heap.size := by omega
    clear hsz0
    refine (ref_cmp_call _ _ _ _ _ _ v _ HC.out).mono ?_
    rintro e w1 ⟨rfl, hb1⟩
    have hB1 : Below w.heap.size w w1 := below_chain (hB0') hb1
    have hz1 := hb1.size
    have hl1_0 : w.heap.size < w1.heap.size := by omega
    have hm1_0 : w.heap.size ≤ w1.heap.size := by omega
    have hl1_1 : w.heap.size + 1 < w1.heap.size := by omega
    have hm1_1 : w.heap.size + 1 ≤ w1.heap.size := by omega
    have hl1_2 : w.heap.size + 1 + 1 < w1.heap.size := by omega
    have hm1_2 : w.heap.size + 1 + 1 ≤ w1.heap.size := by omega
    have hl1_3 : w.heap.size + 1 + 1 + 1 < w1.heap.size := by omega
    have hm1_3 : w.heap.size + 1 + 1 + 1 ≤ w1.heap.size := by omega
    obtain ⟨hc1, hf1⟩ := bcell hb1
    clear hb1
    go_wp2_with fail
    refine (ref_bool_call true 1 _ rfl).mono ?_
    rintro e w2 ⟨rfl, hb2⟩
    have hB2 : Below w.heap.size w w2 := below_chain (hB1) hb2
    have hz2 := hb2.size
    have hl2_0 : w.heap.size < w2.heap.size := by omega
    have hm2_0 : w.heap.size ≤ w2.heap.size := by omega
    have hl2_1 : w.heap.size + 1 < w2.heap.size := by omega
    have hm2_1 : w.heap.size + 1 ≤ w2.heap.size := by omega
    have hl2_2 : w.heap.size + 1 + 1 < w2.heap.size := by omega
    have hm2_2 : w.heap.size + 1 + 1 ≤ w2.heap.size := by omega
    have hl2_3 : w.heap.size + 1 + 1 + 1 < w2.heap.size := by omega
    have hm2_3 : w.heap.size + 1 + 1 + 1 ≤ w2.heap.size := by omega
    obtain ⟨hc2, hf2⟩ := bcell hb2
    clear hb2
    go_wp2_with fail
    have sc := two_ops (w := w2) (B := w.heap.size) (a := .int .i64 0) (b := .int .i64 0) (c := .string ⟨#[]⟩) (by go_simp) (by go_simp) (by go_simp) (.int .i64 3) (.int .i64 1) (.string ⟨#[]⟩)
    obtain ⟨sc0, sc1, sc2⟩ := sc
    refine bodyPost_ret (v := .agg #[.int .i64 3, .int .i64 1, .string ⟨#[]⟩]) (by simp [sc0, sc1, sc2, results, Try.results26, go_sem]) rfl ⟨by rw [HW.out]; rfl, ?_⟩
    exact (((hB2).setCell (by simp) _).setCell (by simp) _).setCell (by simp) _
  · have ek1 : (k1 == 0) = false := by simp; exact z1
    have fk1 : (k1 != 0) = true := by simp; exact z1
    have hd : decide (v < 0) = false := by simp; omega
    have HW := Lib.hid (HV.out.symm.trans (show (Xp.bool _).go = (Xp.bool false).go by rw [hd]; simp))
    have HX := Lib.hid hx
    have HL := Lib.hid (show (!Xp.badIx ⟨7, ja, jb, col, ⟨ck, cn, cs⟩⟩ k) = true by unfold Xp.badIx Xp.lgl; simp [hja, hjb])
    obtain ⟨x0, x1, x2, x3, x4, x5, x6⟩ := hx
    simp only at x0 x1 x2 x3 x4 x5 x6
    obtain ⟨u0, u1, u2⟩ := hva
    simp only at u0 u1 u2
    obtain ⟨v0, v1, v2⟩ := hvb
    simp only at v0 v1 v2
    have h0 : (0 : Int) ≤ (k : Int) := by omega
    have h1 : (k : Int) < (n : Int) := by omega
    have h2ja : (0 : Int) ≤ (ja : Int) := by omega
    have h3ja : (ja : Int) < (dn : Int) := by omega
    have h2jb : (0 : Int) ≤ (jb : Int) := by omega
    have h3jb : (jb : Int) < (dn : Int) := by omega
    have hb1 : b < w.heap.size + 1 := by omega
    have hb2 : b < w.heap.size + 1 + 1 := by omega
    have hg1 : dg < w.heap.size + 1 := by omega
    have hg2 : dg < w.heap.size + 1 + 1 := by omega
    have hg3 : dg < w.heap.size + 1 + 1 + 1 := by omega
    have hB0 : Below w.heap.size w w := Below.refl _ _
    go_enter Try.func26, Try.ntmps26
    go_wp2_with fail
    refine (ropn_call _ 2 _ rfl).mono ?_
    rintro e1 w1 ⟨rfl, rfl⟩
    go_wp2_with fail
    refine (legal_call true b off n c k _ w _ hb (below_alloc (below_alloc (Below.refl _ _) _) _) hk hnc HX.out HL.out).mono ?_
    rintro e1 w1 ⟨rfl, rfl⟩
    go_wp2_with fail
    have hB0' : Below w.heap.size w ((((w.alloc (.cells #[.int .i64 0, .int .i64 0, .string ⟨#[]⟩] 34)).alloc (.cells #[.int .i64 7, .int .i64 ja, .int .i64 jb, .int .i64 col, .int .i64 ck, .int .i64 cn, .string cs] 44)).alloc (.cells #[.int .i64 k1, .int .i64 n1, .string s1] 34)).alloc (.cells #[.int .i64 k1, .int .i64 n2, .string s2] 34)) := below_alloc (below_alloc (below_alloc (below_alloc (Below.refl _ _) _) _) _) _
    have hn0 : ((((w.alloc (.cells #[.int .i64 0, .int .i64 0, .string ⟨#[]⟩] 34)).alloc (.cells #[.int .i64 7, .int .i64 ja, .int .i64 jb, .int .i64 col, .int .i64 ck, .int .i64 cn, .string cs] 44)).alloc (.cells #[.int .i64 k1, .int .i64 n1, .string s1] 34)).alloc (.cells #[.int .i64 k1, .int .i64 n2, .string s2] 34)).cell? ⟨w.heap.size, 0, none⟩ = some (.int .i64 0) := by go_simp
    have hn1 : ((((w.alloc (.cells #[.int .i64 0, .int .i64 0, .string ⟨#[]⟩] 34)).alloc (.cells #[.int .i64 7, .int .i64 ja, .int .i64 jb, .int .i64 col, .int .i64 ck, .int .i64 cn, .string cs] 44)).alloc (.cells #[.int .i64 k1, .int .i64 n1, .string s1] 34)).alloc (.cells #[.int .i64 k1, .int .i64 n2, .string s2] 34)).cell? ⟨w.heap.size, 1, none⟩ = some (.int .i64 0) := by go_simp
    have hn2 : ((((w.alloc (.cells #[.int .i64 0, .int .i64 0, .string ⟨#[]⟩] 34)).alloc (.cells #[.int .i64 7, .int .i64 ja, .int .i64 jb, .int .i64 col, .int .i64 ck, .int .i64 cn, .string cs] 44)).alloc (.cells #[.int .i64 k1, .int .i64 n1, .string s1] 34)).alloc (.cells #[.int .i64 k1, .int .i64 n2, .string s2] 34)).cell? ⟨w.heap.size, 2, none⟩ = some (.string ⟨#[]⟩) := by go_simp
    have hn3 : ((((w.alloc (.cells #[.int .i64 0, .int .i64 0, .string ⟨#[]⟩] 34)).alloc (.cells #[.int .i64 7, .int .i64 ja, .int .i64 jb, .int .i64 col, .int .i64 ck, .int .i64 cn, .string cs] 44)).alloc (.cells #[.int .i64 k1, .int .i64 n1, .string s1] 34)).alloc (.cells #[.int .i64 k1, .int .i64 n2, .string s2] 34)).cell? ⟨w.heap.size + 1, 0, none⟩ = some (.int .i64 7) := by go_simp
    have hn4 : ((((w.alloc (.cells #[.int .i64 0, .int .i64 0, .string ⟨#[]⟩] 34)).alloc (.cells #[.int .i64 7, .int .i64 ja, .int .i64 jb, .int .i64 col, .int .i64 ck, .int .i64 cn, .string cs] 44)).alloc (.cells #[.int .i64 k1, .int .i64 n1, .string s1] 34)).alloc (.cells #[.int .i64 k1, .int .i64 n2, .string s2] 34)).cell? ⟨w.heap.size + 1 + 1, 0, none⟩ = some (.int .i64 k1) := by go_simp
    have hn5 : ((((w.alloc (.cells #[.int .i64 0, .int .i64 0, .string ⟨#[]⟩] 34)).alloc (.cells #[.int .i64 7, .int .i64 ja, .int .i64 jb, .int .i64 col, .int .i64 ck, .int .i64 cn, .string cs] 44)).alloc (.cells #[.int .i64 k1, .int .i64 n1, .string s1] 34)).alloc (.cells #[.int .i64 k1, .int .i64 n2, .string s2] 34)).cell? ⟨w.heap.size + 1 + 1, 1, none⟩ = some (.int .i64 n1) := by go_simp
    have hn6 : ((((w.alloc (.cells #[.int .i64 0, .int .i64 0, .string ⟨#[]⟩] 34)).alloc (.cells #[.int .i64 7, .int .i64 ja, .int .i64 jb, .int .i64 col, .int .i64 ck, .int .i64 cn, .string cs] 44)).alloc (.cells #[.int .i64 k1, .int .i64 n1, .string s1] 34)).alloc (.cells #[.int .i64 k1, .int .i64 n2, .string s2] 34)).cell? ⟨w.heap.size + 1 + 1, 2, none⟩ = some (.string s1) := by go_simp
    have hn7 : ((((w.alloc (.cells #[.int .i64 0, .int .i64 0, .string ⟨#[]⟩] 34)).alloc (.cells #[.int .i64 7, .int .i64 ja, .int .i64 jb, .int .i64 col, .int .i64 ck, .int .i64 cn, .string cs] 44)).alloc (.cells #[.int .i64 k1, .int .i64 n1, .string s1] 34)).alloc (.cells #[.int .i64 k1, .int .i64 n2, .string s2] 34)).cell? ⟨w.heap.size + 1 + 1 + 1, 0, none⟩ = some (.int .i64 k1) := by go_simp
    have hn8 : ((((w.alloc (.cells #[.int .i64 0, .int .i64 0, .string ⟨#[]⟩] 34)).alloc (.cells #[.int .i64 7, .int .i64 ja, .int .i64 jb, .int .i64 col, .int .i64 ck, .int .i64 cn, .string cs] 44)).alloc (.cells #[.int .i64 k1, .int .i64 n1, .string s1] 34)).alloc (.cells #[.int .i64 k1, .int .i64 n2, .string s2] 34)).cell? ⟨w.heap.size + 1 + 1 + 1, 1, none⟩ = some (.int .i64 n2) := by go_simp
    have hn9 : ((((w.alloc (.cells #[.int .i64 0, .int .i64 0, .string ⟨#[]⟩] 34)).alloc (.cells #[.int .i64 7, .int .i64 ja, .int .i64 jb, .int .i64 col, .int .i64 ck, .int .i64 cn, .string cs] 44)).alloc (.cells #[.int .i64 k1, .int .i64 n1, .string s1] 34)).alloc (.cells #[.int .i64 k1, .int .i64 n2, .string s2] 34)).cell? ⟨w.heap.size + 1 + 1 + 1, 2, none⟩ = some (.string s2) := by go_simp
    have hnf0 : ((((w.alloc (.cells #[.int .i64 0, .int .i64 0, .string ⟨#[]⟩] 34)).alloc (.cells #[.int .i64 7, .int .i64 ja, .int .i64 jb, .int .i64 col, .int .i64 ck, .int .i64 cn, .string cs] 44)).alloc (.cells #[.int .i64 k1, .int .i64 n1, .string s1] 34)).alloc (.cells #[.int .i64 k1, .int .i64 n2, .string s2] 34)).frozen? ⟨w.heap.size, 0, none⟩ = false := by go_simp
    have hnf1 : ((((w.alloc (.cells #[.int .i64 0, .int .i64 0, .string ⟨#[]⟩] 34)).alloc (.cells #[.int .i64 7, .int .i64 ja, .int .i64 jb, .int .i64 col, .int .i64 ck, .int .i64 cn, .string cs] 44)).alloc (.cells #[.int .i64 k1, .int .i64 n1, .string s1] 34)).alloc (.cells #[.int .i64 k1, .int .i64 n2, .string s2] 34)).frozen? ⟨w.heap.size, 1, none⟩ = false := by go_simp
    have hnf2 : ((((w.alloc (.cells #[.int .i64 0, .int .i64 0, .string ⟨#[]⟩] 34)).alloc (.cells #[.int .i64 7, .int .i64 ja, .int .i64 jb, .int .i64 col, .int .i64 ck, .int .i64 cn, .string cs] 44)).alloc (.cells #[.int .i64 k1, .int .i64 n1, .string s1] 34)).alloc (.cells #[.int .i64 k1, .int .i64 n2, .string s2] 34)).frozen? ⟨w.heap.size, 2, none⟩ = false := by go_simp
    have hsz0 : ((((w.alloc (.cells #[.int .i64 0, .int .i64 0, .string ⟨#[]⟩] 34)).alloc (.cells #[.int .i64 7, .int .i64 ja, .int .i64 jb, .int .i64 col, .int .i64 ck, .int .i64 cn, .string cs] 44)).alloc (.cells #[.int .i64 k1, .int .i64 n1, .string s1] 34)).alloc (.cells #[.int .i64 k1, .int .i64 n2, .string s2] 34)).heap.size = w.heap.size + 4 := by simp only [World.size_alloc]
    generalize hw0 : ((((w.alloc (.cells #[.int .i64 0, .int .i64 0, .string ⟨#[]⟩] 34)).alloc (.cells #[.int .i64 7, .int .i64 ja, .int .i64 jb, .int .i64 col, .int .i64 ck, .int .i64 cn, .string cs] 44)).alloc (.cells #[.int .i64 k1, .int .i64 n1, .string s1] 34)).alloc (.cells #[.int .i64 k1, .int .i64 n2, .string s2] 34)) = w0 at *
    clear hw0
    have hq0 : w.heap.size < w0.heap.size := by omega
    have hr0 : w.heap.size ≤ w0.heap.size := by omega
    have hq1 : w.heap.size + 1 < w0.heap.size := by omega
    have hr1 : w.heap.size + 1 ≤ w0.heap.size := by omega
    have hq2 : w.heap.size + 1 + 1 < w0.heap.size := by omega
    have hr2 : w.heap.size + 1 + 1 ≤ w0.heap.size := by omega
    have hq3 : w.heap.size + 1 + 1 + 1 < w0.heap.size := by omega
    have hr3 : w.heap.size + 1 + 1 + 1 ≤ w0.heap.size := by omega
    clear hsz0
    refine (ref_cmp_call _ _ _ _ _ _ v _ HC.out).mono ?_
    rintro e w1 ⟨rfl, hb1⟩
    have hB1 : Below w.heap.size w w1 := below_chain (hB0') hb1
    have hz1 := hb1.size
    have hl1_0 : w.heap.size < w1.heap.size := by omega
    have hm1_0 : w.heap.size ≤ w1.heap.size := by omega
    have hl1_1 : w.heap.size + 1 < w1.heap.size := by omega
    have hm1_1 : w.heap.size + 1 ≤ w1.heap.size := by omega
    have hl1_2 : w.heap.size + 1 + 1 < w1.heap.size := by omega
    have hm1_2 : w.heap.size + 1 + 1 ≤ w1.heap.size := by omega
    have hl1_3 : w.heap.size + 1 + 1 + 1 < w1.heap.size := by omega
    have hm1_3 : w.heap.size + 1 + 1 + 1 ≤ w1.heap.size := by omega
    obtain ⟨hc1, hf1⟩ := bcell hb1
    clear hb1
    go_wp2_with fail
    refine (ref_bool_call false 0 _ rfl).mono ?_
    rintro e w2 ⟨rfl, hb2⟩
    have hB2 : Below w.heap.size w w2 := below_chain (hB1) hb2
    have hz2 := hb2.size
    have hl2_0 : w.heap.size < w2.heap.size := by omega
    have hm2_0 : w.heap.size ≤ w2.heap.size := by omega
    have hl2_1 : w.heap.size + 1 < w2.heap.size := by omega
    have hm2_1 : w.heap.size + 1 ≤ w2.heap.size := by omega
    have hl2_2 : w.heap.size + 1 + 1 < w2.heap.size := by omega
    have hm2_2 : w.heap.size + 1 + 1 ≤ w2.heap.size := by omega
    have hl2_3 : w.heap.size + 1 + 1 + 1 < w2.heap.size := by omega
    have hm2_3 : w.heap.size + 1 + 1 + 1 ≤ w2.heap.size := by omega
    obtain ⟨hc2, hf2⟩ := bcell hb2
    clear hb2
    go_wp2_with fail
    have sc := two_ops (w := w2) (B := w.heap.size) (a := .int .i64 0) (b := .int .i64 0) (c := .string ⟨#[]⟩) (by go_simp) (by go_simp) (by go_simp) (.int .i64 3) (.int .i64 0) (.string ⟨#[]⟩)
    obtain ⟨sc0, sc1, sc2⟩ := sc
    refine bodyPost_ret (v := .agg #[.int .i64 3, .int .i64 0, .string ⟨#[]⟩]) (by simp [sc0, sc1, sc2, results, Try.results26, go_sem]) rfl ⟨by rw [HW.out]; rfl, ?_⟩
    exact (((hB2).setCell (by simp) _).setCell (by simp) _).setCell (by simp) _

end Go.Proofs.Ytpgaldkedeohaaa
