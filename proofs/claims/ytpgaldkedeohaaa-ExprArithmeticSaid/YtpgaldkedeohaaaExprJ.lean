/-
  apply of package expr, the comparisons.
-/
import Derived.Test.YtpgaldkedeohaaaExprI
namespace Go.Proofs.Ytpgaldkedeohaaa
open Go.RowKit


set_option maxRecDepth 100000 in
set_option maxHeartbeats 2000000 in
theorem apply_eq (a b col k n : Int) (s : ByteArray) (k1 n1 : Int) (s1 : ByteArray) (k2 n2 : Int) (s2 : ByteArray) (g gc : Nat) (rv : Value) (w : World) (hg : g < w.heap.size) (c0 : w.cell? ⟨g, 0, none⟩ = some (.int .i64 k1)) (c1 : w.cell? ⟨g, 1, none⟩ = some (.int .i64 n1)) (c2 : w.cell? ⟨g, 2, none⟩ = some (.string s1)) (c3 : w.cell? ⟨g, 3, none⟩ = some (.int .i64 k2)) (c4 : w.cell? ⟨g, 4, none⟩ = some (.int .i64 n2)) (c5 : w.cell? ⟨g, 5, none⟩ = some (.string s2)) :
    Calls Try.prog 25 #[.agg #[.int .i64 6, .int .i64 a, .int .i64 b, .int .i64 col, .int .i64 k, .int .i64 n, .string s], .slice (some ⟨g, 0, none⟩) 2 gc, rv] w fun e w' => e = .returned ((Xp.bool (decide (k1 ≠ 0) && (decide (k2 ≠ 0) && decide (Xp.vcmp ⟨k1, n1, s1⟩ ⟨k2, n2, s2⟩ = 0)))).go) ∧ Below w.heap.size w w' := by
  obtain ⟨v, hv⟩ : ∃ v, Xp.vcmp ⟨k1, n1, s1⟩ ⟨k2, n2, s2⟩ = v := ⟨_, rfl⟩
  rw [hv]
  have HC := Lib.hid hv
  clear hv
  generalize hV : (Xp.bool _).go = V
  have HV := Lib.hid hV
  clear hV
  by_cases z1 : k1 = 0
  · subst z1
    have HW := Lib.hid (HV.out.symm.trans (show (Xp.bool _).go = (Xp.bool false).go by simp))
    have hB0 : Below w.heap.size w w := Below.refl _ _
    go_enter Try.func25, Try.ntmps25
    go_wp2_with fail
    have hB0' : Below w.heap.size w ((w.alloc (.cells #[.int .i64 6, .int .i64 a, .int .i64 b, .int .i64 col, .int .i64 k, .int .i64 n, .string s] 44)).alloc (.cells #[.int .i64 0, .int .i64 0, .string ⟨#[]⟩] 34)) := below_alloc (below_alloc (Below.refl _ _) _) _
    have hn0 : ((w.alloc (.cells #[.int .i64 6, .int .i64 a, .int .i64 b, .int .i64 col, .int .i64 k, .int .i64 n, .string s] 44)).alloc (.cells #[.int .i64 0, .int .i64 0, .string ⟨#[]⟩] 34)).cell? ⟨w.heap.size, 0, none⟩ = some (.int .i64 6) := by go_simp
    have hn1 : ((w.alloc (.cells #[.int .i64 6, .int .i64 a, .int .i64 b, .int .i64 col, .int .i64 k, .int .i64 n, .string s] 44)).alloc (.cells #[.int .i64 0, .int .i64 0, .string ⟨#[]⟩] 34)).cell? ⟨w.heap.size + 1, 0, none⟩ = some (.int .i64 0) := by go_simp
    have hn2 : ((w.alloc (.cells #[.int .i64 6, .int .i64 a, .int .i64 b, .int .i64 col, .int .i64 k, .int .i64 n, .string s] 44)).alloc (.cells #[.int .i64 0, .int .i64 0, .string ⟨#[]⟩] 34)).cell? ⟨w.heap.size + 1, 1, none⟩ = some (.int .i64 0) := by go_simp
    have hn3 : ((w.alloc (.cells #[.int .i64 6, .int .i64 a, .int .i64 b, .int .i64 col, .int .i64 k, .int .i64 n, .string s] 44)).alloc (.cells #[.int .i64 0, .int .i64 0, .string ⟨#[]⟩] 34)).cell? ⟨w.heap.size + 1, 2, none⟩ = some (.string ⟨#[]⟩) := by go_simp
    have hnf0 : ((w.alloc (.cells #[.int .i64 6, .int .i64 a, .int .i64 b, .int .i64 col, .int .i64 k, .int .i64 n, .string s] 44)).alloc (.cells #[.int .i64 0, .int .i64 0, .string ⟨#[]⟩] 34)).frozen? ⟨w.heap.size + 1, 0, none⟩ = false := by go_simp
    have hnf1 : ((w.alloc (.cells #[.int .i64 6, .int .i64 a, .int .i64 b, .int .i64 col, .int .i64 k, .int .i64 n, .string s] 44)).alloc (.cells #[.int .i64 0, .int .i64 0, .string ⟨#[]⟩] 34)).frozen? ⟨w.heap.size + 1, 1, none⟩ = false := by go_simp
    have hnf2 : ((w.alloc (.cells #[.int .i64 6, .int .i64 a, .int .i64 b, .int .i64 col, .int .i64 k, .int .i64 n, .string s] 44)).alloc (.cells #[.int .i64 0, .int .i64 0, .string ⟨#[]⟩] 34)).frozen? ⟨w.heap.size + 1, 2, none⟩ = false := by go_simp
    have hsz0 : ((w.alloc (.cells #[.int .i64 6, .int .i64 a, .int .i64 b, .int .i64 col, .int .i64 k, .int .i64 n, .string s] 44)).alloc (.cells #[.int .i64 0, .int .i64 0, .string ⟨#[]⟩] 34)).heap.size = w.heap.size + 2 := by simp only [World.size_alloc]
    generalize hw0 : ((w.alloc (.cells #[.int .i64 6, .int .i64 a, .int .i64 b, .int .i64 col, .int .i64 k, .int .i64 n, .string s] 44)).alloc (.cells #[.int .i64 0, .int .i64 0, .string ⟨#[]⟩] 34)) = w0 at *
    clear hw0
    have hq0 : w.heap.size < w0.heap.size := by omega
    have hr0 : w.heap.size ≤ w0.heap.size := by omega
    have hq1 : w.heap.size + 1 < w0.heap.size := by omega
    have hr1 : w.heap.size + 1 ≤ w0.heap.size := by omega
    clear hsz0
    have hd0 : w0.cell? ⟨g, 0, none⟩ = some (.int .i64 0) := (hB0'.cell (p := ⟨g, 0, none⟩) hg).trans c0
    have hd1 : w0.cell? ⟨g, 1, none⟩ = some (.int .i64 n1) := (hB0'.cell (p := ⟨g, 1, none⟩) hg).trans c1
    have hd2 : w0.cell? ⟨g, 2, none⟩ = some (.string s1) := (hB0'.cell (p := ⟨g, 2, none⟩) hg).trans c2
    have hd3 : w0.cell? ⟨g, 3, none⟩ = some (.int .i64 k2) := (hB0'.cell (p := ⟨g, 3, none⟩) hg).trans c3
    have hd4 : w0.cell? ⟨g, 4, none⟩ = some (.int .i64 n2) := (hB0'.cell (p := ⟨g, 4, none⟩) hg).trans c4
    have hd5 : w0.cell? ⟨g, 5, none⟩ = some (.string s2) := (hB0'.cell (p := ⟨g, 5, none⟩) hg).trans c5
    have hg0 : g < w0.heap.size := by omega
    refine wp_region_still_tail 22 (by kernel_rfl) (by kernel_rfl) ?_
    simp only [List.take_succ_cons, List.take_zero, List.drop_succ_cons, List.drop_zero]
    refine Veil.out ?_
    refine stillH_want (by kernel_rfl) (fun K hK => ?_)
    go_simp
    refine hK _ ?_
    clear hK K
    refine stillH_want (by kernel_rfl) (fun K hK => ?_)
    go_simp
    refine hK _ ?_
    clear hK K
    refine stillH_want (by kernel_rfl) (fun K hK => ?_)
    go_simp
    refine hK _ ?_
    clear hK K
    refine stillH_want (by kernel_rfl) (fun K hK => ?_)
    go_simp
    refine hK _ ?_
    clear hK K
    refine stillH_want (by kernel_rfl) (fun K hK => ?_)
    go_simp
    refine hK _ ?_
    clear hK K
    refine stillH_want (by kernel_rfl) (fun K hK => ?_)
    go_simp
    refine hK _ ?_
    clear hK K
    refine stillH_skip (by kernel_rfl) (fun K hK => ?_)
    go_simp
    refine hK _ ?_
    clear hK K
    refine stillH_skip (by kernel_rfl) (fun K hK => ?_)
    go_simp
    refine hK _ ?_
    clear hK K
    refine stillH_skip (by kernel_rfl) (fun K hK => ?_)
    go_simp
    refine hK _ ?_
    clear hK K
    refine stillH_skip (by kernel_rfl) (fun K hK => ?_)
    go_simp
    refine hK _ ?_
    clear hK K
    refine stillH_skip (by kernel_rfl) (fun K hK => ?_)
    go_simp
    refine hK _ ?_
    clear hK K
    refine stillH_want (by kernel_rfl) (fun K hK => ?_)
    go_simp
    refine hK _ ?_
    clear hK K
    refine stillH_want (by kernel_rfl) (fun K hK => ?_)
    go_simp
    refine hK _ ?_
    clear hK K
    refine stillH_skip (by kernel_rfl) (fun K hK => ?_)
    go_simp
    refine hK _ ?_
    clear hK K
    refine stillH_skip (by kernel_rfl) (fun K hK => ?_)
    go_simp
    refine hK _ ?_
    clear hK K
    refine stillH_skip (by kernel_rfl) (fun K hK => ?_)
    go_simp
    refine hK _ ?_
    clear hK K
    refine stillH_skip (by kernel_rfl) (fun K hK => ?_)
    go_simp
    refine hK _ ?_
    clear hK K
    refine stillH_skip (by kernel_rfl) (fun K hK => ?_)
    go_simp
    refine hK _ ?_
    clear hK K
    refine stillH_skip (by kernel_rfl) (fun K hK => ?_)
    go_simp
    refine hK _ ?_
    clear hK K
    refine stillH_skip (by kernel_rfl) (fun K hK => ?_)
    go_simp
    refine hK _ ?_
    clear hK K
    refine stillH_skip (by kernel_rfl) (fun K hK => ?_)
    go_simp
    refine hK _ ?_
    clear hK K
    refine stillH_want (by kernel_rfl) (fun K hK => ?_)
    go_simp
    refine hK _ ?_
    clear hK K
    refine stillH_nil ?_
    go_wp2_with fail
    refine (bool_call false 0 _ rfl).mono ?_
    rintro e w9 ⟨rfl, hb9⟩
    have hs90 : w9.cell? ⟨w.heap.size + 1, 0, none⟩ = some (.int .i64 0) := (hb9.cell (p := ⟨w.heap.size + 1, 0, none⟩) (by first | assumption | omega | (simp; done) | (simp; omega))).trans (by go_simp)
    have hs91 : w9.cell? ⟨w.heap.size + 1, 1, none⟩ = some (.int .i64 0) := (hb9.cell (p := ⟨w.heap.size + 1, 1, none⟩) (by first | assumption | omega | (simp; done) | (simp; omega))).trans (by go_simp)
    have hs92 : w9.cell? ⟨w.heap.size + 1, 2, none⟩ = some (.string ⟨#[]⟩) := (hb9.cell (p := ⟨w.heap.size + 1, 2, none⟩) (by first | assumption | omega | (simp; done) | (simp; omega))).trans (by go_simp)
    have ht90 : w9.frozen? ⟨w.heap.size + 1, 0, none⟩ = false := (hb9.frozen (p := ⟨w.heap.size + 1, 0, none⟩) (by first | assumption | omega | (simp; done) | (simp; omega))).trans (by go_simp)
    have ht91 : w9.frozen? ⟨w.heap.size + 1, 1, none⟩ = false := (hb9.frozen (p := ⟨w.heap.size + 1, 1, none⟩) (by first | assumption | omega | (simp; done) | (simp; omega))).trans (by go_simp)
    have ht92 : w9.frozen? ⟨w.heap.size + 1, 2, none⟩ = false := (hb9.frozen (p := ⟨w.heap.size + 1, 2, none⟩) (by first | assumption | omega | (simp; done) | (simp; omega))).trans (by go_simp)
    have hz9 : w.heap.size + 1 < w9.heap.size := Nat.lt_of_lt_of_le (by first | assumption | omega | (simp; done) | (simp; omega)) hb9.size
    have hB9 : Below w.heap.size w w9 := below_chain (show Below w.heap.size w w0.drew from hB0'.drew) hb9
    go_wp2
    have sc := two_ops hs90 hs91 hs92 (.int .i64 3) (.int .i64 0) (.string ⟨#[]⟩)
    obtain ⟨sc0, sc1, sc2⟩ := sc
    refine bodyPost_ret (v := .agg #[.int .i64 3, .int .i64 0, .string ⟨#[]⟩]) (by simp [sc0, sc1, sc2, results, Try.results25, go_sem]) rfl ⟨by rw [HW.out]; rfl, ?_⟩
    exact (((hB9).setCell (by simp) _).setCell (by simp) _).setCell (by simp) _
  by_cases z2 : k2 = 0
  · subst z2
    have ek1 : (k1 == 0) = false := by simp; exact z1
    have fk1 : (k1 != 0) = true := by simp; exact z1
    have HW := Lib.hid (HV.out.symm.trans (show (Xp.bool _).go = (Xp.bool false).go by simp))
    have hB0 : Below w.heap.size w w := Below.refl _ _
    go_enter Try.func25, Try.ntmps25
    go_wp2_with fail
    have hB0' : Below w.heap.size w ((w.alloc (.cells #[.int .i64 6, .int .i64 a, .int .i64 b, .int .i64 col, .int .i64 k, .int .i64 n, .string s] 44)).alloc (.cells #[.int .i64 0, .int .i64 0, .string ⟨#[]⟩] 34)) := below_alloc (below_alloc (Below.refl _ _) _) _
    have hn0 : ((w.alloc (.cells #[.int .i64 6, .int .i64 a, .int .i64 b, .int .i64 col, .int .i64 k, .int .i64 n, .string s] 44)).alloc (.cells #[.int .i64 0, .int .i64 0, .string ⟨#[]⟩] 34)).cell? ⟨w.heap.size, 0, none⟩ = some (.int .i64 6) := by go_simp
    have hn1 : ((w.alloc (.cells #[.int .i64 6, .int .i64 a, .int .i64 b, .int .i64 col, .int .i64 k, .int .i64 n, .string s] 44)).alloc (.cells #[.int .i64 0, .int .i64 0, .string ⟨#[]⟩] 34)).cell? ⟨w.heap.size + 1, 0, none⟩ = some (.int .i64 0) := by go_simp
    have hn2 : ((w.alloc (.cells #[.int .i64 6, .int .i64 a, .int .i64 b, .int .i64 col, .int .i64 k, .int .i64 n, .string s] 44)).alloc (.cells #[.int .i64 0, .int .i64 0, .string ⟨#[]⟩] 34)).cell? ⟨w.heap.size + 1, 1, none⟩ = some (.int .i64 0) := by go_simp
    have hn3 : ((w.alloc (.cells #[.int .i64 6, .int .i64 a, .int .i64 b, .int .i64 col, .int .i64 k, .int .i64 n, .string s] 44)).alloc (.cells #[.int .i64 0, .int .i64 0, .string ⟨#[]⟩] 34)).cell? ⟨w.heap.size + 1, 2, none⟩ = some (.string ⟨#[]⟩) := by go_simp
    have hnf0 : ((w.alloc (.cells #[.int .i64 6, .int .i64 a, .int .i64 b, .int .i64 col, .int .i64 k, .int .i64 n, .string s] 44)).alloc (.cells #[.int .i64 0, .int .i64 0, .string ⟨#[]⟩] 34)).frozen? ⟨w.heap.size + 1, 0, none⟩ = false := by go_simp
    have hnf1 : ((w.alloc (.cells #[.int .i64 6, .int .i64 a, .int .i64 b, .int .i64 col, .int .i64 k, .int .i64 n, .string s] 44)).alloc (.cells #[.int .i64 0, .int .i64 0, .string ⟨#[]⟩] 34)).frozen? ⟨w.heap.size + 1, 1, none⟩ = false := by go_simp
    have hnf2 : ((w.alloc (.cells #[.int .i64 6, .int .i64 a, .int .i64 b, .int .i64 col, .int .i64 k, .int .i64 n, .string s] 44)).alloc (.cells #[.int .i64 0, .int .i64 0, .string ⟨#[]⟩] 34)).frozen? ⟨w.heap.size + 1, 2, none⟩ = false := by go_simp
    have hsz0 : ((w.alloc (.cells #[.int .i64 6, .int .i64 a, .int .i64 b, .int .i64 col, .int .i64 k, .int .i64 n, .string s] 44)).alloc (.cells #[.int .i64 0, .int .i64 0, .string ⟨#[]⟩] 34)).heap.size = w.heap.size + 2 := by simp only [World.size_alloc]
    generalize hw0 : ((w.alloc (.cells #[.int .i64 6, .int .i64 a, .int .i64 b, .int .i64 col, .int .i64 k, .int .i64 n, .string s] 44)).alloc (.cells #[.int .i64 0, .int .i64 0, .string ⟨#[]⟩] 34)) = w0 at *
    clear hw0
    have hq0 : w.heap.size < w0.heap.size := by omega
    have hr0 : w.heap.size ≤ w0.heap.size := by omega
    have hq1 : w.heap.size + 1 < w0.heap.size := by omega
    have hr1 : w.heap.size + 1 ≤ w0.heap.size := by omega
    clear hsz0
    have hd0 : w0.cell? ⟨g, 0, none⟩ = some (.int .i64 k1) := (hB0'.cell (p := ⟨g, 0, none⟩) hg).trans c0
    have hd1 : w0.cell? ⟨g, 1, none⟩ = some (.int .i64 n1) := (hB0'.cell (p := ⟨g, 1, none⟩) hg).trans c1
    have hd2 : w0.cell? ⟨g, 2, none⟩ = some (.string s1) := (hB0'.cell (p := ⟨g, 2, none⟩) hg).trans c2
    have hd3 : w0.cell? ⟨g, 3, none⟩ = some (.int .i64 0) := (hB0'.cell (p := ⟨g, 3, none⟩) hg).trans c3
    have hd4 : w0.cell? ⟨g, 4, none⟩ = some (.int .i64 n2) := (hB0'.cell (p := ⟨g, 4, none⟩) hg).trans c4
    have hd5 : w0.cell? ⟨g, 5, none⟩ = some (.string s2) := (hB0'.cell (p := ⟨g, 5, none⟩) hg).trans c5
    have hg0 : g < w0.heap.size := by omega
    refine wp_region_still_tail 22 (by kernel_rfl) (by kernel_rfl) ?_
    simp only [List.take_succ_cons, List.take_zero, List.drop_succ_cons, List.drop_zero]
    refine Veil.out ?_
    refine stillH_want (by kernel_rfl) (fun K hK => ?_)
    go_simp
    refine hK _ ?_
    clear hK K
    refine stillH_want (by kernel_rfl) (fun K hK => ?_)
    go_simp
    refine hK _ ?_
    clear hK K
    refine stillH_want (by kernel_rfl) (fun K hK => ?_)
    go_simp
    refine hK _ ?_
    clear hK K
    refine stillH_want (by kernel_rfl) (fun K hK => ?_)
    go_simp
    refine hK _ ?_
    clear hK K
    refine stillH_want (by kernel_rfl) (fun K hK => ?_)
    go_simp
    refine hK _ ?_
    clear hK K
    refine stillH_want (by kernel_rfl) (fun K hK => ?_)
    go_simp
    refine hK _ ?_
    clear hK K
    refine stillH_want (by kernel_rfl) (fun K hK => ?_)
    go_simp
    refine hK _ ?_
    clear hK K
    refine stillH_want (by kernel_rfl) (fun K hK => ?_)
    go_simp
    refine hK _ ?_
    clear hK K
    refine stillH_want (by kernel_rfl) (fun K hK => ?_)
    go_simp
    refine hK _ ?_
    clear hK K
    refine stillH_want (by kernel_rfl) (fun K hK => ?_)
    go_simp
    refine hK _ ?_
    clear hK K
    refine stillH_want (by kernel_rfl) (fun K hK => ?_)
    go_simp
    refine hK _ ?_
    clear hK K
    refine stillH_want (by kernel_rfl) (fun K hK => ?_)
    go_simp
    refine hK _ ?_
    clear hK K
    refine stillH_want (by kernel_rfl) (fun K hK => ?_)
    go_simp
    refine hK _ ?_
    clear hK K
    refine stillH_skip (by kernel_rfl) (fun K hK => ?_)
    go_simp
    refine hK _ ?_
    clear hK K
    refine stillH_skip (by kernel_rfl) (fun K hK => ?_)
    go_simp
    refine hK _ ?_
    clear hK K
    refine stillH_skip (by kernel_rfl) (fun K hK => ?_)
    go_simp
    refine hK _ ?_
    clear hK K
    refine stillH_skip (by kernel_rfl) (fun K hK => ?_)
    go_simp
    refine hK _ ?_
    clear hK K
    refine stillH_skip (by kernel_rfl) (fun K hK => ?_)
    go_simp
    refine hK _ ?_
    clear hK K
    refine stillH_skip (by kernel_rfl) (fun K hK => ?_)
    go_simp
    refine hK _ ?_
    clear hK K
    refine stillH_skip (by kernel_rfl) (fun K hK => ?_)
    go_simp
    refine hK _ ?_
    clear hK K
    refine stillH_skip (by kernel_rfl) (fun K hK => ?_)
    go_simp
    refine hK _ ?_
    clear hK K
    refine stillH_want (by kernel_rfl) (fun K hK => ?_)
    go_simp
    refine hK _ ?_
    clear hK K
    refine stillH_nil ?_
    go_wp2_with fail
    refine (bool_call false 0 _ rfl).mono ?_
    rintro e w9 ⟨rfl, hb9⟩
    have hs90 : w9.cell? ⟨w.heap.size + 1, 0, none⟩ = some (.int .i64 0) := (hb9.cell (p := ⟨w.heap.size + 1, 0, none⟩) (by first | assumption | omega | (simp; done) | (simp; omega))).trans (by go_simp)
    have hs91 : w9.cell? ⟨w.heap.size + 1, 1, none⟩ = some (.int .i64 0) := (hb9.cell (p := ⟨w.heap.size + 1, 1, none⟩) (by first | assumption | omega | (simp; done) | (simp; omega))).trans (by go_simp)
    have hs92 : w9.cell? ⟨w.heap.size + 1, 2, none⟩ = some (.string ⟨#[]⟩) := (hb9.cell (p := ⟨w.heap.size + 1, 2, none⟩) (by first | assumption | omega | (simp; done) | (simp; omega))).trans (by go_simp)
    have ht90 : w9.frozen? ⟨w.heap.size + 1, 0, none⟩ = false := (hb9.frozen (p := ⟨w.heap.size + 1, 0, none⟩) (by first | assumption | omega | (simp; done) | (simp; omega))).trans (by go_simp)
    have ht91 : w9.frozen? ⟨w.heap.size + 1, 1, none⟩ = false := (hb9.frozen (p := ⟨w.heap.size + 1, 1, none⟩) (by first | assumption | omega | (simp; done) | (simp; omega))).trans (by go_simp)
    have ht92 : w9.frozen? ⟨w.heap.size + 1, 2, none⟩ = false := (hb9.frozen (p := ⟨w.heap.size + 1, 2, none⟩) (by first | assumption | omega | (simp; done) | (simp; omega))).trans (by go_simp)
    have hz9 : w.heap.size + 1 < w9.heap.size := Nat.lt_of_lt_of_le (by first | assumption | omega | (simp; done) | (simp; omega)) hb9.size
    have hB9 : Below w.heap.size w w9 := below_chain (show Below w.heap.size w w0.drew from hB0'.drew) hb9
    go_wp2
    have sc := two_ops hs90 hs91 hs92 (.int .i64 3) (.int .i64 0) (.string ⟨#[]⟩)
    obtain ⟨sc0, sc1, sc2⟩ := sc
    refine bodyPost_ret (v := .agg #[.int .i64 3, .int .i64 0, .string ⟨#[]⟩]) (by simp [sc0, sc1, sc2, results, Try.results25, go_sem]) rfl ⟨by rw [HW.out]; rfl, ?_⟩
    exact (((hB9).setCell (by simp) _).setCell (by simp) _).setCell (by simp) _
  by_cases z3 : v = 0
  · subst z3
    have ek1 : (k1 == 0) = false := by simp; exact z1
    have fk1 : (k1 != 0) = true := by simp; exact z1
    have ek2 : (k2 == 0) = false := by simp; exact z2
    have fk2 : (k2 != 0) = true := by simp; exact z2
    have HW := Lib.hid (HV.out.symm.trans (show (Xp.bool _).go = (Xp.bool true).go by simp [z1, z2]))
    have hB0 : Below w.heap.size w w := Below.refl _ _
    go_enter Try.func25, Try.ntmps25
    go_wp2_with fail
    have hB0' : Below w.heap.size w ((w.alloc (.cells #[.int .i64 6, .int .i64 a, .int .i64 b, .int .i64 col, .int .i64 k, .int .i64 n, .string s] 44)).alloc (.cells #[.int .i64 0, .int .i64 0, .string ⟨#[]⟩] 34)) := below_alloc (below_alloc (Below.refl _ _) _) _
    have hn0 : ((w.alloc (.cells #[.int .i64 6, .int .i64 a, .int .i64 b, .int .i64 col, .int .i64 k, .int .i64 n, .string s] 44)).alloc (.cells #[.int .i64 0, .int .i64 0, .string ⟨#[]⟩] 34)).cell? ⟨w.heap.size, 0, none⟩ = some (.int .i64 6) := by go_simp
    have hn1 : ((w.alloc (.cells #[.int .i64 6, .int .i64 a, .int .i64 b, .int .i64 col, .int .i64 k, .int .i64 n, .string s] 44)).alloc (.cells #[.int .i64 0, .int .i64 0, .string ⟨#[]⟩] 34)).cell? ⟨w.heap.size + 1, 0, none⟩ = some (.int .i64 0) := by go_simp
    have hn2 : ((w.alloc (.cells #[.int .i64 6, .int .i64 a, .int .i64 b, .int .i64 col, .int .i64 k, .int .i64 n, .string s] 44)).alloc (.cells #[.int .i64 0, .int .i64 0, .string ⟨#[]⟩] 34)).cell? ⟨w.heap.size + 1, 1, none⟩ = some (.int .i64 0) := by go_simp
    have hn3 : ((w.alloc (.cells #[.int .i64 6, .int .i64 a, .int .i64 b, .int .i64 col, .int .i64 k, .int .i64 n, .string s] 44)).alloc (.cells #[.int .i64 0, .int .i64 0, .string ⟨#[]⟩] 34)).cell? ⟨w.heap.size + 1, 2, none⟩ = some (.string ⟨#[]⟩) := by go_simp
    have hnf0 : ((w.alloc (.cells #[.int .i64 6, .int .i64 a, .int .i64 b, .int .i64 col, .int .i64 k, .int .i64 n, .string s] 44)).alloc (.cells #[.int .i64 0, .int .i64 0, .string ⟨#[]⟩] 34)).frozen? ⟨w.heap.size + 1, 0, none⟩ = false := by go_simp
    have hnf1 : ((w.alloc (.cells #[.int .i64 6, .int .i64 a, .int .i64 b, .int .i64 col, .int .i64 k, .int .i64 n, .string s] 44)).alloc (.cells #[.int .i64 0, .int .i64 0, .string ⟨#[]⟩] 34)).frozen? ⟨w.heap.size + 1, 1, none⟩ = false := by go_simp
    have hnf2 : ((w.alloc (.cells #[.int .i64 6, .int .i64 a, .int .i64 b, .int .i64 col, .int .i64 k, .int .i64 n, .string s] 44)).alloc (.cells #[.int .i64 0, .int .i64 0, .string ⟨#[]⟩] 34)).frozen? ⟨w.heap.size + 1, 2, none⟩ = false := by go_simp
    have hsz0 : ((w.alloc (.cells #[.int .i64 6, .int .i64 a, .int .i64 b, .int .i64 col, .int .i64 k, .int .i64 n, .string s] 44)).alloc (.cells #[.int .i64 0, .int .i64 0, .string ⟨#[]⟩] 34)).heap.size = w.heap.size + 2 := by simp only [World.size_alloc]
    generalize hw0 : ((w.alloc (.cells #[.int .i64 6, .int .i64 a, .int .i64 b, .int .i64 col, .int .i64 k, .int .i64 n, .string s] 44)).alloc (.cells #[.int .i64 0, .int .i64 0, .string ⟨#[]⟩] 34)) = w0 at *
    clear hw0
    have hq0 : w.heap.size < w0.heap.size := by omega
    have hr0 : w.heap.size ≤ w0.heap.size := by omega
    have hq1 : w.heap.size + 1 < w0.heap.size := by omega
    have hr1 : w.heap.size + 1 ≤ w0.heap.size := by omega
    clear hsz0
    have hd0 : w0.cell? ⟨g, 0, none⟩ = some (.int .i64 k1) := (hB0'.cell (p := ⟨g, 0, none⟩) hg).trans c0
    have hd1 : w0.cell? ⟨g, 1, none⟩ = some (.int .i64 n1) := (hB0'.cell (p := ⟨g, 1, none⟩) hg).trans c1
    have hd2 : w0.cell? ⟨g, 2, none⟩ = some (.string s1) := (hB0'.cell (p := ⟨g, 2, none⟩) hg).trans c2
    have hd3 : w0.cell? ⟨g, 3, none⟩ = some (.int .i64 k2) := (hB0'.cell (p := ⟨g, 3, none⟩) hg).trans c3
    have hd4 : w0.cell? ⟨g, 4, none⟩ = some (.int .i64 n2) := (hB0'.cell (p := ⟨g, 4, none⟩) hg).trans c4
    have hd5 : w0.cell? ⟨g, 5, none⟩ = some (.string s2) := (hB0'.cell (p := ⟨g, 5, none⟩) hg).trans c5
    have hg0 : g < w0.heap.size := by omega
    have hi0_0 : w0.cell? ⟨g, 0, none⟩ = some (.int .i64 k1) := by go_simp
    have hi0_1 : w0.cell? ⟨g, 1, none⟩ = some (.int .i64 n1) := by go_simp
    have hi0_2 : w0.cell? ⟨g, 2, none⟩ = some (.string s1) := by go_simp
    have hi0_3 : w0.cell? ⟨g, 3, none⟩ = some (.int .i64 k2) := by go_simp
    have hi0_4 : w0.cell? ⟨g, 4, none⟩ = some (.int .i64 n2) := by go_simp
    have hi0_5 : w0.cell? ⟨g, 5, none⟩ = some (.string s2) := by go_simp
    have KEEP0 := Lib.hid (show ∀ W1 W2 : World, (W1.cell? ⟨g, 0, none⟩ = some (.int .i64 k1) ∧ W1.cell? ⟨g, 1, none⟩ = some (.int .i64 n1) ∧ W1.cell? ⟨g, 2, none⟩ = some (.string s1) ∧ W1.cell? ⟨g, 3, none⟩ = some (.int .i64 k2) ∧ W1.cell? ⟨g, 4, none⟩ = some (.int .i64 n2) ∧ W1.cell? ⟨g, 5, none⟩ = some (.string s2) ∧ w0.heap.size ≤ W1.heap.size ∧ Below w.heap.size w W1) → Below W1.heap.size W1 W2 → (W2.cell? ⟨g, 0, none⟩ = some (.int .i64 k1) ∧ W2.cell? ⟨g, 1, none⟩ = some (.int .i64 n1) ∧ W2.cell? ⟨g, 2, none⟩ = some (.string s1) ∧ W2.cell? ⟨g, 3, none⟩ = some (.int .i64 k2) ∧ W2.cell? ⟨g, 4, none⟩ = some (.int .i64 n2) ∧ W2.cell? ⟨g, 5, none⟩ = some (.string s2) ∧ w0.heap.size ≤ W2.heap.size ∧ Below w.heap.size w W2) from fun W1 W2 ⟨a0, a1, a2, a3, a4, a5, hs, hB⟩ hb => ⟨(hb.cell (p := ⟨g, 0, none⟩) (show g < W1.heap.size by omega)).trans a0, (hb.cell (p := ⟨g, 1, none⟩) (show g < W1.heap.size by omega)).trans a1, (hb.cell (p := ⟨g, 2, none⟩) (show g < W1.heap.size by omega)).trans a2, (hb.cell (p := ⟨g, 3, none⟩) (show g < W1.heap.size by omega)).trans a3, (hb.cell (p := ⟨g, 4, none⟩) (show g < W1.heap.size by omega)).trans a4, (hb.cell (p := ⟨g, 5, none⟩) (show g < W1.heap.size by omega)).trans a5, Nat.le_trans hs hb.size, hB.trans (hb.mono hB.size)⟩)
    have INIT0 := Lib.hid (show (w0.drew.cell? ⟨g, 0, none⟩ = some (.int .i64 k1) ∧ w0.drew.cell? ⟨g, 1, none⟩ = some (.int .i64 n1) ∧ w0.drew.cell? ⟨g, 2, none⟩ = some (.string s1) ∧ w0.drew.cell? ⟨g, 3, none⟩ = some (.int .i64 k2) ∧ w0.drew.cell? ⟨g, 4, none⟩ = some (.int .i64 n2) ∧ w0.drew.cell? ⟨g, 5, none⟩ = some (.string s2) ∧ w0.heap.size ≤ w0.drew.heap.size ∧ Below w.heap.size w w0.drew) from ⟨hi0_0, hi0_1, hi0_2, hi0_3, hi0_4, hi0_5, Nat.le_refl _, hB0'.drew⟩)
    have KEEPS0 := Lib.hid (show ∀ (W1 : World) (u0 u1 u2 : Value), (W1.cell? ⟨g, 0, none⟩ = some (.int .i64 k1) ∧ W1.cell? ⟨g, 1, none⟩ = some (.int .i64 n1) ∧ W1.cell? ⟨g, 2, none⟩ = some (.string s1) ∧ W1.cell? ⟨g, 3, none⟩ = some (.int .i64 k2) ∧ W1.cell? ⟨g, 4, none⟩ = some (.int .i64 n2) ∧ W1.cell? ⟨g, 5, none⟩ = some (.string s2) ∧ w0.heap.size ≤ W1.heap.size ∧ Below w.heap.size w W1) → ((((W1.setCell ⟨w.heap.size + 1, 0, none⟩ u0).setCell ⟨w.heap.size + 1, 1, none⟩ u1).setCell ⟨w.heap.size + 1, 2, none⟩ u2).cell? ⟨g, 0, none⟩ = some (.int .i64 k1) ∧ (((W1.setCell ⟨w.heap.size + 1, 0, none⟩ u0).setCell ⟨w.heap.size + 1, 1, none⟩ u1).setCell ⟨w.heap.size + 1, 2, none⟩ u2).cell? ⟨g, 1, none⟩ = some (.int .i64 n1) ∧ (((W1.setCell ⟨w.heap.size + 1, 0, none⟩ u0).setCell ⟨w.heap.size + 1, 1, none⟩ u1).setCell ⟨w.heap.size + 1, 2, none⟩ u2).cell? ⟨g, 2, none⟩ = some (.string s1) ∧ (((W1.setCell ⟨w.heap.size + 1, 0, none⟩ u0).setCell ⟨w.heap.size + 1, 1, none⟩ u1).setCell ⟨w.heap.size + 1, 2, none⟩ u2).cell? ⟨g, 3, none⟩ = some (.int .i64 k2) ∧ (((W1.setCell ⟨w.heap.size + 1, 0, none⟩ u0).setCell ⟨w.heap.size + 1, 1, none⟩ u1).setCell ⟨w.heap.size + 1, 2, none⟩ u2).cell? ⟨g, 4, none⟩ = some (.int .i64 n2) ∧ (((W1.setCell ⟨w.heap.size + 1, 0, none⟩ u0).setCell ⟨w.heap.size + 1, 1, none⟩ u1).setCell ⟨w.heap.size + 1, 2, none⟩ u2).cell? ⟨g, 5, none⟩ = some (.string s2) ∧ w0.heap.size ≤ (((W1.setCell ⟨w.heap.size + 1, 0, none⟩ u0).setCell ⟨w.heap.size + 1, 1, none⟩ u1).setCell ⟨w.heap.size + 1, 2, none⟩ u2).heap.size ∧ Below w.heap.size w (((W1.setCell ⟨w.heap.size + 1, 0, none⟩ u0).setCell ⟨w.heap.size + 1, 1, none⟩ u1).setCell ⟨w.heap.size + 1, 2, none⟩ u2)) from fun W1 u0 u1 u2 ⟨a0, a1, a2, a3, a4, a5, hs, hB⟩ => ⟨by rw [World.cell?_setCell_other _ _ _ _ (by first | (simp; done) | (simp; omega))]; rw [World.cell?_setCell_other _ _ _ _ (by first | (simp; done) | (simp; omega))]; rw [World.cell?_setCell_other _ _ _ _ (by first | (simp; done) | (simp; omega))]; exact a0, by rw [World.cell?_setCell_other _ _ _ _ (by first | (simp; done) | (simp; omega))]; rw [World.cell?_setCell_other _ _ _ _ (by first | (simp; done) | (simp; omega))]; rw [World.cell?_setCell_other _ _ _ _ (by first | (simp; done) | (simp; omega))]; exact a1, by rw [World.cell?_setCell_other _ _ _ _ (by first | (simp; done) | (simp; omega))]; rw [World.cell?_setCell_other _ _ _ _ (by first | (simp; done) | (simp; omega))]; rw [World.cell?_setCell_other _ _ _ _ (by first | (simp; done) | (simp; omega))]; exact a2, by rw [World.cell?_setCell_other _ _ _ _ (by first | (simp; done) | (simp; omega))]; rw [World.cell?_setCell_other _ _ _ _ (by first | (simp; done) | (simp; omega))]; rw [World.cell?_setCell_other _ _ _ _ (by first | (simp; done) | (simp; omega))]; exact a3, by rw [World.cell?_setCell_other _ _ _ _ (by first | (simp; done) | (simp; omega))]; rw [World.cell?_setCell_other _ _ _ _ (by first | (simp; done) | (simp; omega))]; rw [World.cell?_setCell_other _ _ _ _ (by first | (simp; done) | (simp; omega))]; exact a4, by rw [World.cell?_setCell_other _ _ _ _ (by first | (simp; done) | (simp; omega))]; rw [World.cell?_setCell_other _ _ _ _ (by first | (simp; done) | (simp; omega))]; rw [World.cell?_setCell_other _ _ _ _ (by first | (simp; done) | (simp; omega))]; exact a5, by simpa [World.setCell] using hs, (((hB).setCell (by first | (simp; done) | (simp; omega)) _).setCell (by first | (simp; done) | (simp; omega)) _).setCell (by first | (simp; done) | (simp; omega)) _⟩)
    go_region_held3 (fun w' => (w'.cell? ⟨g, 0, none⟩ = some (.int .i64 k1) ∧ w'.cell? ⟨g, 1, none⟩ = some (.int .i64 n1) ∧ w'.cell? ⟨g, 2, none⟩ = some (.string s1) ∧ w'.cell? ⟨g, 3, none⟩ = some (.int .i64 k2) ∧ w'.cell? ⟨g, 4, none⟩ = some (.int .i64 n2) ∧ w'.cell? ⟨g, 5, none⟩ = some (.string s2) ∧ w0.heap.size ≤ w'.heap.size ∧ Below w.heap.size w w')) (first | assumption | exact INIT0.out | exact KEEP0.out _ _ (by assumption) (by assumption) | exact KEEP0.out _ _ (by assumption) ((Below.refl _ _).alloc (Nat.le_refl _) _) | exact KEEPS0.out _ _ _ _ (by assumption))
      (first | (go_at_call 38; refine (cmp_call _ _ _ _ _ _ 0 _ HC.out).mono ?_; rintro e w8 ⟨rfl, hb8⟩; have hs80 : w8.cell? ⟨w.heap.size + 1, 0, none⟩ = some (.int .i64 0) := (hb8.cell (p := ⟨w.heap.size + 1, 0, none⟩) (by first | assumption | omega | (simp; done) | (simp; omega))).trans (by go_simp); have hs81 : w8.cell? ⟨w.heap.size + 1, 1, none⟩ = some (.int .i64 0) := (hb8.cell (p := ⟨w.heap.size + 1, 1, none⟩) (by first | assumption | omega | (simp; done) | (simp; omega))).trans (by go_simp); have hs82 : w8.cell? ⟨w.heap.size + 1, 2, none⟩ = some (.string ⟨#[]⟩) := (hb8.cell (p := ⟨w.heap.size + 1, 2, none⟩) (by first | assumption | omega | (simp; done) | (simp; omega))).trans (by go_simp); have ht80 : w8.frozen? ⟨w.heap.size + 1, 0, none⟩ = false := (hb8.frozen (p := ⟨w.heap.size + 1, 0, none⟩) (by first | assumption | omega | (simp; done) | (simp; omega))).trans (by go_simp); have ht81 : w8.frozen? ⟨w.heap.size + 1, 1, none⟩ = false := (hb8.frozen (p := ⟨w.heap.size + 1, 1, none⟩) (by first | assumption | omega | (simp; done) | (simp; omega))).trans (by go_simp); have ht82 : w8.frozen? ⟨w.heap.size + 1, 2, none⟩ = false := (hb8.frozen (p := ⟨w.heap.size + 1, 2, none⟩) (by first | assumption | omega | (simp; done) | (simp; omega))).trans (by go_simp); have hz8 : w.heap.size + 1 < w8.heap.size := Nat.lt_of_lt_of_le (by first | assumption | omega | (simp; done) | (simp; omega)) hb8.size) | (go_at_call 37; refine (bool_call true 1 _ rfl).mono ?_; rintro e w9 ⟨rfl, hb9⟩; have hs90 : w9.cell? ⟨w.heap.size + 1, 0, none⟩ = some (.int .i64 0) := (hb9.cell (p := ⟨w.heap.size + 1, 0, none⟩) (by first | assumption | omega | (simp; done) | (simp; omega))).trans (by go_simp); have hs91 : w9.cell? ⟨w.heap.size + 1, 1, none⟩ = some (.int .i64 0) := (hb9.cell (p := ⟨w.heap.size + 1, 1, none⟩) (by first | assumption | omega | (simp; done) | (simp; omega))).trans (by go_simp); have hs92 : w9.cell? ⟨w.heap.size + 1, 2, none⟩ = some (.string ⟨#[]⟩) := (hb9.cell (p := ⟨w.heap.size + 1, 2, none⟩) (by first | assumption | omega | (simp; done) | (simp; omega))).trans (by go_simp); have ht90 : w9.frozen? ⟨w.heap.size + 1, 0, none⟩ = false := (hb9.frozen (p := ⟨w.heap.size + 1, 0, none⟩) (by first | assumption | omega | (simp; done) | (simp; omega))).trans (by go_simp); have ht91 : w9.frozen? ⟨w.heap.size + 1, 1, none⟩ = false := (hb9.frozen (p := ⟨w.heap.size + 1, 1, none⟩) (by first | assumption | omega | (simp; done) | (simp; omega))).trans (by go_simp); have ht92 : w9.frozen? ⟨w.heap.size + 1, 2, none⟩ = false := (hb9.frozen (p := ⟨w.heap.size + 1, 2, none⟩) (by first | assumption | omega | (simp; done) | (simp; omega))).trans (by go_simp); have hz9 : w.heap.size + 1 < w9.heap.size := Nat.lt_of_lt_of_le (by first | assumption | omega | (simp; done) | (simp; omega)) hb9.size))
    obtain ⟨hr0_0, hr0_1, hr0_2, hr0_3, hr0_4, hr0_5, hsz0, hBr0⟩ := ‹_ ∧ _›
    go_wp2
    have sc := two_ops hs90 hs91 hs92 (.int .i64 3) (.int .i64 1) (.string ⟨#[]⟩)
    obtain ⟨sc0, sc1, sc2⟩ := sc
    refine bodyPost_ret (v := .agg #[.int .i64 3, .int .i64 1, .string ⟨#[]⟩]) (by simp [sc0, sc1, sc2, results, Try.results25, go_sem]) rfl ⟨by rw [HW.out]; rfl, ?_⟩
    exact hBr0
  · have ek1 : (k1 == 0) = false := by simp; exact z1
    have fk1 : (k1 != 0) = true := by simp; exact z1
    have ek2 : (k2 == 0) = false := by simp; exact z2
    have fk2 : (k2 != 0) = true := by simp; exact z2
    have ev : (v == 0) = false := by simp; exact z3
    have fv : (v != 0) = true := by simp; exact z3
    have HW := Lib.hid (HV.out.symm.trans (show (Xp.bool _).go = (Xp.bool false).go by simp [z3]))
    have hB0 : Below w.heap.size w w := Below.refl _ _
    go_enter Try.func25, Try.ntmps25
    go_wp2_with fail
    have hB0' : Below w.heap.size w ((w.alloc (.cells #[.int .i64 6, .int .i64 a, .int .i64 b, .int .i64 col, .int .i64 k, .int .i64 n, .string s] 44)).alloc (.cells #[.int .i64 0, .int .i64 0, .string ⟨#[]⟩] 34)) := below_alloc (below_alloc (Below.refl _ _) _) _
    have hn0 : ((w.alloc (.cells #[.int .i64 6, .int .i64 a, .int .i64 b, .int .i64 col, .int .i64 k, .int .i64 n, .string s] 44)).alloc (.cells #[.int .i64 0, .int .i64 0, .string ⟨#[]⟩] 34)).cell? ⟨w.heap.size, 0, none⟩ = some (.int .i64 6) := by go_simp
    have hn1 : ((w.alloc (.cells #[.int .i64 6, .int .i64 a, .int .i64 b, .int .i64 col, .int .i64 k, .int .i64 n, .string s] 44)).alloc (.cells #[.int .i64 0, .int .i64 0, .string ⟨#[]⟩] 34)).cell? ⟨w.heap.size + 1, 0, none⟩ = some (.int .i64 0) := by go_simp
    have hn2 : ((w.alloc (.cells #[.int .i64 6, .int .i64 a, .int .i64 b, .int .i64 col, .int .i64 k, .int .i64 n, .string s] 44)).alloc (.cells #[.int .i64 0, .int .i64 0, .string ⟨#[]⟩] 34)).cell? ⟨w.heap.size + 1, 1, none⟩ = some (.int .i64 0) := by go_simp
    have hn3 : ((w.alloc (.cells #[.int .i64 6, .int .i64 a, .int .i64 b, .int .i64 col, .int .i64 k, .int .i64 n, .string s] 44)).alloc (.cells #[.int .i64 0, .int .i64 0, .string ⟨#[]⟩] 34)).cell? ⟨w.heap.size + 1, 2, none⟩ = some (.string ⟨#[]⟩) := by go_simp
    have hnf0 : ((w.alloc (.cells #[.int .i64 6, .int .i64 a, .int .i64 b, .int .i64 col, .int .i64 k, .int .i64 n, .string s] 44)).alloc (.cells #[.int .i64 0, .int .i64 0, .string ⟨#[]⟩] 34)).frozen? ⟨w.heap.size + 1, 0, none⟩ = false := by go_simp
    have hnf1 : ((w.alloc (.cells #[.int .i64 6, .int .i64 a, .int .i64 b, .int .i64 col, .int .i64 k, .int .i64 n, .string s] 44)).alloc (.cells #[.int .i64 0, .int .i64 0, .string ⟨#[]⟩] 34)).frozen? ⟨w.heap.size + 1, 1, none⟩ = false := by go_simp
    have hnf2 : ((w.alloc (.cells #[.int .i64 6, .int .i64 a, .int .i64 b, .int .i64 col, .int .i64 k, .int .i64 n, .string s] 44)).alloc (.cells #[.int .i64 0, .int .i64 0, .string ⟨#[]⟩] 34)).frozen? ⟨w.heap.size + 1, 2, none⟩ = false := by go_simp
    have hsz0 : ((w.alloc (.cells #[.int .i64 6, .int .i64 a, .int .i64 b, .int .i64 col, .int .i64 k, .int .i64 n, .string s] 44)).alloc (.cells #[.int .i64 0, .int .i64 0, .string ⟨#[]⟩] 34)).heap.size = w.heap.size + 2 := by simp only [World.size_alloc]
    generalize hw0 : ((w.alloc (.cells #[.int .i64 6, .int .i64 a, .int .i64 b, .int .i64 col, .int .i64 k, .int .i64 n, .string s] 44)).alloc (.cells #[.int .i64 0, .int .i64 0, .string ⟨#[]⟩] 34)) = w0 at *
    clear hw0
    have hq0 : w.heap.size < w0.heap.size := by omega
    have hr0 : w.heap.size ≤ w0.heap.size := by omega
    have hq1 : w.heap.size + 1 < w0.heap.size := by omega
    have hr1 : w.heap.size + 1 ≤ w0.heap.size := by omega
    clear hsz0
    have hd0 : w0.cell? ⟨g, 0, none⟩ = some (.int .i64 k1) := (hB0'.cell (p := ⟨g, 0, none⟩) hg).trans c0
    have hd1 : w0.cell? ⟨g, 1, none⟩ = some (.int .i64 n1) := (hB0'.cell (p := ⟨g, 1, none⟩) hg).trans c1
    have hd2 : w0.cell? ⟨g, 2, none⟩ = some (.string s1) := (hB0'.cell (p := ⟨g, 2, none⟩) hg).trans c2
    have hd3 : w0.cell? ⟨g, 3, none⟩ = some (.int .i64 k2) := (hB0'.cell (p := ⟨g, 3, none⟩) hg).trans c3
    have hd4 : w0.cell? ⟨g, 4, none⟩ = some (.int .i64 n2) := (hB0'.cell (p := ⟨g, 4, none⟩) hg).trans c4
    have hd5 : w0.cell? ⟨g, 5, none⟩ = some (.string s2) := (hB0'.cell (p := ⟨g, 5, none⟩) hg).trans c5
    have hg0 : g < w0.heap.size := by omega
    have hi0_0 : w0.cell? ⟨g, 0, none⟩ = some (.int .i64 k1) := by go_simp
    have hi0_1 : w0.cell? ⟨g, 1, none⟩ = some (.int .i64 n1) := by go_simp
    have hi0_2 : w0.cell? ⟨g, 2, none⟩ = some (.string s1) := by go_simp
    have hi0_3 : w0.cell? ⟨g, 3, none⟩ = some (.int .i64 k2) := by go_simp
    have hi0_4 : w0.cell? ⟨g, 4, none⟩ = some (.int .i64 n2) := by go_simp
    have hi0_5 : w0.cell? ⟨g, 5, none⟩ = some (.string s2) := by go_simp
    have KEEP0 := Lib.hid (show ∀ W1 W2 : World, (W1.cell? ⟨g, 0, none⟩ = some (.int .i64 k1) ∧ W1.cell? ⟨g, 1, none⟩ = some (.int .i64 n1) ∧ W1.cell? ⟨g, 2, none⟩ = some (.string s1) ∧ W1.cell? ⟨g, 3, none⟩ = some (.int .i64 k2) ∧ W1.cell? ⟨g, 4, none⟩ = some (.int .i64 n2) ∧ W1.cell? ⟨g, 5, none⟩ = some (.string s2) ∧ w0.heap.size ≤ W1.heap.size ∧ Below w.heap.size w W1) → Below W1.heap.size W1 W2 → (W2.cell? ⟨g, 0, none⟩ = some (.int .i64 k1) ∧ W2.cell? ⟨g, 1, none⟩ = some (.int .i64 n1) ∧ W2.cell? ⟨g, 2, none⟩ = some (.string s1) ∧ W2.cell? ⟨g, 3, none⟩ = some (.int .i64 k2) ∧ W2.cell? ⟨g, 4, none⟩ = some (.int .i64 n2) ∧ W2.cell? ⟨g, 5, none⟩ = some (.string s2) ∧ w0.heap.size ≤ W2.heap.size ∧ Below w.heap.size w W2) from fun W1 W2 ⟨a0, a1, a2, a3, a4, a5, hs, hB⟩ hb => ⟨(hb.cell (p := ⟨g, 0, none⟩) (show g < W1.heap.size by omega)).trans a0, (hb.cell (p := ⟨g, 1, none⟩) (show g < W1.heap.size by omega)).trans a1, (hb.cell (p := ⟨g, 2, none⟩) (show g < W1.heap.size by omega)).trans a2, (hb.cell (p := ⟨g, 3, none⟩) (show g < W1.heap.size by omega)).trans a3, (hb.cell (p := ⟨g, 4, none⟩) (show g < W1.heap.size by omega)).trans a4, (hb.cell (p := ⟨g, 5, none⟩) (show g < W1.heap.size by omega)).trans a5, Nat.le_trans hs hb.size, hB.trans (hb.mono hB.size)⟩)
    have INIT0 := Lib.hid (show (w0.drew.cell? ⟨g, 0, none⟩ = some (.int .i64 k1) ∧ w0.drew.cell? ⟨g, 1, none⟩ = some (.int .i64 n1) ∧ w0.drew.cell? ⟨g, 2, none⟩ = some (.string s1) ∧ w0.drew.cell? ⟨g, 3, none⟩ = some (.int .i64 k2) ∧ w0.drew.cell? ⟨g, 4, none⟩ = some (.int .i64 n2) ∧ w0.drew.cell? ⟨g, 5, none⟩ = some (.string s2) ∧ w0.heap.size ≤ w0.drew.heap.size ∧ Below w.heap.size w w0.drew) from ⟨hi0_0, hi0_1, hi0_2, hi0_3, hi0_4, hi0_5, Nat.le_refl _, hB0'.drew⟩)
    have KEEPS0 := Lib.hid (show ∀ (W1 : World) (u0 u1 u2 : Value), (W1.cell? ⟨g, 0, none⟩ = some (.int .i64 k1) ∧ W1.cell? ⟨g, 1, none⟩ = some (.int .i64 n1) ∧ W1.cell? ⟨g, 2, none⟩ = some (.string s1) ∧ W1.cell? ⟨g, 3, none⟩ = some (.int .i64 k2) ∧ W1.cell? ⟨g, 4, none⟩ = some (.int .i64 n2) ∧ W1.cell? ⟨g, 5, none⟩ = some (.string s2) ∧ w0.heap.size ≤ W1.heap.size ∧ Below w.heap.size w W1) → ((((W1.setCell ⟨w.heap.size + 1, 0, none⟩ u0).setCell ⟨w.heap.size + 1, 1, none⟩ u1).setCell ⟨w.heap.size + 1, 2, none⟩ u2).cell? ⟨g, 0, none⟩ = some (.int .i64 k1) ∧ (((W1.setCell ⟨w.heap.size + 1, 0, none⟩ u0).setCell ⟨w.heap.size + 1, 1, none⟩ u1).setCell ⟨w.heap.size + 1, 2, none⟩ u2).cell? ⟨g, 1, none⟩ = some (.int .i64 n1) ∧ (((W1.setCell ⟨w.heap.size + 1, 0, none⟩ u0).setCell ⟨w.heap.size + 1, 1, none⟩ u1).setCell ⟨w.heap.size + 1, 2, none⟩ u2).cell? ⟨g, 2, none⟩ = some (.string s1) ∧ (((W1.setCell ⟨w.heap.size + 1, 0, none⟩ u0).setCell ⟨w.heap.size + 1, 1, none⟩ u1).setCell ⟨w.heap.size + 1, 2, none⟩ u2).cell? ⟨g, 3, none⟩ = some (.int .i64 k2) ∧ (((W1.setCell ⟨w.heap.size + 1, 0, none⟩ u0).setCell ⟨w.heap.size + 1, 1, none⟩ u1).setCell ⟨w.heap.size + 1, 2, none⟩ u2).cell? ⟨g, 4, none⟩ = some (.int .i64 n2) ∧ (((W1.setCell ⟨w.heap.size + 1, 0, none⟩ u0).setCell ⟨w.heap.size + 1, 1, none⟩ u1).setCell ⟨w.heap.size + 1, 2, none⟩ u2).cell? ⟨g, 5, none⟩ = some (.string s2) ∧ w0.heap.size ≤ (((W1.setCell ⟨w.heap.size + 1, 0, none⟩ u0).setCell ⟨w.heap.size + 1, 1, none⟩ u1).setCell ⟨w.heap.size + 1, 2, none⟩ u2).heap.size ∧ Below w.heap.size w (((W1.setCell ⟨w.heap.size + 1, 0, none⟩ u0).setCell ⟨w.heap.size + 1, 1, none⟩ u1).setCell ⟨w.heap.size + 1, 2, none⟩ u2)) from fun W1 u0 u1 u2 ⟨a0, a1, a2, a3, a4, a5, hs, hB⟩ => ⟨by rw [World.cell?_setCell_other _ _ _ _ (by first | (simp; done) | (simp; omega))]; rw [World.cell?_setCell_other _ _ _ _ (by first | (simp; done) | (simp; omega))]; rw [World.cell?_setCell_other _ _ _ _ (by first | (simp; done) | (simp; omega))]; exact a0, by rw [World.cell?_setCell_other _ _ _ _ (by first | (simp; done) | (simp; omega))]; rw [World.cell?_setCell_other _ _ _ _ (by first | (simp; done) | (simp; omega))]; rw [World.cell?_setCell_other _ _ _ _ (by first | (simp; done) | (simp; omega))]; exact a1, by rw [World.cell?_setCell_other _ _ _ _ (by first | (simp; done) | (simp; omega))]; rw [World.cell?_setCell_other _ _ _ _ (by first | (simp; done) | (simp; omega))]; rw [World.cell?_setCell_other _ _ _ _ (by first | (simp; done) | (simp; omega))]; exact a2, by rw [World.cell?_setCell_other _ _ _ _ (by first | (simp; done) | (simp; omega))]; rw [World.cell?_setCell_other _ _ _ _ (by first | (simp; done) | (simp; omega))]; rw [World.cell?_setCell_other _ _ _ _ (by first | (simp; done) | (simp; omega))]; exact a3, by rw [World.cell?_setCell_other _ _ _ _ (by first | (simp; done) | (simp; omega))]; rw [World.cell?_setCell_other _ _ _ _ (by first | (simp; done) | (simp; omega))]; rw [World.cell?_setCell_other _ _ _ _ (by first | (simp; done) | (simp; omega))]; exact a4, by rw [World.cell?_setCell_other _ _ _ _ (by first | (simp; done) | (simp; omega))]; rw [World.cell?_setCell_other _ _ _ _ (by first | (simp; done) | (simp; omega))]; rw [World.cell?_setCell_other _ _ _ _ (by first | (simp; done) | (simp; omega))]; exact a5, by simpa [World.setCell] using hs, (((hB).setCell (by first | (simp; done) | (simp; omega)) _).setCell (by first | (simp; done) | (simp; omega)) _).setCell (by first | (simp; done) | (simp; omega)) _⟩)
    go_region_held3 (fun w' => (w'.cell? ⟨g, 0, none⟩ = some (.int .i64 k1) ∧ w'.cell? ⟨g, 1, none⟩ = some (.int .i64 n1) ∧ w'.cell? ⟨g, 2, none⟩ = some (.string s1) ∧ w'.cell? ⟨g, 3, none⟩ = some (.int .i64 k2) ∧ w'.cell? ⟨g, 4, none⟩ = some (.int .i64 n2) ∧ w'.cell? ⟨g, 5, none⟩ = some (.string s2) ∧ w0.heap.size ≤ w'.heap.size ∧ Below w.heap.size w w')) (first | assumption | exact INIT0.out | exact KEEP0.out _ _ (by assumption) (by assumption) | exact KEEP0.out _ _ (by assumption) ((Below.refl _ _).alloc (Nat.le_refl _) _) | exact KEEPS0.out _ _ _ _ (by assumption))
      (first | (go_at_call 38; refine (cmp_call _ _ _ _ _ _ v _ HC.out).mono ?_; rintro e w8 ⟨rfl, hb8⟩; have hs80 : w8.cell? ⟨w.heap.size + 1, 0, none⟩ = some (.int .i64 0) := (hb8.cell (p := ⟨w.heap.size + 1, 0, none⟩) (by first | assumption | omega | (simp; done) | (simp; omega))).trans (by go_simp); have hs81 : w8.cell? ⟨w.heap.size + 1, 1, none⟩ = some (.int .i64 0) := (hb8.cell (p := ⟨w.heap.size + 1, 1, none⟩) (by first | assumption | omega | (simp; done) | (simp; omega))).trans (by go_simp); have hs82 : w8.cell? ⟨w.heap.size + 1, 2, none⟩ = some (.string ⟨#[]⟩) := (hb8.cell (p := ⟨w.heap.size + 1, 2, none⟩) (by first | assumption | omega | (simp; done) | (simp; omega))).trans (by go_simp); have ht80 : w8.frozen? ⟨w.heap.size + 1, 0, none⟩ = false := (hb8.frozen (p := ⟨w.heap.size + 1, 0, none⟩) (by first | assumption | omega | (simp; done) | (simp; omega))).trans (by go_simp); have ht81 : w8.frozen? ⟨w.heap.size + 1, 1, none⟩ = false := (hb8.frozen (p := ⟨w.heap.size + 1, 1, none⟩) (by first | assumption | omega | (simp; done) | (simp; omega))).trans (by go_simp); have ht82 : w8.frozen? ⟨w.heap.size + 1, 2, none⟩ = false := (hb8.frozen (p := ⟨w.heap.size + 1, 2, none⟩) (by first | assumption | omega | (simp; done) | (simp; omega))).trans (by go_simp); have hz8 : w.heap.size + 1 < w8.heap.size := Nat.lt_of_lt_of_le (by first | assumption | omega | (simp; done) | (simp; omega)) hb8.size) | (go_at_call 37; refine (bool_call false 0 _ rfl).mono ?_; rintro e w9 ⟨rfl, hb9⟩; have hs90 : w9.cell? ⟨w.heap.size + 1, 0, none⟩ = some (.int .i64 0) := (hb9.cell (p := ⟨w.heap.size + 1, 0, none⟩) (by first | assumption | omega | (simp; done) | (simp; omega))).trans (by go_simp); have hs91 : w9.cell? ⟨w.heap.size + 1, 1, none⟩ = some (.int .i64 0) := (hb9.cell (p := ⟨w.heap.size + 1, 1, none⟩) (by first | assumption | omega | (simp; done) | (simp; omega))).trans (by go_simp); have hs92 : w9.cell? ⟨w.heap.size + 1, 2, none⟩ = some (.string ⟨#[]⟩) := (hb9.cell (p := ⟨w.heap.size + 1, 2, none⟩) (by first | assumption | omega | (simp; done) | (simp; omega))).trans (by go_simp); have ht90 : w9.frozen? ⟨w.heap.size + 1, 0, none⟩ = false := (hb9.frozen (p := ⟨w.heap.size + 1, 0, none⟩) (by first | assumption | omega | (simp; done) | (simp; omega))).trans (by go_simp); have ht91 : w9.frozen? ⟨w.heap.size + 1, 1, none⟩ = false := (hb9.frozen (p := ⟨w.heap.size + 1, 1, none⟩) (by first | assumption | omega | (simp; done) | (simp; omega))).trans (by go_simp); have ht92 : w9.frozen? ⟨w.heap.size + 1, 2, none⟩ = false := (hb9.frozen (p := ⟨w.heap.size + 1, 2, none⟩) (by first | assumption | omega | (simp; done) | (simp; omega))).trans (by go_simp); have hz9 : w.heap.size + 1 < w9.heap.size := Nat.lt_of_lt_of_le (by first | assumption | omega | (simp; done) | (simp; omega)) hb9.size))
    obtain ⟨hr0_0, hr0_1, hr0_2, hr0_3, hr0_4, hr0_5, hsz0, hBr0⟩ := ‹_ ∧ _›
    go_wp2
    have sc := two_ops hs90 hs91 hs92 (.int .i64 3) (.int .i64 0) (.string ⟨#[]⟩)
    obtain ⟨sc0, sc1, sc2⟩ := sc
    refine bodyPost_ret (v := .agg #[.int .i64 3, .int .i64 0, .string ⟨#[]⟩]) (by simp [sc0, sc1, sc2, results, Try.results25, go_sem]) rfl ⟨by rw [HW.out]; rfl, ?_⟩
    exact hBr0


set_option maxRecDepth 100000 in
set_option maxHeartbeats 2000000 in
theorem apply_less (a b col k n : Int) (s : ByteArray) (k1 n1 : Int) (s1 : ByteArray) (k2 n2 : Int) (s2 : ByteArray) (g gc : Nat) (rv : Value) (w : World) (hg : g < w.heap.size) (c0 : w.cell? ⟨g, 0, none⟩ = some (.int .i64 k1)) (c1 : w.cell? ⟨g, 1, none⟩ = some (.int .i64 n1)) (c2 : w.cell? ⟨g, 2, none⟩ = some (.string s1)) (c3 : w.cell? ⟨g, 3, none⟩ = some (.int .i64 k2)) (c4 : w.cell? ⟨g, 4, none⟩ = some (.int .i64 n2)) (c5 : w.cell? ⟨g, 5, none⟩ = some (.string s2)) :
    Calls Try.prog 25 #[.agg #[.int .i64 7, .int .i64 a, .int .i64 b, .int .i64 col, .int .i64 k, .int .i64 n, .string s], .slice (some ⟨g, 0, none⟩) 2 gc, rv] w fun e w' => e = .returned ((Xp.bool (decide (k1 ≠ 0) && (decide (k1 = k2) && decide (Xp.vcmp ⟨k1, n1, s1⟩ ⟨k2, n2, s2⟩ < 0)))).go) ∧ Below w.heap.size w w' := by
  obtain ⟨v, hv⟩ : ∃ v, Xp.vcmp ⟨k1, n1, s1⟩ ⟨k2, n2, s2⟩ = v := ⟨_, rfl⟩
  rw [hv]
  have HC := Lib.hid hv
  clear hv
  generalize hV : (Xp.bool _).go = V
  have HV := Lib.hid hV
  clear hV
  by_cases z1 : k1 = 0
  · subst z1
    have HW := Lib.hid (HV.out.symm.trans (show (Xp.bool _).go = (Xp.bool false).go by simp))
    have hB0 : Below w.heap.size w w := Below.refl _ _
    go_enter Try.func25, Try.ntmps25
    go_wp2_with fail
    have hB0' : Below w.heap.size w ((w.alloc (.cells #[.int .i64 7, .int .i64 a, .int .i64 b, .int .i64 col, .int .i64 k, .int .i64 n, .string s] 44)).alloc (.cells #[.int .i64 0, .int .i64 0, .string ⟨#[]⟩] 34)) := below_alloc (below_alloc (Below.refl _ _) _) _
    have hn0 : ((w.alloc (.cells #[.int .i64 7, .int .i64 a, .int .i64 b, .int .i64 col, .int .i64 k, .int .i64 n, .string s] 44)).alloc (.cells #[.int .i64 0, .int .i64 0, .string ⟨#[]⟩] 34)).cell? ⟨w.heap.size, 0, none⟩ = some (.int .i64 7) := by go_simp
    have hn1 : ((w.alloc (.cells #[.int .i64 7, .int .i64 a, .int .i64 b, .int .i64 col, .int .i64 k, .int .i64 n, .string s] 44)).alloc (.cells #[.int .i64 0, .int .i64 0, .string ⟨#[]⟩] 34)).cell? ⟨w.heap.size + 1, 0, none⟩ = some (.int .i64 0) := by go_simp
    have hn2 : ((w.alloc (.cells #[.int .i64 7, .int .i64 a, .int .i64 b, .int .i64 col, .int .i64 k, .int .i64 n, .string s] 44)).alloc (.cells #[.int .i64 0, .int .i64 0, .string ⟨#[]⟩] 34)).cell? ⟨w.heap.size + 1, 1, none⟩ = some (.int .i64 0) := by go_simp
    have hn3 : ((w.alloc (.cells #[.int .i64 7, .int .i64 a, .int .i64 b, .int .i64 col, .int .i64 k, .int .i64 n, .string s] 44)).alloc (.cells #[.int .i64 0, .int .i64 0, .string ⟨#[]⟩] 34)).cell? ⟨w.heap.size + 1, 2, none⟩ = some (.string ⟨#[]⟩) := by go_simp
    have hnf0 : ((w.alloc (.cells #[.int .i64 7, .int .i64 a, .int .i64 b, .int .i64 col, .int .i64 k, .int .i64 n, .string s] 44)).alloc (.cells #[.int .i64 0, .int .i64 0, .string ⟨#[]⟩] 34)).frozen? ⟨w.heap.size + 1, 0, none⟩ = false := by go_simp
    have hnf1 : ((w.alloc (.cells #[.int .i64 7, .int .i64 a, .int .i64 b, .int .i64 col, .int .i64 k, .int .i64 n, .string s] 44)).alloc (.cells #[.int .i64 0, .int .i64 0, .string ⟨#[]⟩] 34)).frozen? ⟨w.heap.size + 1, 1, none⟩ = false := by go_simp
    have hnf2 : ((w.alloc (.cells #[.int .i64 7, .int .i64 a, .int .i64 b, .int .i64 col, .int .i64 k, .int .i64 n, .string s] 44)).alloc (.cells #[.int .i64 0, .int .i64 0, .string ⟨#[]⟩] 34)).frozen? ⟨w.heap.size + 1, 2, none⟩ = false := by go_simp
    have hsz0 : ((w.alloc (.cells #[.int .i64 7, .int .i64 a, .int .i64 b, .int .i64 col, .int .i64 k, .int .i64 n, .string s] 44)).alloc (.cells #[.int .i64 0, .int .i64 0, .string ⟨#[]⟩] 34)).heap.size = w.heap.size + 2 := by simp only [World.size_alloc]
    generalize hw0 : ((w.alloc (.cells #[.int .i64 7, .int .i64 a, .int .i64 b, .int .i64 col, .int .i64 k, .int .i64 n, .string s] 44)).alloc (.cells #[.int .i64 0, .int .i64 0, .string ⟨#[]⟩] 34)) = w0 at *
    clear hw0
    have hq0 : w.heap.size < w0.heap.size := by omega
    have hr0 : w.heap.size ≤ w0.heap.size := by omega
    have hq1 : w.heap.size + 1 < w0.heap.size := by omega
    have hr1 : w.heap.size + 1 ≤ w0.heap.size := by omega
    clear hsz0
    have hd0 : w0.cell? ⟨g, 0, none⟩ = some (.int .i64 0) := (hB0'.cell (p := ⟨g, 0, none⟩) hg).trans c0
    have hd1 : w0.cell? ⟨g, 1, none⟩ = some (.int .i64 n1) := (hB0'.cell (p := ⟨g, 1, none⟩) hg).trans c1
    have hd2 : w0.cell? ⟨g, 2, none⟩ = some (.string s1) := (hB0'.cell (p := ⟨g, 2, none⟩) hg).trans c2
    have hd3 : w0.cell? ⟨g, 3, none⟩ = some (.int .i64 k2) := (hB0'.cell (p := ⟨g, 3, none⟩) hg).trans c3
    have hd4 : w0.cell? ⟨g, 4, none⟩ = some (.int .i64 n2) := (hB0'.cell (p := ⟨g, 4, none⟩) hg).trans c4
    have hd5 : w0.cell? ⟨g, 5, none⟩ = some (.string s2) := (hB0'.cell (p := ⟨g, 5, none⟩) hg).trans c5
    have hg0 : g < w0.heap.size := by omega
    refine wp_region_still_tail 26 (by kernel_rfl) (by kernel_rfl) ?_
    simp only [List.take_succ_cons, List.take_zero, List.drop_succ_cons, List.drop_zero]
    refine Veil.out ?_
    refine stillH_want (by kernel_rfl) (fun K hK => ?_)
    go_simp
    refine hK _ ?_
    clear hK K
    refine stillH_want (by kernel_rfl) (fun K hK => ?_)
    go_simp
    refine hK _ ?_
    clear hK K
    refine stillH_want (by kernel_rfl) (fun K hK => ?_)
    go_simp
    refine hK _ ?_
    clear hK K
    refine stillH_want (by kernel_rfl) (fun K hK => ?_)
    go_simp
    refine hK _ ?_
    clear hK K
    refine stillH_want (by kernel_rfl) (fun K hK => ?_)
    go_simp
    refine hK _ ?_
    clear hK K
    refine stillH_want (by kernel_rfl) (fun K hK => ?_)
    go_simp
    refine hK _ ?_
    clear hK K
    refine stillH_skip (by kernel_rfl) (fun K hK => ?_)
    go_simp
    refine hK _ ?_
    clear hK K
    refine stillH_skip (by kernel_rfl) (fun K hK => ?_)
    go_simp
    refine hK _ ?_
    clear hK K
    refine stillH_skip (by kernel_rfl) (fun K hK => ?_)
    go_simp
    refine hK _ ?_
    clear hK K
    refine stillH_skip (by kernel_rfl) (fun K hK => ?_)
    go_simp
    refine hK _ ?_
    clear hK K
    refine stillH_skip (by kernel_rfl) (fun K hK => ?_)
    go_simp
    refine hK _ ?_
    clear hK K
    refine stillH_skip (by kernel_rfl) (fun K hK => ?_)
    go_simp
    refine hK _ ?_
    clear hK K
    refine stillH_skip (by kernel_rfl) (fun K hK => ?_)
    go_simp
    refine hK _ ?_
    clear hK K
    refine stillH_skip (by kernel_rfl) (fun K hK => ?_)
    go_simp
    refine hK _ ?_
    clear hK K
    refine stillH_skip (by kernel_rfl) (fun K hK => ?_)
    go_simp
    refine hK _ ?_
    clear hK K
    refine stillH_want (by kernel_rfl) (fun K hK => ?_)
    go_simp
    refine hK _ ?_
    clear hK K
    refine stillH_want (by kernel_rfl) (fun K hK => ?_)
    go_simp
    refine hK _ ?_
    clear hK K
    refine stillH_skip (by kernel_rfl) (fun K hK => ?_)
    go_simp
    refine hK _ ?_
    clear hK K
    refine stillH_skip (by kernel_rfl) (fun K hK => ?_)
    go_simp
    refine hK _ ?_
    clear hK K
    refine stillH_skip (by kernel_rfl) (fun K hK => ?_)
    go_simp
    refine hK _ ?_
    clear hK K
    refine stillH_skip (by kernel_rfl) (fun K hK => ?_)
    go_simp
    refine hK _ ?_
    clear hK K
    refine stillH_skip (by kernel_rfl) (fun K hK => ?_)
    go_simp
    refine hK _ ?_
    clear hK K
    refine stillH_skip (by kernel_rfl) (fun K hK => ?_)
    go_simp
    refine hK _ ?_
    clear hK K
    refine stillH_skip (by kernel_rfl) (fun K hK => ?_)
    go_simp
    refine hK _ ?_
    clear hK K
    refine stillH_skip (by kernel_rfl) (fun K hK => ?_)
    go_simp
    refine hK _ ?_
    clear hK K
    refine stillH_want (by kernel_rfl) (fun K hK => ?_)
    go_simp
    refine hK _ ?_
    clear hK K
    refine stillH_nil ?_
    go_wp2_with fail
    refine (bool_call false 0 _ rfl).mono ?_
    rintro e w9 ⟨rfl, hb9⟩
    have hs90 : w9.cell? ⟨w.heap.size + 1, 0, none⟩ = some (.int .i64 0) := (hb9.cell (p := ⟨w.heap.size + 1, 0, none⟩) (by first | assumption | omega | (simp; done) | (simp; omega))).trans (by go_simp)
    have hs91 : w9.cell? ⟨w.heap.size + 1, 1, none⟩ = some (.int .i64 0) := (hb9.cell (p := ⟨w.heap.size + 1, 1, none⟩) (by first | assumption | omega | (simp; done) | (simp; omega))).trans (by go_simp)
    have hs92 : w9.cell? ⟨w.heap.size + 1, 2, none⟩ = some (.string ⟨#[]⟩) := (hb9.cell (p := ⟨w.heap.size + 1, 2, none⟩) (by first | assumption | omega | (simp; done) | (simp; omega))).trans (by go_simp)
    have ht90 : w9.frozen? ⟨w.heap.size + 1, 0, none⟩ = false := (hb9.frozen (p := ⟨w.heap.size + 1, 0, none⟩) (by first | assumption | omega | (simp; done) | (simp; omega))).trans (by go_simp)
    have ht91 : w9.frozen? ⟨w.heap.size + 1, 1, none⟩ = false := (hb9.frozen (p := ⟨w.heap.size + 1, 1, none⟩) (by first | assumption | omega | (simp; done) | (simp; omega))).trans (by go_simp)
    have ht92 : w9.frozen? ⟨w.heap.size + 1, 2, none⟩ = false := (hb9.frozen (p := ⟨w.heap.size + 1, 2, none⟩) (by first | assumption | omega | (simp; done) | (simp; omega))).trans (by go_simp)
    have hz9 : w.heap.size + 1 < w9.heap.size := Nat.lt_of_lt_of_le (by first | assumption | omega | (simp; done) | (simp; omega)) hb9.size
    have hB9 : Below w.heap.size w w9 := below_chain (show Below w.heap.size w w0.drew from hB0'.drew) hb9
    go_wp2
    have sc := two_ops hs90 hs91 hs92 (.int .i64 3) (.int .i64 0) (.string ⟨#[]⟩)
    obtain ⟨sc0, sc1, sc2⟩ := sc
    refine bodyPost_ret (v := .agg #[.int .i64 3, .int .i64 0, .string ⟨#[]⟩]) (by simp [sc0, sc1, sc2, results, Try.results25, go_sem]) rfl ⟨by rw [HW.out]; rfl, ?_⟩
    exact (((hB9).setCell (by simp) _).setCell (by simp) _).setCell (by simp) _
  by_cases z2 : k1 = k2
  case neg =>
    have ek1 : (k1 == 0) = false := by simp; exact z1
    have fk1 : (k1 != 0) = true := by simp; exact z1
    have hk : (k1 == k2) = false := by simp; exact z2
    have HW := Lib.hid (HV.out.symm.trans (show (Xp.bool _).go = (Xp.bool false).go by simp [z2]))
    have hB0 : Below w.heap.size w w := Below.refl _ _
    go_enter Try.func25, Try.ntmps25
    go_wp2_with fail
    have hB0' : Below w.heap.size w ((w.alloc (.cells #[.int .i64 7, .int .i64 a, .int .i64 b, .int .i64 col, .int .i64 k, .int .i64 n, .string s] 44)).alloc (.cells #[.int .i64 0, .int .i64 0, .string ⟨#[]⟩] 34)) := below_alloc (below_alloc (Below.refl _ _) _) _
    have hn0 : ((w.alloc (.cells #[.int .i64 7, .int .i64 a, .int .i64 b, .int .i64 col, .int .i64 k, .int .i64 n, .string s] 44)).alloc (.cells #[.int .i64 0, .int .i64 0, .string ⟨#[]⟩] 34)).cell? ⟨w.heap.size, 0, none⟩ = some (.int .i64 7) := by go_simp
    have hn1 : ((w.alloc (.cells #[.int .i64 7, .int .i64 a, .int .i64 b, .int .i64 col, .int .i64 k, .int .i64 n, .string s] 44)).alloc (.cells #[.int .i64 0, .int .i64 0, .string ⟨#[]⟩] 34)).cell? ⟨w.heap.size + 1, 0, none⟩ = some (.int .i64 0) := by go_simp
    have hn2 : ((w.alloc (.cells #[.int .i64 7, .int .i64 a, .int .i64 b, .int .i64 col, .int .i64 k, .int .i64 n, .string s] 44)).alloc (.cells #[.int .i64 0, .int .i64 0, .string ⟨#[]⟩] 34)).cell? ⟨w.heap.size + 1, 1, none⟩ = some (.int .i64 0) := by go_simp
    have hn3 : ((w.alloc (.cells #[.int .i64 7, .int .i64 a, .int .i64 b, .int .i64 col, .int .i64 k, .int .i64 n, .string s] 44)).alloc (.cells #[.int .i64 0, .int .i64 0, .string ⟨#[]⟩] 34)).cell? ⟨w.heap.size + 1, 2, none⟩ = some (.string ⟨#[]⟩) := by go_simp
    have hnf0 : ((w.alloc (.cells #[.int .i64 7, .int .i64 a, .int .i64 b, .int .i64 col, .int .i64 k, .int .i64 n, .string s] 44)).alloc (.cells #[.int .i64 0, .int .i64 0, .string ⟨#[]⟩] 34)).frozen? ⟨w.heap.size + 1, 0, none⟩ = false := by go_simp
    have hnf1 : ((w.alloc (.cells #[.int .i64 7, .int .i64 a, .int .i64 b, .int .i64 col, .int .i64 k, .int .i64 n, .string s] 44)).alloc (.cells #[.int .i64 0, .int .i64 0, .string ⟨#[]⟩] 34)).frozen? ⟨w.heap.size + 1, 1, none⟩ = false := by go_simp
    have hnf2 : ((w.alloc (.cells #[.int .i64 7, .int .i64 a, .int .i64 b, .int .i64 col, .int .i64 k, .int .i64 n, .string s] 44)).alloc (.cells #[.int .i64 0, .int .i64 0, .string ⟨#[]⟩] 34)).frozen? ⟨w.heap.size + 1, 2, none⟩ = false := by go_simp
    have hsz0 : ((w.alloc (.cells #[.int .i64 7, .int .i64 a, .int .i64 b, .int .i64 col, .int .i64 k, .int .i64 n, .string s] 44)).alloc (.cells #[.int .i64 0, .int .i64 0, .string ⟨#[]⟩] 34)).heap.size = w.heap.size + 2 := by simp only [World.size_alloc]
    generalize hw0 : ((w.alloc (.cells #[.int .i64 7, .int .i64 a, .int .i64 b, .int .i64 col, .int .i64 k, .int .i64 n, .string s] 44)).alloc (.cells #[.int .i64 0, .int .i64 0, .string ⟨#[]⟩] 34)) = w0 at *
    clear hw0
    have hq0 : w.heap.size < w0.heap.size := by omega
    have hr0 : w.heap.size ≤ w0.heap.size := by omega
    have hq1 : w.heap.size + 1 < w0.heap.size := by omega
    have hr1 : w.heap.size + 1 ≤ w0.heap.size := by omega
    clear hsz0
    have hd0 : w0.cell? ⟨g, 0, none⟩ = some (.int .i64 k1) := (hB0'.cell (p := ⟨g, 0, none⟩) hg).trans c0
    have hd1 : w0.cell? ⟨g, 1, none⟩ = some (.int .i64 n1) := (hB0'.cell (p := ⟨g, 1, none⟩) hg).trans c1
    have hd2 : w0.cell? ⟨g, 2, none⟩ = some (.string s1) := (hB0'.cell (p := ⟨g, 2, none⟩) hg).trans c2
    have hd3 : w0.cell? ⟨g, 3, none⟩ = some (.int .i64 k2) := (hB0'.cell (p := ⟨g, 3, none⟩) hg).trans c3
    have hd4 : w0.cell? ⟨g, 4, none⟩ = some (.int .i64 n2) := (hB0'.cell (p := ⟨g, 4, none⟩) hg).trans c4
    have hd5 : w0.cell? ⟨g, 5, none⟩ = some (.string s2) := (hB0'.cell (p := ⟨g, 5, none⟩) hg).trans c5
    have hg0 : g < w0.heap.size := by omega
    refine wp_region_still_tail 26 (by kernel_rfl) (by kernel_rfl) ?_
    simp only [List.take_succ_cons, List.take_zero, List.drop_succ_cons, List.drop_zero]
    refine Veil.out ?_
    refine stillH_want (by kernel_rfl) (fun K hK => ?_)
    go_simp
    refine hK _ ?_
    clear hK K
    refine stillH_want (by kernel_rfl) (fun K hK => ?_)
    go_simp
    refine hK _ ?_
    clear hK K
    refine stillH_want (by kernel_rfl) (fun K hK => ?_)
    go_simp
    refine hK _ ?_
    clear hK K
    refine stillH_want (by kernel_rfl) (fun K hK => ?_)
    go_simp
    refine hK _ ?_
    clear hK K
    refine stillH_want (by kernel_rfl) (fun K hK => ?_)
    go_simp
    refine hK _ ?_
    clear hK K
    refine stillH_want (by kernel_rfl) (fun K hK => ?_)
    go_simp
    refine hK _ ?_
    clear hK K
    refine stillH_want (by kernel_rfl) (fun K hK => ?_)
    go_simp
    refine hK _ ?_
    clear hK K
    refine stillH_want (by kernel_rfl) (fun K hK => ?_)
    go_simp
    refine hK _ ?_
    clear hK K
    refine stillH_want (by kernel_rfl) (fun K hK => ?_)
    go_simp
    refine hK _ ?_
    clear hK K
    refine stillH_want (by kernel_rfl) (fun K hK => ?_)
    go_simp
    refine hK _ ?_
    clear hK K
    refine stillH_want (by kernel_rfl) (fun K hK => ?_)
    go_simp
    refine hK _ ?_
    clear hK K
    refine stillH_want (by kernel_rfl) (fun K hK => ?_)
    go_simp
    refine hK _ ?_
    clear hK K
    refine stillH_want (by kernel_rfl) (fun K hK => ?_)
    go_simp
    refine hK _ ?_
    clear hK K
    refine stillH_want (by kernel_rfl) (fun K hK => ?_)
    go_simp
    refine hK _ ?_
    clear hK K
    refine stillH_want (by kernel_rfl) (fun K hK => ?_)
    go_simp
    refine hK _ ?_
    clear hK K
    refine stillH_want (by kernel_rfl) (fun K hK => ?_)
    go_simp
    refine hK _ ?_
    clear hK K
    refine stillH_want (by kernel_rfl) (fun K hK => ?_)
    go_simp
    refine hK _ ?_
    clear hK K
    refine stillH_skip (by kernel_rfl) (fun K hK => ?_)
    go_simp
    refine hK _ ?_
    clear hK K
    refine stillH_skip (by kernel_rfl) (fun K hK => ?_)
    go_simp
    refine hK _ ?_
    clear hK K
    refine stillH_skip (by kernel_rfl) (fun K hK => ?_)
    go_simp
    refine hK _ ?_
    clear hK K
    refine stillH_skip (by kernel_rfl) (fun K hK => ?_)
    go_simp
    refine hK _ ?_
    clear hK K
    refine stillH_skip (by kernel_rfl) (fun K hK => ?_)
    go_simp
    refine hK _ ?_
    clear hK K
    refine stillH_skip (by kernel_rfl) (fun K hK => ?_)
    go_simp
    refine hK _ ?_
    clear hK K
    refine stillH_skip (by kernel_rfl) (fun K hK => ?_)
    go_simp
    refine hK _ ?_
    clear hK K
    refine stillH_skip (by kernel_rfl) (fun K hK => ?_)
    go_simp
    refine hK _ ?_
    clear hK K
    refine stillH_want (by kernel_rfl) (fun K hK => ?_)
    go_simp
    refine hK _ ?_
    clear hK K
    refine stillH_nil ?_
    go_wp2_with fail
    refine (bool_call false 0 _ rfl).mono ?_
    rintro e w9 ⟨rfl, hb9⟩
    have hs90 : w9.cell? ⟨w.heap.size + 1, 0, none⟩ = some (.int .i64 0) := (hb9.cell (p := ⟨w.heap.size + 1, 0, none⟩) (by first | assumption | omega | (simp; done) | (simp; omega))).trans (by go_simp)
    have hs91 : w9.cell? ⟨w.heap.size + 1, 1, none⟩ = some (.int .i64 0) := (hb9.cell (p := ⟨w.heap.size + 1, 1, none⟩) (by first | assumption | omega | (simp; done) | (simp; omega))).trans (by go_simp)
    have hs92 : w9.cell? ⟨w.heap.size + 1, 2, none⟩ = some (.string ⟨#[]⟩) := (hb9.cell (p := ⟨w.heap.size + 1, 2, none⟩) (by first | assumption | omega | (simp; done) | (simp; omega))).trans (by go_simp)
    have ht90 : w9.frozen? ⟨w.heap.size + 1, 0, none⟩ = false := (hb9.frozen (p := ⟨w.heap.size + 1, 0, none⟩) (by first | assumption | omega | (simp; done) | (simp; omega))).trans (by go_simp)
    have ht91 : w9.frozen? ⟨w.heap.size + 1, 1, none⟩ = false := (hb9.frozen (p := ⟨w.heap.size + 1, 1, none⟩) (by first | assumption | omega | (simp; done) | (simp; omega))).trans (by go_simp)
    have ht92 : w9.frozen? ⟨w.heap.size + 1, 2, none⟩ = false := (hb9.frozen (p := ⟨w.heap.size + 1, 2, none⟩) (by first | assumption | omega | (simp; done) | (simp; omega))).trans (by go_simp)
    have hz9 : w.heap.size + 1 < w9.heap.size := Nat.lt_of_lt_of_le (by first | assumption | omega | (simp; done) | (simp; omega)) hb9.size
    have hB9 : Below w.heap.size w w9 := below_chain (show Below w.heap.size w w0.drew from hB0'.drew) hb9
    go_wp2
    have sc := two_ops hs90 hs91 hs92 (.int .i64 3) (.int .i64 0) (.string ⟨#[]⟩)
    obtain ⟨sc0, sc1, sc2⟩ := sc
    refine bodyPost_ret (v := .agg #[.int .i64 3, .int .i64 0, .string ⟨#[]⟩]) (by simp [sc0, sc1, sc2, results, Try.results25, go_sem]) rfl ⟨by rw [HW.out]; rfl, ?_⟩
    exact (((hB9).setCell (by simp) _).setCell (by simp) _).setCell (by simp) _
  subst z2
  by_cases z3 : v < 0
  · have ek1 : (k1 == 0) = false := by simp; exact z1
    have fk1 : (k1 != 0) = true := by simp; exact z1
    have hd : decide (v < 0) = true := by simp; exact z3
    have HW := Lib.hid (HV.out.symm.trans (show (Xp.bool _).go = (Xp.bool true).go by simp [z1, z3]))
    have hB0 : Below w.heap.size w w := Below.refl _ _
    go_enter Try.func25, Try.ntmps25
    go_wp2_with fail
    have hB0' : Below w.heap.size w ((w.alloc (.cells #[.int .i64 7, .int .i64 a, .int .i64 b, .int .i64 col, .int .i64 k, .int .i64 n, .string s] 44)).alloc (.cells #[.int .i64 0, .int .i64 0, .string ⟨#[]⟩] 34)) := below_alloc (below_alloc (Below.refl _ _) _) _
    have hn0 : ((w.alloc (.cells #[.int .i64 7, .int .i64 a, .int .i64 b, .int .i64 col, .int .i64 k, .int .i64 n, .string s] 44)).alloc (.cells #[.int .i64 0, .int .i64 0, .string ⟨#[]⟩] 34)).cell? ⟨w.heap.size, 0, none⟩ = some (.int .i64 7) := by go_simp
    have hn1 : ((w.alloc (.cells #[.int .i64 7, .int .i64 a, .int .i64 b, .int .i64 col, .int .i64 k, .int .i64 n, .string s] 44)).alloc (.cells #[.int .i64 0, .int .i64 0, .string ⟨#[]⟩] 34)).cell? ⟨w.heap.size + 1, 0, none⟩ = some (.int .i64 0) := by go_simp
    have hn2 : ((w.alloc (.cells #[.int .i64 7, .int .i64 a, .int .i64 b, .int .i64 col, .int .i64 k, .int .i64 n, .string s] 44)).alloc (.cells #[.int .i64 0, .int .i64 0, .string ⟨#[]⟩] 34)).cell? ⟨w.heap.size + 1, 1, none⟩ = some (.int .i64 0) := by go_simp
    have hn3 : ((w.alloc (.cells #[.int .i64 7, .int .i64 a, .int .i64 b, .int .i64 col, .int .i64 k, .int .i64 n, .string s] 44)).alloc (.cells #[.int .i64 0, .int .i64 0, .string ⟨#[]⟩] 34)).cell? ⟨w.heap.size + 1, 2, none⟩ = some (.string ⟨#[]⟩) := by go_simp
    have hnf0 : ((w.alloc (.cells #[.int .i64 7, .int .i64 a, .int .i64 b, .int .i64 col, .int .i64 k, .int .i64 n, .string s] 44)).alloc (.cells #[.int .i64 0, .int .i64 0, .string ⟨#[]⟩] 34)).frozen? ⟨w.heap.size + 1, 0, none⟩ = false := by go_simp
    have hnf1 : ((w.alloc (.cells #[.int .i64 7, .int .i64 a, .int .i64 b, .int .i64 col, .int .i64 k, .int .i64 n, .string s] 44)).alloc (.cells #[.int .i64 0, .int .i64 0, .string ⟨#[]⟩] 34)).frozen? ⟨w.heap.size + 1, 1, none⟩ = false := by go_simp
    have hnf2 : ((w.alloc (.cells #[.int .i64 7, .int .i64 a, .int .i64 b, .int .i64 col, .int .i64 k, .int .i64 n, .string s] 44)).alloc (.cells #[.int .i64 0, .int .i64 0, .string ⟨#[]⟩] 34)).frozen? ⟨w.heap.size + 1, 2, none⟩ = false := by go_simp
    have hsz0 : ((w.alloc (.cells #[.int .i64 7, .int .i64 a, .int .i64 b, .int .i64 col, .int .i64 k, .int .i64 n, .string s] 44)).alloc (.cells #[.int .i64 0, .int .i64 0, .string ⟨#[]⟩] 34)).heap.size = w.heap.size + 2 := by simp only [World.size_alloc]
    generalize hw0 : ((w.alloc (.cells #[.int .i64 7, .int .i64 a, .int .i64 b, .int .i64 col, .int .i64 k, .int .i64 n, .string s] 44)).alloc (.cells #[.int .i64 0, .int .i64 0, .string ⟨#[]⟩] 34)) = w0 at *
    clear hw0
    have hq0 : w.heap.size < w0.heap.size := by omega
    have hr0 : w.heap.size ≤ w0.heap.size := by omega
    have hq1 : w.heap.size + 1 < w0.heap.size := by omega
    have hr1 : w.heap.size + 1 ≤ w0.heap.size := by omega
    clear hsz0
    have hd0 : w0.cell? ⟨g, 0, none⟩ = some (.int .i64 k1) := (hB0'.cell (p := ⟨g, 0, none⟩) hg).trans c0
    have hd1 : w0.cell? ⟨g, 1, none⟩ = some (.int .i64 n1) := (hB0'.cell (p := ⟨g, 1, none⟩) hg).trans c1
    have hd2 : w0.cell? ⟨g, 2, none⟩ = some (.string s1) := (hB0'.cell (p := ⟨g, 2, none⟩) hg).trans c2
    have hd3 : w0.cell? ⟨g, 3, none⟩ = some (.int .i64 k1) := (hB0'.cell (p := ⟨g, 3, none⟩) hg).trans c3
    have hd4 : w0.cell? ⟨g, 4, none⟩ = some (.int .i64 n2) := (hB0'.cell (p := ⟨g, 4, none⟩) hg).trans c4
    have hd5 : w0.cell? ⟨g, 5, none⟩ = some (.string s2) := (hB0'.cell (p := ⟨g, 5, none⟩) hg).trans c5
    have hg0 : g < w0.heap.size := by omega
    have hi0_0 : w0.cell? ⟨g, 0, none⟩ = some (.int .i64 k1) := by go_simp
    have hi0_1 : w0.cell? ⟨g, 1, none⟩ = some (.int .i64 n1) := by go_simp
    have hi0_2 : w0.cell? ⟨g, 2, none⟩ = some (.string s1) := by go_simp
    have hi0_3 : w0.cell? ⟨g, 3, none⟩ = some (.int .i64 k1) := by go_simp
    have hi0_4 : w0.cell? ⟨g, 4, none⟩ = some (.int .i64 n2) := by go_simp
    have hi0_5 : w0.cell? ⟨g, 5, none⟩ = some (.string s2) := by go_simp
    have KEEP0 := Lib.hid (show ∀ W1 W2 : World, (W1.cell? ⟨g, 0, none⟩ = some (.int .i64 k1) ∧ W1.cell? ⟨g, 1, none⟩ = some (.int .i64 n1) ∧ W1.cell? ⟨g, 2, none⟩ = some (.string s1) ∧ W1.cell? ⟨g, 3, none⟩ = some (.int .i64 k1) ∧ W1.cell? ⟨g, 4, none⟩ = some (.int .i64 n2) ∧ W1.cell? ⟨g, 5, none⟩ = some (.string s2) ∧ w0.heap.size ≤ W1.heap.size ∧ Below w.heap.size w W1) → Below W1.heap.size W1 W2 → (W2.cell? ⟨g, 0, none⟩ = some (.int .i64 k1) ∧ W2.cell? ⟨g, 1, none⟩ = some (.int .i64 n1) ∧ W2.cell? ⟨g, 2, none⟩ = some (.string s1) ∧ W2.cell? ⟨g, 3, none⟩ = some (.int .i64 k1) ∧ W2.cell? ⟨g, 4, none⟩ = some (.int .i64 n2) ∧ W2.cell? ⟨g, 5, none⟩ = some (.string s2) ∧ w0.heap.size ≤ W2.heap.size ∧ Below w.heap.size w W2) from fun W1 W2 ⟨a0, a1, a2, a3, a4, a5, hs, hB⟩ hb => ⟨(hb.cell (p := ⟨g, 0, none⟩) (show g < W1.heap.size by omega)).trans a0, (hb.cell (p := ⟨g, 1, none⟩) (show g < W1.heap.size by omega)).trans a1, (hb.cell (p := ⟨g, 2, none⟩) (show g < W1.heap.size by omega)).trans a2, (hb.cell (p := ⟨g, 3, none⟩) (show g < W1.heap.size by omega)).trans a3, (hb.cell (p := ⟨g, 4, none⟩) (show g < W1.heap.size by omega)).trans a4, (hb.cell (p := ⟨g, 5, none⟩) (show g < W1.heap.size by omega)).trans a5, Nat.le_trans hs hb.size, hB.trans (hb.mono hB.size)⟩)
    have INIT0 := Lib.hid (show (w0.drew.cell? ⟨g, 0, none⟩ = some (.int .i64 k1) ∧ w0.drew.cell? ⟨g, 1, none⟩ = some (.int .i64 n1) ∧ w0.drew.cell? ⟨g, 2, none⟩ = some (.string s1) ∧ w0.drew.cell? ⟨g, 3, none⟩ = some (.int .i64 k1) ∧ w0.drew.cell? ⟨g, 4, none⟩ = some (.int .i64 n2) ∧ w0.drew.cell? ⟨g, 5, none⟩ = some (.string s2) ∧ w0.heap.size ≤ w0.drew.heap.size ∧ Below w.heap.size w w0.drew) from ⟨hi0_0, hi0_1, hi0_2, hi0_3, hi0_4, hi0_5, Nat.le_refl _, hB0'.drew⟩)
    have KEEPS0 := Lib.hid (show ∀ (W1 : World) (u0 u1 u2 : Value), (W1.cell? ⟨g, 0, none⟩ = some (.int .i64 k1) ∧ W1.cell? ⟨g, 1, none⟩ = some (.int .i64 n1) ∧ W1.cell? ⟨g, 2, none⟩ = some (.string s1) ∧ W1.cell? ⟨g, 3, none⟩ = some (.int .i64 k1) ∧ W1.cell? ⟨g, 4, none⟩ = some (.int .i64 n2) ∧ W1.cell? ⟨g, 5, none⟩ = some (.string s2) ∧ w0.heap.size ≤ W1.heap.size ∧ Below w.heap.size w W1) → ((((W1.setCell ⟨w.heap.size + 1, 0, none⟩ u0).setCell ⟨w.heap.size + 1, 1, none⟩ u1).setCell ⟨w.heap.size + 1, 2, none⟩ u2).cell? ⟨g, 0, none⟩ = some (.int .i64 k1) ∧ (((W1.setCell ⟨w.heap.size + 1, 0, none⟩ u0).setCell ⟨w.heap.size + 1, 1, none⟩ u1).setCell ⟨w.heap.size + 1, 2, none⟩ u2).cell? ⟨g, 1, none⟩ = some (.int .i64 n1) ∧ (((W1.setCell ⟨w.heap.size + 1, 0, none⟩ u0).setCell ⟨w.heap.size + 1, 1, none⟩ u1).setCell ⟨w.heap.size + 1, 2, none⟩ u2).cell? ⟨g, 2, none⟩ = some (.string s1) ∧ (((W1.setCell ⟨w.heap.size + 1, 0, none⟩ u0).setCell ⟨w.heap.size + 1, 1, none⟩ u1).setCell ⟨w.heap.size + 1, 2, none⟩ u2).cell? ⟨g, 3, none⟩ = some (.int .i64 k1) ∧ (((W1.setCell ⟨w.heap.size + 1, 0, none⟩ u0).setCell ⟨w.heap.size + 1, 1, none⟩ u1).setCell ⟨w.heap.size + 1, 2, none⟩ u2).cell? ⟨g, 4, none⟩ = some (.int .i64 n2) ∧ (((W1.setCell ⟨w.heap.size + 1, 0, none⟩ u0).setCell ⟨w.heap.size + 1, 1, none⟩ u1).setCell ⟨w.heap.size + 1, 2, none⟩ u2).cell? ⟨g, 5, none⟩ = some (.string s2) ∧ w0.heap.size ≤ (((W1.setCell ⟨w.heap.size + 1, 0, none⟩ u0).setCell ⟨w.heap.size + 1, 1, none⟩ u1).setCell ⟨w.heap.size + 1, 2, none⟩ u2).heap.size ∧ Below w.heap.size w (((W1.setCell ⟨w.heap.size + 1, 0, none⟩ u0).setCell ⟨w.heap.size + 1, 1, none⟩ u1).setCell ⟨w.heap.size + 1, 2, none⟩ u2)) from fun W1 u0 u1 u2 ⟨a0, a1, a2, a3, a4, a5, hs, hB⟩ => ⟨by rw [World.cell?_setCell_other _ _ _ _ (by first | (simp; done) | (simp; omega))]; rw [World.cell?_setCell_other _ _ _ _ (by first | (simp; done) | (simp; omega))]; rw [World.cell?_setCell_other _ _ _ _ (by first | (simp; done) | (simp; omega))]; exact a0, by rw [World.cell?_setCell_other _ _ _ _ (by first | (simp; done) | (simp; omega))]; rw [World.cell?_setCell_other _ _ _ _ (by first | (simp; done) | (simp; omega))]; rw [World.cell?_setCell_other _ _ _ _ (by first | (simp; done) | (simp; omega))]; exact a1, by rw [World.cell?_setCell_other _ _ _ _ (by first | (simp; done) | (simp; omega))]; rw [World.cell?_setCell_other _ _ _ _ (by first | (simp; done) | (simp; omega))]; rw [World.cell?_setCell_other _ _ _ _ (by first | (simp; done) | (simp; omega))]; exact a2, by rw [World.cell?_setCell_other _ _ _ _ (by first | (simp; done) | (simp; omega))]; rw [World.cell?_setCell_other _ _ _ _ (by first | (simp; done) | (simp; omega))]; rw [World.cell?_setCell_other _ _ _ _ (by first | (simp; done) | (simp; omega))]; exact a3, by rw [World.cell?_setCell_other _ _ _ _ (by first | (simp; done) | (simp; omega))]; rw [World.cell?_setCell_other _ _ _ _ (by first | (simp; done) | (simp; omega))]; rw [World.cell?_setCell_other _ _ _ _ (by first | (simp; done) | (simp; omega))]; exact a4, by rw [World.cell?_setCell_other _ _ _ _ (by first | (simp; done) | (simp; omega))]; rw [World.cell?_setCell_other _ _ _ _ (by first | (simp; done) | (simp; omega))]; rw [World.cell?_setCell_other _ _ _ _ (by first | (simp; done) | (simp; omega))]; exact a5, by simpa [World.setCell] using hs, (((hB).setCell (by first | (simp; done) | (simp; omega)) _).setCell (by first | (simp; done) | (simp; omega)) _).setCell (by first | (simp; done) | (simp; omega)) _⟩)
    go_region_held3 (fun w' => (w'.cell? ⟨g, 0, none⟩ = some (.int .i64 k1) ∧ w'.cell? ⟨g, 1, none⟩ = some (.int .i64 n1) ∧ w'.cell? ⟨g, 2, none⟩ = some (.string s1) ∧ w'.cell? ⟨g, 3, none⟩ = some (.int .i64 k1) ∧ w'.cell? ⟨g, 4, none⟩ = some (.int .i64 n2) ∧ w'.cell? ⟨g, 5, none⟩ = some (.string s2) ∧ w0.heap.size ≤ w'.heap.size ∧ Below w.heap.size w w')) (first | assumption | exact INIT0.out | exact KEEP0.out _ _ (by assumption) (by assumption) | exact KEEP0.out _ _ (by assumption) ((Below.refl _ _).alloc (Nat.le_refl _) _) | exact KEEPS0.out _ _ _ _ (by assumption))
      (first | (go_at_call 38; refine (cmp_call _ _ _ _ _ _ v _ HC.out).mono ?_; rintro e w8 ⟨rfl, hb8⟩; have hs80 : w8.cell? ⟨w.heap.size + 1, 0, none⟩ = some (.int .i64 0) := (hb8.cell (p := ⟨w.heap.size + 1, 0, none⟩) (by first | assumption | omega | (simp; done) | (simp; omega))).trans (by go_simp); have hs81 : w8.cell? ⟨w.heap.size + 1, 1, none⟩ = some (.int .i64 0) := (hb8.cell (p := ⟨w.heap.size + 1, 1, none⟩) (by first | assumption | omega | (simp; done) | (simp; omega))).trans (by go_simp); have hs82 : w8.cell? ⟨w.heap.size + 1, 2, none⟩ = some (.string ⟨#[]⟩) := (hb8.cell (p := ⟨w.heap.size + 1, 2, none⟩) (by first | assumption | omega | (simp; done) | (simp; omega))).trans (by go_simp); have ht80 : w8.frozen? ⟨w.heap.size + 1, 0, none⟩ = false := (hb8.frozen (p := ⟨w.heap.size + 1, 0, none⟩) (by first | assumption | omega | (simp; done) | (simp; omega))).trans (by go_simp); have ht81 : w8.frozen? ⟨w.heap.size + 1, 1, none⟩ = false := (hb8.frozen (p := ⟨w.heap.size + 1, 1, none⟩) (by first | assumption | omega | (simp; done) | (simp; omega))).trans (by go_simp); have ht82 : w8.frozen? ⟨w.heap.size + 1, 2, none⟩ = false := (hb8.frozen (p := ⟨w.heap.size + 1, 2, none⟩) (by first | assumption | omega | (simp; done) | (simp; omega))).trans (by go_simp); have hz8 : w.heap.size + 1 < w8.heap.size := Nat.lt_of_lt_of_le (by first | assumption | omega | (simp; done) | (simp; omega)) hb8.size) | (go_at_call 37; refine (bool_call true 1 _ rfl).mono ?_; rintro e w9 ⟨rfl, hb9⟩; have hs90 : w9.cell? ⟨w.heap.size + 1, 0, none⟩ = some (.int .i64 0) := (hb9.cell (p := ⟨w.heap.size + 1, 0, none⟩) (by first | assumption | omega | (simp; done) | (simp; omega))).trans (by go_simp); have hs91 : w9.cell? ⟨w.heap.size + 1, 1, none⟩ = some (.int .i64 0) := (hb9.cell (p := ⟨w.heap.size + 1, 1, none⟩) (by first | assumption | omega | (simp; done) | (simp; omega))).trans (by go_simp); have hs92 : w9.cell? ⟨w.heap.size + 1, 2, none⟩ = some (.string ⟨#[]⟩) := (hb9.cell (p := ⟨w.heap.size + 1, 2, none⟩) (by first | assumption | omega | (simp; done) | (simp; omega))).trans (by go_simp); have ht90 : w9.frozen? ⟨w.heap.size + 1, 0, none⟩ = false := (hb9.frozen (p := ⟨w.heap.size + 1, 0, none⟩) (by first | assumption | omega | (simp; done) | (simp; omega))).trans (by go_simp); have ht91 : w9.frozen? ⟨w.heap.size + 1, 1, none⟩ = false := (hb9.frozen (p := ⟨w.heap.size + 1, 1, none⟩) (by first | assumption | omega | (simp; done) | (simp; omega))).trans (by go_simp); have ht92 : w9.frozen? ⟨w.heap.size + 1, 2, none⟩ = false := (hb9.frozen (p := ⟨w.heap.size + 1, 2, none⟩) (by first | assumption | omega | (simp; done) | (simp; omega))).trans (by go_simp); have hz9 : w.heap.size + 1 < w9.heap.size := Nat.lt_of_lt_of_le (by first | assumption | omega | (simp; done) | (simp; omega)) hb9.size))
    obtain ⟨hr0_0, hr0_1, hr0_2, hr0_3, hr0_4, hr0_5, hsz0, hBr0⟩ := ‹_ ∧ _›
    go_wp2
    have sc := two_ops hs90 hs91 hs92 (.int .i64 3) (.int .i64 1) (.string ⟨#[]⟩)
    obtain ⟨sc0, sc1, sc2⟩ := sc
    refine bodyPost_ret (v := .agg #[.int .i64 3, .int .i64 1, .string ⟨#[]⟩]) (by simp [sc0, sc1, sc2, results, Try.results25, go_sem]) rfl ⟨by rw [HW.out]; rfl, ?_⟩
    exact hBr0
  · have ek1 : (k1 == 0) = false := by simp; exact z1
    have fk1 : (k1 != 0) = true := by simp; exact z1
    have hd : decide (v < 0) = false := by simp; omega
    have HW := Lib.hid (HV.out.symm.trans (show (Xp.bool _).go = (Xp.bool false).go by rw [hd]; simp))
    have hB0 : Below w.heap.size w w := Below.refl _ _
    go_enter Try.func25, Try.ntmps25
    go_wp2_with fail
    have hB0' : Below w.heap.size w ((w.alloc (.cells #[.int .i64 7, .int .i64 a, .int .i64 b, .int .i64 col, .int .i64 k, .int .i64 n, .string s] 44)).alloc (.cells #[.int .i64 0, .int .i64 0, .string ⟨#[]⟩] 34)) := below_alloc (below_alloc (Below.refl _ _) _) _
    have hn0 : ((w.alloc (.cells #[.int .i64 7, .int .i64 a, .int .i64 b, .int .i64 col, .int .i64 k, .int .i64 n, .string s] 44)).alloc (.cells #[.int .i64 0, .int .i64 0, .string ⟨#[]⟩] 34)).cell? ⟨w.heap.size, 0, none⟩ = some (.int .i64 7) := by go_simp
    have hn1 : ((w.alloc (.cells #[.int .i64 7, .int .i64 a, .int .i64 b, .int .i64 col, .int .i64 k, .int .i64 n, .string s] 44)).alloc (.cells #[.int .i64 0, .int .i64 0, .string ⟨#[]⟩] 34)).cell? ⟨w.heap.size + 1, 0, none⟩ = some (.int .i64 0) := by go_simp
    have hn2 : ((w.alloc (.cells #[.int .i64 7, .int .i64 a, .int .i64 b, .int .i64 col, .int .i64 k, .int .i64 n, .string s] 44)).alloc (.cells #[.int .i64 0, .int .i64 0, .string ⟨#[]⟩] 34)).cell? ⟨w.heap.size + 1, 1, none⟩ = some (.int .i64 0) := by go_simp
    have hn3 : ((w.alloc (.cells #[.int .i64 7, .int .i64 a, .int .i64 b, .int .i64 col, .int .i64 k, .int .i64 n, .string s] 44)).alloc (.cells #[.int .i64 0, .int .i64 0, .string ⟨#[]⟩] 34)).cell? ⟨w.heap.size + 1, 2, none⟩ = some (.string ⟨#[]⟩) := by go_simp
    have hnf0 : ((w.alloc (.cells #[.int .i64 7, .int .i64 a, .int .i64 b, .int .i64 col, .int .i64 k, .int .i64 n, .string s] 44)).alloc (.cells #[.int .i64 0, .int .i64 0, .string ⟨#[]⟩] 34)).frozen? ⟨w.heap.size + 1, 0, none⟩ = false := by go_simp
    have hnf1 : ((w.alloc (.cells #[.int .i64 7, .int .i64 a, .int .i64 b, .int .i64 col, .int .i64 k, .int .i64 n, .string s] 44)).alloc (.cells #[.int .i64 0, .int .i64 0, .string ⟨#[]⟩] 34)).frozen? ⟨w.heap.size + 1, 1, none⟩ = false := by go_simp
    have hnf2 : ((w.alloc (.cells #[.int .i64 7, .int .i64 a, .int .i64 b, .int .i64 col, .int .i64 k, .int .i64 n, .string s] 44)).alloc (.cells #[.int .i64 0, .int .i64 0, .string ⟨#[]⟩] 34)).frozen? ⟨w.heap.size + 1, 2, none⟩ = false := by go_simp
    have hsz0 : ((w.alloc (.cells #[.int .i64 7, .int .i64 a, .int .i64 b, .int .i64 col, .int .i64 k, .int .i64 n, .string s] 44)).alloc (.cells #[.int .i64 0, .int .i64 0, .string ⟨#[]⟩] 34)).heap.size = w.heap.size + 2 := by simp only [World.size_alloc]
    generalize hw0 : ((w.alloc (.cells #[.int .i64 7, .int .i64 a, .int .i64 b, .int .i64 col, .int .i64 k, .int .i64 n, .string s] 44)).alloc (.cells #[.int .i64 0, .int .i64 0, .string ⟨#[]⟩] 34)) = w0 at *
    clear hw0
    have hq0 : w.heap.size < w0.heap.size := by omega
    have hr0 : w.heap.size ≤ w0.heap.size := by omega
    have hq1 : w.heap.size + 1 < w0.heap.size := by omega
    have hr1 : w.heap.size + 1 ≤ w0.heap.size := by omega
    clear hsz0
    have hd0 : w0.cell? ⟨g, 0, none⟩ = some (.int .i64 k1) := (hB0'.cell (p := ⟨g, 0, none⟩) hg).trans c0
    have hd1 : w0.cell? ⟨g, 1, none⟩ = some (.int .i64 n1) := (hB0'.cell (p := ⟨g, 1, none⟩) hg).trans c1
    have hd2 : w0.cell? ⟨g, 2, none⟩ = some (.string s1) := (hB0'.cell (p := ⟨g, 2, none⟩) hg).trans c2
    have hd3 : w0.cell? ⟨g, 3, none⟩ = some (.int .i64 k1) := (hB0'.cell (p := ⟨g, 3, none⟩) hg).trans c3
    have hd4 : w0.cell? ⟨g, 4, none⟩ = some (.int .i64 n2) := (hB0'.cell (p := ⟨g, 4, none⟩) hg).trans c4
    have hd5 : w0.cell? ⟨g, 5, none⟩ = some (.string s2) := (hB0'.cell (p := ⟨g, 5, none⟩) hg).trans c5
    have hg0 : g < w0.heap.size := by omega
    have hi0_0 : w0.cell? ⟨g, 0, none⟩ = some (.int .i64 k1) := by go_simp
    have hi0_1 : w0.cell? ⟨g, 1, none⟩ = some (.int .i64 n1) := by go_simp
    have hi0_2 : w0.cell? ⟨g, 2, none⟩ = some (.string s1) := by go_simp
    have hi0_3 : w0.cell? ⟨g, 3, none⟩ = some (.int .i64 k1) := by go_simp
    have hi0_4 : w0.cell? ⟨g, 4, none⟩ = some (.int .i64 n2) := by go_simp
    have hi0_5 : w0.cell? ⟨g, 5, none⟩ = some (.string s2) := by go_simp
    have KEEP0 := Lib.hid (show ∀ W1 W2 : World, (W1.cell? ⟨g, 0, none⟩ = some (.int .i64 k1) ∧ W1.cell? ⟨g, 1, none⟩ = some (.int .i64 n1) ∧ W1.cell? ⟨g, 2, none⟩ = some (.string s1) ∧ W1.cell? ⟨g, 3, none⟩ = some (.int .i64 k1) ∧ W1.cell? ⟨g, 4, none⟩ = some (.int .i64 n2) ∧ W1.cell? ⟨g, 5, none⟩ = some (.string s2) ∧ w0.heap.size ≤ W1.heap.size ∧ Below w.heap.size w W1) → Below W1.heap.size W1 W2 → (W2.cell? ⟨g, 0, none⟩ = some (.int .i64 k1) ∧ W2.cell? ⟨g, 1, none⟩ = some (.int .i64 n1) ∧ W2.cell? ⟨g, 2, none⟩ = some (.string s1) ∧ W2.cell? ⟨g, 3, none⟩ = some (.int .i64 k1) ∧ W2.cell? ⟨g, 4, none⟩ = some (.int .i64 n2) ∧ W2.cell? ⟨g, 5, none⟩ = some (.string s2) ∧ w0.heap.size ≤ W2.heap.size ∧ Below w.heap.size w W2) from fun W1 W2 ⟨a0, a1, a2, a3, a4, a5, hs, hB⟩ hb => ⟨(hb.cell (p := ⟨g, 0, none⟩) (show g < W1.heap.size by omega)).trans a0, (hb.cell (p := ⟨g, 1, none⟩) (show g < W1.heap.size by omega)).trans a1, (hb.cell (p := ⟨g, 2, none⟩) (show g < W1.heap.size by omega)).trans a2, (hb.cell (p := ⟨g, 3, none⟩) (show g < W1.heap.size by omega)).trans a3, (hb.cell (p := ⟨g, 4, none⟩) (show g < W1.heap.size by omega)).trans a4, (hb.cell (p := ⟨g, 5, none⟩) (show g < W1.heap.size by omega)).trans a5, Nat.le_trans hs hb.size, hB.trans (hb.mono hB.size)⟩)
    have INIT0 := Lib.hid (show (w0.drew.cell? ⟨g, 0, none⟩ = some (.int .i64 k1) ∧ w0.drew.cell? ⟨g, 1, none⟩ = some (.int .i64 n1) ∧ w0.drew.cell? ⟨g, 2, none⟩ = some (.string s1) ∧ w0.drew.cell? ⟨g, 3, none⟩ = some (.int .i64 k1) ∧ w0.drew.cell? ⟨g, 4, none⟩ = some (.int .i64 n2) ∧ w0.drew.cell? ⟨g, 5, none⟩ = some (.string s2) ∧ w0.heap.size ≤ w0.drew.heap.size ∧ Below w.heap.size w w0.drew) from ⟨hi0_0, hi0_1, hi0_2, hi0_3, hi0_4, hi0_5, Nat.le_refl _, hB0'.drew⟩)
    have KEEPS0 := Lib.hid (show ∀ (W1 : World) (u0 u1 u2 : Value), (W1.cell? ⟨g, 0, none⟩ = some (.int .i64 k1) ∧ W1.cell? ⟨g, 1, none⟩ = some (.int .i64 n1) ∧ W1.cell? ⟨g, 2, none⟩ = some (.string s1) ∧ W1.cell? ⟨g, 3, none⟩ = some (.int .i64 k1) ∧ W1.cell? ⟨g, 4, none⟩ = some (.int .i64 n2) ∧ W1.cell? ⟨g, 5, none⟩ = some (.string s2) ∧ w0.heap.size ≤ W1.heap.size ∧ Below w.heap.size w W1) → ((((W1.setCell ⟨w.heap.size + 1, 0, none⟩ u0).setCell ⟨w.heap.size + 1, 1, none⟩ u1).setCell ⟨w.heap.size + 1, 2, none⟩ u2).cell? ⟨g, 0, none⟩ = some (.int .i64 k1) ∧ (((W1.setCell ⟨w.heap.size + 1, 0, none⟩ u0).setCell ⟨w.heap.size + 1, 1, none⟩ u1).setCell ⟨w.heap.size + 1, 2, none⟩ u2).cell? ⟨g, 1, none⟩ = some (.int .i64 n1) ∧ (((W1.setCell ⟨w.heap.size + 1, 0, none⟩ u0).setCell ⟨w.heap.size + 1, 1, none⟩ u1).setCell ⟨w.heap.size + 1, 2, none⟩ u2).cell? ⟨g, 2, none⟩ = some (.string s1) ∧ (((W1.setCell ⟨w.heap.size + 1, 0, none⟩ u0).setCell ⟨w.heap.size + 1, 1, none⟩ u1).setCell ⟨w.heap.size + 1, 2, none⟩ u2).cell? ⟨g, 3, none⟩ = some (.int .i64 k1) ∧ (((W1.setCell ⟨w.heap.size + 1, 0, none⟩ u0).setCell ⟨w.heap.size + 1, 1, none⟩ u1).setCell ⟨w.heap.size + 1, 2, none⟩ u2).cell? ⟨g, 4, none⟩ = some (.int .i64 n2) ∧ (((W1.setCell ⟨w.heap.size + 1, 0, none⟩ u0).setCell ⟨w.heap.size + 1, 1, none⟩ u1).setCell ⟨w.heap.size + 1, 2, none⟩ u2).cell? ⟨g, 5, none⟩ = some (.string s2) ∧ w0.heap.size ≤ (((W1.setCell ⟨w.heap.size + 1, 0, none⟩ u0).setCell ⟨w.heap.size + 1, 1, none⟩ u1).setCell ⟨w.heap.size + 1, 2, none⟩ u2).heap.size ∧ Below w.heap.size w (((W1.setCell ⟨w.heap.size + 1, 0, none⟩ u0).setCell ⟨w.heap.size + 1, 1, none⟩ u1).setCell ⟨w.heap.size + 1, 2, none⟩ u2)) from fun W1 u0 u1 u2 ⟨a0, a1, a2, a3, a4, a5, hs, hB⟩ => ⟨by rw [World.cell?_setCell_other _ _ _ _ (by first | (simp; done) | (simp; omega))]; rw [World.cell?_setCell_other _ _ _ _ (by first | (simp; done) | (simp; omega))]; rw [World.cell?_setCell_other _ _ _ _ (by first | (simp; done) | (simp; omega))]; exact a0, by rw [World.cell?_setCell_other _ _ _ _ (by first | (simp; done) | (simp; omega))]; rw [World.cell?_setCell_other _ _ _ _ (by first | (simp; done) | (simp; omega))]; rw [World.cell?_setCell_other _ _ _ _ (by first | (simp; done) | (simp; omega))]; exact a1, by rw [World.cell?_setCell_other _ _ _ _ (by first | (simp; done) | (simp; omega))]; rw [World.cell?_setCell_other _ _ _ _ (by first | (simp; done) | (simp; omega))]; rw [World.cell?_setCell_other _ _ _ _ (by first | (simp; done) | (simp; omega))]; exact a2, by rw [World.cell?_setCell_other _ _ _ _ (by first | (simp; done) | (simp; omega))]; rw [World.cell?_setCell_other _ _ _ _ (by first | (simp; done) | (simp; omega))]; rw [World.cell?_setCell_other _ _ _ _ (by first | (simp; done) | (simp; omega))]; exact a3, by rw [World.cell?_setCell_other _ _ _ _ (by first | (simp; done) | (simp; omega))]; rw [World.cell?_setCell_other _ _ _ _ (by first | (simp; done) | (simp; omega))]; rw [World.cell?_setCell_other _ _ _ _ (by first | (simp; done) | (simp; omega))]; exact a4, by rw [World.cell?_setCell_other _ _ _ _ (by first | (simp; done) | (simp; omega))]; rw [World.cell?_setCell_other _ _ _ _ (by first | (simp; done) | (simp; omega))]; rw [World.cell?_setCell_other _ _ _ _ (by first | (simp; done) | (simp; omega))]; exact a5, by simpa [World.setCell] using hs, (((hB).setCell (by first | (simp; done) | (simp; omega)) _).setCell (by first | (simp; done) | (simp; omega)) _).setCell (by first | (simp; done) | (simp; omega)) _⟩)
    go_region_held3 (fun w' => (w'.cell? ⟨g, 0, none⟩ = some (.int .i64 k1) ∧ w'.cell? ⟨g, 1, none⟩ = some (.int .i64 n1) ∧ w'.cell? ⟨g, 2, none⟩ = some (.string s1) ∧ w'.cell? ⟨g, 3, none⟩ = some (.int .i64 k1) ∧ w'.cell? ⟨g, 4, none⟩ = some (.int .i64 n2) ∧ w'.cell? ⟨g, 5, none⟩ = some (.string s2) ∧ w0.heap.size ≤ w'.heap.size ∧ Below w.heap.size w w')) (first | assumption | exact INIT0.out | exact KEEP0.out _ _ (by assumption) (by assumption) | exact KEEP0.out _ _ (by assumption) ((Below.refl _ _).alloc (Nat.le_refl _) _) | exact KEEPS0.out _ _ _ _ (by assumption))
      (first | (go_at_call 38; refine (cmp_call _ _ _ _ _ _ v _ HC.out).mono ?_; rintro e w8 ⟨rfl, hb8⟩; have hs80 : w8.cell? ⟨w.heap.size + 1, 0, none⟩ = some (.int .i64 0) := (hb8.cell (p := ⟨w.heap.size + 1, 0, none⟩) (by first | assumption | omega | (simp; done) | (simp; omega))).trans (by go_simp); have hs81 : w8.cell? ⟨w.heap.size + 1, 1, none⟩ = some (.int .i64 0) := (hb8.cell (p := ⟨w.heap.size + 1, 1, none⟩) (by first | assumption | omega | (simp; done) | (simp; omega))).trans (by go_simp); have hs82 : w8.cell? ⟨w.heap.size + 1, 2, none⟩ = some (.string ⟨#[]⟩) := (hb8.cell (p := ⟨w.heap.size + 1, 2, none⟩) (by first | assumption | omega | (simp; done) | (simp; omega))).trans (by go_simp); have ht80 : w8.frozen? ⟨w.heap.size + 1, 0, none⟩ = false := (hb8.frozen (p := ⟨w.heap.size + 1, 0, none⟩) (by first | assumption | omega | (simp; done) | (simp; omega))).trans (by go_simp); have ht81 : w8.frozen? ⟨w.heap.size + 1, 1, none⟩ = false := (hb8.frozen (p := ⟨w.heap.size + 1, 1, none⟩) (by first | assumption | omega | (simp; done) | (simp; omega))).trans (by go_simp); have ht82 : w8.frozen? ⟨w.heap.size + 1, 2, none⟩ = false := (hb8.frozen (p := ⟨w.heap.size + 1, 2, none⟩) (by first | assumption | omega | (simp; done) | (simp; omega))).trans (by go_simp); have hz8 : w.heap.size + 1 < w8.heap.size := Nat.lt_of_lt_of_le (by first | assumption | omega | (simp; done) | (simp; omega)) hb8.size) | (go_at_call 37; refine (bool_call false 0 _ rfl).mono ?_; rintro e w9 ⟨rfl, hb9⟩; have hs90 : w9.cell? ⟨w.heap.size + 1, 0, none⟩ = some (.int .i64 0) := (hb9.cell (p := ⟨w.heap.size + 1, 0, none⟩) (by first | assumption | omega | (simp; done) | (simp; omega))).trans (by go_simp); have hs91 : w9.cell? ⟨w.heap.size + 1, 1, none⟩ = some (.int .i64 0) := (hb9.cell (p := ⟨w.heap.size + 1, 1, none⟩) (by first | assumption | omega | (simp; done) | (simp; omega))).trans (by go_simp); have hs92 : w9.cell? ⟨w.heap.size + 1, 2, none⟩ = some (.string ⟨#[]⟩) := (hb9.cell (p := ⟨w.heap.size + 1, 2, none⟩) (by first | assumption | omega | (simp; done) | (simp; omega))).trans (by go_simp); have ht90 : w9.frozen? ⟨w.heap.size + 1, 0, none⟩ = false := (hb9.frozen (p := ⟨w.heap.size + 1, 0, none⟩) (by first | assumption | omega | (simp; done) | (simp; omega))).trans (by go_simp); have ht91 : w9.frozen? ⟨w.heap.size + 1, 1, none⟩ = false := (hb9.frozen (p := ⟨w.heap.size + 1, 1, none⟩) (by first | assumption | omega | (simp; done) | (simp; omega))).trans (by go_simp); have ht92 : w9.frozen? ⟨w.heap.size + 1, 2, none⟩ = false := (hb9.frozen (p := ⟨w.heap.size + 1, 2, none⟩) (by first | assumption | omega | (simp; done) | (simp; omega))).trans (by go_simp); have hz9 : w.heap.size + 1 < w9.heap.size := Nat.lt_of_lt_of_le (by first | assumption | omega | (simp; done) | (simp; omega)) hb9.size))
    obtain ⟨hr0_0, hr0_1, hr0_2, hr0_3, hr0_4, hr0_5, hsz0, hBr0⟩ := ‹_ ∧ _›
    go_wp2
    have sc := two_ops hs90 hs91 hs92 (.int .i64 3) (.int .i64 0) (.string ⟨#[]⟩)
    obtain ⟨sc0, sc1, sc2⟩ := sc
    refine bodyPost_ret (v := .agg #[.int .i64 3, .int .i64 0, .string ⟨#[]⟩]) (by simp [sc0, sc1, sc2, results, Try.results25, go_sem]) rfl ⟨by rw [HW.out]; rfl, ?_⟩
    exact hBr0

end Go.Proofs.Ytpgaldkedeohaaa
