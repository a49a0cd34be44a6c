/-
  derive of package expr, case by case.
-/
import Derived.Test.YtpgaldkedeohaaaChkF
namespace Go.Proofs.Ytpgaldkedeohaaa
open Go.RowKit
set_option linter.unusedVariables false

theorem ar_call (op v : Int) (w : World) (h : Xp.arity op = v) : Calls Try.prog 35 #[.int .i64 op] w fun e w' => e = .returned (.int .i64 v) ∧ w = w' := by
  subst h; exact expr_arity op w
theorem valid_call (k n : Int) (s : ByteArray) (v : Bool) (w : World) (h : Xp.vv ⟨k, n, s⟩ = v) : Calls Try.prog 46 #[.agg #[.int .i64 k, .int .i64 n, .string s]] w fun e w' => e = .returned (.bool v) ∧ Below w.heap.size w w' := by
  subst h; exact value_Valid ⟨k, n, s⟩ w

theorem int_info : (Try.prog.info? 3).map (fun i => (i.zero, i.size, i.bytes)) = some (some (.int .i64 0), 1, 8) := by kernel_rfl

/-- An own row lies on while its block stays. -/
theorem own_same {w w' : World} {base g c n m size : Nat} {t : TypeId} {xs : List Value} (h : w.ownsRow base t size (.slice (some ⟨g, 0, none⟩) n c) m xs) (hb : w'.heap[g]? = w.heap[g]?) : w'.ownsRow base t size (.slice (some ⟨g, 0, none⟩) n c) m xs := by
  refine ⟨h.1, ?_⟩
  rcases h.2 with h2 | ⟨g', cap, cur, e, hB, hg, rest⟩
  · exact .inl h2
  · refine .inr ⟨g', cap, cur, e, hB, ?_, rest⟩
    simp only [Value.slice.injEq, Option.some.injEq, Addr.mk.injEq, and_true] at e
    obtain ⟨rfl, _⟩ := e
    rw [hb]; exact hg

theorem own_len_cap {w : World} {base g c n size : Nat} {t : TypeId} {xs : List Value} (h : w.ownsRow base t size (.slice (some ⟨g, 0, none⟩) n c) n xs) : n ≤ c := by
  rcases h.2 with ⟨e, _⟩ | ⟨g', cap, cur, e, _, _, hc, _⟩
  · cases e
  · simp only [Value.slice.injEq] at e
    omega

/-- The seven cells of a copied expression. -/
theorem ex_new (w : World) (e : Ex) (t : TypeId) : ExAt (w.alloc (.cells #[.int .i64 e.op, .int .i64 e.a, .int .i64 e.b, .int .i64 e.col, .int .i64 e.c.k, .int .i64 e.c.n, .string e.c.s] t)) w.heap.size 0 e := by
  refine ⟨?_, ?_, ?_, ?_, ?_, ?_, ?_⟩ <;> go_simp

theorem ExAt.stir {w w' : World} {S G b o : Nat} {e : Ex} (h : ExAt w b o e) (hb : b < S) (hg : b ≠ G) (hB : Stir S G w w') : ExAt w' b o e := by
  obtain ⟨x0, x1, x2, x3, x4, x5, x6⟩ := h
  exact ⟨(hB.cell (p := ⟨b, o, none⟩) hb hg).trans x0, (hB.cell (p := ⟨b, o + 1, none⟩) hb hg).trans x1, (hB.cell (p := ⟨b, o + 2, none⟩) hb hg).trans x2, (hB.cell (p := ⟨b, o + 3, none⟩) hb hg).trans x3, (hB.cell (p := ⟨b, o + 4, none⟩) hb hg).trans x4, (hB.cell (p := ⟨b, o + 5, none⟩) hb hg).trans x5, (hB.cell (p := ⟨b, o + 6, none⟩) hb hg).trans x6⟩

def CkTo (E : CkEnv) (k r : Int) (w : World) (e : Ending) (w' : World) : Prop := e = .returned (.tuple #[.int .i64 k, .int .i64 r]) ∧ Ck E w' ∧ Stir w.heap.size E.G w w'


set_option maxRecDepth 100000 in
set_option maxHeartbeats 4000000 in
theorem drv_low (E : CkEnv) (ok : E.ok) (i : Nat) (op ea eb col : Int) (ck cn : Int) (cs : ByteArray) (w : World) (he : E.L[i]? = some ⟨op, ea, eb, col, ⟨ck, cn, cs⟩⟩) (hC : Ck E w) (har : Xp.arity op = -1) :
    Calls Try.prog 31 #[.pointer (some ⟨E.P, 0, none⟩), .int .i64 i] w (CkTo E (0) (5) w) := by
  have HAR := Lib.hid har
  clear har
  have HE := Lib.hid he
  have hil : i < E.L.length := (List.getElem?_eq_some_iff.1 he).1
  clear he
  have hb := ok.hb
  have hG := ok.hG
  have hP := ok.hP
  have hne := ok.ne
  have hcn := ok.hn
  have hcc := ok.hc
  have OK := Lib.hid ok
  clear ok
  have p0 := hC.p0
  have p1 := hC.p1
  have hsP := hC.sP
  have hsB := hC.sB
  have hsG := hC.gl
  have HX := Lib.hid (hC.xs i _ HE.out)
  obtain ⟨x0, x1, x2, x3, x4, x5, x6⟩ := HX.out
  simp only at x0 x1 x2 x3 x4 x5 x6
  have HC := Lib.hid hC
  clear hC
  have h0 : (0 : Int) ≤ (i : Int) := by omega
  have h1 : (i : Int) < (E.L.length : Int) := by omega
  have hb1 : E.b < w.heap.size + 1 := by omega
  have hP1 : E.P < w.heap.size + 1 := by omega
  go_enter Try.func31, Try.ntmps31
  go_wp2_with fail
  refine (ar_call _ (-1) _ HAR.out).mono ?_
  rintro e1 w1 ⟨rfl, rfl⟩
  go_wp2_with fail
  have hB1 : Below w.heap.size w (w.alloc (.cells #[.int .i64 op, .int .i64 ea, .int .i64 eb, .int .i64 col, .int .i64 ck, .int .i64 cn, .string cs] 44)) := below_alloc (Below.refl _ _) _
  have ZD1 : ExAt (w.alloc (.cells #[.int .i64 op, .int .i64 ea, .int .i64 eb, .int .i64 col, .int .i64 ck, .int .i64 cn, .string cs] 44)) w.heap.size 0 ⟨op, ea, eb, col, ⟨ck, cn, cs⟩⟩ := ex_new w ⟨op, ea, eb, col, ⟨ck, cn, cs⟩⟩ _
  have hC1 := Lib.hid (HC.out.below OK.out hB1 hsP hsG hsB)
  go_ret2
  exact ⟨rfl, hC1.out, Stir.of hB1⟩


set_option maxRecDepth 100000 in
set_option maxHeartbeats 4000000 in
theorem drv_const_bad (E : CkEnv) (ok : E.ok) (i : Nat) (ea eb col : Int) (ck cn : Int) (cs : ByteArray) (w : World) (he : E.L[i]? = some ⟨1, ea, eb, col, ⟨ck, cn, cs⟩⟩) (hC : Ck E w) (hvv : Xp.vv ⟨ck, cn, cs⟩ = false) :
    Calls Try.prog 31 #[.pointer (some ⟨E.P, 0, none⟩), .int .i64 i] w (CkTo E (0) (5) w) := by
  have HV := Lib.hid hvv
  clear hvv
  have HE := Lib.hid he
  have hil : i < E.L.length := (List.getElem?_eq_some_iff.1 he).1
  clear he
  have hb := ok.hb
  have hG := ok.hG
  have hP := ok.hP
  have hne := ok.ne
  have hcn := ok.hn
  have hcc := ok.hc
  have OK := Lib.hid ok
  clear ok
  have p0 := hC.p0
  have p1 := hC.p1
  have hsP := hC.sP
  have hsB := hC.sB
  have hsG := hC.gl
  have HX := Lib.hid (hC.xs i _ HE.out)
  obtain ⟨x0, x1, x2, x3, x4, x5, x6⟩ := HX.out
  simp only at x0 x1 x2 x3 x4 x5 x6
  have HC := Lib.hid hC
  clear hC
  have h0 : (0 : Int) ≤ (i : Int) := by omega
  have h1 : (i : Int) < (E.L.length : Int) := by omega
  have hb1 : E.b < w.heap.size + 1 := by omega
  have hP1 : E.P < w.heap.size + 1 := by omega
  go_enter Try.func31, Try.ntmps31
  go_wp2_with fail
  refine (ar_call _ (0) _ rfl).mono ?_
  rintro e1 w1 ⟨rfl, rfl⟩
  go_wp2_with fail
  have hB1 : Below w.heap.size w (w.alloc (.cells #[.int .i64 1, .int .i64 ea, .int .i64 eb, .int .i64 col, .int .i64 ck, .int .i64 cn, .string cs] 44)) := below_alloc (Below.refl _ _) _
  have ZD1 : ExAt (w.alloc (.cells #[.int .i64 1, .int .i64 ea, .int .i64 eb, .int .i64 col, .int .i64 ck, .int .i64 cn, .string cs] 44)) w.heap.size 0 ⟨1, ea, eb, col, ⟨ck, cn, cs⟩⟩ := ex_new w ⟨1, ea, eb, col, ⟨ck, cn, cs⟩⟩ _
  refine (valid_call ck cn cs false _ HV.out).mono ?_
  rintro e1 wv ⟨rfl, hbv⟩
  have hTv : Below w.heap.size w wv := below_chain hB1 hbv
  have hCv := Lib.hid (HC.out.below OK.out hTv hsP hsG hsB)
  clear hbv
  go_wp2_with fail
  go_ret2
  exact ⟨rfl, hCv.out, Stir.of hTv⟩


set_option maxRecDepth 100000 in
set_option maxHeartbeats 4000000 in
theorem drv_ix1 (E : CkEnv) (ok : E.ok) (i : Nat) (op ea eb col : Int) (ck cn : Int) (cs : ByteArray) (w : World) (he : E.L[i]? = some ⟨op, ea, eb, col, ⟨ck, cn, cs⟩⟩) (hC : Ck E w) (har : Xp.arity op = 1) (hop : op ≠ 1) (la : Xp.lgl i ea = false) :
    Calls Try.prog 31 #[.pointer (some ⟨E.P, 0, none⟩), .int .i64 i] w (CkTo E (0) (10) w) := by
  have HAR := Lib.hid har
  have HN := Lib.hid (show nops op = 1 by unfold nops; rw [har]; rfl)
  have eop1 : (op == 1) = false := by simp; omega
  clear har
  have LA := Lib.hid la
  clear la
  have HE := Lib.hid he
  have hil : i < E.L.length := (List.getElem?_eq_some_iff.1 he).1
  clear he
  have hb := ok.hb
  have hG := ok.hG
  have hP := ok.hP
  have hne := ok.ne
  have hcn := ok.hn
  have hcc := ok.hc
  have OK := Lib.hid ok
  clear ok
  have p0 := hC.p0
  have p1 := hC.p1
  have hsP := hC.sP
  have hsB := hC.sB
  have hsG := hC.gl
  have HX := Lib.hid (hC.xs i _ HE.out)
  obtain ⟨x0, x1, x2, x3, x4, x5, x6⟩ := HX.out
  simp only at x0 x1 x2 x3 x4 x5 x6
  have HC := Lib.hid hC
  clear hC
  have h0 : (0 : Int) ≤ (i : Int) := by omega
  have h1 : (i : Int) < (E.L.length : Int) := by omega
  have hb1 : E.b < w.heap.size + 1 := by omega
  have hP1 : E.P < w.heap.size + 1 := by omega
  go_enter Try.func31, Try.ntmps31
  go_wp2_with fail
  refine (ar_call _ (1) _ HAR.out).mono ?_
  rintro e1 w1 ⟨rfl, rfl⟩
  go_wp2_with fail
  have hB1 : Below w.heap.size w (w.alloc (.cells #[.int .i64 op, .int .i64 ea, .int .i64 eb, .int .i64 col, .int .i64 ck, .int .i64 cn, .string cs] 44)) := below_alloc (Below.refl _ _) _
  have ZD1 : ExAt (w.alloc (.cells #[.int .i64 op, .int .i64 ea, .int .i64 eb, .int .i64 col, .int .i64 ck, .int .i64 cn, .string cs] 44)) w.heap.size 0 ⟨op, ea, eb, col, ⟨ck, cn, cs⟩⟩ := ex_new w ⟨op, ea, eb, col, ⟨ck, cn, cs⟩⟩ _
  refine (ops_call ⟨op, ea, eb, col, ⟨ck, cn, cs⟩⟩ 1 _ HN.out).mono ?_
  rintro e1 w2 ⟨g, rfl, hg1, hg2, hgc0, hgc1, hb2⟩
  have hgc0 : w2.cell? ⟨g, 0, none⟩ = some (.int .i64 ea) := hgc0
  have hgc1 : w2.cell? ⟨g, 1, none⟩ = some (.int .i64 eb) := hgc1
  have hT2 : Below w.heap.size w w2 := below_chain hB1 hb2
  have ZD2 : ExAt w2 w.heap.size 0 ⟨op, ea, eb, col, ⟨ck, cn, cs⟩⟩ := ZD1.below (by simp) hb2
  have hz2 := hb2.size
  simp only [World.size_alloc] at hz2 hg1
  clear hb2 ZD1 hB1
  have HC2 := Lib.hid (HC.out.below OK.out hT2 hsP hsG hsB)
  have HZ2 := Lib.hid ZD2
  obtain ⟨z0, z1, z2, z3, z4, z5, z6⟩ := ZD2
  simp only at z0 z1 z2 z3 z4 z5 z6
  have q0 := HC2.out.p0
  have q1 := HC2.out.p1
  have hl2 : w.heap.size < w2.heap.size := by omega
  have hP2 : E.P < w2.heap.size := by omega
  clear x0 x1 x2 x3 x4 x5 x6 p0 p1
  go_wp2_with fail
  refine wp_loop_rounds 2 ?_
  rw [rounds_succ]
  go_wp2_with fail
  refine (lg_call i _ false _ LA.out).mono ?_
  rintro e1 w' ⟨rfl, rfl⟩
  go_wp2_with fail
  go_ret2
  exact ⟨rfl, HC2.out, Stir.of hT2⟩


set_option maxRecDepth 100000 in
set_option maxHeartbeats 4000000 in
theorem drv_ix2a (E : CkEnv) (ok : E.ok) (i : Nat) (op ea eb col : Int) (ck cn : Int) (cs : ByteArray) (w : World) (he : E.L[i]? = some ⟨op, ea, eb, col, ⟨ck, cn, cs⟩⟩) (hC : Ck E w) (har : Xp.arity op = 2) (hop : op ≠ 1) (la : Xp.lgl i ea = false) :
    Calls Try.prog 31 #[.pointer (some ⟨E.P, 0, none⟩), .int .i64 i] w (CkTo E (0) (10) w) := by
  have HAR := Lib.hid har
  have HN := Lib.hid (show nops op = 2 by unfold nops; rw [har]; rfl)
  have eop1 : (op == 1) = false := by simp; omega
  clear har
  have LA := Lib.hid la
  clear la
  have HE := Lib.hid he
  have hil : i < E.L.length := (List.getElem?_eq_some_iff.1 he).1
  clear he
  have hb := ok.hb
  have hG := ok.hG
  have hP := ok.hP
  have hne := ok.ne
  have hcn := ok.hn
  have hcc := ok.hc
  have OK := Lib.hid ok
  clear ok
  have p0 := hC.p0
  have p1 := hC.p1
  have hsP := hC.sP
  have hsB := hC.sB
  have hsG := hC.gl
  have HX := Lib.hid (hC.xs i _ HE.out)
  obtain ⟨x0, x1, x2, x3, x4, x5, x6⟩ := HX.out
  simp only at x0 x1 x2 x3 x4 x5 x6
  have HC := Lib.hid hC
  clear hC
  have h0 : (0 : Int) ≤ (i : Int) := by omega
  have h1 : (i : Int) < (E.L.length : Int) := by omega
  have hb1 : E.b < w.heap.size + 1 := by omega
  have hP1 : E.P < w.heap.size + 1 := by omega
  go_enter Try.func31, Try.ntmps31
  go_wp2_with fail
  refine (ar_call _ (2) _ HAR.out).mono ?_
  rintro e1 w1 ⟨rfl, rfl⟩
  go_wp2_with fail
  have hB1 : Below w.heap.size w (w.alloc (.cells #[.int .i64 op, .int .i64 ea, .int .i64 eb, .int .i64 col, .int .i64 ck, .int .i64 cn, .string cs] 44)) := below_alloc (Below.refl _ _) _
  have ZD1 : ExAt (w.alloc (.cells #[.int .i64 op, .int .i64 ea, .int .i64 eb, .int .i64 col, .int .i64 ck, .int .i64 cn, .string cs] 44)) w.heap.size 0 ⟨op, ea, eb, col, ⟨ck, cn, cs⟩⟩ := ex_new w ⟨op, ea, eb, col, ⟨ck, cn, cs⟩⟩ _
  refine (ops_call ⟨op, ea, eb, col, ⟨ck, cn, cs⟩⟩ 2 _ HN.out).mono ?_
  rintro e1 w2 ⟨g, rfl, hg1, hg2, hgc0, hgc1, hb2⟩
  have hgc0 : w2.cell? ⟨g, 0, none⟩ = some (.int .i64 ea) := hgc0
  have hgc1 : w2.cell? ⟨g, 1, none⟩ = some (.int .i64 eb) := hgc1
  have hT2 : Below w.heap.size w w2 := below_chain hB1 hb2
  have ZD2 : ExAt w2 w.heap.size 0 ⟨op, ea, eb, col, ⟨ck, cn, cs⟩⟩ := ZD1.below (by simp) hb2
  have hz2 := hb2.size
  simp only [World.size_alloc] at hz2 hg1
  clear hb2 ZD1 hB1
  have HC2 := Lib.hid (HC.out.below OK.out hT2 hsP hsG hsB)
  have HZ2 := Lib.hid ZD2
  obtain ⟨z0, z1, z2, z3, z4, z5, z6⟩ := ZD2
  simp only at z0 z1 z2 z3 z4 z5 z6
  have q0 := HC2.out.p0
  have q1 := HC2.out.p1
  have hl2 : w.heap.size < w2.heap.size := by omega
  have hP2 : E.P < w2.heap.size := by omega
  clear x0 x1 x2 x3 x4 x5 x6 p0 p1
  go_wp2_with fail
  refine wp_loop_rounds 3 ?_
  rw [rounds_succ]
  go_wp2_with fail
  refine (lg_call i _ false _ LA.out).mono ?_
  rintro e1 w' ⟨rfl, rfl⟩
  go_wp2_with fail
  go_ret2
  exact ⟨rfl, HC2.out, Stir.of hT2⟩


set_option maxRecDepth 100000 in
set_option maxHeartbeats 4000000 in
theorem drv_ix2b (E : CkEnv) (ok : E.ok) (i : Nat) (op ea eb col : Int) (ck cn : Int) (cs : ByteArray) (w : World) (he : E.L[i]? = some ⟨op, ea, eb, col, ⟨ck, cn, cs⟩⟩) (hC : Ck E w) (har : Xp.arity op = 2) (hop : op ≠ 1) (la : Xp.lgl i ea = true) (lb : Xp.lgl i eb = false) :
    Calls Try.prog 31 #[.pointer (some ⟨E.P, 0, none⟩), .int .i64 i] w (CkTo E (0) (10) w) := by
  have HAR := Lib.hid har
  have HN := Lib.hid (show nops op = 2 by unfold nops; rw [har]; rfl)
  have eop1 : (op == 1) = false := by simp; omega
  clear har
  have LA := Lib.hid la
  clear la
  have LB := Lib.hid lb
  clear lb
  have HE := Lib.hid he
  have hil : i < E.L.length := (List.getElem?_eq_some_iff.1 he).1
  clear he
  have hb := ok.hb
  have hG := ok.hG
  have hP := ok.hP
  have hne := ok.ne
  have hcn := ok.hn
  have hcc := ok.hc
  have OK := Lib.hid ok
  clear ok
  have p0 := hC.p0
  have p1 := hC.p1
  have hsP := hC.sP
  have hsB := hC.sB
  have hsG := hC.gl
  have HX := Lib.hid (hC.xs i _ HE.out)
  obtain ⟨x0, x1, x2, x3, x4, x5, x6⟩ := HX.out
  simp only at x0 x1 x2 x3 x4 x5 x6
  have HC := Lib.hid hC
  clear hC
  have h0 : (0 : Int) ≤ (i : Int) := by omega
  have h1 : (i : Int) < (E.L.length : Int) := by omega
  have hb1 : E.b < w.heap.size + 1 := by omega
  have hP1 : E.P < w.heap.size + 1 := by omega
  go_enter Try.func31, Try.ntmps31
  go_wp2_with fail
  refine (ar_call _ (2) _ HAR.out).mono ?_
  rintro e1 w1 ⟨rfl, rfl⟩
  go_wp2_with fail
  have hB1 : Below w.heap.size w (w.alloc (.cells #[.int .i64 op, .int .i64 ea, .int .i64 eb, .int .i64 col, .int .i64 ck, .int .i64 cn, .string cs] 44)) := below_alloc (Below.refl _ _) _
  have ZD1 : ExAt (w.alloc (.cells #[.int .i64 op, .int .i64 ea, .int .i64 eb, .int .i64 col, .int .i64 ck, .int .i64 cn, .string cs] 44)) w.heap.size 0 ⟨op, ea, eb, col, ⟨ck, cn, cs⟩⟩ := ex_new w ⟨op, ea, eb, col, ⟨ck, cn, cs⟩⟩ _
  refine (ops_call ⟨op, ea, eb, col, ⟨ck, cn, cs⟩⟩ 2 _ HN.out).mono ?_
  rintro e1 w2 ⟨g, rfl, hg1, hg2, hgc0, hgc1, hb2⟩
  have hgc0 : w2.cell? ⟨g, 0, none⟩ = some (.int .i64 ea) := hgc0
  have hgc1 : w2.cell? ⟨g, 1, none⟩ = some (.int .i64 eb) := hgc1
  have hT2 : Below w.heap.size w w2 := below_chain hB1 hb2
  have ZD2 : ExAt w2 w.heap.size 0 ⟨op, ea, eb, col, ⟨ck, cn, cs⟩⟩ := ZD1.below (by simp) hb2
  have hz2 := hb2.size
  simp only [World.size_alloc] at hz2 hg1
  clear hb2 ZD1 hB1
  have HC2 := Lib.hid (HC.out.below OK.out hT2 hsP hsG hsB)
  have HZ2 := Lib.hid ZD2
  obtain ⟨z0, z1, z2, z3, z4, z5, z6⟩ := ZD2
  simp only at z0 z1 z2 z3 z4 z5 z6
  have q0 := HC2.out.p0
  have q1 := HC2.out.p1
  have hl2 : w.heap.size < w2.heap.size := by omega
  have hP2 : E.P < w2.heap.size := by omega
  clear x0 x1 x2 x3 x4 x5 x6 p0 p1
  go_wp2_with fail
  refine wp_loop_rounds 3 ?_
  rw [rounds_succ]
  go_wp2_with fail
  refine (lg_call i _ true _ LA.out).mono ?_
  rintro e1 w' ⟨rfl, rfl⟩
  go_wp2_with fail
  rw [rounds_succ]
  go_wp2_with fail
  refine (lg_call i _ false _ LB.out).mono ?_
  rintro e1 w' ⟨rfl, rfl⟩
  go_wp2_with fail
  go_ret2
  exact ⟨rfl, HC2.out, Stir.of hT2⟩


set_option maxRecDepth 100000 in
set_option maxHeartbeats 4000000 in
theorem drv_col_neg (E : CkEnv) (ok : E.ok) (i : Nat) (ea eb col : Int) (ck cn : Int) (cs : ByteArray) (qa : Option Addr) (qn qc : Nat) (w : World) (he : E.L[i]? = some ⟨2, ea, eb, col, ⟨ck, cn, cs⟩⟩) (hC : Ck E w) (hcv : E.cv = .slice qa qn qc) (hcol : col < 0) :
    Calls Try.prog 31 #[.pointer (some ⟨E.P, 0, none⟩), .int .i64 i] w (CkTo E (0) (10) w) := by
  have hcd : decide (col < 0) = true := by simp; omega
  have HE := Lib.hid he
  have hil : i < E.L.length := (List.getElem?_eq_some_iff.1 he).1
  clear he
  have hb := ok.hb
  have hG := ok.hG
  have hP := ok.hP
  have hne := ok.ne
  have hcn := ok.hn
  have hcc := ok.hc
  have OK := Lib.hid ok
  clear ok
  have p0 := hC.p0
  have p1 := hC.p1
  have hsP := hC.sP
  have hsB := hC.sB
  have hsG := hC.gl
  have HX := Lib.hid (hC.xs i _ HE.out)
  obtain ⟨x0, x1, x2, x3, x4, x5, x6⟩ := HX.out
  simp only at x0 x1 x2 x3 x4 x5 x6
  have HC := Lib.hid hC
  clear hC
  have h0 : (0 : Int) ≤ (i : Int) := by omega
  have h1 : (i : Int) < (E.L.length : Int) := by omega
  have hb1 : E.b < w.heap.size + 1 := by omega
  have hP1 : E.P < w.heap.size + 1 := by omega
  go_enter Try.func31, Try.ntmps31
  go_wp2_with fail
  refine (ar_call _ (0) _ rfl).mono ?_
  rintro e1 w1 ⟨rfl, rfl⟩
  go_wp2_with fail
  have hB1 : Below w.heap.size w (w.alloc (.cells #[.int .i64 2, .int .i64 ea, .int .i64 eb, .int .i64 col, .int .i64 ck, .int .i64 cn, .string cs] 44)) := below_alloc (Below.refl _ _) _
  have ZD1 : ExAt (w.alloc (.cells #[.int .i64 2, .int .i64 ea, .int .i64 eb, .int .i64 col, .int .i64 ck, .int .i64 cn, .string cs] 44)) w.heap.size 0 ⟨2, ea, eb, col, ⟨ck, cn, cs⟩⟩ := ex_new w ⟨2, ea, eb, col, ⟨ck, cn, cs⟩⟩ _
  refine (ops_call ⟨2, ea, eb, col, ⟨ck, cn, cs⟩⟩ 0 _ rfl).mono ?_
  rintro e1 w2 ⟨g, rfl, hg1, hg2, hgc0, hgc1, hb2⟩
  have hgc0 : w2.cell? ⟨g, 0, none⟩ = some (.int .i64 ea) := hgc0
  have hgc1 : w2.cell? ⟨g, 1, none⟩ = some (.int .i64 eb) := hgc1
  have hT2 : Below w.heap.size w w2 := below_chain hB1 hb2
  have ZD2 : ExAt w2 w.heap.size 0 ⟨2, ea, eb, col, ⟨ck, cn, cs⟩⟩ := ZD1.below (by simp) hb2
  have hz2 := hb2.size
  simp only [World.size_alloc] at hz2 hg1
  clear hb2 ZD1 hB1
  have HC2 := Lib.hid (HC.out.below OK.out hT2 hsP hsG hsB)
  have HZ2 := Lib.hid ZD2
  obtain ⟨z0, z1, z2, z3, z4, z5, z6⟩ := ZD2
  simp only at z0 z1 z2 z3 z4 z5 z6
  have q0 := HC2.out.p0
  have q1 := HC2.out.p1
  have hl2 : w.heap.size < w2.heap.size := by omega
  have hP2 : E.P < w2.heap.size := by omega
  clear x0 x1 x2 x3 x4 x5 x6 p0 p1
  go_wp2_with fail
  refine wp_loop_rounds 1 ?_
  rw [rounds_succ]
  go_wp2_with fail
  rw [hcv] at q1
  go_quiet (fail)
  go_wp2_with fail
  go_ret2
  exact ⟨rfl, HC2.out.below OK.out (below_drewN (Below.refl w2.heap.size w2) _) (by omega) (by omega) (by omega), Stir.of (below_drewN hT2 _)⟩


set_option maxRecDepth 100000 in
set_option maxHeartbeats 4000000 in
theorem drv_col_big (E : CkEnv) (ok : E.ok) (i : Nat) (ea eb col : Int) (ck cn : Int) (cs : ByteArray) (qa : Option Addr) (qn qc : Nat) (w : World) (he : E.L[i]? = some ⟨2, ea, eb, col, ⟨ck, cn, cs⟩⟩) (hC : Ck E w) (hcv : E.cv = .slice qa qn qc) (hcol : (qn : Int) ≤ col ∧ 0 ≤ col) :
    Calls Try.prog 31 #[.pointer (some ⟨E.P, 0, none⟩), .int .i64 i] w (CkTo E (0) (10) w) := by
  obtain ⟨hh1, hh2⟩ := hcol
  have hcd : decide (col < 0) = false := by simp; omega
  have hcd2 : decide ((qn : Int) ≤ col) = true := by simp; omega
  have HE := Lib.hid he
  have hil : i < E.L.length := (List.getElem?_eq_some_iff.1 he).1
  clear he
  have hb := ok.hb
  have hG := ok.hG
  have hP := ok.hP
  have hne := ok.ne
  have hcn := ok.hn
  have hcc := ok.hc
  have OK := Lib.hid ok
  clear ok
  have p0 := hC.p0
  have p1 := hC.p1
  have hsP := hC.sP
  have hsB := hC.sB
  have hsG := hC.gl
  have HX := Lib.hid (hC.xs i _ HE.out)
  obtain ⟨x0, x1, x2, x3, x4, x5, x6⟩ := HX.out
  simp only at x0 x1 x2 x3 x4 x5 x6
  have HC := Lib.hid hC
  clear hC
  have h0 : (0 : Int) ≤ (i : Int) := by omega
  have h1 : (i : Int) < (E.L.length : Int) := by omega
  have hb1 : E.b < w.heap.size + 1 := by omega
  have hP1 : E.P < w.heap.size + 1 := by omega
  go_enter Try.func31, Try.ntmps31
  go_wp2_with fail
  refine (ar_call _ (0) _ rfl).mono ?_
  rintro e1 w1 ⟨rfl, rfl⟩
  go_wp2_with fail
  have hB1 : Below w.heap.size w (w.alloc (.cells #[.int .i64 2, .int .i64 ea, .int .i64 eb, .int .i64 col, .int .i64 ck, .int .i64 cn, .string cs] 44)) := below_alloc (Below.refl _ _) _
  have ZD1 : ExAt (w.alloc (.cells #[.int .i64 2, .int .i64 ea, .int .i64 eb, .int .i64 col, .int .i64 ck, .int .i64 cn, .string cs] 44)) w.heap.size 0 ⟨2, ea, eb, col, ⟨ck, cn, cs⟩⟩ := ex_new w ⟨2, ea, eb, col, ⟨ck, cn, cs⟩⟩ _
  refine (ops_call ⟨2, ea, eb, col, ⟨ck, cn, cs⟩⟩ 0 _ rfl).mono ?_
  rintro e1 w2 ⟨g, rfl, hg1, hg2, hgc0, hgc1, hb2⟩
  have hgc0 : w2.cell? ⟨g, 0, none⟩ = some (.int .i64 ea) := hgc0
  have hgc1 : w2.cell? ⟨g, 1, none⟩ = some (.int .i64 eb) := hgc1
  have hT2 : Below w.heap.size w w2 := below_chain hB1 hb2
  have ZD2 : ExAt w2 w.heap.size 0 ⟨2, ea, eb, col, ⟨ck, cn, cs⟩⟩ := ZD1.below (by simp) hb2
  have hz2 := hb2.size
  simp only [World.size_alloc] at hz2 hg1
  clear hb2 ZD1 hB1
  have HC2 := Lib.hid (HC.out.below OK.out hT2 hsP hsG hsB)
  have HZ2 := Lib.hid ZD2
  obtain ⟨z0, z1, z2, z3, z4, z5, z6⟩ := ZD2
  simp only at z0 z1 z2 z3 z4 z5 z6
  have q0 := HC2.out.p0
  have q1 := HC2.out.p1
  have hl2 : w.heap.size < w2.heap.size := by omega
  have hP2 : E.P < w2.heap.size := by omega
  clear x0 x1 x2 x3 x4 x5 x6 p0 p1
  go_wp2_with fail
  refine wp_loop_rounds 1 ?_
  rw [rounds_succ]
  go_wp2_with fail
  rw [hcv] at q1
  go_quiet (fail)
  go_wp2_with fail
  go_ret2
  exact ⟨rfl, HC2.out.below OK.out (below_drewN (Below.refl w2.heap.size w2) _) (by omega) (by omega) (by omega), Stir.of (below_drewN hT2 _)⟩


set_option maxRecDepth 100000 in
set_option maxHeartbeats 4000000 in
theorem drv_const (E : CkEnv) (ok : E.ok) (i : Nat) (ea eb col : Int) (ck cn : Int) (cs : ByteArray) (rk re : Int) (w : World) (he : E.L[i]? = some ⟨1, ea, eb, col, ⟨ck, cn, cs⟩⟩) (hC : Ck E w) (ka kb : Int) (hvv : Xp.vv ⟨ck, cn, cs⟩ = true) (har0 : 0 ≤ Xp.arity (⟨1, ea, eb, col, ⟨ck, cn, cs⟩⟩ : Ex).op) (hbc : Xp.badCol ⟨1, ea, eb, col, ⟨ck, cn, cs⟩⟩ E.cols.length = false) (hcb : Xp.cmb ⟨1, ea, eb, col, ⟨ck, cn, cs⟩⟩ E.cols (ka) (kb) = (rk, re)) :
    Calls Try.prog 31 #[.pointer (some ⟨E.P, 0, none⟩), .int .i64 i] w (CkTo E (rk) (re) w) := by
  have HV := Lib.hid hvv
  clear hvv
  have HAR0 := Lib.hid har0
  have HBC := Lib.hid hbc
  have HCB := Lib.hid hcb
  clear har0 hbc hcb
  have HE := Lib.hid he
  have hil : i < E.L.length := (List.getElem?_eq_some_iff.1 he).1
  clear he
  have hb := ok.hb
  have hG := ok.hG
  have hP := ok.hP
  have hne := ok.ne
  have hcn := ok.hn
  have hcc := ok.hc
  have OK := Lib.hid ok
  clear ok
  have p0 := hC.p0
  have p1 := hC.p1
  have hsP := hC.sP
  have hsB := hC.sB
  have hsG := hC.gl
  have HX := Lib.hid (hC.xs i _ HE.out)
  obtain ⟨x0, x1, x2, x3, x4, x5, x6⟩ := HX.out
  simp only at x0 x1 x2 x3 x4 x5 x6
  have HC := Lib.hid hC
  clear hC
  have h0 : (0 : Int) ≤ (i : Int) := by omega
  have h1 : (i : Int) < (E.L.length : Int) := by omega
  have hb1 : E.b < w.heap.size + 1 := by omega
  have hP1 : E.P < w.heap.size + 1 := by omega
  go_enter Try.func31, Try.ntmps31
  go_wp2_with fail
  refine (ar_call _ (0) _ rfl).mono ?_
  rintro e1 w1 ⟨rfl, rfl⟩
  go_wp2_with fail
  have hB1 : Below w.heap.size w (w.alloc (.cells #[.int .i64 1, .int .i64 ea, .int .i64 eb, .int .i64 col, .int .i64 ck, .int .i64 cn, .string cs] 44)) := below_alloc (Below.refl _ _) _
  have ZD1 : ExAt (w.alloc (.cells #[.int .i64 1, .int .i64 ea, .int .i64 eb, .int .i64 col, .int .i64 ck, .int .i64 cn, .string cs] 44)) w.heap.size 0 ⟨1, ea, eb, col, ⟨ck, cn, cs⟩⟩ := ex_new w ⟨1, ea, eb, col, ⟨ck, cn, cs⟩⟩ _
  refine (valid_call ck cn cs true _ HV.out).mono ?_
  rintro e1 wv ⟨rfl, hbv⟩
  have hTv : Below w.heap.size w wv := below_chain hB1 hbv
  have ZDv : ExAt wv w.heap.size 0 ⟨1, ea, eb, col, ⟨ck, cn, cs⟩⟩ := ZD1.below (by simp) hbv
  have hzv := hbv.size
  simp only [World.size_alloc] at hzv
  obtain ⟨z0, z1, z2, z3, z4, z5, z6⟩ := ZDv
  simp only at z0 z1 z2 z3 z4 z5 z6
  have hl0 : w.heap.size < wv.heap.size := by omega
  clear hbv ZD1
  go_wp2_with fail
  refine (ops_call ⟨1, ea, eb, col, ⟨ck, cn, cs⟩⟩ 0 _ rfl).mono ?_
  rintro e1 w2 ⟨g, rfl, hg1, hg2, hgc0, hgc1, hb2⟩
  have hgc0 : w2.cell? ⟨g, 0, none⟩ = some (.int .i64 ea) := hgc0
  have hgc1 : w2.cell? ⟨g, 1, none⟩ = some (.int .i64 eb) := hgc1
  have hT2 : Below w.heap.size w w2 := below_chain hTv hb2
  have ZD2 : ExAt w2 w.heap.size 0 ⟨1, ea, eb, col, ⟨ck, cn, cs⟩⟩ := ExAt.below (w := wv) ⟨z0, z1, z2, z3, z4, z5, z6⟩ hl0 hb2
  have hz2 := hb2.size
  clear hb2 hTv z0 z1 z2 z3 z4 z5 z6
  have HC2 := Lib.hid (HC.out.below OK.out hT2 hsP hsG hsB)
  have HZ2 := Lib.hid ZD2
  obtain ⟨z0, z1, z2, z3, z4, z5, z6⟩ := ZD2
  simp only at z0 z1 z2 z3 z4 z5 z6
  have q0 := HC2.out.p0
  have q1 := HC2.out.p1
  have hl2 : w.heap.size < w2.heap.size := by omega
  have hP2 : E.P < w2.heap.size := by omega
  clear x0 x1 x2 x3 x4 x5 x6 p0 p1
  go_wp2_with fail
  refine wp_loop_rounds 1 ?_
  rw [rounds_succ]
  go_wp2_with fail
  go_quiet (fail)
  go_wp2_with fail
  refine (ops_call ⟨1, ea, eb, col, ⟨ck, cn, cs⟩⟩ 0 _ rfl).mono ?_
  rintro e1 w3 ⟨h, rfl, hh1, hh2, hhc0, hhc1, hb3⟩
  have hhc0 : w3.cell? ⟨h, 0, none⟩ = some (.int .i64 ea) := hhc0
  have hhc1 : w3.cell? ⟨h, 1, none⟩ = some (.int .i64 eb) := hhc1
  have hb3 : Below w2.heap.size w2 w3 := (below_drewN (Below.refl _ _) _).trans hb3
  have hh1 : w2.heap.size ≤ h := hh1
  have hT3 : Below w.heap.size w w3 := below_chain hT2 hb3
  have ZD3 : ExAt w3 w.heap.size 0 ⟨1, ea, eb, col, ⟨ck, cn, cs⟩⟩ := HZ2.out.below hl2 hb3
  have hz3 := hb3.size
  have HC3 := Lib.hid (HC2.out.below OK.out hb3 (by omega) (by omega) (by omega))
  clear hb3 hgc0 hgc1 z0 z1 z2 z3 z4 z5 z6 q0 q1
  have HZ3 := Lib.hid (show ∀ w' : World, Stir w3.heap.size E.G w3 w' → ExAt w' w.heap.size 0 ⟨1, ea, eb, col, ⟨ck, cn, cs⟩⟩ ∧ w'.cell? ⟨h, 0, none⟩ = some (.int .i64 ea) ∧ w'.cell? ⟨h, 1, none⟩ = some (.int .i64 eb) from fun w' hs => ⟨ZD3.stir (by omega) (by omega) hs, (hs.cell (p := ⟨h, 0, none⟩) hh2 (show h ≠ E.G by omega)).trans hhc0, (hs.cell (p := ⟨h, 1, none⟩) hh2 (show h ≠ E.G by omega)).trans hhc1⟩)
  have hS3 : Stir w3.heap.size E.G w3 w3 := Stir.of (Below.refl _ _)
  obtain ⟨⟨y30, y31, y32, y33, y34, y35, y36⟩, yh30, yh31⟩ := HZ3.out _ hS3
  simp only at y30 y31 y32 y33 y34 y35 y36
  have hw3 : w.heap.size < w3.heap.size := by have := hS3.size; omega
  have hh3 : h < w3.heap.size := by have := hS3.size; omega
  have hP3 : E.P < w3.heap.size := by have := hS3.size; omega
  go_wp2_with fail
  refine wp_loop_rounds 1 ?_
  rw [rounds_succ]
  go_wp2_with fail
  refine (comb_call ⟨1, ea, eb, col, ⟨ck, cn, cs⟩⟩ E.cols E.P E.base E.cv _ (ka) (kb) rk re _ HAR0.out HBC.out hP3 HC3.out.p1 HC3.out.cs (fun h => absurd h (show ¬ 1 ≤ nops 1 by decide)) HCB.out).mono ?_
  rintro e1 w9 ⟨rfl, hb9⟩
  have hC9 := Lib.hid (HC3.out.below OK.out hb9 (by omega) (by omega) (by omega))
  have hT9 : Stir w3.heap.size E.G w3 w9 := hS3.trans (Stir.of (hb9.mono (by omega)))
  clear hb9
  go_wp2_with fail
  go_ret2
  exact ⟨rfl, hC9.out, (Stir.of hT3).trans (hT9.mono (by omega))⟩


set_option maxRecDepth 100000 in
set_option maxHeartbeats 4000000 in
theorem drv_col (E : CkEnv) (ok : E.ok) (i j : Nat) (ea eb : Int) (ck cn : Int) (cs : ByteArray) (rk re : Int) (qa : Option Addr) (qn qc : Nat) (w : World) (he : E.L[i]? = some ⟨2, ea, eb, (j : Int), ⟨ck, cn, cs⟩⟩) (hC : Ck E w) (hcv : E.cv = .slice qa qn qc) (hj : j < qn) (ka kb : Int) (har0 : 0 ≤ Xp.arity (⟨2, ea, eb, (j : Int), ⟨ck, cn, cs⟩⟩ : Ex).op) (hbc : Xp.badCol ⟨2, ea, eb, (j : Int), ⟨ck, cn, cs⟩⟩ E.cols.length = false) (hcb : Xp.cmb ⟨2, ea, eb, (j : Int), ⟨ck, cn, cs⟩⟩ E.cols (ka) (kb) = (rk, re)) :
    Calls Try.prog 31 #[.pointer (some ⟨E.P, 0, none⟩), .int .i64 i] w (CkTo E (rk) (re) w) := by
  have HAR0 := Lib.hid har0
  have HBC := Lib.hid hbc
  have HCB := Lib.hid hcb
  clear har0 hbc hcb
  have hcd : decide ((j : Int) < 0) = false := by simp
  have hcd2 : decide ((qn : Int) ≤ (j : Int)) = false := by simp; omega
  have hcd3 : decide (qn ≤ j) = false := by simp; omega
  have hj0 : (0 : Int) ≤ (j : Int) := by omega
  have hj1 : ¬ qn ≤ j := by omega
  have HE := Lib.hid he
  have hil : i < E.L.length := (List.getElem?_eq_some_iff.1 he).1
  clear he
  have hb := ok.hb
  have hG := ok.hG
  have hP := ok.hP
  have hne := ok.ne
  have hcn := ok.hn
  have hcc := ok.hc
  have OK := Lib.hid ok
  clear ok
  have p0 := hC.p0
  have p1 := hC.p1
  have hsP := hC.sP
  have hsB := hC.sB
  have hsG := hC.gl
  have HX := Lib.hid (hC.xs i _ HE.out)
  obtain ⟨x0, x1, x2, x3, x4, x5, x6⟩ := HX.out
  simp only at x0 x1 x2 x3 x4 x5 x6
  have HC := Lib.hid hC
  clear hC
  have h0 : (0 : Int) ≤ (i : Int) := by omega
  have h1 : (i : Int) < (E.L.length : Int) := by omega
  have hb1 : E.b < w.heap.size + 1 := by omega
  have hP1 : E.P < w.heap.size + 1 := by omega
  go_enter Try.func31, Try.ntmps31
  go_wp2_with fail
  refine (ar_call _ (0) _ rfl).mono ?_
  rintro e1 w1 ⟨rfl, rfl⟩
  go_wp2_with fail
  have hB1 : Below w.heap.size w (w.alloc (.cells #[.int .i64 2, .int .i64 ea, .int .i64 eb, .int .i64 (j : Int), .int .i64 ck, .int .i64 cn, .string cs] 44)) := below_alloc (Below.refl _ _) _
  have ZD1 : ExAt (w.alloc (.cells #[.int .i64 2, .int .i64 ea, .int .i64 eb, .int .i64 (j : Int), .int .i64 ck, .int .i64 cn, .string cs] 44)) w.heap.size 0 ⟨2, ea, eb, (j : Int), ⟨ck, cn, cs⟩⟩ := ex_new w ⟨2, ea, eb, (j : Int), ⟨ck, cn, cs⟩⟩ _
  refine (ops_call ⟨2, ea, eb, (j : Int), ⟨ck, cn, cs⟩⟩ 0 _ rfl).mono ?_
  rintro e1 w2 ⟨g, rfl, hg1, hg2, hgc0, hgc1, hb2⟩
  have hgc0 : w2.cell? ⟨g, 0, none⟩ = some (.int .i64 ea) := hgc0
  have hgc1 : w2.cell? ⟨g, 1, none⟩ = some (.int .i64 eb) := hgc1
  have hT2 : Below w.heap.size w w2 := below_chain hB1 hb2
  have ZD2 : ExAt w2 w.heap.size 0 ⟨2, ea, eb, (j : Int), ⟨ck, cn, cs⟩⟩ := ZD1.below (by simp) hb2
  have hz2 := hb2.size
  simp only [World.size_alloc] at hz2 hg1
  clear hb2 ZD1 hB1
  have HC2 := Lib.hid (HC.out.below OK.out hT2 hsP hsG hsB)
  have HZ2 := Lib.hid ZD2
  obtain ⟨z0, z1, z2, z3, z4, z5, z6⟩ := ZD2
  simp only at z0 z1 z2 z3 z4 z5 z6
  have q0 := HC2.out.p0
  have q1 := HC2.out.p1
  have hl2 : w.heap.size < w2.heap.size := by omega
  have hP2 : E.P < w2.heap.size := by omega
  clear x0 x1 x2 x3 x4 x5 x6 p0 p1
  go_wp2_with fail
  refine wp_loop_rounds 1 ?_
  rw [rounds_succ]
  go_wp2_with fail
  rw [hcv] at q1
  go_quiet (fail)
  go_wp2_with fail
  refine (ops_call ⟨2, ea, eb, (j : Int), ⟨ck, cn, cs⟩⟩ 0 _ rfl).mono ?_
  rintro e1 w3 ⟨h, rfl, hh1, hh2, hhc0, hhc1, hb3⟩
  have hhc0 : w3.cell? ⟨h, 0, none⟩ = some (.int .i64 ea) := hhc0
  have hhc1 : w3.cell? ⟨h, 1, none⟩ = some (.int .i64 eb) := hhc1
  have hb3 : Below w2.heap.size w2 w3 := (below_drewN (Below.refl _ _) _).trans hb3
  have hh1 : w2.heap.size ≤ h := hh1
  have hT3 : Below w.heap.size w w3 := below_chain hT2 hb3
  have ZD3 : ExAt w3 w.heap.size 0 ⟨2, ea, eb, (j : Int), ⟨ck, cn, cs⟩⟩ := HZ2.out.below hl2 hb3
  have hz3 := hb3.size
  have HC3 := Lib.hid (HC2.out.below OK.out hb3 (by omega) (by omega) (by omega))
  clear hb3 hgc0 hgc1 z0 z1 z2 z3 z4 z5 z6 q0 q1
  have HZ3 := Lib.hid (show ∀ w' : World, Stir w3.heap.size E.G w3 w' → ExAt w' w.heap.size 0 ⟨2, ea, eb, (j : Int), ⟨ck, cn, cs⟩⟩ ∧ w'.cell? ⟨h, 0, none⟩ = some (.int .i64 ea) ∧ w'.cell? ⟨h, 1, none⟩ = some (.int .i64 eb) from fun w' hs => ⟨ZD3.stir (by omega) (by omega) hs, (hs.cell (p := ⟨h, 0, none⟩) hh2 (show h ≠ E.G by omega)).trans hhc0, (hs.cell (p := ⟨h, 1, none⟩) hh2 (show h ≠ E.G by omega)).trans hhc1⟩)
  have hS3 : Stir w3.heap.size E.G w3 w3 := Stir.of (Below.refl _ _)
  obtain ⟨⟨y30, y31, y32, y33, y34, y35, y36⟩, yh30, yh31⟩ := HZ3.out _ hS3
  simp only at y30 y31 y32 y33 y34 y35 y36
  have hw3 : w.heap.size < w3.heap.size := by have := hS3.size; omega
  have hh3 : h < w3.heap.size := by have := hS3.size; omega
  have hP3 : E.P < w3.heap.size := by have := hS3.size; omega
  go_wp2_with fail
  refine wp_loop_rounds 1 ?_
  rw [rounds_succ]
  go_wp2_with fail
  refine (comb_call ⟨2, ea, eb, (j : Int), ⟨ck, cn, cs⟩⟩ E.cols E.P E.base E.cv _ (ka) (kb) rk re _ HAR0.out HBC.out hP3 HC3.out.p1 HC3.out.cs (fun h => absurd h (show ¬ 1 ≤ nops 2 by decide)) HCB.out).mono ?_
  rintro e1 w9 ⟨rfl, hb9⟩
  have hC9 := Lib.hid (HC3.out.below OK.out hb9 (by omega) (by omega) (by omega))
  have hT9 : Stir w3.heap.size E.G w3 w9 := hS3.trans (Stir.of (hb9.mono (by omega)))
  clear hb9
  go_wp2_with fail
  go_ret2
  exact ⟨rfl, hC9.out, (Stir.of hT3).trans (hT9.mono (by omega))⟩


set_option maxRecDepth 100000 in
set_option maxHeartbeats 4000000 in
theorem drv_1err (E : CkEnv) (ok : E.ok) (i ja : Nat) (op eb col : Int) (ck cn : Int) (cs : ByteArray) (ka xa : Int) (w : World) (he : E.L[i]? = some ⟨op, (ja : Int), eb, col, ⟨ck, cn, cs⟩⟩) (hC : Ck E w) (har : Xp.arity op = 1) (hop1 : op ≠ 1) (hop2 : op ≠ 2) (hja : ja < i) (hka : Xp.ck E.L E.cols ja = (ka, xa)) (IH : ∀ (j : Nat), j < i → ∀ (k r : Int) (w : World), Ck E w → Xp.ck E.L E.cols j = (k, r) → Calls Try.prog 21 #[.pointer (some ⟨E.P, 0, none⟩), .int .i64 j] w (CkTo E k r w)) (hxa : xa ≠ 0) :
    Calls Try.prog 31 #[.pointer (some ⟨E.P, 0, none⟩), .int .i64 i] w (CkTo E (0) (xa) w) := by
  have HAR := Lib.hid har
  have HN := Lib.hid (show nops op = 1 by unfold nops; rw [har]; rfl)
  have eop1 : (op == 1) = false := by simp; omega
  have eop2 : (op == 2) = false := by simp; omega
  clear har
  have LA := Lib.hid (show Xp.lgl i (ja : Int) = true by unfold Xp.lgl; simp [hja])
  have h2a : (0 : Int) ≤ (ja : Int) := by omega
  have HKA := Lib.hid hka
  clear hka
  have IH' := Lib.hid IH
  clear IH
  have IH := IH'
  obtain ⟨i0, hi0, hz0, hz1, hzb⟩ := info_parts int_info
  have exa : (xa != 0) = true := by simp; exact hxa
  have HE := Lib.hid he
  have hil : i < E.L.length := (List.getElem?_eq_some_iff.1 he).1
  clear he
  have hb := ok.hb
  have hG := ok.hG
  have hP := ok.hP
  have hne := ok.ne
  have hcn := ok.hn
  have hcc := ok.hc
  have OK := Lib.hid ok
  clear ok
  have p0 := hC.p0
  have p1 := hC.p1
  have hsP := hC.sP
  have hsB := hC.sB
  have hsG := hC.gl
  have HX := Lib.hid (hC.xs i _ HE.out)
  obtain ⟨x0, x1, x2, x3, x4, x5, x6⟩ := HX.out
  simp only at x0 x1 x2 x3 x4 x5 x6
  have HC := Lib.hid hC
  clear hC
  have h0 : (0 : Int) ≤ (i : Int) := by omega
  have h1 : (i : Int) < (E.L.length : Int) := by omega
  have hb1 : E.b < w.heap.size + 1 := by omega
  have hP1 : E.P < w.heap.size + 1 := by omega
  go_enter Try.func31, Try.ntmps31
  go_wp2_with fail
  refine (ar_call _ (1) _ HAR.out).mono ?_
  rintro e1 w1 ⟨rfl, rfl⟩
  go_wp2_with fail
  have hB1 : Below w.heap.size w (w.alloc (.cells #[.int .i64 op, .int .i64 (ja : Int), .int .i64 eb, .int .i64 col, .int .i64 ck, .int .i64 cn, .string cs] 44)) := below_alloc (Below.refl _ _) _
  have ZD1 : ExAt (w.alloc (.cells #[.int .i64 op, .int .i64 (ja : Int), .int .i64 eb, .int .i64 col, .int .i64 ck, .int .i64 cn, .string cs] 44)) w.heap.size 0 ⟨op, (ja : Int), eb, col, ⟨ck, cn, cs⟩⟩ := ex_new w ⟨op, (ja : Int), eb, col, ⟨ck, cn, cs⟩⟩ _
  refine (ops_call ⟨op, (ja : Int), eb, col, ⟨ck, cn, cs⟩⟩ 1 _ HN.out).mono ?_
  rintro e1 w2 ⟨g, rfl, hg1, hg2, hgc0, hgc1, hb2⟩
  have hgc0 : w2.cell? ⟨g, 0, none⟩ = some (.int .i64 (ja : Int)) := hgc0
  have hgc1 : w2.cell? ⟨g, 1, none⟩ = some (.int .i64 eb) := hgc1
  have hT2 : Below w.heap.size w w2 := below_chain hB1 hb2
  have ZD2 : ExAt w2 w.heap.size 0 ⟨op, (ja : Int), eb, col, ⟨ck, cn, cs⟩⟩ := ZD1.below (by simp) hb2
  have hz2 := hb2.size
  simp only [World.size_alloc] at hz2 hg1
  clear hb2 ZD1 hB1
  have HC2 := Lib.hid (HC.out.below OK.out hT2 hsP hsG hsB)
  have HZ2 := Lib.hid ZD2
  obtain ⟨z0, z1, z2, z3, z4, z5, z6⟩ := ZD2
  simp only at z0 z1 z2 z3 z4 z5 z6
  have q0 := HC2.out.p0
  have q1 := HC2.out.p1
  have hl2 : w.heap.size < w2.heap.size := by omega
  have hP2 : E.P < w2.heap.size := by omega
  clear x0 x1 x2 x3 x4 x5 x6 p0 p1
  go_wp2_with fail
  refine wp_loop_rounds 2 ?_
  rw [rounds_succ]
  go_wp2_with fail
  refine (lg_call i _ true _ LA.out).mono ?_
  rintro e1 w' ⟨rfl, rfl⟩
  go_wp2_with fail
  rw [rounds_succ]
  go_wp2_with fail
  go_quiet (fail)
  go_wp2_with fail
  refine (ops_call ⟨op, (ja : Int), eb, col, ⟨ck, cn, cs⟩⟩ 1 _ HN.out).mono ?_
  rintro e1 w3 ⟨h, rfl, hh1, hh2, hhc0, hhc1, hb3⟩
  have hhc0 : w3.cell? ⟨h, 0, none⟩ = some (.int .i64 (ja : Int)) := hhc0
  have hhc1 : w3.cell? ⟨h, 1, none⟩ = some (.int .i64 eb) := hhc1
  have hb3 : Below w2.heap.size w2 w3 := (below_drewN (Below.refl _ _) _).trans hb3
  have hh1 : w2.heap.size ≤ h := hh1
  have hT3 : Below w.heap.size w w3 := below_chain hT2 hb3
  have ZD3 : ExAt w3 w.heap.size 0 ⟨op, (ja : Int), eb, col, ⟨ck, cn, cs⟩⟩ := HZ2.out.below hl2 hb3
  have hz3 := hb3.size
  have HC3 := Lib.hid (HC2.out.below OK.out hb3 (by omega) (by omega) (by omega))
  clear hb3 hgc0 hgc1 z0 z1 z2 z3 z4 z5 z6 q0 q1
  have HZ3 := Lib.hid (show ∀ w' : World, Stir w3.heap.size E.G w3 w' → ExAt w' w.heap.size 0 ⟨op, (ja : Int), eb, col, ⟨ck, cn, cs⟩⟩ ∧ w'.cell? ⟨h, 0, none⟩ = some (.int .i64 (ja : Int)) ∧ w'.cell? ⟨h, 1, none⟩ = some (.int .i64 eb) from fun w' hs => ⟨ZD3.stir (by omega) (by omega) hs, (hs.cell (p := ⟨h, 0, none⟩) hh2 (show h ≠ E.G by omega)).trans hhc0, (hs.cell (p := ⟨h, 1, none⟩) hh2 (show h ≠ E.G by omega)).trans hhc1⟩)
  have hS3 : Stir w3.heap.size E.G w3 w3 := Stir.of (Below.refl _ _)
  obtain ⟨⟨y30, y31, y32, y33, y34, y35, y36⟩, yh30, yh31⟩ := HZ3.out _ hS3
  simp only at y30 y31 y32 y33 y34 y35 y36
  have hw3 : w.heap.size < w3.heap.size := by have := hS3.size; omega
  have hh3 : h < w3.heap.size := by have := hS3.size; omega
  have hP3 : E.P < w3.heap.size := by have := hS3.size; omega
  go_wp2_with fail
  refine wp_loop_rounds 2 ?_
  rw [rounds_succ]
  go_wp2_with fail
  refine (IH.out ja (by omega) ka xa _ HC3.out HKA.out).mono ?_
  rintro e1 w4 ⟨rfl, hC4, hS4⟩
  have hsz4 := hS4.size
  have HC4 := Lib.hid hC4
  have hT4 : Stir w3.heap.size E.G w3 w4 := hS3.trans (hS4.mono hS3.size)
  clear hC4
  clear y30 y31 y32 y33 y34 y35 y36 yh30 yh31
  obtain ⟨⟨y40, y41, y42, y43, y44, y45, y46⟩, yh40, yh41⟩ := HZ3.out _ hT4
  simp only at y40 y41 y42 y43 y44 y45 y46
  have hw4 : w.heap.size < w4.heap.size := by have := hT4.size; omega
  have hh4 : h < w4.heap.size := by have := hT4.size; omega
  have hP4 : E.P < w4.heap.size := by have := hT4.size; omega
  go_wp2_with fail
  go_ret2
  exact ⟨rfl, HC4.out, (Stir.of hT3).trans (hT4.mono (by omega))⟩


set_option maxRecDepth 100000 in
set_option maxHeartbeats 4000000 in
theorem drv_1 (E : CkEnv) (ok : E.ok) (i ja : Nat) (op eb col : Int) (ck cn : Int) (cs : ByteArray) (ka rk re : Int) (w : World) (he : E.L[i]? = some ⟨op, (ja : Int), eb, col, ⟨ck, cn, cs⟩⟩) (hC : Ck E w) (har : Xp.arity op = 1) (hop1 : op ≠ 1) (hop2 : op ≠ 2) (hja : ja < i) (hka : Xp.ck E.L E.cols ja = (ka, 0)) (IH : ∀ (j : Nat), j < i → ∀ (k r : Int) (w : World), Ck E w → Xp.ck E.L E.cols j = (k, r) → Calls Try.prog 21 #[.pointer (some ⟨E.P, 0, none⟩), .int .i64 j] w (CkTo E k r w)) (kb : Int) (har0 : 0 ≤ Xp.arity (⟨op, (ja : Int), eb, col, ⟨ck, cn, cs⟩⟩ : Ex).op) (hbc : Xp.badCol ⟨op, (ja : Int), eb, col, ⟨ck, cn, cs⟩⟩ E.cols.length = false) (hcb : Xp.cmb ⟨op, (ja : Int), eb, col, ⟨ck, cn, cs⟩⟩ E.cols (ka) (kb) = (rk, re)) :
    Calls Try.prog 31 #[.pointer (some ⟨E.P, 0, none⟩), .int .i64 i] w (CkTo E (rk) (re) w) := by
  have HAR := Lib.hid har
  have HN := Lib.hid (show nops op = 1 by unfold nops; rw [har]; rfl)
  have eop1 : (op == 1) = false := by simp; omega
  have eop2 : (op == 2) = false := by simp; omega
  clear har
  have LA := Lib.hid (show Xp.lgl i (ja : Int) = true by unfold Xp.lgl; simp [hja])
  have h2a : (0 : Int) ≤ (ja : Int) := by omega
  have HKA := Lib.hid hka
  clear hka
  have IH' := Lib.hid IH
  clear IH
  have IH := IH'
  obtain ⟨i0, hi0, hz0, hz1, hzb⟩ := info_parts int_info
  have HAR0 := Lib.hid har0
  have HBC := Lib.hid hbc
  have HCB := Lib.hid hcb
  clear har0 hbc hcb
  have HE := Lib.hid he
  have hil : i < E.L.length := (List.getElem?_eq_some_iff.1 he).1
  clear he
  have hb := ok.hb
  have hG := ok.hG
  have hP := ok.hP
  have hne := ok.ne
  have hcn := ok.hn
  have hcc := ok.hc
  have OK := Lib.hid ok
  clear ok
  have p0 := hC.p0
  have p1 := hC.p1
  have hsP := hC.sP
  have hsB := hC.sB
  have hsG := hC.gl
  have HX := Lib.hid (hC.xs i _ HE.out)
  obtain ⟨x0, x1, x2, x3, x4, x5, x6⟩ := HX.out
  simp only at x0 x1 x2 x3 x4 x5 x6
  have HC := Lib.hid hC
  clear hC
  have h0 : (0 : Int) ≤ (i : Int) := by omega
  have h1 : (i : Int) < (E.L.length : Int) := by omega
  have hb1 : E.b < w.heap.size + 1 := by omega
  have hP1 : E.P < w.heap.size + 1 := by omega
  go_enter Try.func31, Try.ntmps31
  go_wp2_with fail
  refine (ar_call _ (1) _ HAR.out).mono ?_
  rintro e1 w1 ⟨rfl, rfl⟩
  go_wp2_with fail
  have hB1 : Below w.heap.size w (w.alloc (.cells #[.int .i64 op, .int .i64 (ja : Int), .int .i64 eb, .int .i64 col, .int .i64 ck, .int .i64 cn, .string cs] 44)) := below_alloc (Below.refl _ _) _
  have ZD1 : ExAt (w.alloc (.cells #[.int .i64 op, .int .i64 (ja : Int), .int .i64 eb, .int .i64 col, .int .i64 ck, .int .i64 cn, .string cs] 44)) w.heap.size 0 ⟨op, (ja : Int), eb, col, ⟨ck, cn, cs⟩⟩ := ex_new w ⟨op, (ja : Int), eb, col, ⟨ck, cn, cs⟩⟩ _
  refine (ops_call ⟨op, (ja : Int), eb, col, ⟨ck, cn, cs⟩⟩ 1 _ HN.out).mono ?_
  rintro e1 w2 ⟨g, rfl, hg1, hg2, hgc0, hgc1, hb2⟩
  have hgc0 : w2.cell? ⟨g, 0, none⟩ = some (.int .i64 (ja : Int)) := hgc0
  have hgc1 : w2.cell? ⟨g, 1, none⟩ = some (.int .i64 eb) := hgc1
  have hT2 : Below w.heap.size w w2 := below_chain hB1 hb2
  have ZD2 : ExAt w2 w.heap.size 0 ⟨op, (ja : Int), eb, col, ⟨ck, cn, cs⟩⟩ := ZD1.below (by simp) hb2
  have hz2 := hb2.size
  simp only [World.size_alloc] at hz2 hg1
  clear hb2 ZD1 hB1
  have HC2 := Lib.hid (HC.out.below OK.out hT2 hsP hsG hsB)
  have HZ2 := Lib.hid ZD2
  obtain ⟨z0, z1, z2, z3, z4, z5, z6⟩ := ZD2
  simp only at z0 z1 z2 z3 z4 z5 z6
  have q0 := HC2.out.p0
  have q1 := HC2.out.p1
  have hl2 : w.heap.size < w2.heap.size := by omega
  have hP2 : E.P < w2.heap.size := by omega
  clear x0 x1 x2 x3 x4 x5 x6 p0 p1
  go_wp2_with fail
  refine wp_loop_rounds 2 ?_
  rw [rounds_succ]
  go_wp2_with fail
  refine (lg_call i _ true _ LA.out).mono ?_
  rintro e1 w' ⟨rfl, rfl⟩
  go_wp2_with fail
  rw [rounds_succ]
  go_wp2_with fail
  go_quiet (fail)
  go_wp2_with fail
  refine (ops_call ⟨op, (ja : Int), eb, col, ⟨ck, cn, cs⟩⟩ 1 _ HN.out).mono ?_
  rintro e1 w3 ⟨h, rfl, hh1, hh2, hhc0, hhc1, hb3⟩
  have hhc0 : w3.cell? ⟨h, 0, none⟩ = some (.int .i64 (ja : Int)) := hhc0
  have hhc1 : w3.cell? ⟨h, 1, none⟩ = some (.int .i64 eb) := hhc1
  have hb3 : Below w2.heap.size w2 w3 := (below_drewN (Below.refl _ _) _).trans hb3
  have hh1 : w2.heap.size ≤ h := hh1
  have hT3 : Below w.heap.size w w3 := below_chain hT2 hb3
  have ZD3 : ExAt w3 w.heap.size 0 ⟨op, (ja : Int), eb, col, ⟨ck, cn, cs⟩⟩ := HZ2.out.below hl2 hb3
  have hz3 := hb3.size
  have HC3 := Lib.hid (HC2.out.below OK.out hb3 (by omega) (by omega) (by omega))
  clear hb3 hgc0 hgc1 z0 z1 z2 z3 z4 z5 z6 q0 q1
  have HZ3 := Lib.hid (show ∀ w' : World, Stir w3.heap.size E.G w3 w' → ExAt w' w.heap.size 0 ⟨op, (ja : Int), eb, col, ⟨ck, cn, cs⟩⟩ ∧ w'.cell? ⟨h, 0, none⟩ = some (.int .i64 (ja : Int)) ∧ w'.cell? ⟨h, 1, none⟩ = some (.int .i64 eb) from fun w' hs => ⟨ZD3.stir (by omega) (by omega) hs, (hs.cell (p := ⟨h, 0, none⟩) hh2 (show h ≠ E.G by omega)).trans hhc0, (hs.cell (p := ⟨h, 1, none⟩) hh2 (show h ≠ E.G by omega)).trans hhc1⟩)
  have hS3 : Stir w3.heap.size E.G w3 w3 := Stir.of (Below.refl _ _)
  obtain ⟨⟨y30, y31, y32, y33, y34, y35, y36⟩, yh30, yh31⟩ := HZ3.out _ hS3
  simp only at y30 y31 y32 y33 y34 y35 y36
  have hw3 : w.heap.size < w3.heap.size := by have := hS3.size; omega
  have hh3 : h < w3.heap.size := by have := hS3.size; omega
  have hP3 : E.P < w3.heap.size := by have := hS3.size; omega
  go_wp2_with fail
  refine wp_loop_rounds 2 ?_
  rw [rounds_succ]
  go_wp2_with fail
  refine (IH.out ja (by omega) ka 0 _ HC3.out HKA.out).mono ?_
  rintro e1 w4 ⟨rfl, hC4, hS4⟩
  have hsz4 := hS4.size
  have HC4 := Lib.hid hC4
  have hT4 : Stir w3.heap.size E.G w3 w4 := hS3.trans (hS4.mono hS3.size)
  clear hC4
  clear y30 y31 y32 y33 y34 y35 y36 yh30 yh31
  obtain ⟨⟨y40, y41, y42, y43, y44, y45, y46⟩, yh40, yh41⟩ := HZ3.out _ hT4
  simp only at y40 y41 y42 y43 y44 y45 y46
  have hw4 : w.heap.size < w4.heap.size := by have := hT4.size; omega
  have hh4 : h < w4.heap.size := by have := hT4.size; omega
  have hP4 : E.P < w4.heap.size := by have := hT4.size; omega
  go_wp2_with (at_builtin; refine wpList_append_own _ rfl _ _ 23 rfl w4.heap.size 3 i0 _ 1 8 Try.underlying23 hi0 hz0 hz1 hzb rfl (by decide) _ _ _ rfl (World.ownsRow_nil _ _ _ _) ⟨w4.heap.size, 0, none⟩ 1 1 [.int .i64 ka] rfl rfl ?c1 ?c2 ?c3 ?c4 ?c5 ?_)
  case c1 => exact new_cells _ _ _
  case c2 => intro u hu; simp at hu; subst hu; rfl
  case c3 => unfold maxLen; omega
  case c4 => omega
  case c5 => simp
  intro v5 w5 hown5 hg5 _
  have hb5 : Below w4.heap.size w4 w5 := ((Below.refl w4.heap.size w4).alloc (Nat.le_refl _) _).grown hg5 (by simp) (by simp [Value.ownBlock])
  have hown5 : w5.ownsRow w4.heap.size 3 1 v5 1 [.int .i64 ka] := hown5
  obtain ⟨k5, cap5, rfl, hk5l, hk5h⟩ := own_form hown5 (by omega)
  have HOW5 := Lib.hid hown5
  have HC5 := Lib.hid (HC4.out.below OK.out hb5 (by omega) (by omega) (by omega))
  have hT5 : Stir w3.heap.size E.G w3 w5 := hT4.trans (Stir.of (hb5.mono hT4.size))
  have hsz5 := hb5.size
  clear hg5 hown5 hb5
  clear y40 y41 y42 y43 y44 y45 y46 yh40 yh41
  obtain ⟨⟨y50, y51, y52, y53, y54, y55, y56⟩, yh50, yh51⟩ := HZ3.out _ hT5
  simp only at y50 y51 y52 y53 y54 y55 y56
  have hw5 : w.heap.size < w5.heap.size := by have := hT5.size; omega
  have hh5 : h < w5.heap.size := by have := hT5.size; omega
  have hP5 : E.P < w5.heap.size := by have := hT5.size; omega
  go_wp2_with fail
  rw [rounds_succ]
  go_wp2_with fail
  refine (comb_call ⟨op, (ja : Int), eb, col, ⟨ck, cn, cs⟩⟩ E.cols E.P E.base E.cv _ (ka) (kb) rk re _ HAR0.out HBC.out hP5 HC5.out.p1 HC5.out.cs (fun _ => by rw [show nops (⟨op, (ja : Int), eb, col, ⟨ck, cn, cs⟩⟩ : Ex).op = 1 from HN.out]; exact ⟨k5, cap5, rfl, own_len_cap HOW5.out, hk5h, HOW5.out.cellAt 0 (by omega), fun h => absurd h (by omega)⟩) HCB.out).mono ?_
  rintro e1 w9 ⟨rfl, hb9⟩
  have hC9 := Lib.hid (HC5.out.below OK.out hb9 (by omega) (by omega) (by omega))
  have hT9 : Stir w3.heap.size E.G w3 w9 := hT5.trans (Stir.of (hb9.mono (by omega)))
  clear hb9
  go_wp2_with fail
  go_ret2
  exact ⟨rfl, hC9.out, (Stir.of hT3).trans (hT9.mono (by omega))⟩


set_option maxRecDepth 100000 in
set_option maxHeartbeats 4000000 in
theorem drv_2erra (E : CkEnv) (ok : E.ok) (i ja jb : Nat) (op col : Int) (ck cn : Int) (cs : ByteArray) (ka xa kb xb : Int) (w : World) (he : E.L[i]? = some ⟨op, (ja : Int), (jb : Int), col, ⟨ck, cn, cs⟩⟩) (hC : Ck E w) (har : Xp.arity op = 2) (hop1 : op ≠ 1) (hop2 : op ≠ 2) (hja : ja < i) (hjb : jb < i) (hka : Xp.ck E.L E.cols ja = (ka, xa)) (hkb : Xp.ck E.L E.cols jb = (kb, xb)) (IH : ∀ (j : Nat), j < i → ∀ (k r : Int) (w : World), Ck E w → Xp.ck E.L E.cols j = (k, r) → Calls Try.prog 21 #[.pointer (some ⟨E.P, 0, none⟩), .int .i64 j] w (CkTo E k r w)) (hxa : xa ≠ 0) :
    Calls Try.prog 31 #[.pointer (some ⟨E.P, 0, none⟩), .int .i64 i] w (CkTo E (0) (xa) w) := by
  have HAR := Lib.hid har
  have HN := Lib.hid (show nops op = 2 by unfold nops; rw [har]; rfl)
  have eop1 : (op == 1) = false := by simp; omega
  have eop2 : (op == 2) = false := by simp; omega
  clear har
  have LA := Lib.hid (show Xp.lgl i (ja : Int) = true by unfold Xp.lgl; simp [hja])
  have h2a : (0 : Int) ≤ (ja : Int) := by omega
  have HKA := Lib.hid hka
  clear hka
  have IH' := Lib.hid IH
  clear IH
  have IH := IH'
  obtain ⟨i0, hi0, hz0, hz1, hzb⟩ := info_parts int_info
  have LB := Lib.hid (show Xp.lgl i (jb : Int) = true by unfold Xp.lgl; simp [hjb])
  have h2b : (0 : Int) ≤ (jb : Int) := by omega
  have HKB := Lib.hid hkb
  clear hkb
  have exa : (xa != 0) = true := by simp; exact hxa
  have HE := Lib.hid he
  have hil : i < E.L.length := (List.getElem?_eq_some_iff.1 he).1
  clear he
  have hb := ok.hb
  have hG := ok.hG
  have hP := ok.hP
  have hne := ok.ne
  have hcn := ok.hn
  have hcc := ok.hc
  have OK := Lib.hid ok
  clear ok
  have p0 := hC.p0
  have p1 := hC.p1
  have hsP := hC.sP
  have hsB := hC.sB
  have hsG := hC.gl
  have HX := Lib.hid (hC.xs i _ HE.out)
  obtain ⟨x0, x1, x2, x3, x4, x5, x6⟩ := HX.out
  simp only at x0 x1 x2 x3 x4 x5 x6
  have HC := Lib.hid hC
  clear hC
  have h0 : (0 : Int) ≤ (i : Int) := by omega
  have h1 : (i : Int) < (E.L.length : Int) := by omega
  have hb1 : E.b < w.heap.size + 1 := by omega
  have hP1 : E.P < w.heap.size + 1 := by omega
  go_enter Try.func31, Try.ntmps31
  go_wp2_with fail
  refine (ar_call _ (2) _ HAR.out).mono ?_
  rintro e1 w1 ⟨rfl, rfl⟩
  go_wp2_with fail
  have hB1 : Below w.heap.size w (w.alloc (.cells #[.int .i64 op, .int .i64 (ja : Int), .int .i64 (jb : Int), .int .i64 col, .int .i64 ck, .int .i64 cn, .string cs] 44)) := below_alloc (Below.refl _ _) _
  have ZD1 : ExAt (w.alloc (.cells #[.int .i64 op, .int .i64 (ja : Int), .int .i64 (jb : Int), .int .i64 col, .int .i64 ck, .int .i64 cn, .string cs] 44)) w.heap.size 0 ⟨op, (ja : Int), (jb : Int), col, ⟨ck, cn, cs⟩⟩ := ex_new w ⟨op, (ja : Int), (jb : Int), col, ⟨ck, cn, cs⟩⟩ _
  refine (ops_call ⟨op, (ja : Int), (jb : Int), col, ⟨ck, cn, cs⟩⟩ 2 _ HN.out).mono ?_
  rintro e1 w2 ⟨g, rfl, hg1, hg2, hgc0, hgc1, hb2⟩
  have hgc0 : w2.cell? ⟨g, 0, none⟩ = some (.int .i64 (ja : Int)) := hgc0
  have hgc1 : w2.cell? ⟨g, 1, none⟩ = some (.int .i64 (jb : Int)) := hgc1
  have hT2 : Below w.heap.size w w2 := below_chain hB1 hb2
  have ZD2 : ExAt w2 w.heap.size 0 ⟨op, (ja : Int), (jb : Int), col, ⟨ck, cn, cs⟩⟩ := ZD1.below (by simp) hb2
  have hz2 := hb2.size
  simp only [World.size_alloc] at hz2 hg1
  clear hb2 ZD1 hB1
  have HC2 := Lib.hid (HC.out.below OK.out hT2 hsP hsG hsB)
  have HZ2 := Lib.hid ZD2
  obtain ⟨z0, z1, z2, z3, z4, z5, z6⟩ := ZD2
  simp only at z0 z1 z2 z3 z4 z5 z6
  have q0 := HC2.out.p0
  have q1 := HC2.out.p1
  have hl2 : w.heap.size < w2.heap.size := by omega
  have hP2 : E.P < w2.heap.size := by omega
  clear x0 x1 x2 x3 x4 x5 x6 p0 p1
  go_wp2_with fail
  refine wp_loop_rounds 3 ?_
  rw [rounds_succ]
  go_wp2_with fail
  refine (lg_call i _ true _ LA.out).mono ?_
  rintro e1 w' ⟨rfl, rfl⟩
  go_wp2_with fail
  rw [rounds_succ]
  go_wp2_with fail
  refine (lg_call i _ true _ LB.out).mono ?_
  rintro e1 w' ⟨rfl, rfl⟩
  go_wp2_with fail
  rw [rounds_succ]
  go_wp2_with fail
  go_quiet (fail)
  go_wp2_with fail
  refine (ops_call ⟨op, (ja : Int), (jb : Int), col, ⟨ck, cn, cs⟩⟩ 2 _ HN.out).mono ?_
  rintro e1 w3 ⟨h, rfl, hh1, hh2, hhc0, hhc1, hb3⟩
  have hhc0 : w3.cell? ⟨h, 0, none⟩ = some (.int .i64 (ja : Int)) := hhc0
  have hhc1 : w3.cell? ⟨h, 1, none⟩ = some (.int .i64 (jb : Int)) := hhc1
  have hb3 : Below w2.heap.size w2 w3 := (below_drewN (Below.refl _ _) _).trans hb3
  have hh1 : w2.heap.size ≤ h := hh1
  have hT3 : Below w.heap.size w w3 := below_chain hT2 hb3
  have ZD3 : ExAt w3 w.heap.size 0 ⟨op, (ja : Int), (jb : Int), col, ⟨ck, cn, cs⟩⟩ := HZ2.out.below hl2 hb3
  have hz3 := hb3.size
  have HC3 := Lib.hid (HC2.out.below OK.out hb3 (by omega) (by omega) (by omega))
  clear hb3 hgc0 hgc1 z0 z1 z2 z3 z4 z5 z6 q0 q1
  have HZ3 := Lib.hid (show ∀ w' : World, Stir w3.heap.size E.G w3 w' → ExAt w' w.heap.size 0 ⟨op, (ja : Int), (jb : Int), col, ⟨ck, cn, cs⟩⟩ ∧ w'.cell? ⟨h, 0, none⟩ = some (.int .i64 (ja : Int)) ∧ w'.cell? ⟨h, 1, none⟩ = some (.int .i64 (jb : Int)) from fun w' hs => ⟨ZD3.stir (by omega) (by omega) hs, (hs.cell (p := ⟨h, 0, none⟩) hh2 (show h ≠ E.G by omega)).trans hhc0, (hs.cell (p := ⟨h, 1, none⟩) hh2 (show h ≠ E.G by omega)).trans hhc1⟩)
  have hS3 : Stir w3.heap.size E.G w3 w3 := Stir.of (Below.refl _ _)
  obtain ⟨⟨y30, y31, y32, y33, y34, y35, y36⟩, yh30, yh31⟩ := HZ3.out _ hS3
  simp only at y30 y31 y32 y33 y34 y35 y36
  have hw3 : w.heap.size < w3.heap.size := by have := hS3.size; omega
  have hh3 : h < w3.heap.size := by have := hS3.size; omega
  have hP3 : E.P < w3.heap.size := by have := hS3.size; omega
  go_wp2_with fail
  refine wp_loop_rounds 3 ?_
  rw [rounds_succ]
  go_wp2_with fail
  refine (IH.out ja (by omega) ka xa _ HC3.out HKA.out).mono ?_
  rintro e1 w4 ⟨rfl, hC4, hS4⟩
  have hsz4 := hS4.size
  have HC4 := Lib.hid hC4
  have hT4 : Stir w3.heap.size E.G w3 w4 := hS3.trans (hS4.mono hS3.size)
  clear hC4
  clear y30 y31 y32 y33 y34 y35 y36 yh30 yh31
  obtain ⟨⟨y40, y41, y42, y43, y44, y45, y46⟩, yh40, yh41⟩ := HZ3.out _ hT4
  simp only at y40 y41 y42 y43 y44 y45 y46
  have hw4 : w.heap.size < w4.heap.size := by have := hT4.size; omega
  have hh4 : h < w4.heap.size := by have := hT4.size; omega
  have hP4 : E.P < w4.heap.size := by have := hT4.size; omega
  go_wp2_with fail
  go_ret2
  exact ⟨rfl, HC4.out, (Stir.of hT3).trans (hT4.mono (by omega))⟩


set_option maxRecDepth 100000 in
set_option maxHeartbeats 4000000 in
theorem drv_2errb (E : CkEnv) (ok : E.ok) (i ja jb : Nat) (op col : Int) (ck cn : Int) (cs : ByteArray) (ka kb xb : Int) (w : World) (he : E.L[i]? = some ⟨op, (ja : Int), (jb : Int), col, ⟨ck, cn, cs⟩⟩) (hC : Ck E w) (har : Xp.arity op = 2) (hop1 : op ≠ 1) (hop2 : op ≠ 2) (hja : ja < i) (hjb : jb < i) (hka : Xp.ck E.L E.cols ja = (ka, 0)) (hkb : Xp.ck E.L E.cols jb = (kb, xb)) (IH : ∀ (j : Nat), j < i → ∀ (k r : Int) (w : World), Ck E w → Xp.ck E.L E.cols j = (k, r) → Calls Try.prog 21 #[.pointer (some ⟨E.P, 0, none⟩), .int .i64 j] w (CkTo E k r w)) (hxb : xb ≠ 0) :
    Calls Try.prog 31 #[.pointer (some ⟨E.P, 0, none⟩), .int .i64 i] w (CkTo E (0) (xb) w) := by
  have HAR := Lib.hid har
  have HN := Lib.hid (show nops op = 2 by unfold nops; rw [har]; rfl)
  have eop1 : (op == 1) = false := by simp; omega
  have eop2 : (op == 2) = false := by simp; omega
  clear har
  have LA := Lib.hid (show Xp.lgl i (ja : Int) = true by unfold Xp.lgl; simp [hja])
  have h2a : (0 : Int) ≤ (ja : Int) := by omega
  have HKA := Lib.hid hka
  clear hka
  have IH' := Lib.hid IH
  clear IH
  have IH := IH'
  obtain ⟨i0, hi0, hz0, hz1, hzb⟩ := info_parts int_info
  have LB := Lib.hid (show Xp.lgl i (jb : Int) = true by unfold Xp.lgl; simp [hjb])
  have h2b : (0 : Int) ≤ (jb : Int) := by omega
  have HKB := Lib.hid hkb
  clear hkb
  have exb : (xb != 0) = true := by simp; exact hxb
  have HE := Lib.hid he
  have hil : i < E.L.length := (List.getElem?_eq_some_iff.1 he).1
  clear he
  have hb := ok.hb
  have hG := ok.hG
  have hP := ok.hP
  have hne := ok.ne
  have hcn := ok.hn
  have hcc := ok.hc
  have OK := Lib.hid ok
  clear ok
  have p0 := hC.p0
  have p1 := hC.p1
  have hsP := hC.sP
  have hsB := hC.sB
  have hsG := hC.gl
  have HX := Lib.hid (hC.xs i _ HE.out)
  obtain ⟨x0, x1, x2, x3, x4, x5, x6⟩ := HX.out
  simp only at x0 x1 x2 x3 x4 x5 x6
  have HC := Lib.hid hC
  clear hC
  have h0 : (0 : Int) ≤ (i : Int) := by omega
  have h1 : (i : Int) < (E.L.length : Int) := by omega
  have hb1 : E.b < w.heap.size + 1 := by omega
  have hP1 : E.P < w.heap.size + 1 := by omega
  go_enter Try.func31, Try.ntmps31
  go_wp2_with fail
  refine (ar_call _ (2) _ HAR.out).mono ?_
  rintro e1 w1 ⟨rfl, rfl⟩
  go_wp2_with fail
  have hB1 : Below w.heap.size w (w.alloc (.cells #[.int .i64 op, .int .i64 (ja : Int), .int .i64 (jb : Int), .int .i64 col, .int .i64 ck, .int .i64 cn, .string cs] 44)) := below_alloc (Below.refl _ _) _
  have ZD1 : ExAt (w.alloc (.cells #[.int .i64 op, .int .i64 (ja : Int), .int .i64 (jb : Int), .int .i64 col, .int .i64 ck, .int .i64 cn, .string cs] 44)) w.heap.size 0 ⟨op, (ja : Int), (jb : Int), col, ⟨ck, cn, cs⟩⟩ := ex_new w ⟨op, (ja : Int), (jb : Int), col, ⟨ck, cn, cs⟩⟩ _
  refine (ops_call ⟨op, (ja : Int), (jb : Int), col, ⟨ck, cn, cs⟩⟩ 2 _ HN.out).mono ?_
  rintro e1 w2 ⟨g, rfl, hg1, hg2, hgc0, hgc1, hb2⟩
  have hgc0 : w2.cell? ⟨g, 0, none⟩ = some (.int .i64 (ja : Int)) := hgc0
  have hgc1 : w2.cell? ⟨g, 1, none⟩ = some (.int .i64 (jb : Int)) := hgc1
  have hT2 : Below w.heap.size w w2 := below_chain hB1 hb2
  have ZD2 : ExAt w2 w.heap.size 0 ⟨op, (ja : Int), (jb : Int), col, ⟨ck, cn, cs⟩⟩ := ZD1.below (by simp) hb2
  have hz2 := hb2.size
  simp only [World.size_alloc] at hz2 hg1
  clear hb2 ZD1 hB1
  have HC2 := Lib.hid (HC.out.below OK.out hT2 hsP hsG hsB)
  have HZ2 := Lib.hid ZD2
  obtain ⟨z0, z1, z2, z3, z4, z5, z6⟩ := ZD2
  simp only at z0 z1 z2 z3 z4 z5 z6
  have q0 := HC2.out.p0
  have q1 := HC2.out.p1
  have hl2 : w.heap.size < w2.heap.size := by omega
  have hP2 : E.P < w2.heap.size := by omega
  clear x0 x1 x2 x3 x4 x5 x6 p0 p1
  go_wp2_with fail
  refine wp_loop_rounds 3 ?_
  rw [rounds_succ]
  go_wp2_with fail
  refine (lg_call i _ true _ LA.out).mono ?_
  rintro e1 w' ⟨rfl, rfl⟩
  go_wp2_with fail
  rw [rounds_succ]
  go_wp2_with fail
  refine (lg_call i _ true _ LB.out).mono ?_
  rintro e1 w' ⟨rfl, rfl⟩
  go_wp2_with fail
  rw [rounds_succ]
  go_wp2_with fail
  go_quiet (fail)
  go_wp2_with fail
  refine (ops_call ⟨op, (ja : Int), (jb : Int), col, ⟨ck, cn, cs⟩⟩ 2 _ HN.out).mono ?_
  rintro e1 w3 ⟨h, rfl, hh1, hh2, hhc0, hhc1, hb3⟩
  have hhc0 : w3.cell? ⟨h, 0, none⟩ = some (.int .i64 (ja : Int)) := hhc0
  have hhc1 : w3.cell? ⟨h, 1, none⟩ = some (.int .i64 (jb : Int)) := hhc1
  have hb3 : Below w2.heap.size w2 w3 := (below_drewN (Below.refl _ _) _).trans hb3
  have hh1 : w2.heap.size ≤ h := hh1
  have hT3 : Below w.heap.size w w3 := below_chain hT2 hb3
  have ZD3 : ExAt w3 w.heap.size 0 ⟨op, (ja : Int), (jb : Int), col, ⟨ck, cn, cs⟩⟩ := HZ2.out.below hl2 hb3
  have hz3 := hb3.size
  have HC3 := Lib.hid (HC2.out.below OK.out hb3 (by omega) (by omega) (by omega))
  clear hb3 hgc0 hgc1 z0 z1 z2 z3 z4 z5 z6 q0 q1
  have HZ3 := Lib.hid (show ∀ w' : World, Stir w3.heap.size E.G w3 w' → ExAt w' w.heap.size 0 ⟨op, (ja : Int), (jb : Int), col, ⟨ck, cn, cs⟩⟩ ∧ w'.cell? ⟨h, 0, none⟩ = some (.int .i64 (ja : Int)) ∧ w'.cell? ⟨h, 1, none⟩ = some (.int .i64 (jb : Int)) from fun w' hs => ⟨ZD3.stir (by omega) (by omega) hs, (hs.cell (p := ⟨h, 0, none⟩) hh2 (show h ≠ E.G by omega)).trans hhc0, (hs.cell (p := ⟨h, 1, none⟩) hh2 (show h ≠ E.G by omega)).trans hhc1⟩)
  have hS3 : Stir w3.heap.size E.G w3 w3 := Stir.of (Below.refl _ _)
  obtain ⟨⟨y30, y31, y32, y33, y34, y35, y36⟩, yh30, yh31⟩ := HZ3.out _ hS3
  simp only at y30 y31 y32 y33 y34 y35 y36
  have hw3 : w.heap.size < w3.heap.size := by have := hS3.size; omega
  have hh3 : h < w3.heap.size := by have := hS3.size; omega
  have hP3 : E.P < w3.heap.size := by have := hS3.size; omega
  go_wp2_with fail
  refine wp_loop_rounds 3 ?_
  rw [rounds_succ]
  go_wp2_with fail
  refine (IH.out ja (by omega) ka 0 _ HC3.out HKA.out).mono ?_
  rintro e1 w4 ⟨rfl, hC4, hS4⟩
  have hsz4 := hS4.size
  have HC4 := Lib.hid hC4
  have hT4 : Stir w3.heap.size E.G w3 w4 := hS3.trans (hS4.mono hS3.size)
  clear hC4
  clear y30 y31 y32 y33 y34 y35 y36 yh30 yh31
  obtain ⟨⟨y40, y41, y42, y43, y44, y45, y46⟩, yh40, yh41⟩ := HZ3.out _ hT4
  simp only at y40 y41 y42 y43 y44 y45 y46
  have hw4 : w.heap.size < w4.heap.size := by have := hT4.size; omega
  have hh4 : h < w4.heap.size := by have := hT4.size; omega
  have hP4 : E.P < w4.heap.size := by have := hT4.size; omega
  go_wp2_with (at_builtin; refine wpList_append_own _ rfl _ _ 23 rfl w4.heap.size 3 i0 _ 1 8 Try.underlying23 hi0 hz0 hz1 hzb rfl (by decide) _ _ _ rfl (World.ownsRow_nil _ _ _ _) ⟨w4.heap.size, 0, none⟩ 1 1 [.int .i64 ka] rfl rfl ?c1 ?c2 ?c3 ?c4 ?c5 ?_)
  case c1 => exact new_cells _ _ _
  case c2 => intro u hu; simp at hu; subst hu; rfl
  case c3 => unfold maxLen; omega
  case c4 => omega
  case c5 => simp
  intro v5 w5 hown5 hg5 _
  have hb5 : Below w4.heap.size w4 w5 := ((Below.refl w4.heap.size w4).alloc (Nat.le_refl _) _).grown hg5 (by simp) (by simp [Value.ownBlock])
  have hown5 : w5.ownsRow w4.heap.size 3 1 v5 1 [.int .i64 ka] := hown5
  obtain ⟨k5, cap5, rfl, hk5l, hk5h⟩ := own_form hown5 (by omega)
  have HOW5 := Lib.hid hown5
  have HC5 := Lib.hid (HC4.out.below OK.out hb5 (by omega) (by omega) (by omega))
  have hT5 : Stir w3.heap.size E.G w3 w5 := hT4.trans (Stir.of (hb5.mono hT4.size))
  have hsz5 := hb5.size
  clear hg5 hown5 hb5
  clear y40 y41 y42 y43 y44 y45 y46 yh40 yh41
  obtain ⟨⟨y50, y51, y52, y53, y54, y55, y56⟩, yh50, yh51⟩ := HZ3.out _ hT5
  simp only at y50 y51 y52 y53 y54 y55 y56
  have hw5 : w.heap.size < w5.heap.size := by have := hT5.size; omega
  have hh5 : h < w5.heap.size := by have := hT5.size; omega
  have hP5 : E.P < w5.heap.size := by have := hT5.size; omega
  go_wp2_with fail
  rw [rounds_succ]
  go_wp2_with fail
  refine (IH.out jb (by omega) kb xb _ HC5.out HKB.out).mono ?_
  rintro e1 w6 ⟨rfl, hC6, hS6⟩
  have hsz6 := hS6.size
  have HC6 := Lib.hid hC6
  have hT6 : Stir w3.heap.size E.G w3 w6 := hT5.trans (hS6.mono hT5.size)
  clear hC6
  clear y50 y51 y52 y53 y54 y55 y56 yh50 yh51
  obtain ⟨⟨y60, y61, y62, y63, y64, y65, y66⟩, yh60, yh61⟩ := HZ3.out _ hT6
  simp only at y60 y61 y62 y63 y64 y65 y66
  have hw6 : w.heap.size < w6.heap.size := by have := hT6.size; omega
  have hh6 : h < w6.heap.size := by have := hT6.size; omega
  have hP6 : E.P < w6.heap.size := by have := hT6.size; omega
  go_wp2_with fail
  go_ret2
  exact ⟨rfl, HC6.out, (Stir.of hT3).trans (hT6.mono (by omega))⟩


set_option maxRecDepth 100000 in
set_option maxHeartbeats 4000000 in
theorem drv_2 (E : CkEnv) (ok : E.ok) (i ja jb : Nat) (op col : Int) (ck cn : Int) (cs : ByteArray) (ka kb rk re : Int) (w : World) (he : E.L[i]? = some ⟨op, (ja : Int), (jb : Int), col, ⟨ck, cn, cs⟩⟩) (hC : Ck E w) (har : Xp.arity op = 2) (hop1 : op ≠ 1) (hop2 : op ≠ 2) (hja : ja < i) (hjb : jb < i) (hka : Xp.ck E.L E.cols ja = (ka, 0)) (hkb : Xp.ck E.L E.cols jb = (kb, 0)) (IH : ∀ (j : Nat), j < i → ∀ (k r : Int) (w : World), Ck E w → Xp.ck E.L E.cols j = (k, r) → Calls Try.prog 21 #[.pointer (some ⟨E.P, 0, none⟩), .int .i64 j] w (CkTo E k r w)) (har0 : 0 ≤ Xp.arity (⟨op, (ja : Int), (jb : Int), col, ⟨ck, cn, cs⟩⟩ : Ex).op) (hbc : Xp.badCol ⟨op, (ja : Int), (jb : Int), col, ⟨ck, cn, cs⟩⟩ E.cols.length = false) (hcb : Xp.cmb ⟨op, (ja : Int), (jb : Int), col, ⟨ck, cn, cs⟩⟩ E.cols (ka) (kb) = (rk, re)) :
    Calls Try.prog 31 #[.pointer (some ⟨E.P, 0, none⟩), .int .i64 i] w (CkTo E (rk) (re) w) := by
  have HAR := Lib.hid har
  have HN := Lib.hid (show nops op = 2 by unfold nops; rw [har]; rfl)
  have eop1 : (op == 1) = false := by simp; omega
  have eop2 : (op == 2) = false := by simp; omega
  clear har
  have LA := Lib.hid (show Xp.lgl i (ja : Int) = true by unfold Xp.lgl; simp [hja])
  have h2a : (0 : Int) ≤ (ja : Int) := by omega
  have HKA := Lib.hid hka
  clear hka
  have IH' := Lib.hid IH
  clear IH
  have IH := IH'
  obtain ⟨i0, hi0, hz0, hz1, hzb⟩ := info_parts int_info
  have LB := Lib.hid (show Xp.lgl i (jb : Int) = true by unfold Xp.lgl; simp [hjb])
  have h2b : (0 : Int) ≤ (jb : Int) := by omega
  have HKB := Lib.hid hkb
  clear hkb
  have HAR0 := Lib.hid har0
  have HBC := Lib.hid hbc
  have HCB := Lib.hid hcb
  clear har0 hbc hcb
  have HE := Lib.hid he
  have hil : i < E.L.length := (List.getElem?_eq_some_iff.1 he).1
  clear he
  have hb := ok.hb
  have hG := ok.hG
  have hP := ok.hP
  have hne := ok.ne
  have hcn := ok.hn
  have hcc := ok.hc
  have OK := Lib.hid ok
  clear ok
  have p0 := hC.p0
  have p1 := hC.p1
  have hsP := hC.sP
  have hsB := hC.sB
  have hsG := hC.gl
  have HX := Lib.hid (hC.xs i _ HE.out)
  obtain ⟨x0, x1, x2, x3, x4, x5, x6⟩ := HX.out
  simp only at x0 x1 x2 x3 x4 x5 x6
  have HC := Lib.hid hC
  clear hC
  have h0 : (0 : Int) ≤ (i : Int) := by omega
  have h1 : (i : Int) < (E.L.length : Int) := by omega
  have hb1 : E.b < w.heap.size + 1 := by omega
  have hP1 : E.P < w.heap.size + 1 := by omega
  go_enter Try.func31, Try.ntmps31
  go_wp2_with fail
  refine (ar_call _ (2) _ HAR.out).mono ?_
  rintro e1 w1 ⟨rfl, rfl⟩
  go_wp2_with fail
  have hB1 : Below w.heap.size w (w.alloc (.cells #[.int .i64 op, .int .i64 (ja : Int), .int .i64 (jb : Int), .int .i64 col, .int .i64 ck, .int .i64 cn, .string cs] 44)) := below_alloc (Below.refl _ _) _
  have ZD1 : ExAt (w.alloc (.cells #[.int .i64 op, .int .i64 (ja : Int), .int .i64 (jb : Int), .int .i64 col, .int .i64 ck, .int .i64 cn, .string cs] 44)) w.heap.size 0 ⟨op, (ja : Int), (jb : Int), col, ⟨ck, cn, cs⟩⟩ := ex_new w ⟨op, (ja : Int), (jb : Int), col, ⟨ck, cn, cs⟩⟩ _
  refine (ops_call ⟨op, (ja : Int), (jb : Int), col, ⟨ck, cn, cs⟩⟩ 2 _ HN.out).mono ?_
  rintro e1 w2 ⟨g, rfl, hg1, hg2, hgc0, hgc1, hb2⟩
  have hgc0 : w2.cell? ⟨g, 0, none⟩ = some (.int .i64 (ja : Int)) := hgc0
  have hgc1 : w2.cell? ⟨g, 1, none⟩ = some (.int .i64 (jb : Int)) := hgc1
  have hT2 : Below w.heap.size w w2 := below_chain hB1 hb2
  have ZD2 : ExAt w2 w.heap.size 0 ⟨op, (ja : Int), (jb : Int), col, ⟨ck, cn, cs⟩⟩ := ZD1.below (by simp) hb2
  have hz2 := hb2.size
  simp only [World.size_alloc] at hz2 hg1
  clear hb2 ZD1 hB1
  have HC2 := Lib.hid (HC.out.below OK.out hT2 hsP hsG hsB)
  have HZ2 := Lib.hid ZD2
  obtain ⟨z0, z1, z2, z3, z4, z5, z6⟩ := ZD2
  simp only at z0 z1 z2 z3 z4 z5 z6
  have q0 := HC2.out.p0
  have q1 := HC2.out.p1
  have hl2 : w.heap.size < w2.heap.size := by omega
  have hP2 : E.P < w2.heap.size := by omega
  clear x0 x1 x2 x3 x4 x5 x6 p0 p1
  go_wp2_with fail
  refine wp_loop_rounds 3 ?_
  rw [rounds_succ]
  go_wp2_with fail
  refine (lg_call i _ true _ LA.out).mono ?_
  rintro e1 w' ⟨rfl, rfl⟩
  go_wp2_with fail
  rw [rounds_succ]
  go_wp2_with fail
  refine (lg_call i _ true _ LB.out).mono ?_
  rintro e1 w' ⟨rfl, rfl⟩
  go_wp2_with fail
  rw [rounds_succ]
  go_wp2_with fail
  go_quiet (fail)
  go_wp2_with fail
  refine (ops_call ⟨op, (ja : Int), (jb : Int), col, ⟨ck, cn, cs⟩⟩ 2 _ HN.out).mono ?_
  rintro e1 w3 ⟨h, rfl, hh1, hh2, hhc0, hhc1, hb3⟩
  have hhc0 : w3.cell? ⟨h, 0, none⟩ = some (.int .i64 (ja : Int)) := hhc0
  have hhc1 : w3.cell? ⟨h, 1, none⟩ = some (.int .i64 (jb : Int)) := hhc1
  have hb3 : Below w2.heap.size w2 w3 := (below_drewN (Below.refl _ _) _).trans hb3
  have hh1 : w2.heap.size ≤ h := hh1
  have hT3 : Below w.heap.size w w3 := below_chain hT2 hb3
  have ZD3 : ExAt w3 w.heap.size 0 ⟨op, (ja : Int), (jb : Int), col, ⟨ck, cn, cs⟩⟩ := HZ2.out.below hl2 hb3
  have hz3 := hb3.size
  have HC3 := Lib.hid (HC2.out.below OK.out hb3 (by omega) (by omega) (by omega))
  clear hb3 hgc0 hgc1 z0 z1 z2 z3 z4 z5 z6 q0 q1
  have HZ3 := Lib.hid (show ∀ w' : World, Stir w3.heap.size E.G w3 w' → ExAt w' w.heap.size 0 ⟨op, (ja : Int), (jb : Int), col, ⟨ck, cn, cs⟩⟩ ∧ w'.cell? ⟨h, 0, none⟩ = some (.int .i64 (ja : Int)) ∧ w'.cell? ⟨h, 1, none⟩ = some (.int .i64 (jb : Int)) from fun w' hs => ⟨ZD3.stir (by omega) (by omega) hs, (hs.cell (p := ⟨h, 0, none⟩) hh2 (show h ≠ E.G by omega)).trans hhc0, (hs.cell (p := ⟨h, 1, none⟩) hh2 (show h ≠ E.G by omega)).trans hhc1⟩)
  have hS3 : Stir w3.heap.size E.G w3 w3 := Stir.of (Below.refl _ _)
  obtain ⟨⟨y30, y31, y32, y33, y34, y35, y36⟩, yh30, yh31⟩ := HZ3.out _ hS3
  simp only at y30 y31 y32 y33 y34 y35 y36
  have hw3 : w.heap.size < w3.heap.size := by have := hS3.size; omega
  have hh3 : h < w3.heap.size := by have := hS3.size; omega
  have hP3 : E.P < w3.heap.size := by have := hS3.size; omega
  go_wp2_with fail
  refine wp_loop_rounds 3 ?_
  rw [rounds_succ]
  go_wp2_with fail
  refine (IH.out ja (by omega) ka 0 _ HC3.out HKA.out).mono ?_
  rintro e1 w4 ⟨rfl, hC4, hS4⟩
  have hsz4 := hS4.size
  have HC4 := Lib.hid hC4
  have hT4 : Stir w3.heap.size E.G w3 w4 := hS3.trans (hS4.mono hS3.size)
  clear hC4
  clear y30 y31 y32 y33 y34 y35 y36 yh30 yh31
  obtain ⟨⟨y40, y41, y42, y43, y44, y45, y46⟩, yh40, yh41⟩ := HZ3.out _ hT4
  simp only at y40 y41 y42 y43 y44 y45 y46
  have hw4 : w.heap.size < w4.heap.size := by have := hT4.size; omega
  have hh4 : h < w4.heap.size := by have := hT4.size; omega
  have hP4 : E.P < w4.heap.size := by have := hT4.size; omega
  go_wp2_with (at_builtin; refine wpList_append_own _ rfl _ _ 23 rfl w4.heap.size 3 i0 _ 1 8 Try.underlying23 hi0 hz0 hz1 hzb rfl (by decide) _ _ _ rfl (World.ownsRow_nil _ _ _ _) ⟨w4.heap.size, 0, none⟩ 1 1 [.int .i64 ka] rfl rfl ?c1 ?c2 ?c3 ?c4 ?c5 ?_)
  case c1 => exact new_cells _ _ _
  case c2 => intro u hu; simp at hu; subst hu; rfl
  case c3 => unfold maxLen; omega
  case c4 => omega
  case c5 => simp
  intro v5 w5 hown5 hg5 _
  have hb5 : Below w4.heap.size w4 w5 := ((Below.refl w4.heap.size w4).alloc (Nat.le_refl _) _).grown hg5 (by simp) (by simp [Value.ownBlock])
  have hown5 : w5.ownsRow w4.heap.size 3 1 v5 1 [.int .i64 ka] := hown5
  obtain ⟨k5, cap5, rfl, hk5l, hk5h⟩ := own_form hown5 (by omega)
  have HOW5 := Lib.hid hown5
  have HC5 := Lib.hid (HC4.out.below OK.out hb5 (by omega) (by omega) (by omega))
  have hT5 : Stir w3.heap.size E.G w3 w5 := hT4.trans (Stir.of (hb5.mono hT4.size))
  have hsz5 := hb5.size
  clear hg5 hown5 hb5
  clear y40 y41 y42 y43 y44 y45 y46 yh40 yh41
  obtain ⟨⟨y50, y51, y52, y53, y54, y55, y56⟩, yh50, yh51⟩ := HZ3.out _ hT5
  simp only at y50 y51 y52 y53 y54 y55 y56
  have hw5 : w.heap.size < w5.heap.size := by have := hT5.size; omega
  have hh5 : h < w5.heap.size := by have := hT5.size; omega
  have hP5 : E.P < w5.heap.size := by have := hT5.size; omega
  go_wp2_with fail
  rw [rounds_succ]
  go_wp2_with fail
  refine (IH.out jb (by omega) kb 0 _ HC5.out HKB.out).mono ?_
  rintro e1 w6 ⟨rfl, hC6, hS6⟩
  have hsz6 := hS6.size
  have HC6 := Lib.hid hC6
  have hT6 : Stir w3.heap.size E.G w3 w6 := hT5.trans (hS6.mono hT5.size)
  clear hC6
  clear y50 y51 y52 y53 y54 y55 y56 yh50 yh51
  obtain ⟨⟨y60, y61, y62, y63, y64, y65, y66⟩, yh60, yh61⟩ := HZ3.out _ hT6
  simp only at y60 y61 y62 y63 y64 y65 y66
  have hw6 : w.heap.size < w6.heap.size := by have := hT6.size; omega
  have hh6 : h < w6.heap.size := by have := hT6.size; omega
  have hP6 : E.P < w6.heap.size := by have := hT6.size; omega
  have hown6 := own_same HOW5.out (hS6.block _ hk5h (by omega))
  have HOW6 := Lib.hid hown6
  clear hown6
  go_wp2_with (at_builtin; refine wpList_append_own _ rfl _ _ 23 rfl w4.heap.size 3 i0 _ 1 8 Try.underlying23 hi0 hz0 hz1 hzb rfl (by decide) _ _ _ rfl (HOW6.out.alloc _) ⟨w6.heap.size, 0, none⟩ 1 1 [.int .i64 kb] rfl rfl ?d1 ?d2 ?d3 ?d4 ?d5 ?_)
  case d1 => exact new_cells _ _ _
  case d2 => intro u hu; simp at hu; subst hu; rfl
  case d3 => unfold maxLen; omega
  case d4 => omega
  case d5 => simp; omega
  intro v7 w7 hown7 hg7 _
  have hb7 : Below w4.heap.size w6 w7 := ((Below.refl w4.heap.size w6).alloc (by omega) _).grown hg7 (by simp; omega) (by simp [Value.ownBlock]; omega)
  have hown7 : w7.ownsRow w4.heap.size 3 1 v7 2 [.int .i64 ka, .int .i64 kb] := hown7
  obtain ⟨k7, cap7, rfl, hk7l, hk7h⟩ := own_form hown7 (by omega)
  have HOW7 := Lib.hid hown7
  have HC7 := Lib.hid (HC6.out.below OK.out hb7 (by omega) (by omega) (by omega))
  have hT7 : Stir w3.heap.size E.G w3 w7 := hT6.trans (Stir.of (hb7.mono (by omega)))
  have hsz7 := hb7.size
  clear hg7 hown7 hb7
  clear y60 y61 y62 y63 y64 y65 y66 yh60 yh61
  obtain ⟨⟨y70, y71, y72, y73, y74, y75, y76⟩, yh70, yh71⟩ := HZ3.out _ hT7
  simp only at y70 y71 y72 y73 y74 y75 y76
  have hw7 : w.heap.size < w7.heap.size := by have := hT7.size; omega
  have hh7 : h < w7.heap.size := by have := hT7.size; omega
  have hP7 : E.P < w7.heap.size := by have := hT7.size; omega
  go_wp2_with fail
  rw [rounds_succ]
  go_wp2_with fail
  refine (comb_call ⟨op, (ja : Int), (jb : Int), col, ⟨ck, cn, cs⟩⟩ E.cols E.P E.base E.cv _ (ka) (kb) rk re _ HAR0.out HBC.out hP7 HC7.out.p1 HC7.out.cs (fun _ => by rw [show nops (⟨op, (ja : Int), (jb : Int), col, ⟨ck, cn, cs⟩⟩ : Ex).op = 2 from HN.out]; exact ⟨k7, cap7, rfl, own_len_cap HOW7.out, hk7h, HOW7.out.cellAt 0 (by omega), fun _ => HOW7.out.cellAt 1 (by omega)⟩) HCB.out).mono ?_
  rintro e1 w9 ⟨rfl, hb9⟩
  have hC9 := Lib.hid (HC7.out.below OK.out hb9 (by omega) (by omega) (by omega))
  have hT9 : Stir w3.heap.size E.G w3 w9 := hT7.trans (Stir.of (hb9.mono (by omega)))
  clear hb9
  go_wp2_with fail
  go_ret2
  exact ⟨rfl, hC9.out, (Stir.of hT3).trans (hT9.mono (by omega))⟩

end Go.Proofs.Ytpgaldkedeohaaa
