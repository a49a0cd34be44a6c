/-
  derive, check and Check of package expr, for all expressions.
-/
import Derived.Test.YtpgaldkedeohaaaChkG
namespace Go.Proofs.Ytpgaldkedeohaaa
open Go.RowKit
set_option linter.unusedVariables false

theorem ckto_of {E : CkEnv} {i : Nat} {k r : Int} {w : World} {f : FuncId} {args : Array Value} (h : Xp.ck E.L E.cols i = (k, r)) (hc : Calls Try.prog f args w (CkTo E k r w)) : Calls Try.prog f args w (CkPost E i w) :=
  hc.mono fun e w' ⟨h1, h2, h3⟩ => ⟨by rw [h]; exact h1, h2, h3⟩

theorem expr_derive (E : CkEnv) (ok : E.ok) (i : Nat) (hi : i < E.L.length) (IH : ∀ (j : Nat), j < i → ∀ (k r : Int) (w : World), Ck E w → Xp.ck E.L E.cols j = (k, r) → Calls Try.prog 21 #[.pointer (some ⟨E.P, 0, none⟩), .int .i64 j] w (CkTo E k r w)) (w : World) (hC : Ck E w) :
    Calls Try.prog 31 #[.pointer (some ⟨E.P, 0, none⟩), .int .i64 i] w (CkPost E i w) := by
  obtain ⟨e, he⟩ : ∃ e, E.L[i]? = some e := ⟨E.L[i], List.getElem?_eq_getElem hi⟩
  have hE := ck_at (cols := E.cols) he
  obtain ⟨op, ea, eb, col, ck, cn, cs⟩ := e
  simp only at hE
  by_cases hbo : Xp.badOp ⟨op, ea, eb, col, ⟨ck, cn, cs⟩⟩ = true
  · rw [if_pos hbo] at hE
    by_cases har : Xp.arity op < 0
    · have h1 : Xp.arity op = -1 := by rcases Xp.arity_cases op with ⟨_, h⟩ | ⟨_, h⟩ | ⟨_, h⟩ | ⟨_, h⟩ | ⟨_, _, h⟩ | ⟨_, h⟩ <;> omega
      exact ckto_of hE (drv_low E ok i op ea eb col ck cn cs w he hC h1)
    · unfold Xp.badOp at hbo
      simp only [har, decide_false, Bool.false_or, Bool.and_eq_true, decide_eq_true_eq, Bool.not_eq_true'] at hbo
      obtain ⟨e1, e2⟩ := hbo
      subst e1
      exact ckto_of hE (drv_const_bad E ok i ea eb col ck cn cs w he hC e2)
  rw [if_neg hbo] at hE
  have har : 0 ≤ Xp.arity op := by
    by_cases har : Xp.arity op < 0
    · exact absurd (show Xp.badOp ⟨op, ea, eb, col, ⟨ck, cn, cs⟩⟩ = true by unfold Xp.badOp; simp [har]) hbo
    · omega
  have nc : op ≠ 2 → Xp.badCol ⟨op, ea, eb, col, ⟨ck, cn, cs⟩⟩ E.cols.length = false := fun h => by unfold Xp.badCol; simp [h]
  by_cases hbad : Xp.badIx ⟨op, ea, eb, col, ⟨ck, cn, cs⟩⟩ i = true
  · rw [if_pos hbad] at hE
    have hbx := hbad
    unfold Xp.badIx at hbx
    simp only at hbx
    rcases Xp.arity_cases op with ⟨e1, e2⟩ | ⟨e1, e2⟩ | ⟨e1, e2⟩ | ⟨e1, e2⟩ | ⟨e1, e1', e2⟩ | ⟨e1, e2⟩
    · rw [e2] at hbx; simp at hbx
    · rw [e2] at hbx; simp at hbx
    · rw [e2] at hbx
      exact ckto_of hE (drv_ix1 E ok i op ea eb col ck cn cs w he hC e2 (by omega) (by simpa using hbx))
    · rw [e2] at hbx
      exact ckto_of hE (drv_ix1 E ok i op ea eb col ck cn cs w he hC e2 (by omega) (by simpa using hbx))
    · cases la : Xp.lgl i ea with
      | false => exact ckto_of hE (drv_ix2a E ok i op ea eb col ck cn cs w he hC e2 (by omega) la)
      | true =>
        rw [e2, la] at hbx
        exact ckto_of hE (drv_ix2b E ok i op ea eb col ck cn cs w he hC e2 (by omega) la (by simpa using hbx))
    · omega
  rw [if_neg hbad] at hE
  obtain ⟨l1, l2⟩ := Xp.badIx_no (show Xp.badIx ⟨op, ea, eb, col, ⟨ck, cn, cs⟩⟩ i = false by simpa using hbad)
  simp only at l1 l2
  rcases Xp.arity_cases op with ⟨e1, e2⟩ | ⟨e1, e2⟩ | ⟨e1, e2⟩ | ⟨e1, e2⟩ | ⟨e1, e1', e2⟩ | ⟨e1, e2⟩
  · subst e1
    have hnc := nc (by decide)
    rw [e2, if_neg (by rw [hnc]; decide), if_neg (by omega), if_neg (by omega)] at hE
    have hvv : Xp.vv ⟨ck, cn, cs⟩ = true := by unfold Xp.badOp at hbo; simpa [Xp.arity] using hbo
    obtain ⟨rk, re, hr⟩ : ∃ rk re, Xp.cmb ⟨1, ea, eb, col, ⟨ck, cn, cs⟩⟩ E.cols (Xp.ck E.L E.cols ea.toNat).1 (Xp.ck E.L E.cols eb.toNat).1 = (rk, re) := ⟨_, _, rfl⟩
    exact ckto_of (hE.trans hr) (drv_const E ok i ea eb col ck cn cs rk re w he hC _ _ hvv har hnc hr)
  · subst e1
    obtain ⟨qa, qn, qc, hcv, hn1, hn2, hn3, h4⟩ := hC.cs.view
    by_cases c1 : col < 0
    · rw [if_pos (by unfold Xp.badCol; simp [show ¬ 0 ≤ col by omega])] at hE
      exact ckto_of hE (drv_col_neg E ok i ea eb col ck cn cs qa qn qc w he hC hcv c1)
    · by_cases c2 : (qn : Int) ≤ col
      · rw [if_pos (by unfold Xp.badCol; simp [show ¬ col < (E.cols.length : Int) by omega])] at hE
        exact ckto_of hE (drv_col_big E ok i ea eb col ck cn cs qa qn qc w he hC hcv ⟨c2, by omega⟩)
      · obtain ⟨j, rfl⟩ : ∃ j : Nat, col = j := ⟨col.toNat, by omega⟩
        have hbc : Xp.badCol ⟨2, ea, eb, (j : Int), ⟨ck, cn, cs⟩⟩ E.cols.length = false := by unfold Xp.badCol; simp; omega
        rw [if_neg (by rw [hbc]; decide), e2, if_neg (by omega), if_neg (by omega)] at hE
        obtain ⟨rk, re, hr⟩ : ∃ rk re, Xp.cmb ⟨2, ea, eb, (j : Int), ⟨ck, cn, cs⟩⟩ E.cols (Xp.ck E.L E.cols ea.toNat).1 (Xp.ck E.L E.cols eb.toNat).1 = (rk, re) := ⟨_, _, rfl⟩
        exact ckto_of (hE.trans hr) (drv_col E ok i j ea eb ck cn cs rk re qa qn qc w he hC hcv (by omega) _ _ har hbc hr)
  · have q1 := l1 (by omega)
    obtain ⟨ja, rfl⟩ : ∃ ja : Nat, ea = ja := ⟨ea.toNat, by omega⟩
    have hja : ja < i := by omega
    have hnc := nc (by omega)
    rw [show ((ja : Int)).toNat = ja from Int.toNat_natCast ja, if_neg (by rw [hnc]; decide), e2] at hE
    obtain ⟨ka, xa, h6⟩ : ∃ ka xa, Xp.ck E.L E.cols ja = (ka, xa) := ⟨_, _, rfl⟩
    rw [h6] at hE
    simp only at hE
    by_cases hxa : xa = 0
    case neg =>
      rw [if_pos ⟨by omega, hxa⟩] at hE
      exact ckto_of hE (drv_1err E ok i ja op eb col ck cn cs ka xa w he hC e2 (by omega) (by omega) hja h6 IH hxa)
    subst hxa
    rw [if_neg (by omega), if_neg (by omega)] at hE
    obtain ⟨rk, re, hr⟩ : ∃ rk re, Xp.cmb ⟨op, (ja : Int), eb, col, ⟨ck, cn, cs⟩⟩ E.cols ka (Xp.ck E.L E.cols eb.toNat).1 = (rk, re) := ⟨_, _, rfl⟩
    exact ckto_of (hE.trans hr) (drv_1 E ok i ja op eb col ck cn cs ka rk re w he hC e2 (by omega) (by omega) hja h6 IH _ har hnc hr)
  · have q1 := l1 (by omega)
    obtain ⟨ja, rfl⟩ : ∃ ja : Nat, ea = ja := ⟨ea.toNat, by omega⟩
    have hja : ja < i := by omega
    have hnc := nc (by omega)
    rw [show ((ja : Int)).toNat = ja from Int.toNat_natCast ja, if_neg (by rw [hnc]; decide), e2] at hE
    obtain ⟨ka, xa, h6⟩ : ∃ ka xa, Xp.ck E.L E.cols ja = (ka, xa) := ⟨_, _, rfl⟩
    rw [h6] at hE
    simp only at hE
    by_cases hxa : xa = 0
    case neg =>
      rw [if_pos ⟨by omega, hxa⟩] at hE
      exact ckto_of hE (drv_1err E ok i ja op eb col ck cn cs ka xa w he hC e2 (by omega) (by omega) hja h6 IH hxa)
    subst hxa
    rw [if_neg (by omega), if_neg (by omega)] at hE
    obtain ⟨rk, re, hr⟩ : ∃ rk re, Xp.cmb ⟨op, (ja : Int), eb, col, ⟨ck, cn, cs⟩⟩ E.cols ka (Xp.ck E.L E.cols eb.toNat).1 = (rk, re) := ⟨_, _, rfl⟩
    exact ckto_of (hE.trans hr) (drv_1 E ok i ja op eb col ck cn cs ka rk re w he hC e2 (by omega) (by omega) hja h6 IH _ har hnc hr)
  · have q1 := l1 (by omega)
    have q2 := l2 (by omega)
    obtain ⟨ja, rfl⟩ : ∃ ja : Nat, ea = ja := ⟨ea.toNat, by omega⟩
    obtain ⟨jb, rfl⟩ : ∃ jb : Nat, eb = jb := ⟨eb.toNat, by omega⟩
    have hja : ja < i := by omega
    have hjb : jb < i := by omega
    have hnc := nc (by omega)
    rw [show ((ja : Int)).toNat = ja from Int.toNat_natCast ja, show ((jb : Int)).toNat = jb from Int.toNat_natCast jb, if_neg (by rw [hnc]; decide), e2] at hE
    obtain ⟨ka, xa, h6⟩ : ∃ ka xa, Xp.ck E.L E.cols ja = (ka, xa) := ⟨_, _, rfl⟩
    obtain ⟨kb, xb, h7⟩ : ∃ kb xb, Xp.ck E.L E.cols jb = (kb, xb) := ⟨_, _, rfl⟩
    rw [h6, h7] at hE
    simp only at hE
    by_cases hxa : xa = 0
    case neg =>
      rw [if_pos ⟨by omega, hxa⟩] at hE
      exact ckto_of hE (drv_2erra E ok i ja jb op col ck cn cs ka xa kb xb w he hC e2 (by omega) (by omega) hja hjb h6 h7 IH hxa)
    subst hxa
    rw [if_neg (by omega)] at hE
    by_cases hxb : xb = 0
    case neg =>
      rw [if_pos ⟨by omega, hxb⟩] at hE
      exact ckto_of hE (drv_2errb E ok i ja jb op col ck cn cs ka kb xb w he hC e2 (by omega) (by omega) hja hjb h6 h7 IH hxb)
    subst hxb
    rw [if_neg (by omega)] at hE
    obtain ⟨rk, re, hr⟩ : ∃ rk re, Xp.cmb ⟨op, (ja : Int), (jb : Int), col, ⟨ck, cn, cs⟩⟩ E.cols ka kb = (rk, re) := ⟨_, _, rfl⟩
    exact ckto_of (hE.trans hr) (drv_2 E ok i ja jb op col ck cn cs ka kb rk re w he hC e2 (by omega) (by omega) hja hjb h6 h7 IH har hnc hr)
  · omega

theorem drvto {E : CkEnv} {i : Nat} {k r : Int} {w : World} {f : FuncId} {args : Array Value} (h : Xp.ck E.L E.cols i = (k, r)) (hc : Calls Try.prog f args w (CkPost E i w)) : Calls Try.prog f args w (CkTo E k r w) :=
  hc.mono fun e w' ⟨h1, h2, h3⟩ => ⟨by rw [h] at h1; exact h1, h2, h3⟩

set_option maxRecDepth 100000 in
set_option maxHeartbeats 4000000 in
/-- A result that is kept. -/
theorem check_done (E : CkEnv) (ok : E.ok) (i : Nat) (hi : i < E.L.length) (k r : Int) (w : World) (hC : Ck E w) (c0 : w.cell? ⟨E.G, i * 3, none⟩ = some (.bool true)) (c1 : w.cell? ⟨E.G, i * 3 + 1, none⟩ = some (.int .i64 k)) (c2 : w.cell? ⟨E.G, i * 3 + 2, none⟩ = some (.int .i64 r)) :
    Calls Try.prog 21 #[.pointer (some ⟨E.P, 0, none⟩), .int .i64 i] w (CkTo E k r w) := by
  have p2 := hC.p2
  have hsP := hC.sP
  have hsB := hC.sB
  have hsG := hC.gl
  have HC := Lib.hid hC
  have OK := Lib.hid ok
  clear hC ok
  have h0 : (0 : Int) ≤ (i : Int) := by omega
  have h1 : (i : Int) < (E.L.length : Int) := by omega
  have hB1 : Below w.heap.size w (w.alloc (.cells #[.bool true, .int .i64 k, .int .i64 r] 67)) := below_alloc (Below.refl _ _) _
  go_enter Try.func21, Try.ntmps21
  go_wp2
  go_quiet (fail)
  go_wp2
  go_ret2
  exact ⟨rfl, HC.out.below OK.out (below_drewN hB1 _) hsP hsG hsB, Stir.of (below_drewN hB1 _)⟩

set_option maxRecDepth 100000 in
set_option maxHeartbeats 4000000 in
/-- A result that is not kept yet. -/
theorem check_new (E : CkEnv) (ok : E.ok) (i : Nat) (hi : i < E.L.length) (k r k0 r0 : Int) (w : World) (hC : Ck E w) (hk : Xp.ck E.L E.cols i = (k, r)) (c0 : w.cell? ⟨E.G, i * 3, none⟩ = some (.bool false)) (c1 : w.cell? ⟨E.G, i * 3 + 1, none⟩ = some (.int .i64 k0)) (c2 : w.cell? ⟨E.G, i * 3 + 2, none⟩ = some (.int .i64 r0))
    (IH : ∀ w, Ck E w → Calls Try.prog 31 #[.pointer (some ⟨E.P, 0, none⟩), .int .i64 i] w (CkTo E k r w)) :
    Calls Try.prog 21 #[.pointer (some ⟨E.P, 0, none⟩), .int .i64 i] w (CkTo E k r w) := by
  have p2 := hC.p2
  have hsP := hC.sP
  have hsB := hC.sB
  have hsG := hC.gl
  have HC := Lib.hid hC
  have OK := Lib.hid ok
  have HK := Lib.hid hk
  have IH' := Lib.hid IH
  clear hC ok hk IH
  have h0 : (0 : Int) ≤ (i : Int) := by omega
  have h1 : (i : Int) < (E.L.length : Int) := by omega
  have hB1 : Below w.heap.size w (w.alloc (.cells #[.bool false, .int .i64 k0, .int .i64 r0] 67)) := below_alloc (Below.refl _ _) _
  go_enter Try.func21, Try.ntmps21
  go_wp2_with fail
  refine (IH'.out _ (HC.out.below OK.out hB1 hsP hsG hsB)).mono ?_
  rintro e1 w2 ⟨rfl, hC2, hS2⟩
  have hT2 : Stir w.heap.size E.G w w2 := (Stir.of hB1).trans (hS2.mono (by simp))
  have p3 := hC2.p2
  have hlP := hC2.sP
  have hlG := hC2.gl
  obtain ⟨l, ho, _⟩ := hC2.own
  obtain ⟨x, hx⟩ : ∃ x, l[i]? = some x := ⟨l[i]'(by rw [ho.1]; exact hi), List.getElem?_eq_getElem _⟩
  obtain ⟨xd, xk, xr⟩ := x
  have d0 : w2.cell? ⟨E.G, i * 3, none⟩ = some (.bool xd) := ho.cell (j := 0) hx rfl
  have d1 : w2.cell? ⟨E.G, i * 3 + 1, none⟩ = some (.int .i64 xk) := ho.cell (j := 1) hx rfl
  have d2 : w2.cell? ⟨E.G, i * 3 + 2, none⟩ = some (.int .i64 xr) := ho.cell (j := 2) hx rfl
  have f0 := ho.free (i * 3)
  have f1 := ho.free (i * 3 + 1)
  have f2 := ho.free (i * 3 + 2)
  have HC2 := Lib.hid (hC2.put OK.out hi HK.out)
  clear hC2 ho hx hS2
  go_wp2_with fail
  go_ret2
  exact ⟨rfl, HC2.out, Stir.put (p := ⟨E.G, i * 3 + 2, none⟩) (Stir.put (p := ⟨E.G, i * 3 + 1, none⟩) (Stir.put (p := ⟨E.G, i * 3, none⟩) hT2 rfl _) rfl _) rfl _⟩

theorem expr_check (E : CkEnv) (ok : E.ok) : ∀ (n i : Nat), i < n → i < E.L.length → ∀ (k r : Int) (w : World), Ck E w → Xp.ck E.L E.cols i = (k, r) → Calls Try.prog 21 #[.pointer (some ⟨E.P, 0, none⟩), .int .i64 i] w (CkTo E k r w) := by
  intro n
  induction n with
  | zero => intro i h; omega
  | succ n ih =>
    intro i hin hi k r w hC hk
    obtain ⟨l, ho, hl⟩ := hC.own
    obtain ⟨x, hx⟩ : ∃ x, l[i]? = some x := ⟨l[i]'(by rw [ho.1]; exact hi), List.getElem?_eq_getElem _⟩
    obtain ⟨xd, xk, xr⟩ := x
    have d0 : w.cell? ⟨E.G, i * 3, none⟩ = some (.bool xd) := ho.cell (j := 0) hx rfl
    have d1 : w.cell? ⟨E.G, i * 3 + 1, none⟩ = some (.int .i64 xk) := ho.cell (j := 1) hx rfl
    have d2 : w.cell? ⟨E.G, i * 3 + 2, none⟩ = some (.int .i64 xr) := ho.cell (j := 2) hx rfl
    cases xd with
    | true =>
      have hxr := hl i _ hx rfl
      simp only [hk, Prod.mk.injEq] at hxr
      obtain ⟨rfl, rfl⟩ := hxr
      exact check_done E ok i hi _ _ w hC d0 d1 d2
    | false =>
      exact check_new E ok i hi k r xk xr w hC hk d0 d1 d2 fun w' hC' => drvto hk (expr_derive E ok i hi (fun j hj k' r' w'' hC'' hk' => ih j (by omega) (by omega) k' r' w'' hC'' hk') w' hC')

end Go.Proofs.Ytpgaldkedeohaaa
