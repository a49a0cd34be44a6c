/-
  The reference's check and Check, for all expressions.
-/
import Derived.Test.YtpgaldkedeohaaaChkA
import Derived.Test.YtpgaldkedeohaaaChkB
namespace Go.Proofs.Ytpgaldkedeohaaa
open Go.RowKit
set_option linter.unusedVariables false

theorem ck_at {L : List Ex} {cols : List Int} {k : Nat} {e : Ex} (he : L[k]? = some e) :
    Xp.ck L cols k = if Xp.badOp e = true then (0, 5) else if Xp.badIx e k = true then (0, 10) else if Xp.badCol e cols.length = true then (0, 10)
      else if 1 ≤ Xp.arity e.op ∧ (Xp.ck L cols e.a.toNat).2 ≠ 0 then (0, (Xp.ck L cols e.a.toNat).2)
      else if 2 ≤ Xp.arity e.op ∧ (Xp.ck L cols e.b.toNat).2 ≠ 0 then (0, (Xp.ck L cols e.b.toNat).2)
      else Xp.cmb e cols (Xp.ck L cols e.a.toNat).1 (Xp.ck L cols e.b.toNat).1 := by
  have hd : L.getD k Xp.zeroE = e := by rw [List.getD_eq_getElem?_getD, he]; rfl
  rw [Xp.ck_eq]
  unfold Xp.ckS
  rw [hd]

/-- A kind and an error in two cells. -/
def PAt (w : World) (g o : Nat) (p : Int × Int) : Prop := w.cell? ⟨g, o, none⟩ = some (.int .i64 p.1) ∧ w.cell? ⟨g, o + 1, none⟩ = some (.int .i64 p.2)

def goP (p : Int × Int) : Value := .agg #[.int .i64 p.1, .int .i64 p.2]

theorem acc_eq (ka kb : Int) : (Xp.acc ka kb = true ∨ Xp.acc kb ka = true) ↔ (ka = kb ∨ ka = 0 ∨ kb = 0) := by
  rw [acc_iff, acc_iff]; omega

theorem ref_check (b off n c k dg dn dc B : Nat) (L : List Ex) (cols : List Int) (cv : Value) (e : Ex) (w : World) (hb : b < w.heap.size) (hg : dg < w.heap.size) (hk : k < n) (hnc : n ≤ 100000) (hdn : k < dn)
    (he : L[k]? = some e) (hx : ExAt w b (off + k * 7) e) (hv : ∀ j, j < k → PAt w dg (j * 2) (Xp.ck L cols j)) (hr : IntsAt w B cv cols) :
    Calls Try.prog 22 #[.slice (some ⟨b, off, none⟩) n c, .int .i64 k, cv, .slice (some ⟨dg, 0, none⟩) dn dc] w fun e' w' => e' = .returned (goP (Xp.ck L cols k)) ∧ Below w.heap.size w w' := by
  have hE := ck_at (cols := cols) he
  obtain ⟨op, ea, eb, col, ck, cn, cs⟩ := e
  simp only at hE
  by_cases hbo : Xp.badOp ⟨op, ea, eb, col, ⟨ck, cn, cs⟩⟩ = true
  · rw [if_pos hbo] at hE
    rw [hE]
    by_cases har : Xp.arity op < 0
    · have h1 : Xp.arity op = -1 := by rcases Xp.arity_cases op with ⟨_, h⟩ | ⟨_, h⟩ | ⟨_, h⟩ | ⟨_, h⟩ | ⟨_, _, h⟩ | ⟨_, h⟩ <;> omega
      exact rck_low op ea eb col ck cn cs b off n c k dg dn dc cv w hb hg hk hnc hdn hx h1
    · unfold Xp.badOp at hbo
      simp only [har, decide_false, Bool.false_or, Bool.and_eq_true, decide_eq_true_eq, Bool.not_eq_true'] at hbo
      obtain ⟨e1, e2⟩ := hbo
      subst e1
      exact rck_const_bad ea eb col ck cn cs b off n c k dg dn dc cv w hb hg hk hnc hdn hx e2
  rw [if_neg hbo] at hE
  have har : 0 ≤ Xp.arity op := by
    by_cases har : Xp.arity op < 0
    · exact absurd (show Xp.badOp ⟨op, ea, eb, col, ⟨ck, cn, cs⟩⟩ = true by unfold Xp.badOp; simp [har]) hbo
    · omega
  by_cases hbad : Xp.badIx ⟨op, ea, eb, col, ⟨ck, cn, cs⟩⟩ k = true
  · rw [if_pos hbad] at hE
    rw [hE]
    have hop : op ≠ 1 := by
      intro e1; subst e1
      unfold Xp.badIx at hbad; simp [Xp.arity] at hbad
    exact rck_bad op ea eb col ck cn cs b off n c k dg dn dc cv w hb hg hk hnc hdn hx har hop hbad
  rw [if_neg hbad] at hE
  obtain ⟨l1, l2⟩ := Xp.badIx_no (show Xp.badIx ⟨op, ea, eb, col, ⟨ck, cn, cs⟩⟩ k = false by simpa using hbad)
  simp only at l1 l2
  have nc : op ≠ 2 → Xp.badCol ⟨op, ea, eb, col, ⟨ck, cn, cs⟩⟩ cols.length = false := fun h => by unfold Xp.badCol; simp [h]
  rcases Xp.arity_cases op with ⟨e1, e2⟩ | ⟨e1, e2⟩ | ⟨e1, e2⟩ | ⟨e1, e2⟩ | ⟨e1, e1', e2⟩ | ⟨e1, e2⟩
  · subst e1
    rw [e2, if_neg (by rw [nc (by decide)]; decide), if_neg (by omega), if_neg (by omega)] at hE
    rw [hE]
    have hvv : Xp.vv ⟨ck, cn, cs⟩ = true := by
      unfold Xp.badOp at hbo; simpa [Xp.arity] using hbo
    exact rck_const_ok ea eb col ck cn cs b off n c k dg dn dc cv w hb hg hk hnc hdn hx hvv
  · subst e1
    obtain ⟨qa, qn, qc, rfl, hn1, hn2, hn3, h4⟩ := hr.view
    by_cases c1 : col < 0
    · rw [if_pos (by unfold Xp.badCol; simp [show ¬ 0 ≤ col by omega])] at hE
      rw [hE]
      exact rck_col_neg ea eb col ck cn cs b off n c k dg dn dc qa qn qc w hb hg hk hnc hdn hx c1
    · by_cases c2 : (qn : Int) ≤ col
      · rw [if_pos (by unfold Xp.badCol; simp [show ¬ col < (cols.length : Int) by omega])] at hE
        rw [hE]
        exact rck_col_big ea eb col ck cn cs b off n c k dg dn dc qa qn qc w hb hg hk hnc hdn hx ⟨c2, by omega⟩
      · obtain ⟨j, rfl⟩ : ∃ j : Nat, col = j := ⟨col.toNat, by omega⟩
        rcases h4 with h4 | ⟨qb, qo, rfl, _, hqb, h5⟩
        · omega
        · have hj : j < cols.length := by omega
          have hq := (h5 j cols[j] (List.getElem?_eq_getElem hj)).1
          rw [if_neg (by unfold Xp.badCol; simp [hj]), e2, if_neg (by omega), if_neg (by omega)] at hE
          rw [hE]
          have hval : Xp.cmb ⟨2, ea, eb, (j : Int), ⟨ck, cn, cs⟩⟩ cols (Xp.ck L cols ea.toNat).1 (Xp.ck L cols eb.toNat).1 = (cols[j], 0) := by
            unfold Xp.cmb
            simp [List.getElem?_eq_getElem hj]
          rw [hval]
          exact rck_col ea eb ck cn cs b off n c k dg dn dc cols[j] j qb qo qn qc w hb hg hk hnc hdn hx (by omega) hqb hq
  · subst e1
    have q1 := l1 (by omega)
    obtain ⟨ja, rfl⟩ : ∃ ja : Nat, ea = ja := ⟨ea.toNat, by omega⟩
    have ha := hv ja (by omega)
    rw [show ((ja : Int)).toNat = ja from Int.toNat_natCast ja, if_neg (by rw [nc (by decide)]; decide), e2] at hE
    obtain ⟨ka, xa, h6⟩ : ∃ ka xa, Xp.ck L cols ja = (ka, xa) := ⟨_, _, rfl⟩
    rw [h6] at ha hE
    obtain ⟨u0, u1⟩ := ha
    simp only at u0 u1 hE
    by_cases hxa : xa = 0
    · subst hxa
      rw [if_neg (by omega), if_neg (by omega)] at hE
      rw [hE]
      cases hacc : Xp.acc ka 3 with
      | true => exact calls_of (by unfold Xp.cmb; simp [hacc]; rfl) (rck_not_yes eb col ck cn cs ka b off n c k dg dn dc ja cv w hb hg hk hnc hdn (by omega) hx u0 u1 hacc)
      | false => exact calls_of (by unfold Xp.cmb; simp [hacc]; rfl) (rck_not_no eb col ck cn cs ka b off n c k dg dn dc ja cv w hb hg hk hnc hdn (by omega) hx u0 u1 hacc)
    · rw [if_pos ⟨by omega, hxa⟩] at hE
      rw [hE]
      exact rck_erra1 10 eb col ck cn cs ka xa b off n c k dg dn dc ja cv w hb hg hk hnc hdn (by omega) hx u0 u1 e2 (by decide) (by decide) hxa
  · subst e1
    have q1 := l1 (by omega)
    obtain ⟨ja, rfl⟩ : ∃ ja : Nat, ea = ja := ⟨ea.toNat, by omega⟩
    have ha := hv ja (by omega)
    rw [show ((ja : Int)).toNat = ja from Int.toNat_natCast ja, if_neg (by rw [nc (by decide)]; decide), e2] at hE
    obtain ⟨ka, xa, h6⟩ : ∃ ka xa, Xp.ck L cols ja = (ka, xa) := ⟨_, _, rfl⟩
    rw [h6] at ha hE
    obtain ⟨u0, u1⟩ := ha
    simp only at u0 u1 hE
    by_cases hxa : xa = 0
    · subst hxa
      rw [if_neg (by omega), if_neg (by omega)] at hE
      rw [hE]
      exact calls_of (by unfold Xp.cmb; rfl) (rck_isnull eb col ck cn cs ka b off n c k dg dn dc ja cv w hb hg hk hnc hdn (by omega) hx u0 u1)
    · rw [if_pos ⟨by omega, hxa⟩] at hE
      rw [hE]
      exact rck_erra1 11 eb col ck cn cs ka xa b off n c k dg dn dc ja cv w hb hg hk hnc hdn (by omega) hx u0 u1 e2 (by decide) (by decide) hxa
  · have q1 := l1 (by omega)
    have q2 := l2 (by omega)
    obtain ⟨ja, rfl⟩ : ∃ ja : Nat, ea = ja := ⟨ea.toNat, by omega⟩
    obtain ⟨jb, rfl⟩ : ∃ jb : Nat, eb = jb := ⟨eb.toNat, by omega⟩
    have ha := hv ja (by omega)
    have hb' := hv jb (by omega)
    rw [show ((ja : Int)).toNat = ja from Int.toNat_natCast ja, show ((jb : Int)).toNat = jb from Int.toNat_natCast jb, if_neg (by rw [nc (by omega)]; decide), e2] at hE
    obtain ⟨ka, xa, h6⟩ : ∃ ka xa, Xp.ck L cols ja = (ka, xa) := ⟨_, _, rfl⟩
    obtain ⟨kb, xb, h7⟩ : ∃ kb xb, Xp.ck L cols jb = (kb, xb) := ⟨_, _, rfl⟩
    rw [h6] at ha hE
    rw [h7] at hb' hE
    obtain ⟨u0, u1⟩ := ha
    obtain ⟨v0, v1⟩ := hb'
    simp only at u0 u1 v0 v1 hE
    have hja : ja < k := by omega
    have hjb : jb < k := by omega
    by_cases hxa : xa = 0
    case neg =>
      rw [if_pos ⟨by omega, hxa⟩] at hE
      rw [hE]
      exact rck_erra2 op col ck cn cs ka xa kb xb b off n c k dg dn dc ja jb cv w hb hg hk hnc hdn hja hjb hx u0 u1 v0 v1 e2 (by omega) (by omega) hxa
    subst hxa
    rw [if_neg (by omega)] at hE
    by_cases hxb : xb = 0
    case neg =>
      rw [if_pos ⟨by omega, hxb⟩] at hE
      rw [hE]
      exact rck_errb op col ck cn cs ka kb xb b off n c k dg dn dc ja jb cv w hb hg hk hnc hdn hja hjb hx u0 u1 v0 v1 e2 (by omega) (by omega) hxb
    subst hxb
    rw [if_neg (by omega)] at hE
    rw [hE]
    have hop : op = 3 ∨ op = 4 ∨ op = 5 ∨ op = 6 ∨ op = 7 ∨ op = 8 ∨ op = 9 := by omega
    rcases hop with rfl | rfl | rfl | rfl | rfl | rfl | rfl
    · cases h1 : Xp.acc ka 1 with
      | false => exact calls_of (by unfold Xp.cmb; simp [h1]; rfl) (rck_3_no1 col ck cn cs ka kb b off n c k dg dn dc ja jb cv w hb hg hk hnc hdn hja hjb hx u0 u1 v0 v1 h1)
      | true =>
        cases h2 : Xp.acc kb 1 with
        | false => exact calls_of (by unfold Xp.cmb; simp [h1, h2]; rfl) (rck_3_no2 col ck cn cs ka kb b off n c k dg dn dc ja jb cv w hb hg hk hnc hdn hja hjb hx u0 u1 v0 v1 h1 h2)
        | true => exact calls_of (by unfold Xp.cmb; simp [h1, h2]; rfl) (rck_3_yes col ck cn cs ka kb b off n c k dg dn dc ja jb cv w hb hg hk hnc hdn hja hjb hx u0 u1 v0 v1 h1 h2)
    · cases h1 : Xp.acc ka 1 with
      | false => exact calls_of (by unfold Xp.cmb; simp [h1]; rfl) (rck_4_no1 col ck cn cs ka kb b off n c k dg dn dc ja jb cv w hb hg hk hnc hdn hja hjb hx u0 u1 v0 v1 h1)
      | true =>
        cases h2 : Xp.acc kb 1 with
        | false => exact calls_of (by unfold Xp.cmb; simp [h1, h2]; rfl) (rck_4_no2 col ck cn cs ka kb b off n c k dg dn dc ja jb cv w hb hg hk hnc hdn hja hjb hx u0 u1 v0 v1 h1 h2)
        | true => exact calls_of (by unfold Xp.cmb; simp [h1, h2]; rfl) (rck_4_yes col ck cn cs ka kb b off n c k dg dn dc ja jb cv w hb hg hk hnc hdn hja hjb hx u0 u1 v0 v1 h1 h2)
    · cases h1 : Xp.acc ka 1 with
      | false => exact calls_of (by unfold Xp.cmb; simp [h1]; rfl) (rck_5_no1 col ck cn cs ka kb b off n c k dg dn dc ja jb cv w hb hg hk hnc hdn hja hjb hx u0 u1 v0 v1 h1)
      | true =>
        cases h2 : Xp.acc kb 1 with
        | false => exact calls_of (by unfold Xp.cmb; simp [h1, h2]; rfl) (rck_5_no2 col ck cn cs ka kb b off n c k dg dn dc ja jb cv w hb hg hk hnc hdn hja hjb hx u0 u1 v0 v1 h1 h2)
        | true => exact calls_of (by unfold Xp.cmb; simp [h1, h2]; rfl) (rck_5_yes col ck cn cs ka kb b off n c k dg dn dc ja jb cv w hb hg hk hnc hdn hja hjb hx u0 u1 v0 v1 h1 h2)
    · by_cases h1 : kb = ka
      · exact calls_of (by unfold Xp.cmb; simp [(acc_eq ka kb).2 (.inl h1.symm)]; rfl) (rck_6_same col ck cn cs ka kb b off n c k dg dn dc ja jb cv w hb hg hk hnc hdn hja hjb hx u0 u1 v0 v1 h1)
      by_cases h2 : ka = 0
      · exact calls_of (by unfold Xp.cmb; simp [(acc_eq ka kb).2 (.inr (.inl h2))]; rfl) (rck_6_za col ck cn cs ka kb b off n c k dg dn dc ja jb cv w hb hg hk hnc hdn hja hjb hx u0 u1 v0 v1 h2 (by omega))
      by_cases h3 : kb = 0
      · exact calls_of (by unfold Xp.cmb; simp [(acc_eq ka kb).2 (.inr (.inr h3))]; rfl) (rck_6_zb col ck cn cs ka kb b off n c k dg dn dc ja jb cv w hb hg hk hnc hdn hja hjb hx u0 u1 v0 v1 h3 h2)
      have hn : ¬ (Xp.acc ka kb = true ∨ Xp.acc kb ka = true) := fun h => by rcases (acc_eq ka kb).1 h with h | h | h <;> omega
      exact calls_of (by unfold Xp.cmb; simp [hn]; rfl) (rck_6_no col ck cn cs ka kb b off n c k dg dn dc ja jb cv w hb hg hk hnc hdn hja hjb hx u0 u1 v0 v1 (fun h => h1 h.symm) h2 h3)
    · by_cases h1 : kb = ka
      · exact calls_of (by unfold Xp.cmb; simp [(acc_eq ka kb).2 (.inl h1.symm)]; rfl) (rck_7_same col ck cn cs ka kb b off n c k dg dn dc ja jb cv w hb hg hk hnc hdn hja hjb hx u0 u1 v0 v1 h1)
      by_cases h2 : ka = 0
      · exact calls_of (by unfold Xp.cmb; simp [(acc_eq ka kb).2 (.inr (.inl h2))]; rfl) (rck_7_za col ck cn cs ka kb b off n c k dg dn dc ja jb cv w hb hg hk hnc hdn hja hjb hx u0 u1 v0 v1 h2 (by omega))
      by_cases h3 : kb = 0
      · exact calls_of (by unfold Xp.cmb; simp [(acc_eq ka kb).2 (.inr (.inr h3))]; rfl) (rck_7_zb col ck cn cs ka kb b off n c k dg dn dc ja jb cv w hb hg hk hnc hdn hja hjb hx u0 u1 v0 v1 h3 h2)
      have hn : ¬ (Xp.acc ka kb = true ∨ Xp.acc kb ka = true) := fun h => by rcases (acc_eq ka kb).1 h with h | h | h <;> omega
      exact calls_of (by unfold Xp.cmb; simp [hn]; rfl) (rck_7_no col ck cn cs ka kb b off n c k dg dn dc ja jb cv w hb hg hk hnc hdn hja hjb hx u0 u1 v0 v1 (fun h => h1 h.symm) h2 h3)
    · cases h1 : Xp.acc ka 3 with
      | false => exact calls_of (by unfold Xp.cmb; simp [h1]; rfl) (rck_8_no1 col ck cn cs ka kb b off n c k dg dn dc ja jb cv w hb hg hk hnc hdn hja hjb hx u0 u1 v0 v1 h1)
      | true =>
        cases h2 : Xp.acc kb 3 with
        | false => exact calls_of (by unfold Xp.cmb; simp [h1, h2]; rfl) (rck_8_no2 col ck cn cs ka kb b off n c k dg dn dc ja jb cv w hb hg hk hnc hdn hja hjb hx u0 u1 v0 v1 h1 h2)
        | true => exact calls_of (by unfold Xp.cmb; simp [h1, h2]; rfl) (rck_8_yes col ck cn cs ka kb b off n c k dg dn dc ja jb cv w hb hg hk hnc hdn hja hjb hx u0 u1 v0 v1 h1 h2)
    · cases h1 : Xp.acc ka 3 with
      | false => exact calls_of (by unfold Xp.cmb; simp [h1]; rfl) (rck_9_no1 col ck cn cs ka kb b off n c k dg dn dc ja jb cv w hb hg hk hnc hdn hja hjb hx u0 u1 v0 v1 h1)
      | true =>
        cases h2 : Xp.acc kb 3 with
        | false => exact calls_of (by unfold Xp.cmb; simp [h1, h2]; rfl) (rck_9_no2 col ck cn cs ka kb b off n c k dg dn dc ja jb cv w hb hg hk hnc hdn hja hjb hx u0 u1 v0 v1 h1 h2)
        | true => exact calls_of (by unfold Xp.cmb; simp [h1, h2]; rfl) (rck_9_yes col ck cn cs ka kb b off n c k dg dn dc ja jb cv w hb hg hk hnc hdn hja hjb hx u0 u1 v0 v1 h1 h2)
  · omega

theorem rcheck_call (b off n c k dg dn dc B : Nat) (L : List Ex) (cols : List Int) (cv : Value) (e : Ex) (rk re : Int) (w : World) (hb : b < w.heap.size) (hg : dg < w.heap.size) (hk : k < n) (hnc : n ≤ 100000) (hdn : k < dn)
    (he : L[k]? = some e) (hx : ExAt w b (off + k * 7) e) (hv : ∀ j, j < k → PAt w dg (j * 2) (Xp.ck L cols j)) (hr : IntsAt w B cv cols) (h : Xp.ck L cols k = (rk, re)) :
    Calls Try.prog 22 #[.slice (some ⟨b, off, none⟩) n c, .int .i64 k, cv, .slice (some ⟨dg, 0, none⟩) dn dc] w fun e' w' => e' = .returned (.agg #[.int .i64 rk, .int .i64 re]) ∧ Below w.heap.size w w' :=
  calls_of (by rw [h]; rfl) (ref_check b off n c k dg dn dc B L cols cv e w hb hg hk hnc hdn he hx hv hr)

end Go.Proofs.Ytpgaldkedeohaaa
