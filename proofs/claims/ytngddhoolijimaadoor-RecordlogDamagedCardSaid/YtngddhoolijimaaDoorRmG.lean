/-
  Merged: RlS.
-/
import Derived.Test.YtngddhoolijimaaDoorRmD
namespace Go.Proofs.YtngddhoolijimaaDoor
open Go.RowKit
set_option linter.unusedVariables false
set_option linter.unusedSimpArgs false

theorem xor_nat8 {a b : Nat} (ha : a < 256) (hb : b < 256) : bits .xor .u8 (a : Int) (b : Int) = ((a ^^^ b : Nat) : Int) := by
  have e : bits .xor .u8 (a : Int) (b : Int) = IntKind.u8.wrap (((BitVec.ofInt 8 (a : Int)) ^^^ (BitVec.ofInt 8 (b : Int))).toNat : Int) := rfl
  have h1 : (BitVec.ofInt 8 (a : Int)).toNat = a := by rw [BitVec.toNat_ofInt]; omega
  have h2 : (BitVec.ofInt 8 (b : Int)).toNat = b := by rw [BitVec.toNat_ofInt]; omega
  have h3 : a ^^^ b < 2 ^ 8 := Nat.xor_lt_two_pow (by omega) (by omega)
  have h4 : ∀ n : Nat, n < 256 → IntKind.u8.wrap (n : Int) = (n : Int) := fun n hn => by
    simp [IntKind.wrap, IntKind.bits, IntKind.signed]
    omega
  rw [e, BitVec.toNat_xor, h1, h2, h4 _ (by omega)]

/-- The changed byte. -/
theorem xor_byte8 (o : UInt8) {b : Nat} (hb : b < 256) (h0 : b ≠ 0) : ∃ x : UInt8, x ≠ o ∧ bits .xor .u8 (o.toNat : Int) (b : Int) = (x.toNat : Int) := by
  have ho := o.toNat_lt
  have hx : o.toNat ^^^ b < 2 ^ 8 := Nat.xor_lt_two_pow (by omega) (by omega)
  refine ⟨UInt8.ofNat (o.toNat ^^^ b), fun e => ?_, ?_⟩
  · have h1 : (UInt8.ofNat (o.toNat ^^^ b)).toNat = o.toNat ^^^ b := by rw [UInt8.toNat_ofNat']; omega
    rw [e] at h1
    have h2 := congrArg (o.toNat ^^^ ·) h1
    simp only [← Nat.xor_assoc, Nat.xor_self, Nat.zero_xor] at h2
    exact h0 h2.symm
  · rw [xor_nat8 (by omega) hb, UInt8.toNat_ofNat']
    omega

theorem elem_rs : Tryd.prog.elem 57 = 25 := by kernel_rfl
theorem under_rs : Tryd.prog.underlying 57 = some (.slice (Tryd.prog.elem 57)) := by kernel_rfl
theorem size_rs (W : World) : (Go.sizeOf (Tryd.prog.elem 57)).run Tryd.prog W = .ok 1 W := by rw [elem_rs]; exact Tryd.sizeOf25 W

/-- The first records. -/
theorem cutz_rs {a : Option Addr} {n c K : Nat} {z : Int} (hz : z = (K : Int)) (hK : K ≤ n) (hn : n ≤ c) :
    (∀ W, Sem.run Tryd.prog (Instr.sliceAt 57 (.slice a n c) none (some (.int .i64 z)) none) W = .ok (.slice a K c) W) ∧ (∀ W, Sem.run Tryd.prog (Instr.slice 57 (.slice a n c) none (some (.int .i64 z)) none) W = .ok (.slice a K c) W) := by
  subst hz
  have h2 : ∀ W, Sem.run Tryd.prog (Instr.slice 57 (.slice a n c) none (some (.int .i64 (K : Int))) none) W = .ok (.slice a K c) W := by
    intro W
    rw [run_slice_h W 57 a n c under_rs .i64 (K : Int) (by omega) (by omega), size_rs]
    cases a with
    | none => simp [Result.andThen, sliced]
    | some ad => simp [Result.andThen, sliced, Addr.add]
  exact ⟨fun W => (run_sliceAt_slice W 57 _ _ _ _ under_rs).trans (h2 W), h2⟩

theorem rs_take {w : World} {F : Nat → Prop} {a : Option Addr} {n c K : Nat} {L : List (List UInt8)} (h : rRs.rd w F [.slice a n c] L) (hK : K ≤ n) : rRs.rd w F [.slice a K c] (L.take K) := by
  obtain ⟨⟨a', n', c', e, h1, h2, h3, h4⟩, h5⟩ := h
  simp only [List.cons.injEq, Value.slice.injEq, and_true] at e
  obtain ⟨rfl, rfl, rfl⟩ := e
  refine ⟨⟨_, K, _, rfl, by rw [List.length_take]; omega, by omega, h3, ?_⟩, fun m c e => ?_⟩
  · rcases h4 with h4 | ⟨b, off, ea, hF, hl, hx⟩
    · exact .inl (by omega)
    · refine .inr ⟨b, off, ea, hF, hl, fun i x hi => hx i x ?_⟩
      rw [List.getElem?_take] at hi
      split at hi
      · exact hi
      · cases hi
  · simp only [List.cons.injEq, Value.slice.injEq, and_true] at e
    obtain ⟨rfl, _, rfl⟩ := e
    exact h5 n _ rfl

/-- A byte is stored. -/
theorem Row.set {w : World} {base g n p : Nat} {l : List UInt8} (h : Row w base (.slice (some ⟨g, 0, none⟩) l.length n) l) (x : UInt8) : Row (w.setCell ⟨g, p, none⟩ (.int .u8 (x.toNat : Int))) base (.slice (some ⟨g, 0, none⟩) l.length n) (l.set p x) := by
  unfold Row at h ⊢
  rw [List.length_set]
  have e : pc (l.set p x) = (pc l).set p (.int .u8 (x.toNat : Int)) := by unfold pc; rw [List.map_set]
  rw [e]
  exact (World.ownsRow.stored h _ _).1

theorem damaged_dec {L : List (List UInt8)} {k j : Nat} {r more : List UInt8} {x : UInt8} (hL : ∀ r ∈ L, r.length ≤ 1048576) (hr : L[k]? = some r) (hj : j < 4 + r.length) (hx : (recB r)[4 + j]? ≠ some x) :
    dec ((encs L ++ more).set ((encs (L.take k)).length + (4 + j)) x) = (L.take k, (encs (L.take k)).length) := by
  have hk := (List.getElem?_eq_some_iff.1 hr).1
  have e1 : encs L = encs (L.take k) ++ (recB r ++ encs (L.drop (k + 1))) := by
    conv => lhs; rw [← List.take_append_drop k L, encs_append]
    rw [List.drop_eq_getElem_cons hk, encs_cons, (List.getElem?_eq_some_iff.1 hr).2]
  have hl := recB_len r
  rw [e1, List.append_assoc, List.append_assoc, List.set_append_right _ _ (by omega), Nat.add_sub_cancel_left, List.set_append_left _ _ (by rw [hl]; omega)]
  rw [dec_encs (fun y hy => hL y (List.mem_of_mem_take hy)), dec_none (first_damaged (hL r (List.mem_of_getElem? hr)) hj hx)]
  simp

theorem rec_byte {L : List (List UInt8)} {k j : Nat} {r more : List UInt8} (hr : L[k]? = some r) (hj : j < 4 + r.length) : ∃ o, (encs L ++ more)[(encs (L.take k)).length + (4 + j)]? = some o ∧ (recB r)[4 + j]? = some o ∧ (encs (L.take k)).length + 8 + r.length ≤ (encs L).length := by
  have hk := (List.getElem?_eq_some_iff.1 hr).1
  have e1 : encs L = encs (L.take k) ++ (recB r ++ encs (L.drop (k + 1))) := by
    conv => lhs; rw [← List.take_append_drop k L, encs_append]
    rw [List.drop_eq_getElem_cons hk, encs_cons, (List.getElem?_eq_some_iff.1 hr).2]
  have hl := recB_len r
  have hlt : 4 + j < (recB r).length := by rw [hl]; omega
  refine ⟨(recB r)[4 + j], ?_, List.getElem?_eq_getElem hlt, ?_⟩
  · rw [e1, List.append_assoc, List.append_assoc, List.getElem?_append_right (by omega), Nat.add_sub_cancel_left, List.getElem?_append_left (by omega), List.getElem?_eq_getElem hlt]
  · conv => rhs; rw [e1, List.length_append, List.length_append, hl]
    omega

theorem wf_u16z {p : Int} (h : (Lit.int .u16 p).wf = true) : ∃ n : Nat, n < 65536 ∧ p = (n : Int) := by
  have h : 0 ≤ p ∧ p ≤ 65535 := by simpa [Lit.wf, IntKind.min, IntKind.max, IntKind.bits, IntKind.signed] using h
  exact ⟨p.toNat, by omega, by omega⟩
theorem wf_u8y {p : Int} (h : (Lit.int .u8 p).wf = true) : ∃ n : Nat, n < 256 ∧ p = (n : Int) := by
  have h : 0 ≤ p ∧ p ≤ 255 := by simpa [Lit.wf, IntKind.min, IntKind.max, IntKind.bits, IntKind.signed] using h
  exact ⟨p.toNat, by omega, by omega⟩
theorem few_small' {L : List (List UInt8)} (h : L.length ≤ 20 ∧ ∀ x ∈ L, x.length ≤ 500) : Small L ∧ (encs L).length ≤ 10160 := by
  have := encs_len_le h.1 h.2
  exact ⟨⟨fun r hr => by have := h.2 r hr; omega, by omega⟩, by omega⟩

set_option maxRecDepth 100000 in
set_option maxHeartbeats 8000000 in
theorem damaged37_walk (v : Value) (L : List (List UInt8)) (wh at_ by_ : Int) (v4 : Value) (more : List UInt8) (h1 : (Lit.int .u16 wh).wf = true) (h2 : (Lit.int .u16 at_).wf = true) (h3 : (Lit.int .u8 by_).wf = true) (W : World) (h : rRs.rd W (· < W.heap.size) [v] L) (h4 : rBy.rd W (· < W.heap.size) [v4] more) :
    Calls Tryd.prog 11 #[v, .int .u16 wh, .int .u16 at_, .int .u8 by_, v4] W (Holds W) := by
  obtain ⟨wn, hwn, rfl⟩ := wf_u16z h1
  obtain ⟨an, han, rfl⟩ := wf_u16z h2
  obtain ⟨bn, hbn, rfl⟩ := wf_u8y h3
  obtain ⟨a, c, rfl, hlc, _, hget⟩ := rs_get h
  obtain ⟨ma, mc, rfl⟩ := (Dat.of_rd h4).len
  have HL := Lib.hid h
  have HG := Lib.hid hget
  have HMR := Lib.hid (Dat.of_rd h4)
  have hml : 0 ≤ (more.length : Int) := by omega
  have hLl : 0 ≤ (L.length : Int) := by omega
  have hwn0 : 0 ≤ (wn : Int) ∧ (wn : Int) ≤ 65535 := by omega
  have han0 : 0 ≤ (an : Int) ∧ (an : Int) ≤ 65535 := by omega
  have hbn0 : 0 ≤ (bn : Int) ∧ (bn : Int) ≤ 255 := by omega
  have HBN := Lib.hid hbn
  clear h h4 hget h1 h2 h3 hwn han hbn
  go_enter Tryd.func11, Tryd.ntmps11
  go_wp2_with fail
  refine (few37 _ L W HL.out).mono ?_
  rintro e w1 ⟨r, rfl, rfl, hr⟩
  cases r with
  | false =>
    go_wp2_with fail
    refine (awake37_any _).mono ?_
    rintro e w2 ⟨rfl, hb⟩
    have HB := Lib.hid hb
    clear hb hr
    go_wp2
    go_ret
    exact ⟨rfl, HB.out⟩
  | true =>
    have HS := Lib.hid (few_small' (hr rfl))
    have HLN := Lib.hid (hr rfl)
    clear hr
    by_cases h0 : L.length = 0
    · have g0 : (L.length : Int) = 0 := by omega
      rw [g0] at hLl
      go_wp2_with fail
      refine (awake37_any _).mono ?_
      rintro e w2 ⟨rfl, hb⟩
      have HB := Lib.hid hb
      clear hb
      go_wp2
      go_ret
      exact ⟨rfl, HB.out⟩
    · have g0 : ((L.length : Int) == 0) = false := by simp; intro e; exact h0 (by rw [e]; rfl)
      have g0' : ¬ (L.length : Int) = 0 := by omega
      by_cases hb0 : bn = 0
      · subst hb0
        go_wp2_with fail
        refine (awake37_any _).mono ?_
        rintro e w2 ⟨rfl, hb⟩
        have HB := Lib.hid hb
        clear hb
        go_wp2
        go_ret
        exact ⟨rfl, HB.out⟩
      · have gb : ((bn : Int) == 0) = false := by simp; omega
        have gb' : ¬ (bn : Int) = 0 := by omega
        by_cases hm3 : 300 < more.length
        · have g3 : decide ((300 : Int) < (more.length : Int)) = true := by simp; omega
          have g3' : (300 : Int) < (more.length : Int) := by omega
          go_wp2_with fail
          refine (awake37_any _).mono ?_
          rintro e w2 ⟨rfl, hb⟩
          have HB := Lib.hid hb
          clear hb
          go_wp2
          go_ret
          exact ⟨rfl, HB.out⟩
        · have g3 : decide ((300 : Int) < (more.length : Int)) = false := by simp; omega
          have g3' : ¬ (300 : Int) < (more.length : Int) := by omega
          obtain ⟨k, hk⟩ : ∃ k, k = wn % L.length := ⟨_, rfl⟩
          have hkl : k < L.length := by rw [hk]; exact Nat.mod_lt _ (by omega)
          have hkr : Int.tmod (wn : Int) (L.length : Int) = (k : Int) := by rw [hk, Int.tmod_eq_emod_of_nonneg (by omega)]; rfl
          have hk0 : 0 ≤ (k : Int) := by omega
          have hk1 : (k : Int) < (L.length : Int) := by omega
          have hL20 : (L.length : Int) ≤ 20 := by have := HLN.out.1; omega
          obtain ⟨q1, q2⟩ := cutz_rs (a := a) (n := L.length) (c := c) (z := (k : Int)) (K := k) rfl (by omega) hlc
          obtain ⟨r, hr⟩ : ∃ r, L[k]? = some r := ⟨_, List.getElem?_eq_getElem hkl⟩
          obtain ⟨g, off, u, rfl, _, hgl, hcell, hu⟩ := HG.out k r hr
          obtain ⟨ua, uc, rfl⟩ := (Dat.of_rd hu).len
          have hrl := HLN.out.2 r (List.mem_of_getElem? hr)
          have hrl0 : 0 ≤ (r.length : Int) ∧ (r.length : Int) ≤ 500 := by omega
          have HR := Lib.hid hr
          have HTK := Lib.hid (rs_take HL.out (Nat.le_of_lt hkl))
          have HST := Lib.hid (show Small (L.take k) from ⟨fun y hy => HS.out.1.1 y (List.mem_of_mem_take hy), by have := encs_take_le L k; have := HS.out.2; omega⟩)
          have HCL := Lib.hid (And.intro hgl hcell)
          clear hk hu hr
          go_wp2_with fail
          refine (rl_Encode _ (L.take k) w1 HTK.out HST.out).mono ?_
          rintro e w2 ⟨vf, rfl, hrf, hbf⟩
          obtain ⟨Fr, hFr⟩ : ∃ Fr, Fr = encs (L.take k) := ⟨_, rfl⟩
          rw [← hFr] at hrf
          obtain ⟨fa, fc, rfl⟩ := hrf.dat.len
          have HFR := Lib.hid hFr
          have HBF := Lib.hid hbf
          clear hrf hbf hFr
          go_wp2_with fail
          refine (rl_Encode _ L w2 (rRs.keep (fun b hb _ => HBF.out.block b hb) HBF.out.size HL.out) HS.out.1).mono ?_
          rintro e w3 ⟨ve, rfl, hre, hbe⟩
          obtain ⟨E, hE⟩ : ∃ E, E = encs L := ⟨_, rfl⟩
          rw [← hE] at hre HS
          obtain ⟨ea, ec, rfl⟩ := hre.dat.len
          have HE := Lib.hid hE
          have HRE := Lib.hid hre
          have HBE := Lib.hid (HBF.out.trans (hbe.mono HBF.out.size))
          have HW23 := Lib.hid hbe.size
          clear hre hbe hE
          go_wp2_with (at_builtin; refine wpList_app rfl _ _ rfl w2.heap.size _ E rfl HRE.out _ more rfl (HMR.out.keep HBE.out) (by have := HS.out.2; omega) HW23.out ?_)
          intro vb wb hrb _ hbb
          obtain ⟨j, hj⟩ : ∃ j, j = an % (4 + r.length) := ⟨_, rfl⟩
          have hjl : j < 4 + r.length := by rw [hj]; exact Nat.mod_lt _ (by omega)
          have hjr : Int.tmod (an : Int) (4 + (r.length : Int)) = (j : Int) := by rw [hj, Int.tmod_eq_emod_of_nonneg (by omega)]; rfl
          obtain ⟨o, ho, hro, hle⟩ := rec_byte (more := more) HR.out hjl
          obtain ⟨x, hxo, hxx⟩ := xor_byte8 o HBN.out hb0
          have hdd := damaged_dec (more := more) (x := x) HS.out.1.1 HR.out hjl (by rw [hro]; intro e; exact hxo (by simpa using e.symm))
          rw [← HE.out, ← HFR.out] at ho hdd
          rw [← HE.out, ← HFR.out] at hle
          obtain ⟨Bt, hBt⟩ : ∃ Bt, Bt = E ++ more := ⟨_, rfl⟩
          rw [← hBt] at hrb ho hdd
          obtain ⟨p, hp⟩ : ∃ p, p = Fr.length + (4 + j) := ⟨_, rfl⟩
          rw [← hp] at ho hdd
          have hpl := (List.getElem?_eq_some_iff.1 ho).1
          have hBl : Bt.length = E.length + more.length := by rw [hBt, List.length_append]
          have hEl := HS.out.2
          have hbt0 : 0 ≤ (Bt.length : Int) ∧ (Bt.length : Int) ≤ 10460 := by omega
          have hfr0 : 0 ≤ (Fr.length : Int) ∧ (Fr.length : Int) ≤ 10160 := by omega
          have hj0 : 0 ≤ (j : Int) ∧ (j : Int) ≤ 504 := by omega
          have hsum : (Fr.length : Int) + 4 + (j : Int) = (p : Int) := by omega
          have hp0 : (0 : Int) ≤ (p : Int) := by omega
          have hp1 : (p : Int) < (Bt.length : Int) := by omega
          have glt : decide ((Bt.length : Int) < (Fr.length : Int) + 8 + (r.length : Int)) = false := by simp; omega
          have glt' : ¬ (Bt.length : Int) < (Fr.length : Int) + 8 + (r.length : Int) := by omega
          have gq : ((4 : Int) + (r.length : Int) == 0) = false := by simp; omega
          have gq' : ¬ ((4 : Int) + (r.length : Int) = 0) := by omega
          have HDD := Lib.hid hdd
          have HBL := Lib.hid (show Bt.length ≤ 100000000 from by omega)
          have HPB := Lib.hid (show wb.heap.size = wb.heap.size from rfl)
          have HBB := Lib.hid (show Below w1.heap.size w1 wb from HBE.out.trans (hbb.mono HBF.out.size))
          obtain ⟨bg, bc, rfl, hbg⟩ : ∃ bg bc, vb = .slice (some ⟨bg, 0, none⟩) Bt.length bc ∧ w2.heap.size ≤ bg := by
            rcases hrb.2 with ⟨_, h0⟩ | ⟨bg, cap, cur, e, hB, _⟩
            · omega
            · exact ⟨bg, cap, e, hB⟩
          have cold : wb.cell? ⟨bg, p, none⟩ = some (.int .u8 (o.toNat : Int)) := by
            have := World.ownsRow.cellAt (w := wb) hrb p (by omega)
            exact this.trans (pc_get ho)
          have cfr : wb.frozen? ⟨bg, p, none⟩ = false := World.ownsRow.frozenAt (w := wb) hrb p
          have crec := (HBB.out.cell (p := ⟨g, off + k, none⟩) HCL.out.1).trans HCL.out.2
          have HRS := Lib.hid (hrb.set (p := p) x)
          have HSB := Lib.hid (show Below w1.heap.size w1 (wb.setCell ⟨bg, p, none⟩ (.int .u8 (x.toNat : Int))) from HBB.out.setCell (by show w1.heap.size ≤ bg; have := HBF.out.size; omega) _)
          have HW2 := Lib.hid (show w1.heap.size ≤ w2.heap.size from HBF.out.size)
          have hx0 : 0 ≤ (x.toNat : Int) ∧ (x.toNat : Int) ≤ 255 := by have := x.toNat_lt; omega
          have ho0 : 0 ≤ (o.toNat : Int) ∧ (o.toNat : Int) ≤ 255 := by have := o.toNat_lt; omega
          clear hrb hbb hdd ho hro hle hp hBl hBt hEl hjl hj hcell hgl hbg
          generalize x.toNat = xn at *
          generalize o.toNat = on at *
          go_wp2_with fail
          obtain ⟨TL, hTL⟩ : ∃ TL, TL = L.take k := ⟨_, rfl⟩
          have HTK2 := Lib.hid HTK.out
          have HDD2 := Lib.hid HDD.out
          rw [← hTL] at HTK2 HDD2
          have hcall := rl_Decode _ (Bt.set p x) _ HRS.out.dat (by rw [List.length_set]; exact HBL.out)
          rw [HDD2.out] at hcall
          refine hcall.mono ?_
          rintro e w5 ⟨v5, rfl, hr5, hb5⟩
          obtain ⟨ya, yc, rfl⟩ := hr5.len
          have HR5 := Lib.hid (hr5.rd (F := fun b => True) (fun _ _ _ => trivial))
          have HB5 := Lib.hid (HSB.out.trans (hb5.mono HSB.out.size))
          clear hcall hr5 hb5 hTL
          go_wp2_with fail
          refine (awake37_any _).mono ?_
          rintro e w6 ⟨rfl, hb6⟩
          have HB6 := Lib.hid (HB5.out.trans (hb6.mono HB5.out.size))
          have HR6 := Lib.hid (rRs.keep (fun b _ hl => hb6.block b hl) hb6.size HR5.out)
          have HT6 := Lib.hid (rRs.keep (fun b hb _ => HB6.out.block b hb) HB6.out.size HTK2.out)
          clear hb6
          go_wp2_with fail
          refine (rf_Same _ _ TL w6 HR6.out HT6.out).mono ?_
          rintro e w7 ⟨rfl, hb7⟩
          have HFIN := Lib.hid (HB6.out.trans (hb7.mono HB6.out.size))
          clear hb7
          go_wp2
          go_ret
          exact ⟨rfl, HFIN.out⟩
end Go.Proofs.YtngddhoolijimaaDoor
