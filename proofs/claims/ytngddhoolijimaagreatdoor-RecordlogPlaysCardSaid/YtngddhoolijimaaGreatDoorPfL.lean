/-
  recover.
-/
import Derived.Test.YtngddhoolijimaaGreatDoorPfK
namespace Go.Proofs.YtngddhoolijimaaGreatDoor
open Go.RowKit
set_option linter.unusedVariables false

/-- The pages that were read: k of them, the rest nil. -/
structure Pgs (base : Nat) (w : World) (d : DK) (n P0 k : Nat) (xs : List Value) : Prop where
  own : w.ownsRow base 51 1 (.slice (some ⟨P0, 0, none⟩) n n) n xs
  at_ : ∀ j, j < k → ∃ v, xs[j]? = some v ∧ PgAt base w v (d.get (n + j))

theorem Pgs.below {base : Nat} {w w' : World} {d : DK} {n P0 k : Nat} {xs : List Value} (h : Pgs base w d n P0 k xs) (hb : Below w.heap.size w w') : Pgs base w' d n P0 k xs :=
  ⟨own_at h.own hb, fun j hj => by obtain ⟨v, h1, h2⟩ := h.at_ j hj; exact ⟨v, h1, h2.below hb⟩⟩

/-- One page more. -/
theorem Pgs.step {base : Nat} {w w1 : World} {d : DK} {n P0 k : Nat} {xs : List Value} (h : Pgs base w d n P0 k xs) (hk : k < n) (hb : Below w.heap.size w w1) {v : Value} (hp : PgAt base w1 v (d.get (n + k))) : Pgs base (w1.setCell ⟨P0, k, none⟩ v) d n P0 (k + 1) (xs.set k v) := by
  have ho := own_at h.own hb
  have hlen : xs.length = n := by have := h.own.1; omega
  have hc : Chg (fun b => b = P0) w1 (w1.setCell ⟨P0, k, none⟩ v) := Chg.setCell _ _ rfl
  have hap : ∀ {u : Value} {p : List UInt8}, PgAt base w1 u p → ∀ b, u.ownBlock = some b → ¬ b = P0 := fun hu b hb e => by
    have := rows_apart hu.own ho (fun h => by omega) (fun h => by omega) (.inl (by decide)) b hb
    exact this (by rw [e]; rfl)
  refine ⟨(ho.stored k v).1, fun j hj => ?_⟩
  by_cases e : j = k
  · subst e
    exact ⟨v, by rw [List.getElem?_set_self (by omega)], hp.keep hc (hap hp)⟩
  · obtain ⟨u, h1, h2⟩ := h.at_ j (by omega)
    have h2 := h2.below hb
    exact ⟨u, by rw [List.getElem?_set_ne (fun e1 => e e1.symm)]; exact h1, h2.keep hc (hap h2)⟩

theorem under_pages : Tryz.prog.underlying 28 = some (.slice (Tryz.prog.elem 28)) := by kernel_rfl
theorem size_pages (W : World) : (Go.sizeOf (Tryz.prog.elem 28)).run Tryz.prog W = .ok 1 W := by rw [show Tryz.prog.elem 28 = 51 by kernel_rfl]; exact Tryz.sizeOf51 W

/-- pages[:k] -/
theorem cutp_to {g n K : Nat} (hK : K ≤ n) : (∀ W, Sem.run Tryz.prog (Instr.sliceAt 28 (.slice (some ⟨g, 0, none⟩) n n) none (some (.int .i64 (K : Int))) none) W = .ok (.slice (some ⟨g, 0, none⟩) K n) W) ∧
    (∀ W, Sem.run Tryz.prog (Instr.slice 28 (.slice (some ⟨g, 0, none⟩) n n) none (some (.int .i64 (K : Int))) none) W = .ok (.slice (some ⟨g, 0, none⟩) K n) W) := by
  have h2 : ∀ W, Sem.run Tryz.prog (Instr.slice 28 (.slice (some ⟨g, 0, none⟩) n n) none (some (.int .i64 (K : Int))) none) W = .ok (.slice (some ⟨g, 0, none⟩) K n) W := by
    intro W
    rw [run_slice_h W 28 (some ⟨g, 0, none⟩) n n under_pages .i64 (K : Int) (by omega) (by omega), size_pages]
    simp [Result.andThen, sliced, Addr.add]
  exact ⟨fun W => (run_sliceAt_slice W 28 _ _ _ _ under_pages).trans (h2 W), h2⟩

/-- pages[k:] -/
theorem cutp_from {g n K : Nat} (hK : K ≤ n) : ∃ off, (0 < n - K → off = K) ∧ (∀ W, Sem.run Tryz.prog (Instr.sliceAt 28 (.slice (some ⟨g, 0, none⟩) n n) (some (.int .i64 (K : Int))) none none) W = .ok (.slice (some ⟨g, off, none⟩) (n - K) (n - K)) W) ∧
    (∀ W, Sem.run Tryz.prog (Instr.slice 28 (.slice (some ⟨g, 0, none⟩) n n) (some (.int .i64 (K : Int))) none none) W = .ok (.slice (some ⟨g, off, none⟩) (n - K) (n - K)) W) := by
  have h2 : ∀ W, Sem.run Tryz.prog (Instr.slice 28 (.slice (some ⟨g, 0, none⟩) n n) (some (.int .i64 (K : Int))) none none) W = .ok (.slice (some ⟨g, if n = K then 0 else K, none⟩) (n - K) (n - K)) W := by
    intro W
    rw [run_slice_l W 28 (some ⟨g, 0, none⟩) n n under_pages .i64 (K : Int) (by omega) (by omega), size_pages]
    by_cases h : n = K
    · simp [Result.andThen, sliced, h]
    · simp only [Result.andThen, sliced, if_neg h, Option.map_some, Addr.add_mid, Nat.mul_one, Nat.zero_add, Int.toNat_natCast]
  exact ⟨_, fun h => if_neg (by omega), fun W => (run_sliceAt_slice W 28 _ _ _ _ under_pages).trans (h2 W), h2⟩

/-- A page, or nil. -/
structure BlankAt (w : World) (v : Value) (p : List UInt8) : Prop where
  sh : ∃ a n c, v = .slice a n c ∧ n ≤ c ∧ c ≤ maxLen
  data : Data w v p

theorem BlankAt.below {w w' : World} {v : Value} {p : List UInt8} (h : BlankAt w v p) (hb : Below w.heap.size w w') : BlankAt w' v p := ⟨h.sh, h.data.keep hb⟩
theorem PgAt.blank {base : Nat} {w : World} {v : Value} {p : List UInt8} (h : PgAt base w v p) : BlankAt w v p := by
  obtain ⟨g, c, e, h1, h2⟩ := h.sh
  exact ⟨⟨_, 128, c, e, h1, h2⟩, h.data⟩
theorem BlankAt.nil (w : World) : BlankAt w (.slice none 0 0) [] := ⟨⟨none, 0, 0, rfl, Nat.le_refl _, Nat.zero_le _⟩, ⟨rfl, .inl ⟨rfl, none, 0, rfl⟩⟩⟩

/-- The pages to be looked at, in memory. -/
structure Looks (w : World) (g off : Nat) (vs : List Value) (ps : List (List UInt8)) : Prop where
  len : vs.length = ps.length
  cells : ∀ j u, vs[j]? = some u → w.cell? ((⟨g, off, none⟩ : Addr).add j) = some u
  at_ : ∀ (j : Nat) (p : List UInt8), ps[j]? = some p → ∃ v, vs[j]? = some v ∧ BlankAt w v p

theorem Looks.below {w w' : World} {g off : Nat} {vs : List Value} {ps : List (List UInt8)} (h : Looks w g off vs ps) (hb : Below w.heap.size w w') : Looks w' g off vs ps :=
  ⟨h.len, fun j u hu => (World.cell?_of_block (w := w) (w' := w') (hb.block _ (cell_lt (h.cells j u hu)))).trans (h.cells j u hu), fun j p hp => by
    obtain ⟨v, h1, h2⟩ := h.at_ j p hp
    exact ⟨v, h1, h2.below hb⟩⟩

theorem Pgs.looks {base : Nat} {w : World} {d : DK} {n P0 : Nat} {xs : List Value} (h : Pgs base w d n P0 n xs) : Looks w P0 0 xs (d.journal n) :=
  ⟨by rw [d.journal_len n]; have := h.own.1; omega, fun j u hu => by
    rw [Addr.add_mid, Nat.zero_add]
    have hj : j < n := by have h1 := (List.getElem?_eq_some_iff.1 hu).1; have := h.own.1; omega
    have := h.own.cellAt j (by omega)
    exact (show w.cell? ⟨P0, j, none⟩ = _ from this).trans hu, fun j p hp => by
    have hj : j < n := by have := (List.getElem?_eq_some_iff.1 hp).1; rwa [d.journal_len n] at this
    obtain ⟨v, h1, h2⟩ := h.at_ j hj
    have e := journal_get (d := d) hj
    rw [List.getD_eq_getElem?_getD, hp] at e
    exact ⟨v, h1, by rw [show p = d.get (n + j) from e]; exact h2.blank⟩⟩

section
variable {w : World} {fb : Nat} {B : DB} {f : PF} {d : DK}

theorem rec_logged {n : Nat} {Q : List (List UInt8)} (hbuf : d.buf = noBuf) (hr : Rec n Q d.st) (h0 : 0 < committed n (d.get (2 * n))) : ∀ x ∈ logged ((d.journal n).take (committed n (d.get (2 * n)))), x.1 < (n : Int) := by
  rw [DK.get_at hbuf] at h0 ⊢
  rcases hr.how with ⟨hc, _⟩ | ⟨ws, hl⟩
  · omega
  · have hk : ws.length ≤ n := by rw [← hl.com]; exact committed_le _ _
    rw [hl.com, logged_eq hbuf hr.few hl hk]
    exact fun x hx => (hl.good x hx).2.1

set_option maxRecDepth 100000 in
set_option maxHeartbeats 4000000 in
theorem pf_recover {Q : List (List UInt8)} (h : IsFile w fb B f) (hd : IsDisk w B d) (hup : d.down = false) (hbuf : d.buf = noBuf) (hr : Rec f.n Q d.st) :
    Calls Tryz.prog 24 #[pfPtr fb] w fun e w' => e = .returned (.int .i64 (d.recover f.n).2) ∧ Turns B w w' (d.recover f.n).1 := by
  have hlog := rec_logged hbuf hr
  have hlen := hr.len
  have hfew := hr.few
  have HG := Lib.hid (fun (i : Nat) (hi : i ≤ 2 * f.n) => DK.get_len hd.ok (i := i) (by omega))
  have hRR : d.recover f.n = if 0 < committed f.n (d.get (2 * f.n)) then
    thn (d.finish f.n (logged ((d.journal f.n).take (committed f.n (d.get (2 * f.n)))))) fun d' => d'.clean (dirty (f.n + committed f.n (d.get (2 * f.n))) ((d.journal f.n).drop (committed f.n (d.get (2 * f.n))) ++ [[]]))
  else d.clean (dirty f.n (d.journal f.n ++ [d.get (2 * f.n)])) := rfl
  generalize d.recover f.n = R at *
  have HR := Lib.hid hRR
  have HLG := Lib.hid hlog
  have HF := Lib.hid h
  have HD := Lib.hid hd
  have HUP := Lib.hid hup
  have HLEN := Lib.hid hlen
  have c0 := h.hd
  have hfl := h.lt
  have hw2 : (Lit.int .i64 ((2 * f.n : Nat) : Int)).wf = true := wf_small (by omega)
  have HW2 := Lib.hid hw2
  clear hRR hlog h hd hup hbuf hr hlen hw2
  unfold pfPtr
  go_enter Tryz.func24, Tryz.ntmps24
  go_wp2_with fail
  have KEEP := Lib.hid (show ∀ W1 W2 : World, (W1.cell? ⟨fb, 0, none⟩ = some (.pointer (some ⟨B.db, 0, none⟩)) ∧ w.heap.size ≤ W1.heap.size) → Below W1.heap.size W1 W2 → (W2.cell? ⟨fb, 0, none⟩ = some (.pointer (some ⟨B.db, 0, none⟩)) ∧ w.heap.size ≤ W2.heap.size) from
    fun W1 W2 ⟨p0, hs⟩ hb => ⟨(hb.cell (p := ⟨fb, 0, none⟩) (cell_lt p0)).trans p0, Nat.le_trans hs hb.size⟩)
  have INIT := Lib.hid (show w.drew.cell? ⟨fb, 0, none⟩ = some (.pointer (some ⟨B.db, 0, none⟩)) ∧ w.heap.size ≤ w.drew.heap.size from ⟨c0, Nat.le_refl _⟩)
  go_region_held3 (fun W => W.cell? ⟨fb, 0, none⟩ = some (.pointer (some ⟨B.db, 0, none⟩)) ∧ w.heap.size ≤ W.heap.size) (first | assumption | exact INIT.out | exact KEEP.out _ _ (by assumption) (by assumption))
    (first | (go_at_call 41; refine (pf_head (HF.out.keep (Chg.of_below (Below.refl _ _).drew (F := fun _ => False)) (fun h => h))).mono ?_; rintro e wJ ⟨rfl, rfl⟩) | (go_at_call 40; refine (dk_get (HD.out.below (Below.refl _ _).drew) HUP.out (2 * f.n) HLEN.out HW2.out).mono ?_; rintro e w1 ⟨hg, hc, rfl, hc1, hc2, hown1, hb1⟩) | fail)
  have HB1 := Lib.hid (show Below w.heap.size w w1 from ((Below.refl _ _).drew).trans hb1)
  have HH1 := Lib.hid (show PgAt w.heap.size w1 (.slice (some ⟨hg, 0, none⟩) 128 hc) (d.get (2 * f.n)) from ⟨⟨hg, hc, rfl, hc1, hc2⟩, own_le hown1 (by show w.heap.size ≤ w.heap.size; omega)⟩)
  clear hown1 hb1
  have hf1 := HF.out.keep (Chg.of_below HB1.out (F := fun _ => False)) (fun h => h)
  have c1 := hf1.hn
  clear hf1
  obtain ⟨i0, hi0, hz0, hz1, hz2⟩ := info_parts bs_info
  have hnb : 0 ≤ (f.n : Int) ∧ (f.n : Int) ≤ 4096 := by omega
  go_wp2_with (refine wpList_make_full _ rfl _ _ 28 rfl w1.heap.size 51 i0 _ 1 Tryz.underlying28 hi0 hz0 hz1 _ _ _ _ f.n rfl rfl (by rfl) (by rfl) (by rw [hz2]; omega) (by unfold maxLen; omega) (Nat.le_refl _) ?_)
  intro w2 hown2 hg2
  have hb2 := below_grown hg2
  have HB2 := Lib.hid (show Below w.heap.size w w2 from HB1.out.trans (hb2.mono HB1.out.size))
  have HH2 := Lib.hid (HH1.out.below hb2)
  obtain ⟨P0, hP0⟩ : ∃ P0, P0 = w1.heap.size := ⟨_, rfl⟩
  rw [← hP0] at hown2 ⊢
  have hP1 : w.heap.size ≤ P0 := by rw [hP0]; exact HB1.out.size
  have HP0 := Lib.hid (show Pgs w.heap.size w2 d f.n P0 0 (madeCells (#[.slice none 0 0] : Array Value) f.n).toList from ⟨own_le hown2 hP1, fun j hj => by omega⟩)
  clear hown2 hg2 hb2 HH1 c1 hP0 KEEP INIT c0 hi0 hz0 hz1 hz2
  go_wp2
  go_loopg [37] (f.n) (fun gk t37 wr => ∃ (k : Nat) (xs : List Value), k ≤ f.n ∧ gk + k = f.n ∧ t37 = .int .i64 (k : Int) ∧ Pgs w.heap.size wr d f.n P0 k xs ∧ PgAt w.heap.size wr (.slice (some ⟨hg, 0, none⟩) 128 hc) (d.get (2 * f.n)) ∧ Below w.heap.size w wr)
  case atStart => exact ⟨0, _, by omega, by omega, rfl, HP0.out, HH2.out, HB2.out⟩
  case round =>
    obtain ⟨k, xs, hk, hgk, rfl, hP, hH, hB⟩ := hrel
    have HGK := Lib.hid hgk
    have HP := Lib.hid hP
    have HH := Lib.hid hH
    have HB := Lib.hid hB
    clear hgk hP hH hB HP0 HB1 HB2 HH2
    by_cases hin : k < f.n
    · have hd1 : decide ((k : Int) < (f.n : Int)) = true := by simp; omega
      have k0 : (0 : Int) ≤ (k : Int) := by omega
      have k1 : (k : Int) < (f.n : Int) := by omega
      have hfile := HF.out.keep (Chg.of_below HB.out (F := fun _ => False)) (fun h => h)
      have c0 := hfile.hd
      have HFL := Lib.hid hfile
      have HDK := Lib.hid (HD.out.below HB.out)
      have hne : ¬ fb = P0 := by omega
      have HNK := Lib.hid (show f.n + k < d.st.length by have := HLEN.out; omega)
      have HWF := Lib.hid (show (Lit.int .i64 ((f.n + k : Nat) : Int)).wf = true from wf_small (by omega))
      obtain ⟨xk, hxk⟩ : ∃ xk, xs[k]? = some xk := ⟨_, List.getElem?_eq_getElem (by have := HP.out.own.1; omega)⟩
      have HST := Lib.hid (show ∀ W : World, Below wr.heap.size wr W → W.cell? ⟨P0, k, none⟩ = some xk ∧ W.frozen? ⟨P0, k, none⟩ = false from fun W hb => by
        have ho := own_at HP.out.own hb
        exact ⟨by have := ho.cellAt k (by omega); exact (show W.cell? ⟨P0, k, none⟩ = _ from this).trans hxk, ho.frozenAt k⟩)
      clear hfile hxk
      go_wp2_with fail
      have INIT := Lib.hid (show wr.drew.cell? ⟨fb, 0, none⟩ = some (.pointer (some ⟨B.db, 0, none⟩)) ∧ w.heap.size ≤ wr.drew.heap.size from ⟨c0, HB.out.size⟩)
      have KEEP := Lib.hid (show ∀ W1 W2 : World, (W1.cell? ⟨fb, 0, none⟩ = some (.pointer (some ⟨B.db, 0, none⟩)) ∧ w.heap.size ≤ W1.heap.size) → Below W1.heap.size W1 W2 → (W2.cell? ⟨fb, 0, none⟩ = some (.pointer (some ⟨B.db, 0, none⟩)) ∧ w.heap.size ≤ W2.heap.size) from
        fun W1 W2 ⟨p0, hs⟩ hb => ⟨(hb.cell (p := ⟨fb, 0, none⟩) (cell_lt p0)).trans p0, Nat.le_trans hs hb.size⟩)
      have KEEPS := Lib.hid (show ∀ (W1 : World) (u : Value), (W1.cell? ⟨fb, 0, none⟩ = some (.pointer (some ⟨B.db, 0, none⟩)) ∧ w.heap.size ≤ W1.heap.size) → ((W1.setCell ⟨P0, k, none⟩ u).cell? ⟨fb, 0, none⟩ = some (.pointer (some ⟨B.db, 0, none⟩)) ∧ w.heap.size ≤ (W1.setCell ⟨P0, k, none⟩ u).heap.size) from
        fun W1 u ⟨p0, hs⟩ => ⟨by rw [World.cell?_setCell_other _ _ _ _ (by first | (simp; done) | (simp; omega))]; exact p0, by simpa using hs⟩)
      go_region_held3 (fun W => W.cell? ⟨fb, 0, none⟩ = some (.pointer (some ⟨B.db, 0, none⟩)) ∧ w.heap.size ≤ W.heap.size) (first | assumption | exact INIT.out | exact KEEP.out _ _ (by assumption) (by assumption) | exact KEEPS.out _ _ (by assumption))
        (first | (go_at_call 42; refine (pf_journal (HFL.out.keep (Chg.of_below (Below.refl _ _).drew (F := fun _ => False)) (fun h => h)) k (by omega)).mono ?_; rintro e wJ ⟨rfl, rfl⟩) | (go_at_call 40; refine (dk_get (HDK.out.below (Below.refl _ _).drew) HUP.out (f.n + k) HNK.out HWF.out).mono ?_; rintro e w3 ⟨pg, pc', rfl, hc1', hc2', hown3, hb3⟩; have hBw := Lib.hid (show Below wr.heap.size wr w3 from ((Below.refl _ _).drew).trans hb3); obtain ⟨hst1, hst2⟩ := HST.out w3 hBw.out) | fail)
      have HPG := Lib.hid (HP.out.step hin hBw.out (show PgAt w.heap.size w3 (.slice (some ⟨pg, 0, none⟩) 128 pc') (d.get (f.n + k)) from ⟨⟨pg, pc', rfl, hc1', hc2'⟩, own_le hown3 (by show w.heap.size ≤ wr.heap.size; exact HB.out.size)⟩))
      have HH3 := Lib.hid (show PgAt w.heap.size (w3.setCell ⟨P0, k, none⟩ (.slice (some ⟨pg, 0, none⟩) 128 pc')) (.slice (some ⟨hg, 0, none⟩) 128 hc) (d.get (2 * f.n)) from (HH.out.below hBw.out).keep (F := fun b => b = P0) (Chg.setCell _ _ rfl) (fun b hb e => by
        have := rows_apart HH.out.own HP.out.own (fun h => by omega) (fun h => by omega) (.inl (by decide)) b hb
        exact this (by rw [e]; rfl)))
      have HB3 := Lib.hid (show Below w.heap.size w (w3.setCell ⟨P0, k, none⟩ (.slice (some ⟨pg, 0, none⟩) 128 pc')) from (HB.out.trans (hBw.out.mono HB.out.size)).setCell hP1 _)
      clear hown3 hb3 hst1 hst2 KEEP KEEPS INIT c0
      go_wp2
      go_roundg (gk - 1)
      case rel => exact ⟨k + 1, _, by omega, by have := HGK.out; omega, by go_num, HPG.out, HH3.out, HB3.out⟩
      case measure => have := HGK.out; omega
    · have hd1 : decide ((k : Int) < (f.n : Int)) = false := by simp; omega
      obtain rfl : k = f.n := by omega
      have hl128 := HG.out (2 * f.n) (Nat.le_refl _)
      have hcom := pf_committed (HF.out.keep (Chg.of_below HB.out (F := fun _ => False)) (fun h => h)) hg 0 hc (d.get (2 * f.n)) (by omega) (by rw [hl128]; exact hc1) (by rw [hl128]; exact HH.out.data)
      rw [hl128] at hcom
      have HCOM := Lib.hid hcom
      have hcb : committed f.n (d.get (2 * f.n)) ≤ f.n := committed_le _ _
      clear hcom
      go_wp2_with fail
      refine HCOM.out.mono ?_
      rintro e w4 ⟨rfl, hb4⟩
      have HB4 := Lib.hid (HB.out.trans (hb4.mono HB.out.size))
      have HBB4 := Lib.hid hb4
      clear HCOM
      by_cases h0 : 0 < committed f.n (d.get (2 * f.n))
      · generalize committed f.n (d.get (2 * f.n)) = K at *
        have g0 : decide ((0 : Int) < (K : Int)) = true := decide_eq_true (by omega)
        obtain ⟨s1, s2⟩ := cutp_to (g := P0) (n := f.n) (K := K) hcb
        have hKb : 0 ≤ (K : Int) ∧ (K : Int) ≤ 4096 := by omega
        have HOFF2 := Lib.hid (show ∀ b, w.heap.size ≤ b → B.off b from fun b hb hB => by
          have := HD.out.lt
          rcases hB with rfl | rfl | rfl <;> omega)
        have HNO := Lib.hid (HLG.out h0)
        have HR2 := Lib.hid (show R = thn (d.finish f.n (logged ((d.journal f.n).take K))) fun d' => d'.clean (dirty (f.n + K) ((d.journal f.n).drop K ++ [[]])) from by rw [HR.out, if_pos h0])
        have hll : (logged ((d.journal f.n).take K)).length = K := by unfold logged; rw [List.length_map, List.length_take, d.journal_len f.n]; omega
        have HLL := Lib.hid hll
        have HAT := Lib.hid (show ∀ j, j < K → ∃ v, xs[j]? = some v ∧ PgAt w.heap.size w4 v (d.get (f.n + j)) ∧ (logged ((d.journal f.n).take K))[j]? = some ((wordAt (d.get (f.n + j)) : Int), ((d.get (f.n + j)).drop 4).take 100) from fun j hj => by
          obtain ⟨v, h1, h2⟩ := HP.out.at_ j (by omega)
          refine ⟨v, h1, h2.below HBB4.out, ?_⟩
          have hj2 : (d.journal f.n)[j]? = some (d.get (f.n + j)) := by unfold DK.journal; rw [List.getElem?_map, List.getElem?_range (by omega)]; rfl
          unfold logged
          rw [List.getElem?_map, List.getElem?_take, if_pos hj, hj2]; rfl)
        have HCE := Lib.hid (show ∀ j u, xs[j]? = some u → w4.cell? ⟨P0, j, none⟩ = some u ∧ P0 < w4.heap.size from fun j u hu => by
          have hlk := HP.out.looks.below HBB4.out
          have := hlk.cells j u hu
          rw [Addr.add_mid, Nat.zero_add] at this
          exact ⟨this, cell_lt this⟩)
        have HZ4 := Lib.hid (show w.heap.size ≤ w4.heap.size from HB4.out.size)
        obtain ⟨q0, hq0, hr0, hr1, hr2⟩ := info_parts pw_info
        clear hll
        go_wp2
        clear s1 s2
        generalize hgk0 : gk = gk0 at *
        generalize hwr0 : wr = wr0 at *
        clear hgk0 hwr0
        go_loopg [8, 67] K (fun gk t8 t67 wr => ∃ (j : Nat) (ys : List Value), j ≤ K ∧ gk + j = K ∧ t67 = .int .i64 (j : Int) ∧ wr.ownsRow w4.heap.size 82 2 t8 j ys ∧ (rArr rPW j).rd wr (fun b => w.heap.size ≤ b ∧ b < w4.heap.size) ys ((logged ((d.journal f.n).take K)).take j) ∧ Below w4.heap.size w4 wr)
        case atStart => exact ⟨0, [], by omega, by omega, rfl, World.ownsRow_nil _ _ _ _, rarr_nil _ _ _, Below.refl _ _⟩
        case round =>
          obtain ⟨j, ys, hj, hgk, rfl, hO, hX, hB'⟩ := hrel
          have HGK2 := Lib.hid hgk
          have HO := Lib.hid hO
          have HX := Lib.hid hX
          have HB' := Lib.hid hB'
          clear hgk hO hX hB'
          obtain ⟨a10, c10, rfl⟩ : ∃ a c, _ = Value.slice a j c := by obtain ⟨a, c, e⟩ := Sl.len (Sl.of_own HO.out); exact ⟨a, c, e⟩
          by_cases hjn : j < K
          · have hd2 : decide ((j : Int) < (K : Int)) = true := by simp; omega
            have k0 : (0 : Int) ≤ (j : Int) := by omega
            have k1 : (j : Int) < (K : Int) := by omega
            have k2 : (j : Int) ≤ 4096 := by omega
            obtain ⟨v, hv, hpg, hlj⟩ := HAT.out j hjn
            obtain ⟨pg, pc', rfl, hp1, hp2⟩ := hpg.sh
            obtain ⟨hc4, hP4⟩ := HCE.out j _ hv
            have hcell := (HB'.out.cell (p := ⟨P0, j, none⟩) hP4).trans hc4
            have hpg' := hpg.below HB'.out
            have hpl : (d.get (f.n + j)).length = 128 := HG.out (f.n + j) (by omega)
            have HWD := Lib.hid (pf_word _ (d.get (f.n + j)) wr hpg'.data (by omega))
            have hwb := wordAt_lt (d.get (f.n + j))
            have HPG := Lib.hid hpg
            have HPP := Lib.hid (And.intro hp1 hp2)
            have HLJ := Lib.hid hlj
            have HSZ := Lib.hid (show w4.heap.size ≤ wr.heap.size from HB'.out.size)
            obtain ⟨u1, u2⟩ := cut_lh (g := pg) (n := 128) (c := pc') (by omega) hp1
            clear hv hpg hlj hc4 hP4 hpg' hp1 hp2 hpl
            generalize hwa : wordAt (d.get (f.n + j)) = wd at *
            have hwb2 : 0 ≤ (wd : Int) ∧ (wd : Int) < 4294967296 := by omega
            have HWA := Lib.hid hwa
            clear hwa
            go_wp2_with fail
            refine HWD.out.mono ?_
            rintro e w5 ⟨rfl, hb5⟩
            have HB5 := Lib.hid (HB'.out.trans (hb5.mono HB'.out.size))
            have HO5 := Lib.hid (show w5.ownsRow w4.heap.size 82 2 (.slice a10 j c10) j ys from own_at' HO.out hb5)
            have HSZ5 := Lib.hid (show wr.heap.size ≤ w5.heap.size from hb5.size)
            clear hb5 hcell
            go_wp2_with (at_builtin; refine wpList_append_sl rfl _ _ 80 rfl w4.heap.size 82 q0 _ 2 32 Tryz.underlying80 hq0 hr0 hr1 hr2 rfl (by decide) _ j ys rfl (HO5.out.alloc _) _ 1 [.int .i64 (wd : Int), .slice (some ⟨pg, 4, none⟩) 100 (pc' - 4)] rfl (sl_at2 rfl) (fun _ _ h => by cases h) (one_two _ _ rfl rfl) (by unfold maxLen; omega) (by omega) (by have h1 := HSZ.out; have h2 := HSZ5.out; simp; omega) ?_)
            intro v6 w6 hown6 hg6 hb6
            have HO6 := Lib.hid hown6
            have HB6 := Lib.hid ((HB5.out.alloc HB5.out.size _).trans hb6)
            have HZ6 := Lib.hid (show wr.heap.size ≤ w6.heap.size by have h1 := hb6.size; have h2 := HSZ5.out; simp at h1; omega)
            clear hown6 hg6 hb6 u1 u2
            go_wp2
            go_roundg (gk - 1)
            case rel =>
              refine ⟨j + 1, _, by omega, by have := HGK2.out; omega, by go_num, HO6.out, ?_, HB6.out⟩
              rw [take_snoc HLJ.out]
              have hF : ∀ b, (w.heap.size ≤ b ∧ b < w4.heap.size) → w6.heap[b]? = wr.heap[b]? := fun b hb => (HB6.out.block b hb.2).trans (HB'.out.block b hb.2).symm
              have hpgl : w.heap.size ≤ pg ∧ pg < w4.heap.size := by
                obtain ⟨g', c', ⟨a, e, ha⟩, hgb⟩ := own_block HPG.out.own
                have e2 := ha (by omega)
                subst e2
                cases e
                have := hgb (by omega)
                exact ⟨this.1, this.2.1⟩
              exact rarr_snoc ((rArr rPW j).keep (fun b hb _ => hF b hb) HZ6.out HX.out) ⟨[.int .i64 (wd : Int)], [.slice (some ⟨pg, 4, none⟩) 100 (pc' - 4)], rfl, ⟨rfl, WalkArith.wf_i64 (by omega)⟩, rd_cut (HPG.out.below HB6.out).own HPP.out.1 HPP.out.2 hpgl⟩
            case measure => have := HGK2.out; omega
          · have hd2 : decide ((j : Int) < (K : Int)) = false := by simp; omega
            obtain rfl : j = K := by omega
            have hrd : (rSlice rPW).rd wr (fun b => B.off b ∧ b < wr.heap.size) [.slice a10 j c10] (logged ((d.journal f.n).take j)) := by
              have h := HX.out
              rw [List.take_of_length_le (by rw [HLL.out]; exact Nat.le_refl _)] at h
              have hs := HB'.out.size
              exact rd_own HO.out ((rArr rPW _).more (fun b hb => ⟨HOFF2.out b hb.1, by have := hb.2; omega⟩) h) (fun b hb hb2 => ⟨HOFF2.out b (by have := HZ4.out; omega), hb2⟩)
            have HBW := Lib.hid (show Below w.heap.size w wr from HB4.out.trans (HB'.out.mono HB4.out.size))
            have hfin := pf_finish (HF.out.keep (Chg.of_below HBW.out (F := fun _ => False)) (fun h => h)) (HD.out.below HBW.out) _ (logged ((d.journal f.n).take j)) hrd (by rw [HLL.out]; omega) HNO.out
            have HFIN := Lib.hid hfin
            clear hrd hfin
            generalize d.finish f.n (logged ((d.journal f.n).take j)) = E at *
            go_wp2_with fail
            refine HFIN.out.mono ?_
            rintro e w6 ⟨rfl, hT⟩
            have HT := Lib.hid hT
            have HT6 := Lib.hid (show IsFile w6 fb B f ∧ IsDisk w6 B E.1 ∧ Chg B.has w w6 from ⟨(HF.out.keep (Chg.of_below HBW.out (F := fun _ => False)) (fun h => h)).turns hT, hT.1, (Chg.of_below HBW.out).trans hT.2⟩)
            clear hT HFIN
            by_cases hE : E.2 = 0
            · have HR3 := Lib.hid (show R = DK.clean E.1 (dirty (f.n + j) ((d.journal f.n).drop j ++ [[]])) from by rw [HR2.out]; exact if_pos hE)
              obtain ⟨M0, hM0⟩ : ∃ M0, M0 = f.n - j := ⟨_, rfl⟩
              obtain ⟨off, ho, s3, s4⟩ := cutp_from (g := P0) (n := f.n) (K := j) hcb
              rw [← hM0] at ho s3 s4
              have HM0 := Lib.hid hM0
              have HOF := Lib.hid ho
              have HLK6 := Lib.hid (show Looks w6 P0 off (xs.drop j) ((d.journal f.n).drop j) from by
                have hw4 := HP.out.looks.below HBB4.out
                have hxl : xs.length = f.n := by have := hw4.len; rwa [d.journal_len f.n] at this
                have hcw : ∀ b, w.heap.size ≤ b → b < w4.heap.size → w6.heap[b]? = w4.heap[b]? := fun b h1 h2 => by
                  rw [HT.out.2.block b (by have := HB'.out.size; omega) (HOFF2.out b h1), HB'.out.block b h2]
                refine ⟨by rw [List.length_drop, List.length_drop, hw4.len], fun i u hu => ?_, fun i p hp => ?_⟩
                · rw [List.getElem?_drop] at hu
                  have hlt := (List.getElem?_eq_some_iff.1 hu).1
                  have h := hw4.cells _ u hu
                  rw [Addr.add_mid, Nat.zero_add] at h
                  rw [Addr.add_mid, HOF.out (by have := HM0.out; omega)]
                  exact (World.cell?_of_block (a := ⟨P0, j + i, none⟩) (hcw P0 hP1 (cell_lt h))).trans h
                · rw [List.getElem?_drop] at hp
                  have hlt : j + i < f.n := by have := (List.getElem?_eq_some_iff.1 hp).1; rwa [d.journal_len f.n] at this
                  obtain ⟨v, h1, h2⟩ := HP.out.at_ (j + i) hlt
                  have h2 := h2.below HBB4.out
                  have e := journal_get (d := d) hlt
                  rw [List.getD_eq_getElem?_getD, hp] at e
                  refine ⟨v, by rw [List.getElem?_drop]; exact h1, ?_⟩
                  rw [show p = d.get (f.n + (j + i)) from e]
                  have hne : ∀ b, v.ownBlock = some b → w6.heap[b]? = w4.heap[b]? := fun b hb => hcw b (own_base h2.own b hb) (by
                    refine Nat.lt_of_not_le fun hle => own_block_lt h2.own b hle hb.symm)
                  have : PgAt w.heap.size w6 v (d.get (f.n + (j + i))) := ⟨h2.sh, h2.own.1, h2.own.2.elim .inl fun ⟨g, cap, cur, e, hB, hc, rest⟩ => .inr ⟨g, cap, cur, e, hB, (hne g (by rw [e]; rfl)).trans hc, rest⟩⟩
                  exact this.blank)
              clear ho hM0
              rw [hE]
              go_wp2_with fail
              have HTL := Lib.hid (show IsFile w6 fb B f ∧ IsDisk w6 B E.1 ∧ Chg B.has w w6 from HT6.out)
              have HLK := Lib.hid (show Looks w6 P0 off (xs.drop j) ((d.journal f.n).drop j) from HLK6.out)
              have HHV := Lib.hid (show BlankAt w6 (.slice none 0 0) [] from BlankAt.nil w6)
              obtain ⟨F0, hF0⟩ : ∃ F0, F0 = (f.n + j) := ⟨_, rfl⟩
              have HF0 := Lib.hid hF0
              have hml : ((d.journal f.n).drop j).length = M0 := (by rw [List.length_drop, d.journal_len f.n]; exact HM0.out.symm)
              have HML := Lib.hid hml
              have hm0 : M0 ≤ 4096 := (by have := HM0.out; omega)
              have hmf : 2 * f.n = M0 + F0 := by rw [hF0]; (have := HM0.out; omega)
              have hf0 : F0 ≤ 8192 := by omega

              have HOFF := Lib.hid (show ∀ b, w.heap.size ≤ b → B.off b from fun b hb hB => by
                have := HD.out.lt
                rcases hB with rfl | rfl | rfl <;> omega)
              have HZW := Lib.hid (show w.heap.size ≤ w6.heap.size from HTL.out.2.2.size)
              obtain ⟨i0, hi0, hz0, hz1, hz2⟩ := info_parts bs_info
              obtain ⟨j0, hj0, hy0, hy1, hy2⟩ := info_parts int_info
              obtain ⟨va, wa, hrunA, hownA, hgrA⟩ := run_append_full (P := Tryz.prog) (w := w6.alloc (.cells #[(.slice none 0 0)] 51)) w6.heap.size 28 28 51 i0 _ 1 24 Tryz.underlying28 hi0 hz0 hz1 hz2 rfl ⟨P0, off, none⟩ M0 (xs.drop j) (by rw [HLK.out.len, hml]; omega) (fun jq u hu => by
                have h := HLK.out.cells jq u hu
                exact (World.cell?_of_block (w := w6) (heap_alloc_old w6 _ (cell_lt h))).trans h) ⟨w6.heap.size, 0, none⟩ 1 1 [(.slice none 0 0)] rfl (new_cells w6 [(.slice none 0 0)] _) (by omega) (by unfold maxLen; omega) (by omega) (by simp)
              have hBA : Below w6.heap.size w6 wa := ((Below.refl _ _).alloc (Nat.le_refl _) _).trans ((below_grown hgrA).mono (by simp))
              have HRUN := Lib.hid hrunA
              have HOA := Lib.hid hownA
              have HBA := Lib.hid hBA
              have HLKA := Lib.hid (show ∀ jq p, (((d.journal f.n).drop j) ++ [[]])[jq]? = some p → ∃ v, ((xs.drop j) ++ [(.slice none 0 0)])[jq]? = some v ∧ BlankAt wa v p from fun jq p hp => by
                by_cases hj : jq < ((d.journal f.n).drop j).length
                · rw [List.getElem?_append_left hj] at hp
                  obtain ⟨v, h1, h2⟩ := HLK.out.at_ jq p hp
                  exact ⟨v, by rw [List.getElem?_append_left (by rw [HLK.out.len]; exact hj)]; exact h1, h2.below hBA⟩
                · rw [List.getElem?_append_right (by omega)] at hp
                  have hj2 : jq - ((d.journal f.n).drop j).length = 0 := by have := (List.getElem?_eq_some_iff.1 hp).1; rw [List.length_singleton] at this; omega
                  rw [hj2] at hp
                  obtain rfl : [] = p := by simpa using hp
                  exact ⟨(.slice none 0 0), by rw [List.getElem?_append_right (by rw [HLK.out.len]; omega), HLK.out.len, hj2]; rfl, HHV.out.below hBA⟩)
              have HPL := Lib.hid (show (((d.journal f.n).drop j) ++ [[]]).length = M0 + 1 by rw [List.length_append, hml]; rfl)
              clear hrunA hownA hgrA hBA hi0 hz0 hz1 hz2
              have HCL := Lib.hid (show ∀ l, DK.clean E.1 l = if l = [] then (E.1, 0) else DK.erase E.1 l from fun l => rfl)
              generalize hps : ((d.journal f.n).drop j) ++ [[]] = ps at *
              have HPSE := Lib.hid hps
              clear hps
              obtain ⟨av, cv, rfl⟩ := own_nil HOA.out
              have HMFF := Lib.hid hmf
              have hfb : 0 ≤ (F0 : Int) ∧ (F0 : Int) ≤ 8192 := by omega
              clear hF0 hmf hml
              go_wp2_with fail
              refine (pf_head HTL.out.1).mono ?_
              rintro e wh ⟨rfl, rfl⟩
              have hsub : 2 * (f.n : Int) - (M0 : Int) = (F0 : Int) := by have := HMFF.out; omega
              have hsubb : 0 ≤ 2 * (f.n : Int) - (M0 : Int) ∧ 2 * (f.n : Int) - (M0 : Int) ≤ 8192 := by have := HMFF.out; omega
              go_wp2_with (at_builtin; refine wpList_append_eq rfl _ _ 28 rfl _ HRUN.out ?_)
              clear hsub hsubb
              go_wp2
              go_loopg [14, 101] (M0 + 1) (fun gk t14 t101 wr => ∃ i : Nat, i ≤ M0 + 1 ∧ gk + i = M0 + 1 ∧ t101 = .int .i64 (i : Int) ∧ wr.ownsRow wa.heap.size 3 1 t14 (dirty F0 (ps.take i)).length ((dirty F0 (ps.take i)).map (Value.int .i64)) ∧ Below wa.heap.size wa wr)
              case atStart => exact ⟨0, by omega, by omega, rfl, World.ownsRow_nil _ _ _ _, Below.refl _ _⟩
              case round =>
                obtain ⟨i, hi, hgk, rfl, hO, hB'⟩ := hrel
                have HGK' := Lib.hid hgk
                have HO' := Lib.hid hO
                have HB' := Lib.hid hB'
                have HDL := Lib.hid (show (dirty F0 (ps.take i)).length ≤ 4097 from by
                  unfold dirty
                  rw [List.length_map]
                  exact Nat.le_trans (List.length_filter_le _ _) (by rw [List.length_range, List.length_take]; omega))
                clear hgk hO hB'
                obtain ⟨ad, cd, rfl⟩ := own_nil HO'.out
                by_cases hin' : i < M0 + 1
                · have hd' : decide ((i : Int) < ((M0 + 1 : Nat) : Int)) = true := by simp; omega
                  have k0' : (0 : Int) ≤ (i : Int) := by omega
                  have k1' : (i : Int) < ((M0 + 1 : Nat) : Int) := by omega
                  have k2' : (i : Int) ≤ 4096 := by omega
                  obtain ⟨p, hp⟩ : ∃ p, ps[i]? = some p := ⟨_, List.getElem?_eq_getElem (by have := HPL.out; omega)⟩
                  obtain ⟨v, hv, hbl⟩ := HLKA.out i p hp
                  obtain ⟨pa, pn, pc', rfl, hn1, hn2⟩ := hbl.sh
                  obtain ⟨ga, gc, ⟨aa, ea, haa⟩, hgb⟩ := own_block HOA.out
                  have ea2 := haa (by omega)
                  subst ea2
                  cases ea
                  obtain ⟨_, hgl, _, hcc, _⟩ := hgb (by omega)
                  have hcell : wr.cell? ⟨ga, i, none⟩ = some (.slice pa pn pc') := (HB'.out.cell (p := ⟨ga, i, none⟩) hgl).trans (hcc i _ hv)
                  have HBL := Lib.hid ((hbl.below HB'.out).data)
                  have HSN := Lib.hid (dirty_snoc F0 ps i p hp)
                  have HN12 := Lib.hid (And.intro hn1 hn2)
                  clear hp hv hbl haa hgb hcc hn1 hn2
                  go_wp2_with fail
                  refine (trim_call HBL.out HN12.out.1 HN12.out.2).mono ?_
                  rintro e w3 ⟨ta, tn, tc, rfl, htn, hb3⟩
                  have HB3' := Lib.hid (HB'.out.trans (hb3.mono HB'.out.size))
                  have HO3' := Lib.hid (own_at HO'.out hb3)
                  clear hb3 hcell
                  by_cases hblank : blank p = true
                  · obtain rfl := htn.2 hblank
                    have HSN2 := Lib.hid (show dirty F0 (ps.take (i + 1)) = dirty F0 (ps.take i) from by rw [HSN.out, if_pos hblank])
                    clear htn hblank
                    go_wp2
                    go_roundg (gk - 1)
                    case rel => exact ⟨i + 1, by omega, by have := HGK'.out; omega, by go_num, by rw [HSN2.out]; exact HO3'.out, HB3'.out⟩
                    case measure => have := HGK'.out; omega
                  · have htn0 : 0 < tn := Nat.pos_of_ne_zero fun e => hblank (htn.1 e)
                    have g3' : decide ((0 : Int) < (tn : Int)) = true := by simp; omega
                    have HSN2 := Lib.hid (show dirty F0 (ps.take (i + 1)) = dirty F0 (ps.take i) ++ [(F0 : Int) + (i : Int)] from by rw [HSN.out, if_neg hblank, Int.natCast_add])
                    have hsumb : 0 ≤ (F0 : Int) + (i : Int) ∧ (F0 : Int) + (i : Int) ≤ 100000 := by omega
                    have HDL2 := HDL.out
                    generalize dirty F0 (ps.take i) = ds at *
                    clear htn hblank
                    go_wp2_with (at_builtin; (refine wpList_append_sl rfl _ _ 33 rfl wa.heap.size 3 j0 _ 1 8 Tryz.underlying33 hj0 hy0 hy1 hy2 rfl (by decide) _ ds.length (ds.map (Value.int .i64)) rfl (HO3'.out.alloc _) _ 1 [.int .i64 ((F0 : Int) + (i : Int))] rfl (sl_at rfl) (fun _ _ h => by cases h) (one_val _ rfl) (by unfold maxLen; omega) (by omega) (by have := HB3'.out.size; simp; omega) ?_))
                    intro v4 w4 hown4 hg4 hb4
                    have HO4 := Lib.hid hown4
                    have HB4 := Lib.hid ((HB3'.out.alloc HB3'.out.size _).trans hb4)
                    clear hown4 hg4 hb4
                    go_wp2
                    go_roundg (gk - 1)
                    case rel => exact ⟨i + 1, by omega, by have := HGK'.out; omega, by go_num, by rw [HSN2.out, List.length_append, List.map_append]; exact HO4.out, HB4.out⟩
                    case measure => have := HGK'.out; omega
                · have hd' : decide ((i : Int) < ((M0 + 1 : Nat) : Int)) = false := by simp; omega
                  obtain rfl : i = M0 + 1 := by omega
                  have hta : ps.take (M0 + 1) = ps := List.take_of_length_le (by rw [HPL.out]; exact Nat.le_refl _)
                  rw [hta] at HO' HDL
                  have HRD := Lib.hid (show rInts.rd wr B.off [.slice ad (dirty F0 (ps.take (M0 + 1))).length cd] (dirty F0 ps) from by
                    rw [hta]
                    refine rd_own HO'.out (rarr_ints (fun x hx => ?_)) (fun b hb _ => HOFF.out b (by have := HZW.out; have := HBA.out.size; omega))
                    obtain ⟨kk, hkk, _, rfl⟩ := dirty_mem.1 hx
                    exact wf_small (by have := HPL.out; omega))
                  have HTF := Lib.hid (show IsFile wr fb B f ∧ IsDisk wr B E.1 ∧ Chg B.has w wr from by
                    have hb := HBA.out.trans (HB'.out.mono HBA.out.size)
                    exact ⟨HTL.out.1.keep (Chg.of_below hb (F := fun _ => False)) (fun h => h), HTL.out.2.1.below hb, HTL.out.2.2.trans (Chg.of_below hb)⟩)
                  have HRR2 := Lib.hid (show R = DK.clean E.1 (dirty F0 ps) from by rw [HR3.out, HF0.out])
                  rw [hta] at HRD
                  rw [hta]
                  have HDL2 := HDL.out
                  generalize dirty F0 ps = ds at *
                  clear hta
                  by_cases hds : ds.length = 0
                  · have g5 : decide ((ds.length : Int) = 0) = true := by simp [hds]
                    have HR5 := Lib.hid (show R = (E.1, 0) from by rw [HRR2.out, HCL.out, if_pos (List.eq_nil_of_length_eq_zero hds)])
                    go_wp2
                    go_ret
                    exact ⟨by rw [HR5.out]; rfl, by rw [HR5.out]; exact HTF.out.2.1, HTF.out.2.2⟩
                  · have g5 : decide ((ds.length : Int) = 0) = false := decide_eq_false (by omega)
                    have HR5 := Lib.hid (show R = DK.erase E.1 ds from by rw [HRR2.out, HCL.out, if_neg (fun e => hds (by rw [e]; rfl))])
                    go_wp2_with fail
                    refine (pf_erase HTF.out.1 HTF.out.2.1 _ ds HRD.out (by omega)).mono ?_
                    rintro e w6 ⟨rfl, hT6⟩
                    have HT6 := Lib.hid hT6
                    clear hT6
                    go_wp2
                    go_ret
                    exact ⟨by rw [HR5.out]; rfl, by rw [HR5.out]; exact HT6.out.1, HTF.out.2.2.trans HT6.out.2⟩
            · have HR3 := Lib.hid (show R = E from by rw [HR2.out]; exact if_neg hE)
              have gE : (E.2 != 0) = true := by simpa using hE
              go_wp2
              go_ret
              exact ⟨by rw [HR3.out]; rfl, by rw [HR3.out]; exact HT6.out.2.1, HT6.out.2.2⟩
      · have g0 : decide ((0 : Int) < (committed f.n (d.get (2 * f.n)) : Int)) = false := decide_eq_false (by omega)
        have HTL := Lib.hid (show IsFile w4 fb B f ∧ IsDisk w4 B d ∧ Chg B.has w w4 from ⟨HF.out.keep (Chg.of_below HB4.out (F := fun _ => False)) (fun h => h), HD.out.below HB4.out, Chg.of_below HB4.out⟩)
        have HLK := Lib.hid (show Looks w4 P0 0 xs (d.journal f.n) from HP.out.looks.below HBB4.out)
        have HHV := Lib.hid (show BlankAt w4 (.slice (some ⟨hg, 0, none⟩) 128 hc) (d.get (2 * f.n)) from HH.out.blank.below HBB4.out)
        obtain ⟨F0, hF0⟩ : ∃ F0, F0 = f.n := ⟨_, rfl⟩
        have HF0 := Lib.hid hF0
        have hml : (d.journal f.n).length = f.n := d.journal_len f.n
        have HML := Lib.hid hml
        have hm0 : f.n ≤ 4096 := hfew
        have hmf : 2 * f.n = f.n + F0 := by rw [hF0]; omega
        have hf0 : F0 ≤ 8192 := by omega

        have HOFF := Lib.hid (show ∀ b, w.heap.size ≤ b → B.off b from fun b hb hB => by
          have := HD.out.lt
          rcases hB with rfl | rfl | rfl <;> omega)
        have HZW := Lib.hid (show w.heap.size ≤ w4.heap.size from HTL.out.2.2.size)
        obtain ⟨i0, hi0, hz0, hz1, hz2⟩ := info_parts bs_info
        obtain ⟨j0, hj0, hy0, hy1, hy2⟩ := info_parts int_info
        obtain ⟨va, wa, hrunA, hownA, hgrA⟩ := run_append_full (P := Tryz.prog) (w := w4.alloc (.cells #[(.slice (some ⟨hg, 0, none⟩) 128 hc)] 51)) w4.heap.size 28 28 51 i0 _ 1 24 Tryz.underlying28 hi0 hz0 hz1 hz2 rfl ⟨P0, 0, none⟩ f.n xs (by rw [HLK.out.len, hml]; omega) (fun jq u hu => by
          have h := HLK.out.cells jq u hu
          exact (World.cell?_of_block (w := w4) (heap_alloc_old w4 _ (cell_lt h))).trans h) ⟨w4.heap.size, 0, none⟩ 1 1 [(.slice (some ⟨hg, 0, none⟩) 128 hc)] rfl (new_cells w4 [(.slice (some ⟨hg, 0, none⟩) 128 hc)] _) (by omega) (by unfold maxLen; omega) (by omega) (by simp)
        have hBA : Below w4.heap.size w4 wa := ((Below.refl _ _).alloc (Nat.le_refl _) _).trans ((below_grown hgrA).mono (by simp))
        have HRUN := Lib.hid hrunA
        have HOA := Lib.hid hownA
        have HBA := Lib.hid hBA
        have HLKA := Lib.hid (show ∀ jq p, ((d.journal f.n) ++ [(d.get (2 * f.n))])[jq]? = some p → ∃ v, (xs ++ [(.slice (some ⟨hg, 0, none⟩) 128 hc)])[jq]? = some v ∧ BlankAt wa v p from fun jq p hp => by
          by_cases hj : jq < (d.journal f.n).length
          · rw [List.getElem?_append_left hj] at hp
            obtain ⟨v, h1, h2⟩ := HLK.out.at_ jq p hp
            exact ⟨v, by rw [List.getElem?_append_left (by rw [HLK.out.len]; exact hj)]; exact h1, h2.below hBA⟩
          · rw [List.getElem?_append_right (by omega)] at hp
            have hj2 : jq - (d.journal f.n).length = 0 := by have := (List.getElem?_eq_some_iff.1 hp).1; rw [List.length_singleton] at this; omega
            rw [hj2] at hp
            obtain rfl : (d.get (2 * f.n)) = p := by simpa using hp
            exact ⟨(.slice (some ⟨hg, 0, none⟩) 128 hc), by rw [List.getElem?_append_right (by rw [HLK.out.len]; omega), HLK.out.len, hj2]; rfl, HHV.out.below hBA⟩)
        have HPL := Lib.hid (show ((d.journal f.n) ++ [(d.get (2 * f.n))]).length = f.n + 1 by rw [List.length_append, hml]; rfl)
        clear hrunA hownA hgrA hBA hi0 hz0 hz1 hz2
        have HCL := Lib.hid (show ∀ l, DK.clean d l = if l = [] then (d, 0) else DK.erase d l from fun l => rfl)
        generalize hps : (d.journal f.n) ++ [(d.get (2 * f.n))] = ps at *
        have HPSE := Lib.hid hps
        clear hps
        obtain ⟨av, cv, rfl⟩ := own_nil HOA.out
        have HMFF := Lib.hid hmf
        have hfb : 0 ≤ (F0 : Int) ∧ (F0 : Int) ≤ 8192 := by omega
        clear hF0 hmf hml
        go_wp2_with fail
        refine (pf_head HTL.out.1).mono ?_
        rintro e wh ⟨rfl, rfl⟩
        have hsub : 2 * (f.n : Int) - (f.n : Int) = (F0 : Int) := by have := HMFF.out; omega
        have hsubb : 0 ≤ 2 * (f.n : Int) - (f.n : Int) ∧ 2 * (f.n : Int) - (f.n : Int) ≤ 8192 := by have := HMFF.out; omega
        go_wp2_with (at_builtin; refine wpList_append_eq rfl _ _ 28 rfl _ HRUN.out ?_)
        clear hsub hsubb
        go_wp2
        go_loopg [14, 101] (f.n + 1) (fun gk t14 t101 wr => ∃ i : Nat, i ≤ f.n + 1 ∧ gk + i = f.n + 1 ∧ t101 = .int .i64 (i : Int) ∧ wr.ownsRow wa.heap.size 3 1 t14 (dirty F0 (ps.take i)).length ((dirty F0 (ps.take i)).map (Value.int .i64)) ∧ Below wa.heap.size wa wr)
        case atStart => exact ⟨0, by omega, by omega, rfl, World.ownsRow_nil _ _ _ _, Below.refl _ _⟩
        case round =>
          obtain ⟨i, hi, hgk, rfl, hO, hB'⟩ := hrel
          have HGK' := Lib.hid hgk
          have HO' := Lib.hid hO
          have HB' := Lib.hid hB'
          have HDL := Lib.hid (show (dirty F0 (ps.take i)).length ≤ 4097 from by
            unfold dirty
            rw [List.length_map]
            exact Nat.le_trans (List.length_filter_le _ _) (by rw [List.length_range, List.length_take]; omega))
          clear hgk hO hB'
          obtain ⟨ad, cd, rfl⟩ := own_nil HO'.out
          by_cases hin' : i < f.n + 1
          · have hd' : decide ((i : Int) < ((f.n + 1 : Nat) : Int)) = true := by simp; omega
            have k0' : (0 : Int) ≤ (i : Int) := by omega
            have k1' : (i : Int) < ((f.n + 1 : Nat) : Int) := by omega
            have k2' : (i : Int) ≤ 4096 := by omega
            obtain ⟨p, hp⟩ : ∃ p, ps[i]? = some p := ⟨_, List.getElem?_eq_getElem (by have := HPL.out; omega)⟩
            obtain ⟨v, hv, hbl⟩ := HLKA.out i p hp
            obtain ⟨pa, pn, pc', rfl, hn1, hn2⟩ := hbl.sh
            obtain ⟨ga, gc, ⟨aa, ea, haa⟩, hgb⟩ := own_block HOA.out
            have ea2 := haa (by omega)
            subst ea2
            cases ea
            obtain ⟨_, hgl, _, hcc, _⟩ := hgb (by omega)
            have hcell : wr.cell? ⟨ga, i, none⟩ = some (.slice pa pn pc') := (HB'.out.cell (p := ⟨ga, i, none⟩) hgl).trans (hcc i _ hv)
            have HBL := Lib.hid ((hbl.below HB'.out).data)
            have HSN := Lib.hid (dirty_snoc F0 ps i p hp)
            have HN12 := Lib.hid (And.intro hn1 hn2)
            clear hp hv hbl haa hgb hcc hn1 hn2
            go_wp2_with fail
            refine (trim_call HBL.out HN12.out.1 HN12.out.2).mono ?_
            rintro e w3 ⟨ta, tn, tc, rfl, htn, hb3⟩
            have HB3' := Lib.hid (HB'.out.trans (hb3.mono HB'.out.size))
            have HO3' := Lib.hid (own_at HO'.out hb3)
            clear hb3 hcell
            by_cases hblank : blank p = true
            · obtain rfl := htn.2 hblank
              have HSN2 := Lib.hid (show dirty F0 (ps.take (i + 1)) = dirty F0 (ps.take i) from by rw [HSN.out, if_pos hblank])
              clear htn hblank
              go_wp2
              go_roundg (gk - 1)
              case rel => exact ⟨i + 1, by omega, by have := HGK'.out; omega, by go_num, by rw [HSN2.out]; exact HO3'.out, HB3'.out⟩
              case measure => have := HGK'.out; omega
            · have htn0 : 0 < tn := Nat.pos_of_ne_zero fun e => hblank (htn.1 e)
              have g3' : decide ((0 : Int) < (tn : Int)) = true := by simp; omega
              have HSN2 := Lib.hid (show dirty F0 (ps.take (i + 1)) = dirty F0 (ps.take i) ++ [(F0 : Int) + (i : Int)] from by rw [HSN.out, if_neg hblank, Int.natCast_add])
              have hsumb : 0 ≤ (F0 : Int) + (i : Int) ∧ (F0 : Int) + (i : Int) ≤ 100000 := by omega
              have HDL2 := HDL.out
              generalize dirty F0 (ps.take i) = ds at *
              clear htn hblank
              go_wp2_with (at_builtin; (refine wpList_append_sl rfl _ _ 33 rfl wa.heap.size 3 j0 _ 1 8 Tryz.underlying33 hj0 hy0 hy1 hy2 rfl (by decide) _ ds.length (ds.map (Value.int .i64)) rfl (HO3'.out.alloc _) _ 1 [.int .i64 ((F0 : Int) + (i : Int))] rfl (sl_at rfl) (fun _ _ h => by cases h) (one_val _ rfl) (by unfold maxLen; omega) (by omega) (by have := HB3'.out.size; simp; omega) ?_))
              intro v4 w4 hown4 hg4 hb4
              have HO4 := Lib.hid hown4
              have HB4 := Lib.hid ((HB3'.out.alloc HB3'.out.size _).trans hb4)
              clear hown4 hg4 hb4
              go_wp2
              go_roundg (gk - 1)
              case rel => exact ⟨i + 1, by omega, by have := HGK'.out; omega, by go_num, by rw [HSN2.out, List.length_append, List.map_append]; exact HO4.out, HB4.out⟩
              case measure => have := HGK'.out; omega
          · have hd' : decide ((i : Int) < ((f.n + 1 : Nat) : Int)) = false := by simp; omega
            obtain rfl : i = f.n + 1 := by omega
            have hta : ps.take (f.n + 1) = ps := List.take_of_length_le (by rw [HPL.out]; exact Nat.le_refl _)
            rw [hta] at HO' HDL
            have HRD := Lib.hid (show rInts.rd wr B.off [.slice ad (dirty F0 (ps.take (f.n + 1))).length cd] (dirty F0 ps) from by
              rw [hta]
              refine rd_own HO'.out (rarr_ints (fun x hx => ?_)) (fun b hb _ => HOFF.out b (by have := HZW.out; have := HBA.out.size; omega))
              obtain ⟨kk, hkk, _, rfl⟩ := dirty_mem.1 hx
              exact wf_small (by have := HPL.out; omega))
            have HTF := Lib.hid (show IsFile wr fb B f ∧ IsDisk wr B d ∧ Chg B.has w wr from by
              have hb := HBA.out.trans (HB'.out.mono HBA.out.size)
              exact ⟨HTL.out.1.keep (Chg.of_below hb (F := fun _ => False)) (fun h => h), HTL.out.2.1.below hb, HTL.out.2.2.trans (Chg.of_below hb)⟩)
            have HRR2 := Lib.hid (show R = DK.clean d (dirty F0 ps) from by rw [HR.out, if_neg h0, HF0.out])
            rw [hta] at HRD
            rw [hta]
            have HDL2 := HDL.out
            generalize dirty F0 ps = ds at *
            clear hta
            by_cases hds : ds.length = 0
            · have g5 : decide ((ds.length : Int) = 0) = true := by simp [hds]
              have HR5 := Lib.hid (show R = (d, 0) from by rw [HRR2.out, HCL.out, if_pos (List.eq_nil_of_length_eq_zero hds)])
              go_wp2
              go_ret
              exact ⟨by rw [HR5.out]; rfl, by rw [HR5.out]; exact HTF.out.2.1, HTF.out.2.2⟩
            · have g5 : decide ((ds.length : Int) = 0) = false := decide_eq_false (by omega)
              have HR5 := Lib.hid (show R = DK.erase d ds from by rw [HRR2.out, HCL.out, if_neg (fun e => hds (by rw [e]; rfl))])
              go_wp2_with fail
              refine (pf_erase HTF.out.1 HTF.out.2.1 _ ds HRD.out (by omega)).mono ?_
              rintro e w6 ⟨rfl, hT6⟩
              have HT6 := Lib.hid hT6
              clear hT6
              go_wp2
              go_ret
              exact ⟨by rw [HR5.out]; rfl, by rw [HR5.out]; exact HT6.out.1, HTF.out.2.2.trans HT6.out.2⟩
end
end Go.Proofs.YtngddhoolijimaaGreatDoor
