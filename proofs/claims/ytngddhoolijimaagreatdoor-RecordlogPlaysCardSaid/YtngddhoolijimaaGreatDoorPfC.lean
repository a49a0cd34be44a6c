/-
  The head of an update: encodeHead, committed.
-/
import Derived.Test.YtngddhoolijimaaGreatDoorPfB
import Derived.Lib.SlBytesConst
namespace Go.Proofs.YtngddhoolijimaaGreatDoor
open Go.RowKit
set_option linter.unusedVariables false

theorem row_new (w : World) (base n : Nat) (t : TypeId) (size : Nat) (xs : List Value) (hb : base ≤ w.heap.size) (hm : n ≤ maxLen) (hs : xs.length = n * size) :
    (w.alloc (.cells xs.toArray t)).ownsRow base t size (.slice (some ⟨w.heap.size, 0, none⟩) n n) n xs :=
  ⟨hs, .inr ⟨w.heap.size, n, xs.toArray, rfl, hb, heap_alloc_new w _, Nat.le_refl _, hm, by simpa using hs, by rw [← hs]; simp⟩⟩

theorem own_le {w : World} {base base' size n : Nat} {e : TypeId} {v : Value} {xs : List Value} (h : w.ownsRow base e size v n xs) (hb : base' ≤ base) : w.ownsRow base' e size v n xs :=
  ⟨h.1, h.2.elim Or.inl (fun ⟨g, cap, cur, hv, hg, r⟩ => Or.inr ⟨g, cap, cur, hv, Nat.le_trans hb hg, r⟩)⟩

theorem xor_mask {n : Nat} (h : n < 4294967296) : bits .xor .u32 (n : Int) 2779096485 = ((n ^^^ headMask : Nat) : Int) := by
  have e : bits .xor .u32 (n : Int) 2779096485 = IntKind.u32.wrap (((BitVec.ofInt 32 (n : Int)) ^^^ (BitVec.ofInt 32 2779096485)).toNat : Int) := rfl
  have h1 : (BitVec.ofInt 32 (n : Int)).toNat = n := by rw [BitVec.toNat_ofInt]; omega
  have h2 : (BitVec.ofInt 32 2779096485).toNat = headMask := by decide
  have h3 : n ^^^ headMask < 2 ^ 32 := Nat.xor_lt_two_pow (by omega) (by decide)
  rw [e, BitVec.toNat_xor, h1, h2, u32_id (by omega)]

set_option maxRecDepth 100000 in
theorem pf_encodeHead (n : Nat) (hn : n ≤ 100000) (w : World) : Calls Tryz.prog 61 #[.int .i64 (n : Int)] w fun e w' => ∃ v', e = .returned v' ∧ w'.ownsRow w.heap.size 5 1 v' 12 (pc (headOf n)) ∧ Below w.heap.size w w' := by
  have hx := xor_mask (n := n) (by omega)
  have hw : 0 ≤ (n : Int) ∧ (n : Int) ≤ 100000 := by omega
  have hxl : n ^^^ headMask < 4294967296 := Nat.xor_lt_two_pow (n := 32) (by omega) (by decide)
  have HN := Lib.hid (And.intro hn hxl)
  generalize hm : n ^^^ headMask = m at *
  have HM := Lib.hid hm
  clear hm hn hxl
  have kc := fun (w : World) (C : Array Value) (n c : Nat) => Lib.run_convert_bytes_const (P := Tryz.prog) w 51 5 C n c Tryz.underlying51 Tryz.underlying5
  go_enter Tryz.func61, Tryz.ntmps61
  go_wp2_with fail
  have h0 : (w.alloc (.cells (pc [65, 78, 80, 70]).toArray 5 (4, 5))).rangeAt w.heap.size 0 (pc [65, 78, 80, 70]) := fun j u hu => by
    rw [Nat.zero_add]
    exact (World.cell?_alloc_mark w (pc [65, 78, 80, 70]).toArray 5 (4, 5) j).trans (by simpa using hu)
  refine (pf_appendWord_full _ 0 [65, 78, 80, 70] n _ h0 (by simp) (by have := HN.out; omega) (by simp)).mono ?_
  rintro e w1 ⟨v1, rfl, ho1, hb1⟩
  have HO1 := Lib.hid ho1
  have HB1 := Lib.hid hb1
  clear ho1 hb1 h0
  go_wp2_with fail
  refine (pf_appendWord w.heap.size _ 8 ([65, 78, 80, 70] ++ four n) m _ (own_le HO1.out (by simp)) (by have := HN.out; omega) (by have := HB1.out.size; simp at this; omega) (by omega)).mono ?_
  rintro e w2 ⟨v2, rfl, ho2, _, hb2⟩
  have HO2 := Lib.hid ho2
  have HB2 := Lib.hid hb2
  clear ho2 hb2
  go_wp2
  go_ret
  refine ⟨_, rfl, by have := HO2.out; rw [← HM.out] at this; exact this, (below_new HB1.out).trans HB2.out⟩

theorem txt_eq (a b : List UInt8) : ((⟨a.toArray⟩ : ByteArray).toList == (⟨b.toArray⟩ : ByteArray).toList) = decide (a = b) := by
  rw [Lib.toList_data, Lib.toList_data]
  by_cases h : a = b
  · subst h; simp
  · rw [decide_eq_false h]
    rw [beq_eq_false_iff_ne]
    exact h

set_option maxRecDepth 100000 in
theorem bytes_equal {w : World} {v1 v2 : Value} {l1 l2 : List UInt8} (h1 : Data w v1 l1) (h2 : Data w v2 l2) : Calls Tryz.prog 56 #[v1, v2] w fun e w' => e = .returned (.bool (decide (l1 = l2))) ∧ Below w.heap.size w w' := by
  have c1 := convert_data h1
  have c2 := convert_data h2
  have HT := Lib.hid (txt_eq l1 l2)
  obtain ⟨a1, k1, rfl⟩ := Sl.len h1
  obtain ⟨a2, k2, rfl⟩ := Sl.len h2
  unfold txt at c1 c2
  clear h1 h2
  generalize decide (l1 = l2) = r at *
  generalize (⟨l1.toArray⟩ : ByteArray) = s1 at *
  generalize (⟨l2.toArray⟩ : ByteArray) = s2 at *
  go_enter Tryz.func56, Tryz.ntmps56
  go_wp2
  go_ret
  exact ⟨by rw [← HT.out]; rfl, Below.refl _ _⟩

theorem bytes_equal_q {w : World} {v1 v2 : Value} {l1 l2 : List UInt8} {q : Bool} (hq : Hid (q = decide (l1 = l2))) (h1 : Data w v1 l1) (h2 : Data w v2 l2) : Calls Tryz.prog 56 #[v1, v2] w fun e w' => e = .returned (.bool q) ∧ Below w.heap.size w w' := by
  rw [hq.out]; exact bytes_equal h1 h2

section
variable {w : World} {fb : Nat} {B : DB} {f : PF}

set_option maxRecDepth 100000 in
set_option maxHeartbeats 1000000 in
theorem pf_committed (h : IsFile w fb B f) (g off c : Nat) (head : List UInt8) (hl : 12 ≤ head.length) (hc : head.length ≤ c) (hd : Data w (.slice (some ⟨g, off, none⟩) head.length c) head) :
    Calls Tryz.prog 43 #[pfPtr fb, .slice (some ⟨g, off, none⟩) head.length c] w fun e w' => e = .returned (.int .i64 (committed f.n head : Int)) ∧ Below w.heap.size w w' := by
  obtain ⟨sv, hs1, hs2, hs3⟩ := cut_from (z := 4) (g := g) (off := off) (n := head.length) (c := c) (K := 4) rfl (by omega) hc
  obtain ⟨sh, ht1, ht2, ht3⟩ := cut_to (z := 12) (g := g) (off := off) (n := head.length) (c := c) (K := 12) rfl (by omega) hc
  have hS := hs3 w head rfl hd
  have hwl := wordAt_lt (head.drop 4)
  have HC := Lib.hid (show committed f.n head = if wordAt (head.drop 4) < 1 ∨ f.n < wordAt (head.drop 4) ∨ head.take 12 ≠ headOf (wordAt (head.drop 4)) then 0 else wordAt (head.drop 4) from rfl)
  have HW := Lib.hid (pf_word sv (head.drop 4) w hS (by rw [List.length_drop]; omega))
  have HT := Lib.hid ht3
  have HF := Lib.hid h
  have HD := Lib.hid hd
  have hfew := h.few
  clear hS hs1 ht1 h hd hs3 ht3
  generalize wordAt (head.drop 4) = m at *
  unfold pfPtr
  go_enter Tryz.func43, Tryz.ntmps43
  go_wp2_with fail
  refine HW.out.mono ?_
  rintro e w1 ⟨rfl, hb1⟩
  have HB1 := Lib.hid hb1
  have hn1 := (HF.out.keep (Chg.of_below hb1 (F := fun _ => False)) (fun h => h)).hn
  clear hb1
  have hm0 : 0 ≤ (m : Int) ∧ (m : Int) < 4294967296 := by omega
  go_wp2_with fail
  by_cases h12 : m < 1 ∨ f.n < m
  · refine region_all (by kernel_rfl) (by kernel_rfl) ?_
    intro wD hWD
    have k1 : wD.cell? ⟨fb, 1, none⟩ = some (.int .i64 (f.n : Int)) := by rw [hWD]; exact hn1
    have HB2 := Lib.hid (show Below w.heap.size w wD from by rw [hWD]; exact HB1.out.drew)
    have HR := Lib.hid (show committed f.n head = 0 from by rw [HC.out]; rcases h12 with h | h <;> simp [h])
    clear hWD hn1 HB1 HW HC
    by_cases h1 : m < 1
    · have g1 : decide ((m : Int) < 1) = true := by simp; omega
      clear h12
      iterate 3 (refine stillH_want (by kernel_rfl) (fun K hK => ?_); go_simp; refine hK _ ?_; clear hK K)
      iterate 6 (refine stillH_skip (by kernel_rfl) (fun K hK => ?_); refine hK _ ?_; clear hK K)
      iterate 2 (refine stillH_want (by kernel_rfl) (fun K hK => ?_); go_simp; refine hK _ ?_; clear hK K)
      iterate 6 (refine stillH_skip (by kernel_rfl) (fun K hK => ?_); refine hK _ ?_; clear hK K)
      (refine stillH_want (by kernel_rfl) (fun K hK => ?_); go_simp; refine hK _ ?_; clear hK K)
      refine stillH_nil ?_
      go_wp2
      go_ret
      exact ⟨by rw [HR.out]; rfl, HB2.out⟩
    · have g1 : decide ((m : Int) < 1) = false := by simp; omega
      have h2 : f.n < m := h12.resolve_left h1
      have g2 : decide ((f.n : Int) < (m : Int)) = true := by simp; omega
      have g3 : decide (f.n < m) = true := by simp; omega
      clear h12
      iterate 11 (refine stillH_want (by kernel_rfl) (fun K hK => ?_); go_simp; refine hK _ ?_; clear hK K)
      iterate 6 (refine stillH_skip (by kernel_rfl) (fun K hK => ?_); refine hK _ ?_; clear hK K)
      (refine stillH_want (by kernel_rfl) (fun K hK => ?_); go_simp; refine hK _ ?_; clear hK K)
      refine stillH_nil ?_
      go_wp2
      go_ret
      exact ⟨by rw [HR.out]; rfl, HB2.out⟩
  · have h1 : ¬ m < 1 := fun h => h12 (.inl h)
    have h2 : ¬ f.n < m := fun h => h12 (.inr h)
    have hm4 : m ≤ 100000 := by omega
    have HM4 := Lib.hid hm4
    have g1 : decide ((m : Int) < 1) = false := by simp; omega
    have g2 : decide ((f.n : Int) < (m : Int)) = false := by simp; omega
    have g3 : decide (f.n < m) = false := by simp; omega
    have HR := Lib.hid (show committed f.n head = if head.take 12 = headOf m then m else 0 from by rw [HC.out]; by_cases h3 : head.take 12 = headOf m <;> simp [h1, h2, h3])
    have hsh : Data w1.drew sh (head.take 12) := (HT.out w head rfl HD.out).keep HB1.out.drew
    have INIT := Lib.hid (show w1.drew.cell? ⟨fb, 1, none⟩ = some (.int .i64 (f.n : Int)) ∧ Data w1.drew sh (head.take 12) ∧ Below w.heap.size w w1.drew from ⟨hn1, hsh, HB1.out.drew⟩)
    have KEEP := Lib.hid (show ∀ W1 W2 : World, (W1.cell? ⟨fb, 1, none⟩ = some (.int .i64 (f.n : Int)) ∧ Data W1 sh (head.take 12) ∧ Below w.heap.size w W1) → Below W1.heap.size W1 W2 → (W2.cell? ⟨fb, 1, none⟩ = some (.int .i64 (f.n : Int)) ∧ Data W2 sh (head.take 12) ∧ Below w.heap.size w W2) from
      fun W1 W2 ⟨a0, a1, hB⟩ hb => ⟨(hb.cell (p := ⟨fb, 1, none⟩) (cell_lt a0)).trans a0, a1.keep hb, hB.trans (hb.mono hB.size)⟩)
    obtain ⟨q, hq⟩ : ∃ q, q = decide (head.take 12 = headOf m) := ⟨_, rfl⟩
    have HQ := Lib.hid hq
    clear hsh hn1 HC HW HD hm4 h12 h1 h2 hq
    go_region_held3 (fun W => W.cell? ⟨fb, 1, none⟩ = some (.int .i64 (f.n : Int)) ∧ Data W sh (head.take 12) ∧ Below w.heap.size w W) (first | assumption | exact INIT.out | exact KEEP.out _ _ (by assumption) (by assumption) | exact KEEP.out _ _ (by assumption) ((Below.refl _ _).alloc (Nat.le_refl _) _))
      (first | (go_at_call 61; refine (pf_encodeHead m HM4.out _).mono ?_; rintro e w2 ⟨v2, rfl, ho2, hb2⟩) | (go_at_call 56; refine (bytes_equal_q HQ ?_ ?_).mono ?_; (first | exact INIT.out.2.1 | exact (‹_ ∧ Data _ sh (head.take 12) ∧ _›).2.1); exact Sl.of_own ho2; rintro e w3 ⟨rfl, hb3⟩) | fail)
    have HB5 := Lib.hid (‹_ ∧ Data w3 sh (head.take 12) ∧ _›).2.2
    clear hb2 hb3 ho2
    have HR2 := Lib.hid (show committed f.n head = if q then m else 0 from by rw [HR.out, HQ.out]; simp)
    clear HR HQ
    cases q with
    | true =>
      go_wp2
      go_ret
      exact ⟨by rw [HR2.out]; rfl, HB5.out⟩
    | false =>
      go_wp2
      go_ret
      exact ⟨by rw [HR2.out]; rfl, HB5.out⟩
end

end Go.Proofs.YtngddhoolijimaaGreatDoor
