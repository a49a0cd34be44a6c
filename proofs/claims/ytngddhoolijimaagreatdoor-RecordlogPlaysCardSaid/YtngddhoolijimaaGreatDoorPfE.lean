/-
  erase.
-/
import Derived.Test.YtngddhoolijimaaGreatDoorPfD
namespace Go.Proofs.YtngddhoolijimaaGreatDoor
open Go.RowKit
set_option linter.unusedVariables false

theorem zip_nil (ns : List Int) : ns.zip (List.replicate ns.length ([] : List UInt8)) = ns.map fun i => (i, []) := by
  induction ns with
  | nil => rfl
  | cons a l ih => rw [List.length_cons, List.replicate_succ, List.zip_cons_cons, ih, List.map_cons]

/-- A row of the call's own, read as a slice. -/
theorem rd_own {α : Type} {R : Rd α} {w : World} {F : Nat → Prop} {base n : Nat} {t : TypeId} {v : Value} {xs : List Value} {l : List α} (h : w.ownsRow base t R.size v n xs) (hr : (rArr R n).rd w F xs l) (hF : ∀ b, base ≤ b → b < w.heap.size → F b) : (rSlice R).rd w F [v] l := by
  obtain ⟨_, hl, he⟩ := hr
  rcases h.2 with ⟨rfl, rfl⟩ | ⟨g, cap, cur, rfl, hb, hg, hnc, hcm, _⟩
  · exact ⟨none, 0, 0, rfl, hl.symm, Nat.le_refl _, Nat.zero_le _, .inl rfl⟩
  · have hlt := (Array.getElem?_eq_some_iff.1 hg).1
    refine ⟨_, n, cap, rfl, hl.symm, hnc, hcm, .inr ⟨g, 0, rfl, hF g hb hlt, hlt, fun i x hx => ⟨_, fun j u hu => ?_, he i x hx⟩⟩⟩
    have hcell : ∀ j u, xs[j]? = some u → w.cell? ((⟨g, 0, none⟩ : Addr).add j) = some u := h.cells (g := g) rfl
    have e : ∀ k, (⟨g, 0, none⟩ : Addr).add k = ⟨g, k, none⟩ := by intro k; unfold Addr.add; split <;> simp_all
    rw [List.getElem?_take] at hu
    split at hu
    · rw [List.getElem?_drop] at hu
      have := hcell _ u hu
      rw [e] at this
      rw [Nat.zero_add]; exact this
    · cases hu

theorem rarr_nil {α : Type} (R : Rd α) (w : World) (F : Nat → Prop) : (rArr R 0).rd w F [] [] := ⟨by simp, rfl, fun i x h => by simp at h⟩

theorem rarr_snoc {α : Type} {R : Rd α} {w : World} {F : Nat → Prop} {n : Nat} {xs ys : List Value} {l : List α} {y : α} (h : (rArr R n).rd w F xs l) (hy : R.rd w F ys y) : (rArr R (n + 1)).rd w F (xs ++ ys) (l ++ [y]) := by
  obtain ⟨h1, h2, h3⟩ := h
  have hyl := R.len hy
  refine ⟨by rw [List.length_append, h1, hyl, Nat.add_mul, Nat.one_mul], by simp [h2], fun i x hx => ?_⟩
  by_cases hi : i < n
  · rw [List.getElem?_append_left (by omega)] at hx
    have := h3 i x hx
    have hlen : i * R.size + R.size ≤ xs.length := by
      rw [h1]
      have : (i + 1) * R.size ≤ n * R.size := Nat.mul_le_mul_right _ (by omega)
      rwa [Nat.add_mul, Nat.one_mul] at this
    rw [List.drop_append_of_le_length (by omega), List.take_append_of_le_length (by rw [List.length_drop]; omega)]
    exact this
  · have hi2 : i = n := by
      have := (List.getElem?_eq_some_iff.1 hx).1
      simp at this; omega
    subst hi2
    rw [List.getElem?_append_right (by omega)] at hx
    have : x = y := by simpa [h2] using hx.symm
    subst this
    rw [← h1, List.drop_left, List.take_of_length_le (by omega)]
    exact hy

/-- Nil slices. -/
theorem rarr_nils (n : Nat) (w : World) (F : Nat → Prop) : (rArr (rSlice rByte) n).rd w F (List.replicate n (.slice none 0 0)) (List.replicate n []) := by
  have hs : (rSlice rByte).size = 1 := rfl
  refine ⟨by simp [hs], by simp, fun i x hx => ?_⟩
  have hi : i < n := by have := (List.getElem?_eq_some_iff.1 hx).1; simpa using this
  have hx' : x = [] := by simpa [hi] using hx.symm
  subst hx'
  refine ⟨none, 0, 0, ?_, rfl, Nat.le_refl _, Nat.zero_le _, .inl rfl⟩
  rw [hs, Nat.mul_one, List.drop_replicate]
  obtain ⟨m, hm⟩ : ∃ m, n - i = m + 1 := ⟨n - i - 1, by omega⟩
  rw [hm]
  rfl

theorem bs_info : (Tryz.prog.info? 51).map (fun i => (i.zero, i.size, i.bytes)) = some (some (.slice none 0 0), 1, 24) := by kernel_rfl

theorem made_one (v : Value) (n : Nat) : (madeCells #[v] n).toList = List.replicate n v := by
  unfold madeCells
  apply List.ext_getElem?
  intro i
  by_cases h : i < n
  · simp [h, Nat.mod_one]
  · simp [h]

section
variable {w : World} {fb : Nat} {B : DB} {f : PF} {d : DK}

set_option maxRecDepth 100000 in
theorem pf_erase (h : IsFile w fb B f) (hd : IsDisk w B d) (nv : Value) (ns : List Int) (hn : rInts.rd w B.off [nv] ns) (hlm : ns.length ≤ 1000000) :
    Calls Tryz.prog 47 #[pfPtr fb, nv] w fun e w' => e = .returned (.int .i64 (d.erase ns).2) ∧ Turns B w w' (d.erase ns).1 := by
  obtain ⟨na, nc, rfl, _⟩ := ints_get hn
  have HN := Lib.hid hn
  have HF := Lib.hid h
  have HD := Lib.hid hd
  have hb : 0 ≤ (ns.length : Int) ∧ (ns.length : Int) ≤ 1000000 := by omega
  clear hn h hd
  unfold pfPtr
  go_enter Tryz.func47, Tryz.ntmps47
  obtain ⟨i0, hi0, hz0, hz1, hz2⟩ := info_parts bs_info
  go_wp2_with (refine wpList_make_full _ rfl _ _ 28 rfl w.heap.size 51 i0 _ 1 Tryz.underlying28 hi0 hz0 hz1 _ _ _ _ ns.length rfl rfl ?c1 ?c2 ?c3 ?c4 ?c5 ?_)
  case c1 => omega
  case c2 => omega
  case c3 => rw [hz2]; omega
  case c4 => unfold maxLen; omega
  case c5 => simp
  intro w1 hown hg1
  have hB1 := below_grown hg1
  rw [made_one] at hown
  have HN1 := Lib.hid (rInts.keep (kept_chg (Chg.of_below hB1 (F := B.has))) hB1.size HN.out)
  have HS1 := Lib.hid (show rBs.rd w1 B.off [_] (List.replicate ns.length []) from rd_own hown (rarr_nils _ _ _) (fun b hb _ hB => by
    have := HD.out.lt
    rcases hB with rfl | rfl | rfl <;> omega))
  have HF1 := Lib.hid (HF.out.keep (Chg.of_below hB1 (F := fun _ => False)) (fun h => h))
  have HD1 := Lib.hid (HD.out.below hB1)
  have HB1 := Lib.hid hB1
  clear hown hg1 hB1 HN HF HD
  go_wp2_with fail
  refine (pf_write HF1.out HD1.out _ _ ns (List.replicate ns.length []) HN1.out HS1.out (by simp) (by omega)).mono ?_
  rintro e w2 ⟨rfl, hT⟩
  rw [zip_nil] at hT ⊢
  have HT := Lib.hid hT
  clear hT
  go_wp2
  go_ret
  exact ⟨rfl, HT.out.1, (Chg.of_below HB1.out).trans HT.out.2⟩
end
end Go.Proofs.YtngddhoolijimaaGreatDoor
