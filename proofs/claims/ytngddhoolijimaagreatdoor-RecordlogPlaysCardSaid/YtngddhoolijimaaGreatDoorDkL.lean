/-
  DiskStable, plainly; strings of data; data copied into a page.
-/
import Derived.Test.YtngddhoolijimaaGreatDoorDkK
import Derived.Test.YtngddhoolijimaaGreatDoorStl
import Derived.Laws.IdiomStrings
import Derived.Laws.BytesArg
namespace Go.Proofs.YtngddhoolijimaaGreatDoor
open Go.RowKit Go.Maps
set_option linter.unusedVariables false

/-- A text of data. -/
def txt (l : List UInt8) : Value := .string ⟨l.toArray⟩

theorem convert_data {w : World} {v : Value} {l : List UInt8} (h : Data w v l) : (convert 51 9 v).run Tryz.prog w = .ok (txt l) w := by
  rcases h.2 with ⟨h0, a, c, rfl⟩ | ⟨b, off, c, rfl, hnc, hl, hc⟩
  · obtain rfl : l = [] := List.eq_nil_of_length_eq_zero h0
    cases a with
    | none => exact run_convert_bytes_nil w 51 5 Tryz.underlying51 Tryz.underlying5 0 c 9 Tryz.underlying9
    | some a => exact run_convert_bytes_back w 51 9 5 a c [] Tryz.underlying51 Tryz.underlying5 Tryz.underlying9 (fun j hj => by simp at hj)
  · exact run_convert_bytes_back w 51 9 5 ⟨b, off, none⟩ c l Tryz.underlying51 Tryz.underlying5 Tryz.underlying9 (fun j hj => by
      rw [Addr.add_mid]
      exact hc j _ (pc_get (List.getElem?_eq_getElem hj)))

theorem data_of_range {w : World} {g off n c : Nat} {l : List UInt8} (h : w.rangeAt g off (pc l)) (hg : g < w.heap.size) (hn : n = l.length) (hc : n ≤ c) : Data w (.slice (some ⟨g, off, none⟩) n c) l := by
  subst hn
  exact ⟨by rw [pc_len]; omega, .inr ⟨g, off, c, rfl, hc, hg, fun j u hu => h j u hu⟩⟩

/-- Data is copied into a page of zeros. -/
theorem copy_page {w : World} {v : Value} {data : List UInt8} {g c : Nat} (h : Data w v data) (hd : data.length ≤ 128) (hz : w.rangeAt g 0 (pc zeroPage)) (hth : w.there g 0 128) :
    ∃ w', (∀ ty, (Builtin.copy_ #[51, 51] ty #[.slice (some ⟨g, 0, none⟩) 128 c, v]).run Tryz.prog w = .ok (goInt data.length) w') ∧ w'.rangeAt g 0 (pc (pad data)) ∧ w'.there g 0 128 ∧ Chg (fun b => b = g) w w' := by
  have hi : (Tryz.prog.info? 5).map (·.size) = some 1 := by kernel_rfl
  have hfin : ∀ w' : World, (∀ j, j < data.length → ∀ b, data[j]? = some b → w'.cell? ⟨g, j, none⟩ = some (.int .u8 (b.toNat : Int))) → (∀ j, data.length ≤ j → w'.cell? ⟨g, j, none⟩ = w.cell? ⟨g, j, none⟩) → w'.rangeAt g 0 (pc (pad data)) := by
    intro w' h1 h2 j u hu
    rw [Nat.zero_add]
    obtain ⟨b, hb, rfl⟩ := pc_inv hu
    unfold pad at hb
    by_cases hj : j < data.length
    · rw [List.getElem?_append_left hj] at hb
      exact h1 j hj b hb
    · rw [List.getElem?_append_right (by omega), List.getElem?_replicate] at hb
      split at hb
      · cases hb
        have := hz j (.int .u8 0) (by rw [show pc zeroPage = List.replicate 128 (.int .u8 0) from rfl, List.getElem?_replicate, if_pos (by omega)])
        rw [Nat.zero_add] at this
        rw [h2 j (by omega)]; exact this
      · cases hb
  rcases h.2 with ⟨h0, a, c', rfl⟩ | ⟨b, off, c', rfl, hnc, hl, hc⟩
  · obtain rfl : data = [] := List.eq_nil_of_length_eq_zero h0
    refine ⟨w, fun ty => ?_, hfin w (fun j hj => by simp at hj) (fun j _ => rfl), hth, Chg.refl _ _⟩
    rw [run_copy_none _ _ _ _ 5 _ _ _ _ _ _ Tryz.underlying51 hi (by simp)]; rfl
  · have hcl : (pc data).length = data.length := pc_len data
    refine ⟨w.setCells g 0 (pc data), fun ty => ?_, hfin _ (fun j hj x hx => ?_) (fun j hj => ?_), World.there_setCells hth _ _ _, Chg.setCells _ _ _ rfl⟩
    · rw [run_copy_cells _ _ _ _ 5 _ _ _ _ _ _ _ (pc data) Tryz.underlying51 hi (by rw [hcl]; show _ = min _ _; omega)
        (fun j u hu => by rw [Addr.add_mid]; exact hc j u hu)
        (fun j hj => (hth j (by omega)).1) (fun j hj => (hth j (by omega)).2) (pc_one data), hcl]
    · have := World.cell?_setCells_in g (pc data) 0 w (fun i hi => (hth i (by omega)).1) j (by omega)
      rw [Nat.zero_add] at this
      rw [this, ← pc_get hx, List.getElem?_eq_getElem]
    · exact World.cell?_setCells_out _ _ _ _ _ (fun _ _ => .inr (by rw [hcl, Nat.zero_add]; exact hj))

theorem arm_nat (d : DK) (m : Nat) : d.arm (m : Int) = { d with fuse := m } := by
  have : (max (m : Int) 0).toNat = m := by omega
  unfold DK.arm
  rw [this]

def st1 (old : List UInt8) : DK := ((DK.new 2).write 0 old).1
def st2 (old : List UInt8) : DK := ((st1 old).write 1 old).1
def st3 (old : List UInt8) : DK := (st2 old).sync.1
def st4 (old data : List UInt8) : DK := ((st3 old).write 1 data).1
def st5 (old data : List UInt8) (m : Nat) : DK := (st4 old data).arm m
def st6 (old data : List UInt8) (m : Nat) : DK := (st5 old data m).sync.1
def st7 (old data : List UInt8) (m : Nat) (keep : List Int) : DK := (st6 old data m).crash keep
def st8 (old data : List UInt8) (m : Nat) (keep : List Int) : DK := (st7 old data m keep).restart

section
variable {old data : List UInt8} (ho : old.length ≤ 128) (hd : data.length ≤ 128)
include ho
theorem st1_eq : (DK.new 2).write 0 old = (⟨[zeroPage, zeroPage], fun j => if j = 0 then some (pad old) else none, false, 0⟩, 0) := by
  unfold DK.write
  rw [if_neg (by decide), if_neg (by omega)]
  rfl
theorem st2_eq : (st1 old).write 1 old = (⟨[zeroPage, zeroPage], fun j => if j = 1 then some (pad old) else if j = 0 then some (pad old) else none, false, 0⟩, 0) := by
  unfold st1
  rw [st1_eq ho]
  unfold DK.write
  rw [if_neg (by simp [DK.chk]), if_neg (by omega)]
  rfl
theorem st3_eq : (st2 old).sync = (⟨[pad old, pad old], fun _ => none, false, 0⟩, 0) := by
  unfold st2
  rw [st2_eq ho]
  simp [DK.sync, DK.burn, DK.flush, over]
include hd
theorem st4_eq : (st3 old).write 1 data = (⟨[pad old, pad old], fun j => if j = 1 then some (pad data) else none, false, 0⟩, 0) := by
  unfold st3
  rw [st3_eq ho]
  unfold DK.write
  rw [if_neg (by simp [DK.chk]), if_neg (by omega)]
  rfl
theorem st6_one : st6 old data 1 = ⟨[pad old, pad old], fun j => if j = 1 then some (pad data) else none, true, 0⟩ := by
  unfold st6 st5 st4
  rw [st4_eq ho hd, arm_nat]
  simp [ DK.sync, DK.burn]
theorem st6_other {m : Nat} (hm : m = 0 ∨ m = 2) : ∃ f, st6 old data m = ⟨[pad old, pad data], fun _ => none, false, f⟩ := by
  unfold st6 st5 st4
  rw [st4_eq ho hd, arm_nat]
  rcases hm with rfl | rfl
  · exact ⟨0, by simp [DK.sync, DK.burn, DK.flush, over]⟩
  · exact ⟨1, by simp [DK.sync, DK.burn, DK.flush, over]⟩
theorem st8_one (keep : List Int) : st8 old data 1 keep = ⟨[pad old, torn (keepOf keep 0) (pad data) (pad old)], fun _ => none, false, 0⟩ := by
  unfold st8 st7
  rw [st6_one ho hd]
  simp [DK.restart, DK.crash, fall, rank, List.range_succ]
theorem st8_other {m : Nat} (hm : m = 0 ∨ m = 2) (keep : List Int) : st8 old data m keep = ⟨[pad old, pad data], fun _ => none, false, 0⟩ := by
  obtain ⟨f, hf⟩ := st6_other ho hd hm
  unfold st8 st7
  rw [hf]
  simp [DK.restart, DK.crash, fall]


/-- What the law comes to: the texts that it compares. -/
theorem stable_plain (m : Nat) (hm : m < 3) (keep : List Int) : (st6 old data m).down = decide (m = 1) ∧ (st8 old data m keep).chk 0 = 0 ∧ (st8 old data m keep).chk 1 = 0 ∧ (st8 old data m keep).read 0 = pad old ∧
    ((st8 old data m keep).read 1).length = 128 ∧ ∀ K, K = (if m = 1 then keepOf keep 0 else 128) → K ≤ 128 ∧ ((st8 old data m keep).read 1).take K = (pad data).take K ∧ ((st8 old data m keep).read 1).drop K = (pad old).drop K := by
  have hpo := pad_len ho
  have hpd := pad_len hd
  by_cases h1 : m = 1
  · subst h1
    have hk := keepOf_le keep 0
    rw [st8_one ho hd keep, st6_one ho hd]
    have hr : DK.read ⟨[pad old, torn (keepOf keep 0) (pad data) (pad old)], fun _ => none, false, 0⟩ 1 = torn (keepOf keep 0) (pad data) (pad old) := rfl
    refine ⟨rfl, rfl, rfl, rfl, by rw [hr]; exact torn_len hk hpd hpo, ?_⟩
    rintro K rfl
    rw [if_pos rfl, hr]
    have hl : ((pad data).take (keepOf keep 0)).length = keepOf keep 0 := by rw [List.length_take]; omega
    refine ⟨hk, ?_, ?_⟩
    · unfold torn
      rw [List.take_append_of_le_length (by omega), List.take_of_length_le (by omega)]
    · unfold torn
      rw [List.drop_append_of_le_length (by omega), List.drop_of_length_le (by omega), List.nil_append]
  · have h2 : m = 0 ∨ m = 2 := by omega
    obtain ⟨f, hf⟩ := st6_other ho hd h2
    rw [st8_other ho hd h2 keep, hf]
    have hr : DK.read ⟨[pad old, pad data], fun _ => none, false, 0⟩ 1 = pad data := rfl
    refine ⟨by simp [h1], rfl, rfl, rfl, by rw [hr]; exact hpd, ?_⟩
    rintro K rfl
    rw [if_neg h1, hr]
    exact ⟨Nat.le_refl _, rfl, by rw [List.drop_of_length_le (by omega), List.drop_of_length_le (by omega)]⟩
end

end Go.Proofs.YtngddhoolijimaaGreatDoor
