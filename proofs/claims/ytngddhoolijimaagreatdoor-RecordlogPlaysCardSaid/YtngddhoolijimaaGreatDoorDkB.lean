/-
  The disk's New.
-/
import Derived.Test.YtngddhoolijimaaGreatDoorDkA
namespace Go.Proofs.YtngddhoolijimaaGreatDoor
open Go.RowKit
set_option linter.unusedVariables false

def zeroPage : Page := List.replicate 128 0

theorem pages_get {st : List Page} (hp : ∀ p ∈ st, p.length = 128) {i : Nat} {p : Page} (h : st[i]? = some p) {j : Nat} (hj : j < 128) : (st.flatMap pc)[i * 128 + j]? = (pc p)[j]? := by
  induction st generalizing i with
  | nil => cases h
  | cons u l ih =>
    have hu : (pc u).length = 128 := by rw [pc_len]; exact hp u (by simp)
    rw [List.flatMap_cons]
    cases i with
    | zero =>
      obtain rfl : u = p := by simpa using h
      rw [Nat.zero_mul, Nat.zero_add, List.getElem?_append_left (by rw [hu]; exact hj)]
    | succ i =>
      rw [List.getElem?_append_right (by rw [hu]; omega), hu, show (i + 1) * 128 + j - 128 = i * 128 + j by omega]
      exact ih (fun p hp' => hp p (by simp [hp'])) (by simpa using h)

theorem pages_len {st : List Page} (hp : ∀ p ∈ st, p.length = 128) : (st.flatMap pc).length = st.length * 128 := by
  induction st with
  | nil => rfl
  | cons u l ih =>
    rw [List.flatMap_cons, List.length_append, pc_len, hp u (by simp), ih (fun p hp' => hp p (by simp [hp'])), List.length_cons]; omega

theorem stable_of_own {w : World} {base g c n : Nat} {e : TypeId} {st : List Page} (hp : ∀ p ∈ st, p.length = 128) (hn : n = st.length) (h : w.ownsRow base e 128 (.slice (some ⟨g, 0, none⟩) n c) n (st.flatMap pc)) : Stable w g st := by
  subst hn
  have hlt : g < w.heap.size := by
    rcases h.2 with ⟨e, _⟩ | ⟨g', cap, cur, e, hb, hg, _⟩
    · cases e
    · simp only [Value.slice.injEq, Option.some.injEq, Addr.mk.injEq, and_true, true_and] at e
      obtain ⟨rfl, rfl⟩ := e
      exact (Array.getElem?_eq_some_iff.1 hg).1
  refine ⟨hlt, fun i p hi j u hu => ?_, fun j hj => ⟨?_, ?_⟩⟩
  · have hpl := hp p (List.mem_of_getElem? hi)
    have hj : j < 128 := by have := (List.getElem?_eq_some_iff.1 hu).1; rwa [pc_len, hpl] at this
    have hil := (List.getElem?_eq_some_iff.1 hi).1
    have h2 : i * 128 + j < st.length * 128 := by omega
    have hc : w.cell? ⟨g, i * 128 + j, none⟩ = (st.flatMap pc)[i * 128 + j]? := h.cellAt _ h2
    rw [hc, pages_get hp hi hj, hu]
  · rw [Nat.zero_add]
    have hc : w.cell? ⟨g, j, none⟩ = (st.flatMap pc)[j]? := h.cellAt _ hj
    rw [hc, List.getElem?_eq_getElem (by rw [pages_len hp]; exact hj)]; rfl
  · rw [Nat.zero_add]; exact h.frozenAt j

theorem made_pages (n : Nat) : (madeCells (pv zeroPage).cells (n * 128)).toList = (List.replicate n zeroPage).flatMap pc := by
  have hz : ∀ j, j < 128 → (pc zeroPage)[j]? = some (.int .u8 0) := by
    intro j hj
    rw [show pc zeroPage = List.replicate 128 (.int .u8 0) from rfl, List.getElem?_replicate, if_pos hj]
  apply List.ext_getElem?
  intro i
  unfold madeCells
  rw [Array.toList_map, Array.toList_range, List.getElem?_map]
  have hp : ∀ p ∈ List.replicate n zeroPage, p.length = 128 := fun p hp => by rw [List.eq_of_mem_replicate hp]; rfl
  by_cases hi : i < n * 128
  · have hq : i / 128 < n := by omega
    have hm : i % 128 < 128 := by omega
    have hr : (List.replicate n zeroPage)[i / 128]? = some zeroPage := by simp [hq]
    have hg := pages_get hp hr hm
    rw [show i / 128 * 128 + i % 128 = i by omega, hz _ hm] at hg
    rw [hg, List.getElem?_range hi, Option.map_some]
    have hs : (pv zeroPage).cells.size = 128 := rfl
    have hx := hz (i % 128) hm
    rw [hs]
    have : (pv zeroPage).cells[i % 128]? = some (.int .u8 0) := by
      rw [← Array.getElem?_toList]; exact hx
    have hlt : i % 128 < (pv zeroPage).cells.size := by rw [hs]; exact hm
    rw [Array.getElem?_eq_getElem hlt] at this
    generalize (pv zeroPage).cells = Zc at *
    simp [hlt]
    simpa using this
  · rw [List.getElem?_eq_none (by rw [List.length_range]; omega), List.getElem?_eq_none (by rw [pages_len hp, List.length_replicate]; omega)]
    rfl

theorem pg_info : (Tryz.prog.info? 68).map (fun i => (i.zero, i.size, i.bytes)) = some (some (pv zeroPage), 128, 128) := by kernel_rfl

/-- A disk that was made in this call. -/
def Made (w w' : World) (B : DB) (d : DK) : Prop := IsDisk w' B d ∧ Below w.heap.size w w' ∧ w.heap.size ≤ B.db ∧ w.heap.size ≤ B.sb ∧ w.heap.size ≤ B.mb

theorem made_disk {w w1 : World} {g k : Nat} {e : TypeId} (hk : k ≤ 4096) (hg : w.heap.size ≤ g) (hB : Below w.heap.size w w1) (hown : w1.ownsRow w.heap.size e 128 (.slice (some ⟨g, 0, none⟩) k k) k (madeCells (pv zeroPage).cells (k * 128)).toList) (t : TypeId) :
    Made w ((w1.alloc (.map #[] 0)).alloc (.cells #[.slice (some ⟨g, 0, none⟩) k k, .map (some w1.heap.size), .bool false, .int .i64 0] t)) ⟨w1.heap.size + 1, g, w1.heap.size⟩ (DK.new k) := by
  have hp : ∀ p ∈ List.replicate k zeroPage, p.length = 128 := fun p hp => by rw [List.eq_of_mem_replicate hp]; rfl
  rw [made_pages] at hown
  have hS : Stable w1 g (List.replicate k zeroPage) := stable_of_own hp (by simp) hown
  have hc1 : Chg (fun _ => False) w1 (w1.alloc (.map #[] 0)) := Chg.of_below ((Below.refl _ _).alloc (Nat.le_refl _) _)
  have hc2 : Chg (fun _ => False) (w1.alloc (.map #[] 0)) ((w1.alloc (.map #[] 0)).alloc (.cells #[.slice (some ⟨g, 0, none⟩) k k, .map (some w1.heap.size), .bool false, .int .i64 0] t)) := Chg.of_below ((Below.refl _ _).alloc (Nat.le_refl _) _)
  have hgl := hS.1
  have hs := hB.size
  refine ⟨⟨DK.Ok.new hk, ?_, ?_, ?_, ⟨k, ?_, ?_⟩, ?_, ?_, ?_, fun j => ?_, ?_, ?_⟩, ?_, ?_, hg, hs⟩
  · show w1.heap.size + 1 ≠ g; omega
  · show w1.heap.size + 1 ≠ w1.heap.size; omega
  · show g ≠ w1.heap.size; omega
  · simp only [DK.new, List.length_replicate]; go_simp
  · simp [DK.new]
  · go_simp
  · show World.cell? _ _ = some (.bool false); go_simp
  · show World.cell? _ _ = some (.int .i64 0); go_simp
  · go_simp
  · exact (hS.keep hc1 (fun h => h)).keep hc2 (fun h => h)
  · exact (buffer_made w1).keep hc2 (fun h => h)
  · exact (below_alloc (below_alloc hB _) _)
  · show w.heap.size ≤ w1.heap.size + 1; omega

set_option maxRecDepth 100000 in
set_option maxHeartbeats 2000000 in
theorem dk_new (n : Int) (k : Nat) (hk : min (max n 0) 4096 = (k : Int)) (w : World) : Calls Tryz.prog 4 #[.int .i64 n] w fun e w' => ∃ B : DB, e = .returned B.ptr ∧ Made w w' B (DK.new k) := by
  obtain ⟨i0, hi0, hz0, hz1, hz2⟩ := info_parts pg_info
  have hmm := @run_makeMap Tryz.prog
  have hk4 : k ≤ 4096 := by omega
  have hcs : n < 0 ∨ (0 ≤ n ∧ n ≤ 4096) ∨ 4096 < n := by omega
  rw [show pv zeroPage = .agg (pc zeroPage).toArray from rfl] at hz0
  have HM := (fun (w1 : World) hB hown => @made_disk w w1 w.heap.size k 68 hk4 (Nat.le_refl _) hB hown 42)
  rw [show (pv zeroPage).cells = (pc zeroPage).toArray from rfl] at HM
  generalize (pc zeroPage).toArray = Zc at hz0 HM
  have HM := Lib.hid HM
  have HK := Lib.hid hk
  have HK4 := Lib.hid hk4
  clear hk hk4
  rcases hcs with hc | ⟨hc, hd⟩ | hc
  · go_enter Tryz.func4, Tryz.ntmps4
    go_wp2_with (refine wpList_make_full _ rfl _ _ 39 rfl w.heap.size 68 i0 _ 128 Tryz.underlying39 hi0 hz0 hz1 _ _ _ _ k rfl rfl ?c1 ?c2 ?c3 ?c4 ?c5 ?_)
    case c1 => have := HK.out; omega
    case c2 => have := HK.out; omega
    case c3 => rw [hz2]; have := HK4.out; omega
    case c4 => unfold maxLen; have := HK4.out; omega
    case c5 => exact Nat.le_refl _
    intro w1 hown hg1
    have H := Lib.hid (HM.out w1 (below_grown hg1) hown)
    clear hown hg1 HM
    go_wp2
    go_ret
    exact ⟨_, rfl, H.out⟩
  · go_enter Tryz.func4, Tryz.ntmps4
    go_wp2_with (refine wpList_make_full _ rfl _ _ 39 rfl w.heap.size 68 i0 _ 128 Tryz.underlying39 hi0 hz0 hz1 _ _ _ _ k rfl rfl ?c1 ?c2 ?c3 ?c4 ?c5 ?_)
    case c1 => have := HK.out; omega
    case c2 => have := HK.out; omega
    case c3 => rw [hz2]; have := HK4.out; omega
    case c4 => unfold maxLen; have := HK4.out; omega
    case c5 => exact Nat.le_refl _
    intro w1 hown hg1
    have H := Lib.hid (HM.out w1 (below_grown hg1) hown)
    clear hown hg1 HM
    go_wp2
    go_ret
    exact ⟨_, rfl, H.out⟩
  · go_enter Tryz.func4, Tryz.ntmps4
    go_wp2_with (refine wpList_make_full _ rfl _ _ 39 rfl w.heap.size 68 i0 _ 128 Tryz.underlying39 hi0 hz0 hz1 _ _ _ _ k rfl rfl ?c1 ?c2 ?c3 ?c4 ?c5 ?_)
    case c1 => have := HK.out; omega
    case c2 => have := HK.out; omega
    case c3 => rw [hz2]; have := HK4.out; omega
    case c4 => unfold maxLen; have := HK4.out; omega
    case c5 => exact Nat.le_refl _
    intro w1 hown hg1
    have H := Lib.hid (HM.out w1 (below_grown hg1) hown)
    clear hown hg1 HM
    go_wp2
    go_ret
    exact ⟨_, rfl, H.out⟩

end Go.Proofs.YtngddhoolijimaaGreatDoor
