/-
  Package datefmt, the small functions: number, digits and the reference's digits.
-/
import Derived.Test.YtllbfbgkeajkeaaCivilC
import Derived.Laws.DeepStrings4
import Derived.Laws.IdiomStrings
import Derived.Laws.Concat
import Derived.Lib.Bytealg
namespace Go.Proofs.Ytllbfbgkeajkeaa
open Go.RowKit

/-- The number of a digit of a text. -/
def dgv (s : ByteArray) (j : Nat) : Int := ((s.data.toList.getD j 0).toNat : Int)

theorem dgv_get (s : ByteArray) (j : Nat) (h : j < s.size) : ((s[j]'h).toNat : Int) = dgv s j := by
  unfold dgv
  have e : s.data.toList[j]? = some s[j] := by
    obtain ⟨d⟩ := s
    have h' : j < d.size := h
    show d.toList[j]? = some d[j]
    simp [h']
  rw [List.getD_eq_getElem?_getD, e]; rfl

/-- The value of the first j digits. -/
def nv (s : ByteArray) : Nat → Int
  | 0 => 0
  | j + 1 => 10 * nv s j + (dgv s j - 48)

/-- The first j bytes are digits. -/
def dgs (s : ByteArray) : Nat → Bool
  | 0 => true
  | j + 1 => dgs s j && (decide (48 ≤ dgv s j) && decide (dgv s j ≤ 57))

theorem dgs_at {s : ByteArray} {n j : Nat} (h : dgs s n = true) (hj : j < n) : 48 ≤ dgv s j ∧ dgv s j ≤ 57 := by
  induction n with
  | zero => omega
  | succ n ih =>
    simp only [dgs, Bool.and_eq_true, decide_eq_true_eq] at h
    by_cases e : j = n
    · subst e; exact h.2
    · exact ih h.1 (by omega)

theorem dgs_no {s : ByteArray} {n j : Nat} (hj : j < n) (h : ¬ (48 ≤ dgv s j ∧ dgv s j ≤ 57)) : dgs s n = false := by
  cases e : dgs s n with
  | false => rfl
  | true => exact absurd (dgs_at e hj) h

theorem nv_bd {s : ByteArray} : ∀ {n : Nat}, dgs s n = true → 0 ≤ nv s n ∧ nv s n < 10 ^ n := by
  intro n
  induction n with
  | zero => intro _; simp [nv]
  | succ n ih =>
    intro h
    simp only [dgs, Bool.and_eq_true, decide_eq_true_eq] at h
    have := ih h.1
    obtain ⟨_, h1, h2⟩ := h
    simp only [nv]
    rw [Int.pow_succ]
    omega

/-- What number returns. -/
def numR (s : ByteArray) : Value := if dgs s s.size = true then .tuple #[.int .i64 (nv s s.size), .bool true] else .tuple #[.int .i64 0, .bool false]

set_option maxRecDepth 100000 in
theorem datefmt_number (s : ByteArray) (w : World) (hs : s.size ≤ 4) :
    Calls Try.prog 20 #[.string s] w fun e w' => e = .returned (numR s) ∧ Below w.heap.size w w' := by
  generalize hv : numR s = V
  have HV := Lib.hid hv
  clear hv
  go_enter Try.func20, Try.ntmps20
  go_wp2
  go_loopw [4, 8] (fun n i wr => ∃ k : Nat, k ≤ s.size ∧ i = .int .i64 k ∧ n = .int .i64 (nv s k) ∧ Hid (dgs s k = true) ∧ Below w.heap.size w wr) (fun _ i _ => s.size - (intOf i).toNat)
  case atStart => exact ⟨0, by omega, rfl, rfl, Lib.hid rfl, Below.refl _ _⟩
  case round =>
    obtain ⟨k, hk, rfl, rfl, HD, hbr⟩ := hrel
    by_cases hlt : (k : Int) < (s.size : Int)
    · have hlt' : k < s.size := by omega
      have HC := Lib.hid (dgv_get s k hlt')
      have hb := nv_bd HD.out
      have hp : (10 : Int) ^ k ≤ 1000 := by
        have : k = 0 ∨ k = 1 ∨ k = 2 ∨ k = 3 := by omega
        rcases this with rfl | rfl | rfl | rfl <;> decide
      have HB := Lib.hid (show 0 ≤ nv s k ∧ nv s k < 1000 from ⟨hb.1, by omega⟩)
      clear hb hp
      by_cases h1 : 48 ≤ ((s[k]'hlt').toNat : Int)
      · by_cases h2 : ((s[k]'hlt').toNat : Int) ≤ 57
        · go_wp2
          go_roundw
          case rel =>
            have := HB.out
            have hc := HC.out
            have hd : dgs s (k + 1) = true := by simp only [dgs, HD.out, Bool.true_and, Bool.and_eq_true, decide_eq_true_eq]; omega
            refine ⟨k + 1, by omega, rfl, ?_, Lib.hid hd, hbr⟩
            simp only [nv]
            have hdd : 48 ≤ dgv s k ∧ dgv s k ≤ 57 := by omega
            rw [hc]
            rw [IntWalk.wrap64_in (10 * nv s k) (by omega), IntWalk.wrap64_in _ (by omega)]
          case measure => simp [intOf]; omega
        · go_wp2
          go_ret2
          have hc := HC.out
          have hd := dgs_no (s := s) (n := s.size) hlt' (by omega)
          refine ⟨?_, hbr⟩
          rw [← HV.out, numR, hd]; rfl
      · go_wp2
        go_ret2
        have hc := HC.out
        have hd := dgs_no (s := s) (n := s.size) hlt' (by omega)
        refine ⟨?_, hbr⟩
        rw [← HV.out, numR, hd]; rfl
    · obtain rfl : k = s.size := by omega
      go_wp2
      go_ret2
      refine ⟨?_, hbr⟩
      rw [← HV.out, numR, HD.out]; rfl

/-- A digit. -/
def dig (x : Int) : UInt8 := UInt8.ofNat (48 + x).toNat

theorem dig_toNat {x : Int} (h : 0 ≤ x ∧ x ≤ 9) : ((dig x).toNat : Int) = 48 + x := by
  unfold dig
  rw [UInt8.toNat_ofNat']
  omega

def D4 (n : Int) : List UInt8 := [dig (n / 10 / 10 / 10 % 10), dig (n / 10 / 10 % 10), dig (n / 10 % 10), dig (n % 10)]
def D2 (n : Int) : List UInt8 := [dig (n / 10 % 10), dig (n % 10)]

theorem dm10 {n : Int} (h : 0 ≤ n ∧ n < 10000) : n.tmod 10 = n % 10 ∧ n.tdiv 10 = n / 10 ∧ (0 ≤ n / 10 ∧ n / 10 < 10000) ∧ 0 ≤ n % 10 ∧ n % 10 ≤ 9 := by
  obtain ⟨h, h'⟩ := h
  rw [Int.tmod_eq_emod_of_nonneg h, Int.tdiv_eq_ediv_of_nonneg h]
  omega

set_option maxRecDepth 100000 in
theorem datefmt_digits4 (n : Int) (w : World) (h0 : 0 ≤ n) (h1 : n < 10000) :
    Calls Try.prog 29 #[.int .i64 n, .int .i64 4] w fun e w' => e = .returned (.string ⟨(D4 n).toArray⟩) ∧ Below w.heap.size w w' := by
  generalize hv : (Value.string ⟨(D4 n).toArray⟩) = V
  have HV := Lib.hid hv
  clear hv
  obtain ⟨r3, q3, p3, x3, y3⟩ := dm10 (n := n) (by omega)
  have HG3 := Lib.hid (dig_toNat ⟨x3, y3⟩)
  obtain ⟨n3, hn3⟩ : ∃ x, n / 10 = x := ⟨_, rfl⟩
  obtain ⟨d3, hd3⟩ : ∃ x, n % 10 = x := ⟨_, rfl⟩
  rw [hn3] at q3 p3
  have hw3 : wrap64 n3 = n3 := IntWalk.wrap64_in _ (by omega)
  rw [hd3] at r3 x3 y3 HG3
  have HD3 := Lib.hid hd3
  clear hd3
  have HN3 := Lib.hid hn3
  clear hn3
  obtain ⟨r2, q2, p2, x2, y2⟩ := dm10 (n := n3) (by omega)
  have HG2 := Lib.hid (dig_toNat ⟨x2, y2⟩)
  obtain ⟨n2, hn2⟩ : ∃ x, n3 / 10 = x := ⟨_, rfl⟩
  obtain ⟨d2, hd2⟩ : ∃ x, n3 % 10 = x := ⟨_, rfl⟩
  rw [hn2] at q2 p2
  have hw2 : wrap64 n2 = n2 := IntWalk.wrap64_in _ (by omega)
  rw [hd2] at r2 x2 y2 HG2
  have HD2 := Lib.hid hd2
  clear hd2
  have HN2 := Lib.hid hn2
  clear hn2
  obtain ⟨r1, q1, p1, x1, y1⟩ := dm10 (n := n2) (by omega)
  have HG1 := Lib.hid (dig_toNat ⟨x1, y1⟩)
  obtain ⟨n1, hn1⟩ : ∃ x, n2 / 10 = x := ⟨_, rfl⟩
  obtain ⟨d1, hd1⟩ : ∃ x, n2 % 10 = x := ⟨_, rfl⟩
  rw [hn1] at q1 p1
  have hw1 : wrap64 n1 = n1 := IntWalk.wrap64_in _ (by omega)
  rw [hd1] at r1 x1 y1 HG1
  have HD1 := Lib.hid hd1
  clear hd1
  have HN1 := Lib.hid hn1
  clear hn1
  obtain ⟨r0, q0, p0, x0, y0⟩ := dm10 (n := n1) (by omega)
  have HG0 := Lib.hid (dig_toNat ⟨x0, y0⟩)
  obtain ⟨d0, hd0⟩ : ∃ x, n1 % 10 = x := ⟨_, rfl⟩
  rw [hd0] at r0 x0 y0 HG0
  have HD0 := Lib.hid hd0
  clear hd0
  obtain ⟨n0, hn0⟩ : ∃ x, n1 / 10 = x := ⟨_, rfl⟩
  rw [hn0] at q0 p0
  have hw0 : wrap64 n0 = n0 := IntWalk.wrap64_in _ (by omega)
  clear hn0
  have hmk : ∀ w, (Instr.makeSlice 57 (.int .i64 4) (.int .i64 4)).run Try.prog w = .ok (.slice (some ⟨w.heap.size, 0, none⟩) 4 4) (w.alloc (.cells #[Value.int .u8 0, Value.int .u8 0, Value.int .u8 0, Value.int .u8 0] 5)) := fun _ => by kernel_rfl
  have hback : ∀ (w' : World), w'.cell? ⟨w.heap.size, 0, none⟩ = some (.int .u8 (48 + d0)) → w'.cell? ⟨w.heap.size, 1, none⟩ = some (.int .u8 (48 + d1)) → w'.cell? ⟨w.heap.size, 2, none⟩ = some (.int .u8 (48 + d2)) → w'.cell? ⟨w.heap.size, 3, none⟩ = some (.int .u8 (48 + d3)) → (convert 57 9 (.slice (some ⟨w.heap.size, 0, none⟩) 4 4)).run Try.prog w' = .ok (.string ⟨#[dig d0, dig d1, dig d2, dig d3]⟩) w' := by
    intro w' c0 c1 c2 c3
    have := run_convert_bytes_back (P := Try.prog) w' 57 9 5 ⟨w.heap.size, 0, none⟩ 4 [dig d0, dig d1, dig d2, dig d3] Try.underlying57 Try.underlying5 Try.underlying9 (fun j hj => by
      have e : (⟨w.heap.size, 0, none⟩ : Addr).add j = ⟨w.heap.size, j, none⟩ := by unfold Addr.add; split <;> simp_all
      rw [e]
      have hj' : j = 0 ∨ j = 1 ∨ j = 2 ∨ j = 3 := by simp at hj; omega
      rcases hj' with rfl | rfl | rfl | rfl
      · rw [c0]; show _ = some (Value.int .u8 ((dig _).toNat : Int)); rw [HG0.out]
      · rw [c1]; show _ = some (Value.int .u8 ((dig _).toNat : Int)); rw [HG1.out]
      · rw [c2]; show _ = some (Value.int .u8 ((dig _).toNat : Int)); rw [HG2.out]
      · rw [c3]; show _ = some (Value.int .u8 ((dig _).toNat : Int)); rw [HG3.out]
      )
    exact this
  go_enter Try.func29, Try.ntmps29
  go_wp2
  go_loopw [0, 6] (fun m i wr => (i = .int .i64 (3) ∧ m = .int .i64 n ∧ wr = w.alloc (.cells #[Value.int .u8 0, Value.int .u8 0, Value.int .u8 0, Value.int .u8 0] 5)) ∨ (i = .int .i64 (2) ∧ m = .int .i64 n3 ∧ wr = w.alloc (.cells #[Value.int .u8 0, Value.int .u8 0, Value.int .u8 0, Value.int .u8 (48 + d3)] 5)) ∨ (i = .int .i64 (1) ∧ m = .int .i64 n2 ∧ wr = w.alloc (.cells #[Value.int .u8 0, Value.int .u8 0, Value.int .u8 (48 + d2), Value.int .u8 (48 + d3)] 5)) ∨ (i = .int .i64 (0) ∧ m = .int .i64 n1 ∧ wr = w.alloc (.cells #[Value.int .u8 0, Value.int .u8 (48 + d1), Value.int .u8 (48 + d2), Value.int .u8 (48 + d3)] 5)) ∨ (i = .int .i64 (-1) ∧ m = .int .i64 n0 ∧ wr = w.alloc (.cells #[Value.int .u8 (48 + d0), Value.int .u8 (48 + d1), Value.int .u8 (48 + d2), Value.int .u8 (48 + d3)] 5))) (fun _ i _ => (intOf i + 1).toNat)
  case atStart => exact .inl ⟨rfl, rfl, rfl⟩
  case round =>
    rcases hrel with ⟨rfl, rfl, rfl⟩ | ⟨rfl, rfl, rfl⟩ | ⟨rfl, rfl, rfl⟩ | ⟨rfl, rfl, rfl⟩ | ⟨rfl, rfl, rfl⟩
    · go_wp2
      go_roundw
      case rel => simp
      case measure => simp [intOf]
    · go_wp2
      go_roundw
      case rel => simp
      case measure => simp [intOf]
    · go_wp2
      go_roundw
      case rel => simp
      case measure => simp [intOf]
    · go_wp2
      go_roundw
      case rel => simp
      case measure => simp [intOf]
    · have hb2 := hback (w.alloc (.cells #[Value.int .u8 (48 + d0), Value.int .u8 (48 + d1), Value.int .u8 (48 + d2), Value.int .u8 (48 + d3)] 5)) (by go_simp) (by go_simp) (by go_simp) (by go_simp)
      go_wp2
      go_ret
      refine ⟨?_, (Below.refl _ _).alloc (Nat.le_refl _) _⟩
      rw [← HV.out]
      simp only [D4, HN1.out, HN2.out, HN3.out, HD0.out, HD1.out, HD2.out, HD3.out]
      rfl

set_option maxRecDepth 100000 in
theorem datefmt_digits2 (n : Int) (w : World) (h0 : 0 ≤ n) (h1 : n < 100) :
    Calls Try.prog 29 #[.int .i64 n, .int .i64 2] w fun e w' => e = .returned (.string ⟨(D2 n).toArray⟩) ∧ Below w.heap.size w w' := by
  generalize hv : (Value.string ⟨(D2 n).toArray⟩) = V
  have HV := Lib.hid hv
  clear hv
  obtain ⟨r1, q1, p1, x1, y1⟩ := dm10 (n := n) (by omega)
  have HG1 := Lib.hid (dig_toNat ⟨x1, y1⟩)
  obtain ⟨n1, hn1⟩ : ∃ x, n / 10 = x := ⟨_, rfl⟩
  obtain ⟨d1, hd1⟩ : ∃ x, n % 10 = x := ⟨_, rfl⟩
  rw [hn1] at q1 p1
  have hw1 : wrap64 n1 = n1 := IntWalk.wrap64_in _ (by omega)
  rw [hd1] at r1 x1 y1 HG1
  have HD1 := Lib.hid hd1
  clear hd1
  have HN1 := Lib.hid hn1
  clear hn1
  obtain ⟨r0, q0, p0, x0, y0⟩ := dm10 (n := n1) (by omega)
  have HG0 := Lib.hid (dig_toNat ⟨x0, y0⟩)
  obtain ⟨d0, hd0⟩ : ∃ x, n1 % 10 = x := ⟨_, rfl⟩
  rw [hd0] at r0 x0 y0 HG0
  have HD0 := Lib.hid hd0
  clear hd0
  obtain ⟨n0, hn0⟩ : ∃ x, n1 / 10 = x := ⟨_, rfl⟩
  rw [hn0] at q0 p0
  have hw0 : wrap64 n0 = n0 := IntWalk.wrap64_in _ (by omega)
  clear hn0
  have hmk : ∀ w, (Instr.makeSlice 57 (.int .i64 2) (.int .i64 2)).run Try.prog w = .ok (.slice (some ⟨w.heap.size, 0, none⟩) 2 2) (w.alloc (.cells #[Value.int .u8 0, Value.int .u8 0] 5)) := fun _ => by kernel_rfl
  have hback : ∀ (w' : World), w'.cell? ⟨w.heap.size, 0, none⟩ = some (.int .u8 (48 + d0)) → w'.cell? ⟨w.heap.size, 1, none⟩ = some (.int .u8 (48 + d1)) → (convert 57 9 (.slice (some ⟨w.heap.size, 0, none⟩) 2 2)).run Try.prog w' = .ok (.string ⟨#[dig d0, dig d1]⟩) w' := by
    intro w' c0 c1
    have := run_convert_bytes_back (P := Try.prog) w' 57 9 5 ⟨w.heap.size, 0, none⟩ 2 [dig d0, dig d1] Try.underlying57 Try.underlying5 Try.underlying9 (fun j hj => by
      have e : (⟨w.heap.size, 0, none⟩ : Addr).add j = ⟨w.heap.size, j, none⟩ := by unfold Addr.add; split <;> simp_all
      rw [e]
      have hj' : j = 0 ∨ j = 1 := by simp at hj; omega
      rcases hj' with rfl | rfl
      · rw [c0]; show _ = some (Value.int .u8 ((dig _).toNat : Int)); rw [HG0.out]
      · rw [c1]; show _ = some (Value.int .u8 ((dig _).toNat : Int)); rw [HG1.out]
      )
    exact this
  go_enter Try.func29, Try.ntmps29
  go_wp2
  go_loopw [0, 6] (fun m i wr => (i = .int .i64 (1) ∧ m = .int .i64 n ∧ wr = w.alloc (.cells #[Value.int .u8 0, Value.int .u8 0] 5)) ∨ (i = .int .i64 (0) ∧ m = .int .i64 n1 ∧ wr = w.alloc (.cells #[Value.int .u8 0, Value.int .u8 (48 + d1)] 5)) ∨ (i = .int .i64 (-1) ∧ m = .int .i64 n0 ∧ wr = w.alloc (.cells #[Value.int .u8 (48 + d0), Value.int .u8 (48 + d1)] 5))) (fun _ i _ => (intOf i + 1).toNat)
  case atStart => exact .inl ⟨rfl, rfl, rfl⟩
  case round =>
    rcases hrel with ⟨rfl, rfl, rfl⟩ | ⟨rfl, rfl, rfl⟩ | ⟨rfl, rfl, rfl⟩
    · go_wp2
      go_roundw
      case rel => simp
      case measure => simp [intOf]
    · go_wp2
      go_roundw
      case rel => simp
      case measure => simp [intOf]
    · have hb2 := hback (w.alloc (.cells #[Value.int .u8 (48 + d0), Value.int .u8 (48 + d1)] 5)) (by go_simp) (by go_simp)
      go_wp2
      go_ret
      refine ⟨?_, (Below.refl _ _).alloc (Nat.le_refl _) _⟩
      rw [← HV.out]
      simp only [D2, HN1.out, HD0.out, HD1.out]
      rfl

set_option maxRecDepth 100000 in
theorem ref_digits4 (n : Int) (w : World) (h0 : 0 ≤ n) (h1 : n < 10000) :
    Calls Try.prog 31 #[.int .i64 n, .int .i64 4] w fun e w' => e = .returned (.string ⟨(D4 n).toArray⟩) ∧ Below w.heap.size w w' := by
  generalize hv : (Value.string ⟨(D4 n).toArray⟩) = V
  have HV := Lib.hid hv
  clear hv
  obtain ⟨r3, q3, p3, x3, y3⟩ := dm10 (n := n) (by omega)
  have HG3 := Lib.hid (dig_toNat ⟨x3, y3⟩)
  obtain ⟨n3, hn3⟩ : ∃ x, n / 10 = x := ⟨_, rfl⟩
  obtain ⟨d3, hd3⟩ : ∃ x, n % 10 = x := ⟨_, rfl⟩
  rw [hn3] at q3 p3
  have hw3 : wrap64 n3 = n3 := IntWalk.wrap64_in _ (by omega)
  rw [hd3] at r3 x3 y3 HG3
  have HD3 := Lib.hid hd3
  clear hd3
  have HN3 := Lib.hid hn3
  clear hn3
  obtain ⟨r2, q2, p2, x2, y2⟩ := dm10 (n := n3) (by omega)
  have HG2 := Lib.hid (dig_toNat ⟨x2, y2⟩)
  obtain ⟨n2, hn2⟩ : ∃ x, n3 / 10 = x := ⟨_, rfl⟩
  obtain ⟨d2, hd2⟩ : ∃ x, n3 % 10 = x := ⟨_, rfl⟩
  rw [hn2] at q2 p2
  have hw2 : wrap64 n2 = n2 := IntWalk.wrap64_in _ (by omega)
  rw [hd2] at r2 x2 y2 HG2
  have HD2 := Lib.hid hd2
  clear hd2
  have HN2 := Lib.hid hn2
  clear hn2
  obtain ⟨r1, q1, p1, x1, y1⟩ := dm10 (n := n2) (by omega)
  have HG1 := Lib.hid (dig_toNat ⟨x1, y1⟩)
  obtain ⟨n1, hn1⟩ : ∃ x, n2 / 10 = x := ⟨_, rfl⟩
  obtain ⟨d1, hd1⟩ : ∃ x, n2 % 10 = x := ⟨_, rfl⟩
  rw [hn1] at q1 p1
  have hw1 : wrap64 n1 = n1 := IntWalk.wrap64_in _ (by omega)
  rw [hd1] at r1 x1 y1 HG1
  have HD1 := Lib.hid hd1
  clear hd1
  have HN1 := Lib.hid hn1
  clear hn1
  obtain ⟨r0, q0, p0, x0, y0⟩ := dm10 (n := n1) (by omega)
  have HG0 := Lib.hid (dig_toNat ⟨x0, y0⟩)
  obtain ⟨d0, hd0⟩ : ∃ x, n1 % 10 = x := ⟨_, rfl⟩
  rw [hd0] at r0 x0 y0 HG0
  have HD0 := Lib.hid hd0
  clear hd0
  obtain ⟨n0, hn0⟩ : ∃ x, n1 / 10 = x := ⟨_, rfl⟩
  rw [hn0] at q0 p0
  have hw0 : wrap64 n0 = n0 := IntWalk.wrap64_in _ (by omega)
  clear hn0
  have hmk : ∀ w, (Instr.makeSlice 57 (.int .i64 4) (.int .i64 4)).run Try.prog w = .ok (.slice (some ⟨w.heap.size, 0, none⟩) 4 4) (w.alloc (.cells #[Value.int .u8 0, Value.int .u8 0, Value.int .u8 0, Value.int .u8 0] 5)) := fun _ => by kernel_rfl
  have hback : ∀ (w' : World), w'.cell? ⟨w.heap.size, 0, none⟩ = some (.int .u8 (48 + d0)) → w'.cell? ⟨w.heap.size, 1, none⟩ = some (.int .u8 (48 + d1)) → w'.cell? ⟨w.heap.size, 2, none⟩ = some (.int .u8 (48 + d2)) → w'.cell? ⟨w.heap.size, 3, none⟩ = some (.int .u8 (48 + d3)) → (convert 57 9 (.slice (some ⟨w.heap.size, 0, none⟩) 4 4)).run Try.prog w' = .ok (.string ⟨#[dig d0, dig d1, dig d2, dig d3]⟩) w' := by
    intro w' c0 c1 c2 c3
    have := run_convert_bytes_back (P := Try.prog) w' 57 9 5 ⟨w.heap.size, 0, none⟩ 4 [dig d0, dig d1, dig d2, dig d3] Try.underlying57 Try.underlying5 Try.underlying9 (fun j hj => by
      have e : (⟨w.heap.size, 0, none⟩ : Addr).add j = ⟨w.heap.size, j, none⟩ := by unfold Addr.add; split <;> simp_all
      rw [e]
      have hj' : j = 0 ∨ j = 1 ∨ j = 2 ∨ j = 3 := by simp at hj; omega
      rcases hj' with rfl | rfl | rfl | rfl
      · rw [c0]; show _ = some (Value.int .u8 ((dig _).toNat : Int)); rw [HG0.out]
      · rw [c1]; show _ = some (Value.int .u8 ((dig _).toNat : Int)); rw [HG1.out]
      · rw [c2]; show _ = some (Value.int .u8 ((dig _).toNat : Int)); rw [HG2.out]
      · rw [c3]; show _ = some (Value.int .u8 ((dig _).toNat : Int)); rw [HG3.out]
      )
    exact this
  go_enter Try.func31, Try.ntmps31
  go_wp2
  go_loopw [0, 6] (fun m i wr => (i = .int .i64 (3) ∧ m = .int .i64 n ∧ wr = w.alloc (.cells #[Value.int .u8 0, Value.int .u8 0, Value.int .u8 0, Value.int .u8 0] 5)) ∨ (i = .int .i64 (2) ∧ m = .int .i64 n3 ∧ wr = w.alloc (.cells #[Value.int .u8 0, Value.int .u8 0, Value.int .u8 0, Value.int .u8 (48 + d3)] 5)) ∨ (i = .int .i64 (1) ∧ m = .int .i64 n2 ∧ wr = w.alloc (.cells #[Value.int .u8 0, Value.int .u8 0, Value.int .u8 (48 + d2), Value.int .u8 (48 + d3)] 5)) ∨ (i = .int .i64 (0) ∧ m = .int .i64 n1 ∧ wr = w.alloc (.cells #[Value.int .u8 0, Value.int .u8 (48 + d1), Value.int .u8 (48 + d2), Value.int .u8 (48 + d3)] 5)) ∨ (i = .int .i64 (-1) ∧ m = .int .i64 n0 ∧ wr = w.alloc (.cells #[Value.int .u8 (48 + d0), Value.int .u8 (48 + d1), Value.int .u8 (48 + d2), Value.int .u8 (48 + d3)] 5))) (fun _ i _ => (intOf i + 1).toNat)
  case atStart => exact .inl ⟨rfl, rfl, rfl⟩
  case round =>
    rcases hrel with ⟨rfl, rfl, rfl⟩ | ⟨rfl, rfl, rfl⟩ | ⟨rfl, rfl, rfl⟩ | ⟨rfl, rfl, rfl⟩ | ⟨rfl, rfl, rfl⟩
    · go_wp2
      go_roundw
      case rel => simp
      case measure => simp [intOf]
    · go_wp2
      go_roundw
      case rel => simp
      case measure => simp [intOf]
    · go_wp2
      go_roundw
      case rel => simp
      case measure => simp [intOf]
    · go_wp2
      go_roundw
      case rel => simp
      case measure => simp [intOf]
    · have hb2 := hback (w.alloc (.cells #[Value.int .u8 (48 + d0), Value.int .u8 (48 + d1), Value.int .u8 (48 + d2), Value.int .u8 (48 + d3)] 5)) (by go_simp) (by go_simp) (by go_simp) (by go_simp)
      go_wp2
      go_ret
      refine ⟨?_, (Below.refl _ _).alloc (Nat.le_refl _) _⟩
      rw [← HV.out]
      simp only [D4, HN1.out, HN2.out, HN3.out, HD0.out, HD1.out, HD2.out, HD3.out]
      rfl

set_option maxRecDepth 100000 in
theorem ref_digits2 (n : Int) (w : World) (h0 : 0 ≤ n) (h1 : n < 100) :
    Calls Try.prog 31 #[.int .i64 n, .int .i64 2] w fun e w' => e = .returned (.string ⟨(D2 n).toArray⟩) ∧ Below w.heap.size w w' := by
  generalize hv : (Value.string ⟨(D2 n).toArray⟩) = V
  have HV := Lib.hid hv
  clear hv
  obtain ⟨r1, q1, p1, x1, y1⟩ := dm10 (n := n) (by omega)
  have HG1 := Lib.hid (dig_toNat ⟨x1, y1⟩)
  obtain ⟨n1, hn1⟩ : ∃ x, n / 10 = x := ⟨_, rfl⟩
  obtain ⟨d1, hd1⟩ : ∃ x, n % 10 = x := ⟨_, rfl⟩
  rw [hn1] at q1 p1
  have hw1 : wrap64 n1 = n1 := IntWalk.wrap64_in _ (by omega)
  rw [hd1] at r1 x1 y1 HG1
  have HD1 := Lib.hid hd1
  clear hd1
  have HN1 := Lib.hid hn1
  clear hn1
  obtain ⟨r0, q0, p0, x0, y0⟩ := dm10 (n := n1) (by omega)
  have HG0 := Lib.hid (dig_toNat ⟨x0, y0⟩)
  obtain ⟨d0, hd0⟩ : ∃ x, n1 % 10 = x := ⟨_, rfl⟩
  rw [hd0] at r0 x0 y0 HG0
  have HD0 := Lib.hid hd0
  clear hd0
  obtain ⟨n0, hn0⟩ : ∃ x, n1 / 10 = x := ⟨_, rfl⟩
  rw [hn0] at q0 p0
  have hw0 : wrap64 n0 = n0 := IntWalk.wrap64_in _ (by omega)
  clear hn0
  have hmk : ∀ w, (Instr.makeSlice 57 (.int .i64 2) (.int .i64 2)).run Try.prog w = .ok (.slice (some ⟨w.heap.size, 0, none⟩) 2 2) (w.alloc (.cells #[Value.int .u8 0, Value.int .u8 0] 5)) := fun _ => by kernel_rfl
  have hback : ∀ (w' : World), w'.cell? ⟨w.heap.size, 0, none⟩ = some (.int .u8 (48 + d0)) → w'.cell? ⟨w.heap.size, 1, none⟩ = some (.int .u8 (48 + d1)) → (convert 57 9 (.slice (some ⟨w.heap.size, 0, none⟩) 2 2)).run Try.prog w' = .ok (.string ⟨#[dig d0, dig d1]⟩) w' := by
    intro w' c0 c1
    have := run_convert_bytes_back (P := Try.prog) w' 57 9 5 ⟨w.heap.size, 0, none⟩ 2 [dig d0, dig d1] Try.underlying57 Try.underlying5 Try.underlying9 (fun j hj => by
      have e : (⟨w.heap.size, 0, none⟩ : Addr).add j = ⟨w.heap.size, j, none⟩ := by unfold Addr.add; split <;> simp_all
      rw [e]
      have hj' : j = 0 ∨ j = 1 := by simp at hj; omega
      rcases hj' with rfl | rfl
      · rw [c0]; show _ = some (Value.int .u8 ((dig _).toNat : Int)); rw [HG0.out]
      · rw [c1]; show _ = some (Value.int .u8 ((dig _).toNat : Int)); rw [HG1.out]
      )
    exact this
  go_enter Try.func31, Try.ntmps31
  go_wp2
  go_loopw [0, 6] (fun m i wr => (i = .int .i64 (1) ∧ m = .int .i64 n ∧ wr = w.alloc (.cells #[Value.int .u8 0, Value.int .u8 0] 5)) ∨ (i = .int .i64 (0) ∧ m = .int .i64 n1 ∧ wr = w.alloc (.cells #[Value.int .u8 0, Value.int .u8 (48 + d1)] 5)) ∨ (i = .int .i64 (-1) ∧ m = .int .i64 n0 ∧ wr = w.alloc (.cells #[Value.int .u8 (48 + d0), Value.int .u8 (48 + d1)] 5))) (fun _ i _ => (intOf i + 1).toNat)
  case atStart => exact .inl ⟨rfl, rfl, rfl⟩
  case round =>
    rcases hrel with ⟨rfl, rfl, rfl⟩ | ⟨rfl, rfl, rfl⟩ | ⟨rfl, rfl, rfl⟩
    · go_wp2
      go_roundw
      case rel => simp
      case measure => simp [intOf]
    · go_wp2
      go_roundw
      case rel => simp
      case measure => simp [intOf]
    · have hb2 := hback (w.alloc (.cells #[Value.int .u8 (48 + d0), Value.int .u8 (48 + d1)] 5)) (by go_simp) (by go_simp)
      go_wp2
      go_ret
      refine ⟨?_, (Below.refl _ _).alloc (Nat.le_refl _) _⟩
      rw [← HV.out]
      simp only [D2, HN1.out, HD0.out, HD1.out]
      rfl

end Go.Proofs.Ytllbfbgkeajkeaa
