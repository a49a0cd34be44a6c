/-
  The functions of package strings that ParsePeriod calls, for a separator of one byte, and the reference's has.
-/
import Derived.Test.YtllbfbgkeajkeaaDateC
import Derived.Lib.IndexLaws
namespace Go.Proofs.Ytllbfbgkeajkeaa
open Go.RowKit

/-- The place of the first byte c, or -1. -/
def ixb (s : ByteArray) (c : Int) : Int := Lib.indexByte s.data.toList c.toNat.toUInt8

theorem toByte {c : Int} (h : 0 ≤ c ∧ c < 256) : ((c.toNat.toUInt8).toNat : Int) = c := by
  have : c.toNat.toUInt8.toNat = c.toNat % 256 := rfl
  omega

theorem dgv_some {s : ByteArray} {j : Nat} (h : j < s.size) : ∃ b, s.data.toList[j]? = some b ∧ dgv s j = (b.toNat : Int) := by
  have hl : j < s.data.toList.length := h
  refine ⟨s.data.toList[j], by simp, ?_⟩
  unfold dgv
  rw [List.getD_eq_getElem?_getD, List.getElem?_eq_getElem hl]; rfl

theorem ixb_cases (s : ByteArray) (c : Int) (hc : 0 ≤ c ∧ c < 256) :
    (ixb s c = -1 ∧ ∀ j, j < s.size → dgv s j ≠ c) ∨ (∃ k : Nat, ixb s c = k ∧ k < s.size ∧ dgv s k = c ∧ ∀ j, j < k → dgv s j ≠ c) := by
  have hb := toByte hc
  have hge := Lib.indexByte_ge s.data.toList c.toNat.toUInt8
  by_cases h : ixb s c = -1
  · refine .inl ⟨h, fun j hj e => ?_⟩
    obtain ⟨b, h1, h2⟩ := dgv_some hj
    refine Lib.indexByte_none h j ?_
    rw [h1]
    congr 1
    apply UInt8.toNat_inj.1
    omega
  · obtain ⟨k, hk⟩ : ∃ k : Nat, ixb s c = k := ⟨(ixb s c).toNat, by unfold ixb at *; omega⟩
    obtain ⟨h1, h2⟩ := Lib.indexByte_some hk
    have hks : k < s.size := (List.getElem?_eq_some_iff.1 h1).1
    refine .inr ⟨k, hk, hks, ?_, fun j hj e => ?_⟩
    · obtain ⟨b, h3, h4⟩ := dgv_some hks
      rw [h1] at h3
      injection h3 with h3
      rw [h4, ← h3, hb]
    · obtain ⟨b, h3, h4⟩ := dgv_some (s := s) (j := j) (by omega)
      refine h2 j hj ?_
      rw [h3]
      congr 1
      apply UInt8.toNat_inj.1
      omega

set_option maxRecDepth 100000 in
theorem lite_IndexByte (s : ByteArray) (c : Int) (w : World) : Calls Try.prog 40 #[.string s, .int .u8 c] w fun e w' => e = .returned (.int .i64 (ixb s c)) ∧ w = w' := by
  go_enter Try.func40, Try.ntmps40
  go_wp2
  rw [run_callFunc_extern Try.func45 (by kernel_rfl) (by kernel_rfl) (by kernel_rfl) (e := Extern.BytealgIndexByte.indexByte) (by kernel_rfl), Lib.run_indexByteString]
  simp only [Result.andThen]
  rw [Oper.upon_value]
  go_wp2
  go_ret
  exact ⟨rfl, rfl⟩

set_option maxRecDepth 100000 in
theorem str_IndexByte (s : ByteArray) (c : Int) (w : World) : Calls Try.prog 26 #[.string s, .int .u8 c] w fun e w' => e = .returned (.int .i64 (ixb s c)) ∧ w = w' := by
  go_enter Try.func26, Try.ntmps26
  go_wp2_with fail
  refine (lite_IndexByte _ _ _).mono ?_
  rintro e w' ⟨rfl, rfl⟩
  go_wp2_with fail
  go_ret
  exact ⟨rfl, rfl⟩

theorem ixb_self {s : ByteArray} (h : s.toList = [44]) : ixb s 44 = 0 := by
  unfold ixb
  rw [← ByteArray.toList_eq, h]; rfl

set_option maxRecDepth 100000 in
theorem lite_Index (s : ByteArray) (w : World) : Calls Try.prog 44 #[.string s, .string ⟨#[44]⟩] w fun e w' => e = .returned (.int .i64 (ixb s 44)) ∧ w = w' := by
  cases hq : (([44] : List UInt8) == s.toList) with
  | true =>
    have HI := Lib.hid (ixb_self (s := s) (by simpa using (beq_iff_eq.1 hq).symm))
    go_enter Try.func44, Try.ntmps44
    go_wp2_with fail
    go_ret
    exact ⟨by rw [HI.out]; rfl, rfl⟩
  | false =>
    go_enter Try.func44, Try.ntmps44
    go_wp2_with fail
    refine (lite_IndexByte _ _ _).mono ?_
    rintro e w' ⟨rfl, rfl⟩
    go_wp2_with fail
    go_ret
    exact ⟨rfl, rfl⟩

/-- The text begins with the byte c. -/
def hp (s : ByteArray) (c : UInt8) : Bool := decide (1 ≤ s.size) && ((s.extract 0 1).toList == [c])

theorem hp_iff (s : ByteArray) (c : UInt8) : hp s c = true ↔ 1 ≤ s.size ∧ dgv s 0 = (c.toNat : Int) := by
  unfold hp
  by_cases h : 1 ≤ s.size
  · have hl := size_toList (s.extract 0 1)
    rw [ByteArray.size_extract] at hl
    obtain ⟨b, h1, h2⟩ := dgv_some (s := s) (j := 0) (by omega)
    have h3 := dgv_extract s 0 1 0 (by omega) h
    obtain ⟨b', h4, h5⟩ := dgv_some (s := s.extract 0 1) (j := 0) (by rw [ByteArray.size_extract]; omega)
    have e : (s.extract 0 1).toList = [b'] := by
      rw [ByteArray.toList_eq] at hl ⊢
      match hm : (s.extract 0 1).data.toList, hl, h4 with
      | [x], _, h4 => simp at h4; rw [h4]
      | [], hl, _ => simp at hl; omega
      | _ :: _ :: _, hl, _ => simp at hl; omega
    rw [e]
    simp only [h, decide_true, Bool.true_and, beq_iff_eq, true_and, List.cons.injEq, and_true]
    rw [show dgv s 0 = dgv (s.extract 0 1) 0 from h3.symm, h5]
    constructor
    · rintro rfl; rfl
    · intro g; exact UInt8.toNat_inj.1 (by omega)
  · simp [h]

set_option maxRecDepth 100000 in
theorem lite_HasPrefix91 (s : ByteArray) (w : World) : Calls Try.prog 39 #[.string s, .string ⟨#[91]⟩] w fun e w' => e = .returned (.bool (hp s 91)) ∧ w = w' := by
  generalize hv : (Value.bool (hp s 91)) = V
  have HV := Lib.hid hv
  clear hv
  have hl1 : (ByteArray.mk #[91]).toList = [91] := ByteArray.toList_mk [_]
  by_cases h : 1 ≤ s.size
  · cases h2 : ((s.extract 0 1).toList == [91]) with
    | true =>
      have HP := Lib.hid (show hp s 91 = true by unfold hp; rw [h2]; simp [h])
      go_enter Try.func39, Try.ntmps39
      go_wp2_with fail
      go_ret
      exact ⟨by rw [← HV.out, HP.out]; rfl, rfl⟩
    | false =>
      have HP := Lib.hid (show hp s 91 = false by unfold hp; rw [h2]; simp)
      go_enter Try.func39, Try.ntmps39
      go_wp2_with fail
      go_ret
      exact ⟨by rw [← HV.out, HP.out]; rfl, rfl⟩
  · have HP := Lib.hid (show hp s 91 = false by unfold hp; simp [h])
    go_enter Try.func39, Try.ntmps39
    go_wp2_with fail
    go_ret
    exact ⟨by rw [← HV.out, HP.out]; rfl, rfl⟩

set_option maxRecDepth 100000 in
theorem lite_HasPrefix32 (s : ByteArray) (w : World) : Calls Try.prog 39 #[.string s, .string ⟨#[32]⟩] w fun e w' => e = .returned (.bool (hp s 32)) ∧ w = w' := by
  generalize hv : (Value.bool (hp s 32)) = V
  have HV := Lib.hid hv
  clear hv
  have hl1 : (ByteArray.mk #[32]).toList = [32] := ByteArray.toList_mk [_]
  by_cases h : 1 ≤ s.size
  · cases h2 : ((s.extract 0 1).toList == [32]) with
    | true =>
      have HP := Lib.hid (show hp s 32 = true by unfold hp; rw [h2]; simp [h])
      go_enter Try.func39, Try.ntmps39
      go_wp2_with fail
      go_ret
      exact ⟨by rw [← HV.out, HP.out]; rfl, rfl⟩
    | false =>
      have HP := Lib.hid (show hp s 32 = false by unfold hp; rw [h2]; simp)
      go_enter Try.func39, Try.ntmps39
      go_wp2_with fail
      go_ret
      exact ⟨by rw [← HV.out, HP.out]; rfl, rfl⟩
  · have HP := Lib.hid (show hp s 32 = false by unfold hp; simp [h])
    go_enter Try.func39, Try.ntmps39
    go_wp2_with fail
    go_ret
    exact ⟨by rw [← HV.out, HP.out]; rfl, rfl⟩

set_option maxRecDepth 100000 in
theorem str_HasPrefix (s : ByteArray) (w : World) : Calls Try.prog 25 #[.string s, .string ⟨#[32]⟩] w fun e w' => e = .returned (.bool (hp s 32)) ∧ w = w' := by
  go_enter Try.func25, Try.ntmps25
  go_wp2_with fail
  refine (lite_HasPrefix32 _ _).mono ?_
  rintro e w' ⟨rfl, rfl⟩
  go_wp2_with fail
  go_ret
  exact ⟨rfl, rfl⟩

set_option maxRecDepth 100000 in
theorem lite_CutPrefix_no (s : ByteArray) (w : World) (h : hp s 91 = false) : Calls Try.prog 37 #[.string s, .string ⟨#[91]⟩] w fun e w' => e = .returned (.tuple #[.string s, .bool false]) ∧ w = w' := by
  go_enter Try.func37, Try.ntmps37
  go_wp2_with fail
  refine (lite_HasPrefix91 _ _).mono ?_
  rintro e w' ⟨rfl, rfl⟩
  go_wp2_with fail
  go_ret2
  exact ⟨rfl, rfl⟩

set_option maxRecDepth 100000 in
theorem lite_CutPrefix_yes (s : ByteArray) (w : World) (h : hp s 91 = true) : Calls Try.prog 37 #[.string s, .string ⟨#[91]⟩] w fun e w' => e = .returned (.tuple #[.string (s.extract 1 s.size), .bool true]) ∧ w = w' := by
  have h1 := ((hp_iff s 91).1 h).1
  go_enter Try.func37, Try.ntmps37
  go_wp2_with fail
  refine (lite_HasPrefix91 _ _).mono ?_
  rintro e w' ⟨rfl, rfl⟩
  go_wp2_with fail
  go_ret2
  exact ⟨rfl, rfl⟩

set_option maxRecDepth 100000 in
theorem str_CutPrefix_no (s : ByteArray) (w : World) (h : hp s 91 = false) : Calls Try.prog 23 #[.string s, .string ⟨#[91]⟩] w fun e w' => e = .returned (.tuple #[.string s, .bool false]) ∧ w = w' := by
  go_enter Try.func23, Try.ntmps23
  go_wp2_with fail
  refine (lite_CutPrefix_no _ _ h).mono ?_
  rintro e w' ⟨rfl, rfl⟩
  go_wp2_with fail
  go_ret2
  exact ⟨rfl, rfl⟩

set_option maxRecDepth 100000 in
theorem str_CutPrefix_yes (s : ByteArray) (w : World) (h : hp s 91 = true) : Calls Try.prog 23 #[.string s, .string ⟨#[91]⟩] w fun e w' => e = .returned (.tuple #[.string (s.extract 1 s.size), .bool true]) ∧ w = w' := by
  go_enter Try.func23, Try.ntmps23
  go_wp2_with fail
  refine (lite_CutPrefix_yes _ _ h).mono ?_
  rintro e w' ⟨rfl, rfl⟩
  go_wp2_with fail
  go_ret2
  exact ⟨rfl, rfl⟩

set_option maxRecDepth 100000 in
theorem lite_Cut_no (s : ByteArray) (w : World) (h : ixb s 44 = -1) : Calls Try.prog 38 #[.string s, .string ⟨#[44]⟩] w fun e w' => e = .returned (.tuple #[.string s, .string ⟨#[]⟩, .bool false]) ∧ Below w.heap.size w w' := by
  go_enter Try.func38, Try.ntmps38
  go_wp2_with fail
  refine (lite_Index _ _).mono ?_
  rintro e w' ⟨rfl, rfl⟩
  go_wp2_with fail
  refine bodyPost_ret (v := .tuple #[.string s, .string ⟨#[]⟩, .bool false]) (by simp [results, Try.results38, go_sem]) rfl ⟨rfl, Below.refl _ _⟩

set_option maxRecDepth 100000 in
theorem lite_Cut_yes (s : ByteArray) (k : Nat) (w : World) (h : ixb s 44 = k) (hk : k < s.size) (hz : (s.size : Int) ≤ 9223372036854775807) :
    Calls Try.prog 38 #[.string s, .string ⟨#[44]⟩] w fun e w' => e = .returned (.tuple #[.string (s.extract 0 k), .string (s.extract (k + 1) s.size), .bool true]) ∧ Below w.heap.size w w' := by
  have h1 : (0 : Int) ≤ (k : Int) := by omega
  have h2 : (k : Int) ≤ (s.size : Int) := by omega
  have h3 : (0 : Int) ≤ (k : Int) + 1 := by omega
  have h4 : (k : Int) + 1 ≤ (s.size : Int) := by omega
  have h5 : IntKind.i64.wrap ((k : Int) + 1) = (k : Int) + 1 := IntWalk.i64_in _ (by omega)
  go_enter Try.func38, Try.ntmps38
  go_wp2_with fail
  refine (lite_Index _ _).mono ?_
  rintro e w' ⟨rfl, rfl⟩
  go_wp2_with fail
  go_quiet (fail)
  go_wp2_with fail
  refine bodyPost_ret (v := .tuple #[.string (s.extract 0 k), .string (s.extract (k + 1) s.size), .bool true]) (by simp [results, Try.results38, go_sem]) rfl ⟨rfl, below_drewN (Below.refl _ _) _⟩

end Go.Proofs.Ytllbfbgkeajkeaa
