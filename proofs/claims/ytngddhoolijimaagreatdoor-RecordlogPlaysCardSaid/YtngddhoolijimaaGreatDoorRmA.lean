/-
  Merged: Rl, RlP, RlA, RlB, RlC, RlD.
-/
import Derived.Test.YtngddhoolijimaaGreatDoorPf
import Derived.Test.YtngddhoolijimaaGreatDoorBase
import Derived.Test.YtngddhoolijimaaGreatDoorPfS
import Derived.Test.YtngddhoolijimaaGreatDoorPfJ
namespace Go.Proofs.YtngddhoolijimaaGreatDoor
open Go.RowKit
set_option linter.unusedVariables false
set_option linter.unusedSimpArgs false

theorem snoc_take {α : Type} {l : List α} {k : Nat} {x : α} (h : l[k]? = some x) : l.take (k + 1) = l.take k ++ [x] := by rw [List.take_add_one, h]; rfl

def poly : Nat := 2197175160

/-- One step of the register. -/
def crc1 (s : Nat) : Nat := if s % 2 = 1 then (s / 2) ^^^ poly else s / 2
def crcN : Nat → Nat → Nat
  | 0, s => s
  | k + 1, s => crc1 (crcN k s)
theorem crcN_succ (k s : Nat) : crcN (k + 1) s = crc1 (crcN k s) := by rw [crcN]
/-- One byte. -/
def crcB (s : Nat) (c : UInt8) : Nat := crcN 8 (s ^^^ c.toNat)
def crcs (s : Nat) (b : List UInt8) : Nat := b.foldl crcB s
def sumOf (b : List UInt8) : Nat := 4294967295 ^^^ crcs 4294967295 b

theorem crcs_append (s : Nat) (a b : List UInt8) : crcs s (a ++ b) = crcs (crcs s a) b := by unfold crcs; rw [List.foldl_append]
theorem crcs_cons (s : Nat) (c : UInt8) (b : List UInt8) : crcs s (c :: b) = crcs (crcB s c) b := by unfold crcs; rw [List.foldl_cons]
theorem crcs_nil (s : Nat) : crcs s [] = s := by unfold crcs; rw [List.foldl_nil]
theorem crcs_one (s : Nat) (c : UInt8) : crcs s [c] = crcB s c := by rw [crcs_cons, crcs_nil]

theorem crc1_lt {s : Nat} (h : s < 4294967296) : crc1 s < 4294967296 := by
  unfold crc1
  split
  · exact Nat.xor_lt_two_pow (n := 32) (show s / 2 < 2 ^ 32 by omega) (show poly < 2 ^ 32 by unfold poly; omega)
  · omega
theorem crcN_lt {s : Nat} (h : s < 4294967296) : ∀ k, crcN k s < 4294967296
  | 0 => h
  | k + 1 => crc1_lt (crcN_lt h k)
theorem xor_byte {s : Nat} (h : s < 4294967296) (c : UInt8) : s ^^^ c.toNat < 4294967296 := Nat.xor_lt_two_pow (n := 32) (by omega) (by have := c.toNat_lt; omega)
theorem crcB_lt {s : Nat} (h : s < 4294967296) (c : UInt8) : crcB s c < 4294967296 := crcN_lt (xor_byte h c) 8
theorem crcs_lt {s : Nat} (h : s < 4294967296) (b : List UInt8) : crcs s b < 4294967296 := by
  induction b generalizing s with
  | nil => rw [crcs_nil]; exact h
  | cons c b ih => rw [crcs_cons]; exact ih (crcB_lt h c)
theorem sumOf_lt (b : List UInt8) : sumOf b < 4294967296 := Nat.xor_lt_two_pow (n := 32) (by omega) (crcs_lt (s := 4294967295) (by omega) b)

theorem xor_cancel {a b p : Nat} (h : a ^^^ p = b ^^^ p) : a = b := by
  have := congrArg (· ^^^ p) h
  simpa [Nat.xor_assoc] using this

theorem poly_top {x : Nat} (h : x < 2147483648) : 2147483648 ≤ x ^^^ poly := by
  have h1 : (x ^^^ poly).testBit 31 = true := by
    rw [Nat.testBit_xor, Nat.testBit_lt_two_pow (i := 31) (by omega)]
    decide
  rcases Nat.lt_or_ge (x ^^^ poly) (2 ^ 31) with h2 | h2
  · rw [Nat.testBit_lt_two_pow h2] at h1; cases h1
  · omega

theorem crc1_inj {s t : Nat} (hs : s < 4294967296) (ht : t < 4294967296) (h : crc1 s = crc1 t) : s = t := by
  unfold crc1 at h
  have h1 := poly_top (x := s / 2) (by omega)
  have h2 := poly_top (x := t / 2) (by omega)
  split at h <;> split at h
  · have := xor_cancel h; omega
  · omega
  · omega
  · omega

theorem crcN_inj {s t : Nat} (hs : s < 4294967296) (ht : t < 4294967296) : ∀ k, crcN k s = crcN k t → s = t
  | 0, h => h
  | k + 1, h => crcN_inj hs ht k (crc1_inj (crcN_lt hs k) (crcN_lt ht k) h)

theorem crcB_inj {s t : Nat} {c : UInt8} (hs : s < 4294967296) (ht : t < 4294967296) (h : crcB s c = crcB t c) : s = t :=
  xor_cancel (crcN_inj (xor_byte hs c) (xor_byte ht c) 8 h)

theorem crcB_byte {s : Nat} {c d : UInt8} (hs : s < 4294967296) (h : crcB s c = crcB s d) : c = d := by
  have := crcN_inj (xor_byte hs c) (xor_byte hs d) 8 h
  rw [Nat.xor_comm s, Nat.xor_comm s] at this
  exact UInt8.toNat.inj (xor_cancel this)

theorem crcs_inj (b : List UInt8) : ∀ {s t : Nat}, s < 4294967296 → t < 4294967296 → crcs s b = crcs t b → s = t := by
  induction b with
  | nil => intro s t _ _ h; rwa [crcs_nil, crcs_nil] at h
  | cons c b ih => intro s t hs ht h; rw [crcs_cons, crcs_cons] at h; exact crcB_inj hs ht (ih (crcB_lt hs c) (crcB_lt ht c) h)

theorem crcs_set (b : List UInt8) : ∀ {s i : Nat} {x : UInt8}, s < 4294967296 → i < b.length → crcs s (b.set i x) = crcs s b → b[i]? = some x := by
  induction b with
  | nil => intro s i x _ hi _; simp at hi
  | cons c b ih =>
    intro s i x hs hi h
    cases i with
    | zero =>
      rw [List.set_cons_zero, crcs_cons, crcs_cons] at h
      have : crcB s x = crcB s c := crcs_inj b (crcB_lt hs x) (crcB_lt hs c) h
      rw [crcB_byte hs this]; rfl
    | succ i => rw [List.set_cons_succ, crcs_cons, crcs_cons] at h; exact ih (crcB_lt hs c) (by simpa using hi) h

theorem sumOf_set {b : List UInt8} {i : Nat} {x : UInt8} (hi : i < b.length) (h : sumOf (b.set i x) = sumOf b) : b[i]? = some x := by
  refine crcs_set b (s := 4294967295) (by omega) hi ?_
  unfold sumOf at h
  rw [Nat.xor_comm 4294967295, Nat.xor_comm 4294967295] at h
  exact xor_cancel h

/-- A record in bytes. -/
def recB (r : List UInt8) : List UInt8 := four (r.length + 1) ++ four (sumOf (four (r.length + 1) ++ r)) ++ r
def encs (l : List (List UInt8)) : List UInt8 := l.flatMap recB

theorem recB_len (r : List UInt8) : (recB r).length = 8 + r.length := by unfold recB; simp [four_len]; omega
theorem encs_cons (r : List UInt8) (l : List (List UInt8)) : encs (r :: l) = recB r ++ encs l := rfl
theorem encs_nil : encs [] = [] := rfl
theorem encs_append (a b : List (List UInt8)) : encs (a ++ b) = encs a ++ encs b := by unfold encs; rw [List.flatMap_append]

/-- The record at the beginning of some bytes. -/
def firstR (b : List UInt8) : Option (List UInt8) :=
  if b.length < 8 then none
  else if wordAt b = 0 ∨ 1048577 < wordAt b then none
  else if b.length < 7 + wordAt b then none
  else if sumOf (b.take 4 ++ (b.drop 8).take (wordAt b - 1)) ≠ wordAt (b.drop 4) then none
  else some ((b.drop 8).take (wordAt b - 1))

theorem firstR_len {b r : List UInt8} (h : firstR b = some r) : 8 + r.length ≤ b.length := by
  unfold firstR at h
  split at h
  · cases h
  · split at h
    · cases h
    · split at h
      · cases h
      · split at h
        · cases h
        · have e : r = (b.drop 8).take (wordAt b - 1) := by simpa using h.symm
          rw [e, List.length_take, List.length_drop]; omega

/-- The records at the beginning of some bytes, and how many bytes they occupy. -/
def decF : Nat → List UInt8 → List (List UInt8) × Nat
  | 0, _ => ([], 0)
  | f + 1, b => match firstR b with
    | none => ([], 0)
    | some r => (r :: (decF f (b.drop (8 + r.length))).1, 8 + r.length + (decF f (b.drop (8 + r.length))).2)
def dec (b : List UInt8) : List (List UInt8) × Nat := decF (b.length + 1) b

theorem decF_more : ∀ (f g : Nat) (b : List UInt8), b.length < f → b.length < g → decF f b = decF g b
  | 0, _, _, h, _ => by omega
  | _, 0, _, _, h => by omega
  | f + 1, g + 1, b, hf, hg => by
    unfold decF
    cases e : firstR b with
    | none => rfl
    | some r =>
      have hl := firstR_len e
      have := decF_more f g (b.drop (8 + r.length)) (by rw [List.length_drop]; omega) (by rw [List.length_drop]; omega)
      simp only [this]

theorem dec_none {b : List UInt8} (h : firstR b = none) : dec b = ([], 0) := by unfold dec decF; rw [h]
theorem dec_some {b r : List UInt8} (h : firstR b = some r) : dec b = (r :: (dec (b.drop (8 + r.length))).1, 8 + r.length + (dec (b.drop (8 + r.length))).2) := by
  have hl := firstR_len h
  have e : decF b.length (b.drop (8 + r.length)) = dec (b.drop (8 + r.length)) := decF_more _ _ _ (by rw [List.length_drop]; omega) (by omega)
  show decF (b.length + 1) b = _
  unfold decF
  rw [h]
  simp only [e]

theorem word_prefix {a c : List UInt8} (h : 4 ≤ a.length) : wordAt (a ++ c) = wordAt a := by
  have k : ∀ i, i < 4 → (a ++ c).getD i 0 = a.getD i 0 := fun i hi => by rw [List.getD_eq_getElem?_getD, List.getElem?_append_left (by omega), ← List.getD_eq_getElem?_getD]
  unfold wordAt
  rw [k 0 (by omega), k 1 (by omega), k 2 (by omega), k 3 (by omega)]

theorem word_four' {x : Nat} (h : x < 4294967296) : wordAt (four x) = x := by
  have := word_four h []
  rwa [List.append_nil] at this

theorem word_inj {b c : List UInt8} (h : wordAt b = wordAt c) : ∀ i, i < 4 → b.getD i 0 = c.getD i 0 := by
  unfold wordAt at h
  have b0 := (b.getD 0 0).toNat_lt
  have b1 := (b.getD 1 0).toNat_lt
  have b2 := (b.getD 2 0).toNat_lt
  have b3 := (b.getD 3 0).toNat_lt
  have c0 := (c.getD 0 0).toNat_lt
  have c1 := (c.getD 1 0).toNat_lt
  have c2 := (c.getD 2 0).toNat_lt
  have c3 := (c.getD 3 0).toNat_lt
  have q0 : (b.getD 0 0).toNat = (c.getD 0 0).toNat := by omega
  have q1 : (b.getD 1 0).toNat = (c.getD 1 0).toNat := by omega
  have q2 : (b.getD 2 0).toNat = (c.getD 2 0).toNat := by omega
  have q3 : (b.getD 3 0).toNat = (c.getD 3 0).toNat := by omega
  intro i hi
  match i, hi with
  | 0, _ => exact UInt8.toNat.inj q0
  | 1, _ => exact UInt8.toNat.inj q1
  | 2, _ => exact UInt8.toNat.inj q2
  | 3, _ => exact UInt8.toNat.inj q3

/-- Length, checksum, data: what firstR says of such bytes. -/
theorem firstR_of {n : Nat} {s r rest : List UInt8} (hs : s.length = 4) (hr : r.length = n) (hn : n ≤ 1048576) :
    firstR (four (n + 1) ++ s ++ r ++ rest) = if sumOf (four (n + 1) ++ r) ≠ wordAt s then none else some r := by
  have hw : wordAt (four (n + 1) ++ s ++ r ++ rest) = n + 1 := by
    rw [List.append_assoc, List.append_assoc]; exact word_four (by omega) _
  have hd4 : (four (n + 1) ++ s ++ r ++ rest).drop 4 = s ++ (r ++ rest) := by
    rw [List.append_assoc, List.append_assoc]; exact List.drop_left' (four_len _)
  have hd8 : (four (n + 1) ++ s ++ r ++ rest).drop 8 = r ++ rest := by
    rw [List.append_assoc]; exact List.drop_left' (by rw [List.length_append, four_len, hs])
  have ht4 : (four (n + 1) ++ s ++ r ++ rest).take 4 = four (n + 1) := by
    rw [List.append_assoc, List.append_assoc]; exact List.take_left' (four_len _)
  have ht : (r ++ rest).take n = r := List.take_left' hr
  have hl : (four (n + 1) ++ s ++ r ++ rest).length = 8 + n + rest.length := by simp only [List.length_append, four_len, hs, hr]
  unfold firstR
  rw [hw, hd4, hd8, ht4, hl, if_neg (by omega), if_neg (by omega), if_neg (by omega), Nat.add_sub_cancel, ht, word_prefix (by omega)]

theorem first_rec {r : List UInt8} (h : r.length ≤ 1048576) (rest : List UInt8) : firstR (recB r ++ rest) = some r := by
  unfold recB
  rw [firstR_of (four_len _) rfl h, word_four' (sumOf_lt _), if_neg (by simp)]

theorem dec_rec {r : List UInt8} (h : r.length ≤ 1048576) (rest : List UInt8) : dec (recB r ++ rest) = (r :: (dec rest).1, 8 + r.length + (dec rest).2) := by
  rw [dec_some (first_rec h rest), List.drop_left' (recB_len r)]

theorem dec_encs {l : List (List UInt8)} (h : ∀ r ∈ l, r.length ≤ 1048576) (rest : List UInt8) : dec (encs l ++ rest) = (l ++ (dec rest).1, (encs l).length + (dec rest).2) := by
  induction l with
  | nil => simp [encs_nil]
  | cons r l ih =>
    have := ih (fun x hx => h x (List.mem_cons_of_mem _ hx))
    rw [encs_cons, List.append_assoc, dec_rec (h r (by simp)), this, List.length_append, recB_len]
    simp [Nat.add_assoc]

theorem zero_getD (z i : Nat) : (List.replicate z (0 : UInt8)).getD i 0 = 0 := by
  rw [List.getD_eq_getElem?_getD, List.getElem?_replicate]
  split <;> rfl

theorem first_zero (z : Nat) : firstR (List.replicate z 0) = none := by
  have hw : wordAt (List.replicate z 0) = 0 := by unfold wordAt; simp only [zero_getD]; rfl
  unfold firstR
  rw [hw]
  split
  · rfl
  · rw [if_pos (.inl rfl)]

theorem dec_zero (z : Nat) : dec (List.replicate z 0) = ([], 0) := dec_none (first_zero z)

/-- A byte of the checksum or the data has changed. -/
theorem first_damaged {r rest : List UInt8} {j : Nat} {x : UInt8} (h : r.length ≤ 1048576) (hj : j < 4 + r.length) (hx : (recB r)[4 + j]? ≠ some x) : firstR ((recB r).set (4 + j) x ++ rest) = none := by
  by_cases hj4 : j < 4
  · have e : (recB r).set (4 + j) x = four (r.length + 1) ++ (four (sumOf (four (r.length + 1) ++ r))).set j x ++ r := by
      unfold recB
      rw [List.set_append_left _ _ (by simp [four_len]; omega), List.set_append_right _ _ (by simp [four_len]), four_len, Nat.add_sub_cancel_left]
    rw [e, firstR_of (by rw [List.length_set, four_len]) rfl h, if_pos]
    intro hw
    apply hx
    have hw2 : wordAt ((four (sumOf (four (r.length + 1) ++ r))).set j x) = wordAt (four (sumOf (four (r.length + 1) ++ r))) := by rw [word_four' (sumOf_lt _)]; exact hw.symm
    have := word_inj hw2 j hj4
    have h1 : ((four (sumOf (four (r.length + 1) ++ r))).set j x).getD j 0 = x := by
      rw [List.getD_eq_getElem?_getD, List.getElem?_set_self (by rw [four_len]; exact hj4)]; rfl
    rw [h1] at this
    unfold recB
    rw [List.getElem?_append_left (by simp [four_len]; omega), List.getElem?_append_right (by simp [four_len]), four_len, Nat.add_sub_cancel_left, List.getElem?_eq_getElem (by rw [four_len]; exact hj4)]
    rw [List.getD_eq_getElem?_getD, List.getElem?_eq_getElem (by rw [four_len]; exact hj4)] at this
    rw [this]; rfl
  · obtain ⟨i, rfl⟩ : ∃ i, j = 4 + i := ⟨j - 4, by omega⟩
    have e : (recB r).set (4 + (4 + i)) x = four (r.length + 1) ++ four (sumOf (four (r.length + 1) ++ r)) ++ r.set i x := by
      unfold recB
      rw [List.set_append_right _ _ (by simp [four_len]; omega)]
      congr 2
      simp [four_len]; omega
    rw [e, firstR_of (four_len _) (by rw [List.length_set]) h, if_pos]
    rw [word_four' (sumOf_lt _)]
    intro hw
    apply hx
    have hi : i < r.length := by omega
    have e2 : four (r.length + 1) ++ r.set i x = (four (r.length + 1) ++ r).set (4 + i) x := by
      rw [List.set_append_right _ _ (by simp [four_len]), four_len, Nat.add_sub_cancel_left]
    rw [e2] at hw
    have := sumOf_set (by simp [four_len]; omega) hw
    rw [List.getElem?_append_right (by simp [four_len]), four_len, Nat.add_sub_cancel_left] at this
    unfold recB
    rw [List.getElem?_append_right (by simp [four_len]; omega)]
    rw [← this]
    congr 1
    simp [four_len]; omega

theorem encs_len_le {l : List (List UInt8)} {k m : Nat} (hl : l.length ≤ k) (h : ∀ r ∈ l, r.length ≤ m) : (encs l).length ≤ k * (8 + m) := by
  induction l generalizing k with
  | nil => simp [encs_nil]
  | cons r l ih =>
    obtain ⟨k, rfl⟩ : ∃ j, k = j + 1 := ⟨k - 1, by simp at hl; omega⟩
    have h1 := ih (k := k) (by simpa using hl) (fun x hx => h x (List.mem_cons_of_mem _ hx))
    have h2 := h r (by simp)
    rw [encs_cons, List.length_append, recB_len, Nat.succ_mul]
    omega

/-- The check of 123456789. -/
theorem sum_check : sumOf [49, 50, 51, 52, 53, 54, 55, 56, 57] = 3808858755 := by kernel_rfl

end Go.Proofs.YtngddhoolijimaaGreatDoor
namespace Go.Proofs.YtngddhoolijimaaGreatDoor
open Go.RowKit
set_option linter.unusedVariables false
set_option linter.unusedSimpArgs false

/-- Page i of an image. -/
def chunk (b : List UInt8) (i : Nat) : List UInt8 := (b.drop (100 * i)).take 100
def pgs (n : Nat) (b : List UInt8) : List (List UInt8) := (List.range n).map (chunk b)

theorem chunk_len {n i : Nat} {b : List UInt8} (h : b.length = 100 * n) (hi : i < n) : (chunk b i).length = 100 := by
  unfold chunk; rw [List.length_take, List.length_drop]; omega

theorem pgs_getD {n i : Nat} {b : List UInt8} (hi : i < n) : (pgs n b).getD i [] = chunk b i := by
  unfold pgs; simp [List.getD_eq_getElem?_getD, hi]

theorem pgs_pays {n : Nat} {b : List UInt8} (h : b.length = 100 * n) : Pays n (pgs n b) :=
  ⟨by simp [pgs], fun j hj => by rw [pgs_getD hj]; exact chunk_len h hj⟩

theorem flat_take {n k : Nat} {b : List UInt8} (h : b.length = 100 * n) (hk : k ≤ n) : ((pgs n b).take k).flatten = b.take (100 * k) := by
  induction k with
  | zero => simp
  | succ k ih =>
    have hg : (pgs n b)[k]? = some (chunk b k) := by unfold pgs; simp [show k < n by omega]
    rw [snoc_take hg, List.flatten_append, ih (by omega)]
    rw [show 100 * (k + 1) = 100 * k + 100 by omega, List.take_add]
    simp [chunk]

theorem pgs_flat {n : Nat} {b : List UInt8} (h : b.length = 100 * n) : (pgs n b).flatten = b := by
  have := flat_take h (Nat.le_refl n)
  rw [List.take_of_length_le (by simp [pgs]), List.take_of_length_le (by omega)] at this
  exact this

theorem flat_len {n : Nat} {P : List (List UInt8)} (h : Pays n P) : P.flatten.length = 100 * n := by
  have : ∀ (P : List (List UInt8)) (n : Nat), P.length = n → (∀ j, j < n → (P.getD j []).length = 100) → P.flatten.length = 100 * n := by
    intro P
    induction P with
    | nil => intro n h _; simp at h; subst h; rfl
    | cons p P ih =>
      intro n hl h
      obtain ⟨n, rfl⟩ : ∃ m, n = m + 1 := ⟨n - 1, by simp at hl; omega⟩
      have h0 := h 0 (by omega)
      have h1 := ih n (by simpa using hl) (fun j hj => by have := h (j + 1) (by omega); simpa using this)
      rw [List.flatten_cons, List.length_append, h1]
      have h0 : p.length = 100 := by simpa using h0
      omega
  exact this P n h.len h.each

theorem pays_take {n k : Nat} {P : List (List UInt8)} (h : Pays n P) (hk : k ≤ n) : Pays k (P.take k) := by
  refine ⟨by rw [List.length_take, h.len]; omega, fun j hj => ?_⟩
  have := h.each j (by omega)
  rw [List.getD_eq_getElem?_getD, List.getElem?_take_of_lt hj, ← List.getD_eq_getElem?_getD]; exact this

theorem flat_chunk {n i : Nat} {P : List (List UInt8)} (h : Pays n P) (hi : i < n) : chunk P.flatten i = P.getD i [] := by
  have hg : P[i]? = some (P.getD i []) := by rw [List.getD_eq_getElem?_getD, List.getElem?_eq_getElem (by rw [h.len]; exact hi)]; rfl
  have e : P = P.take i ++ (P.getD i [] :: P.drop (i + 1)) := by
    conv => lhs; rw [← List.take_append_drop i P]
    congr 1
    rw [List.drop_eq_getElem?_toList_append, hg]; rfl
  have hl := flat_len (pays_take h (Nat.le_of_lt hi))
  have hc := h.each i hi
  conv => lhs; rw [e]
  unfold chunk
  rw [List.flatten_append, List.drop_left' hl, List.flatten_cons, List.take_left' hc]

theorem pays_pgs {n : Nat} {P : List (List UInt8)} (h : Pays n P) : pgs n P.flatten = P := by
  apply List.ext_getElem?
  intro j
  by_cases hj : j < n
  · have hg : P[j]? = some (P.getD j []) := by rw [List.getD_eq_getElem?_getD, List.getElem?_eq_getElem (by rw [h.len]; exact hj)]; rfl
    rw [hg]; unfold pgs; simp [hj, flat_chunk h hj]
  · rw [List.getElem?_eq_none (by simp [pgs]; omega), List.getElem?_eq_none (by rw [h.len]; omega)]

/-- The writes that turn an image's first k pages. -/
def diffs (a b : List UInt8) (k : Nat) : List (Int × List UInt8) := (List.range k).filterMap fun i => if chunk b i = chunk a i then none else some ((i : Int), chunk b i)

theorem diffs_zero (a b : List UInt8) : diffs a b 0 = [] := rfl
theorem diffs_same {a b : List UInt8} {k : Nat} (h : chunk b k = chunk a k) : diffs a b (k + 1) = diffs a b k := by
  unfold diffs; rw [List.range_succ, List.filterMap_append]; simp [h]
theorem diffs_new {a b : List UInt8} {k : Nat} (h : chunk b k ≠ chunk a k) : diffs a b (k + 1) = diffs a b k ++ [((k : Int), chunk b k)] := by
  unfold diffs; rw [List.range_succ, List.filterMap_append]; simp [h]

theorem diffs_mem {a b : List UInt8} {k : Nat} {x : Int × List UInt8} (h : x ∈ diffs a b k) : ∃ i, i < k ∧ x = ((i : Int), chunk b i) := by
  unfold diffs at h
  obtain ⟨i, hi, e⟩ := List.mem_filterMap.1 h
  split at e
  · cases e
  · exact ⟨i, List.mem_range.1 hi, by simpa using e.symm⟩

theorem diffs_right {n : Nat} {a b : List UInt8} (h : b.length = 100 * n) : Right n (diffs a b n) := fun x hx => by
  obtain ⟨i, hi, rfl⟩ := diffs_mem hx
  exact ⟨by simp, by simpa using hi, by rw [chunk_len h hi]; exact Nat.le_refl _⟩

theorem diffs_len (a b : List UInt8) (k : Nat) : (diffs a b k).length ≤ k := by
  unfold diffs
  exact Nat.le_trans (List.length_filterMap_le _ _) (by simp)

theorem withW_snoc (P : List (List UInt8)) (l : List (Int × List UInt8)) (x : Int × List UInt8) : withW P (l ++ [x]) = (withW P l).set x.1.toNat (fill x.2) := by
  unfold withW; rw [List.foldl_append]; rfl

theorem fill_full {p : List UInt8} (h : p.length = 100) : fill p = p := by unfold fill; rw [h]; simp

theorem diffs_with {n k : Nat} {a b : List UInt8} (h : b.length = 100 * n) (hk : k ≤ n) : withW (pgs n a) (diffs a b k) = (List.range n).map fun i => if i < k then chunk b i else chunk a i := by
  induction k with
  | zero => rw [diffs_zero]; show pgs n a = _; unfold pgs; simp
  | succ k ih =>
    have ih := ih (by omega)
    have step : ((List.range n).map fun i => if i < k then chunk b i else chunk a i).set k (chunk b k) = (List.range n).map fun i => if i < k + 1 then chunk b i else chunk a i := by
      apply List.ext_getElem?
      intro j
      by_cases hj : j < n
      · by_cases hjk : k = j
        · subst hjk
          rw [List.getElem?_set_self (by simpa using hj)]; simp [hj]
        · rw [List.getElem?_set_ne hjk]
          simp only [List.getElem?_map, List.getElem?_range hj, Option.map_some]
          by_cases h1 : j < k
          · rw [if_pos h1, if_pos (by omega)]
          · rw [if_neg h1, if_neg (by omega)]
      · rw [List.getElem?_eq_none (by simp; omega), List.getElem?_eq_none (by simp; omega)]
    by_cases hc : chunk b k = chunk a k
    · rw [diffs_same hc, ih, ← step]
      apply List.ext_getElem?
      intro j
      by_cases hj : k = j
      · subst hj
        rw [List.getElem?_set_self (by simp; omega)]
        simp [show k < n by omega, hc]
      · rw [List.getElem?_set_ne hj]
    · rw [diffs_new hc, withW_snoc, ih, ← step, Int.toNat_natCast, fill_full (chunk_len h (by omega))]

theorem diffs_all {n : Nat} {a b : List UInt8} (h : b.length = 100 * n) : withW (pgs n a) (diffs a b n) = pgs n b := by
  rw [diffs_with h (Nat.le_refl n)]
  unfold pgs
  apply List.map_congr_left
  intro i hi
  rw [if_pos (List.mem_range.1 hi)]

/-- Bytes filled with zeros. -/
def padTo (m : Nat) (b : List UInt8) : List UInt8 := b ++ List.replicate (m - b.length) 0
theorem padTo_len {m : Nat} {b : List UInt8} (h : b.length ≤ m) : (padTo m b).length = m := by unfold padTo; rw [List.length_append, List.length_replicate]; omega
theorem dec_pad {m : Nat} {l : List (List UInt8)} (h : ∀ r ∈ l, r.length ≤ 1048576) : dec (padTo m (encs l)) = (l, (encs l).length) := by
  unfold padTo; rw [dec_encs h, dec_zero]; simp

end Go.Proofs.YtngddhoolijimaaGreatDoor
namespace Go.Proofs.YtngddhoolijimaaGreatDoor
open Go.RowKit
set_option linter.unusedVariables false
set_option linter.unusedSimpArgs false

theorem xor_nat {a b : Nat} (ha : a < 4294967296) (hb : b < 4294967296) : bits .xor .u32 (a : Int) (b : Int) = ((a ^^^ b : Nat) : Int) := by
  have e : bits .xor .u32 (a : Int) (b : Int) = IntKind.u32.wrap (((BitVec.ofInt 32 (a : Int)) ^^^ (BitVec.ofInt 32 (b : Int))).toNat : Int) := rfl
  have h1 : (BitVec.ofInt 32 (a : Int)).toNat = a := by rw [BitVec.toNat_ofInt]; omega
  have h2 : (BitVec.ofInt 32 (b : Int)).toNat = b := by rw [BitVec.toNat_ofInt]; omega
  have h3 : a ^^^ b < 2 ^ 32 := Nat.xor_lt_two_pow (by omega) (by omega)
  rw [e, BitVec.toNat_xor, h1, h2, u32_id (by omega)]

theorem and_one {a : Nat} (ha : a < 4294967296) : bits .and .u32 (a : Int) 1 = ((a % 2 : Nat) : Int) := by
  have e : bits .and .u32 (a : Int) 1 = IntKind.u32.wrap (((BitVec.ofInt 32 (a : Int)) &&& (BitVec.ofInt 32 1)).toNat : Int) := rfl
  have h1 : (BitVec.ofInt 32 (a : Int)).toNat = a := by rw [BitVec.toNat_ofInt]; omega
  have h2 : (BitVec.ofInt 32 1).toNat = 1 := by decide
  rw [e, BitVec.toNat_and, h1, h2, Nat.and_one_is_mod, u32_id (by omega)]

/-- A byte of some data. -/
theorem data_byte {w : World} {l : List UInt8} {a : Option Addr} {n c i : Nat} {b : UInt8} (h : Data w (.slice a n c) l) (hi : l[i]? = some b) : ∃ g off, a = some ⟨g, off, none⟩ ∧ g < w.heap.size ∧ w.cell? ⟨g, off + i, none⟩ = some (.int .u8 (b.toNat : Int)) := by
  have hl := (List.getElem?_eq_some_iff.1 hi).1
  obtain ⟨hlen, ⟨h0, _⟩ | ⟨g, off, c', e, hnc, hg, hc⟩⟩ := h
  · omega
  · simp only [Value.slice.injEq] at e
    obtain ⟨rfl, rfl, rfl⟩ := e
    exact ⟨g, off, rfl, hg, hc i _ (pc_get hi)⟩

theorem crcs_snoc {l : List UInt8} {i : Nat} {b : UInt8} (s : Nat) (h : l[i]? = some b) : crcs s (l.take (i + 1)) = crcB (crcs s (l.take i)) b := by
  rw [snoc_take h, crcs_append, crcs_one]

set_option maxRecDepth 100000 in
set_option maxHeartbeats 2000000 in
theorem rl_update (s : Nat) (hs : s < 4294967296) (v : Value) (l : List UInt8) (w : World) (h : Data w v l) (hl : l.length ≤ 1000000000) :
    Calls Tryz.prog 38 #[.int .u32 (s : Int), v] w fun e w' => e = .returned (.int .u32 (crcs s l : Int)) ∧ w' = w := by
  obtain ⟨va, vc, rfl⟩ := Sl.len h
  have HD := Lib.hid h
  have HS := Lib.hid hs
  have HLL := Lib.hid hl
  clear h hs hl
  go_enter Tryz.func38, Tryz.ntmps38
  go_wp2
  go_loopg [10, 0] (l.length) (fun gk t10 t0 wr => ∃ k : Nat, k ≤ l.length ∧ gk + k = l.length ∧ t10 = .int .i64 (k : Int) ∧ t0 = .int .u32 (crcs s (l.take k) : Int) ∧ wr = w)
  case atStart => exact ⟨0, by omega, by omega, rfl, rfl, rfl⟩
  case round =>
    obtain ⟨k, hk, hgk, rfl, rfl, rfl⟩ := hrel
    have HGK := Lib.hid hgk
    clear hgk
    by_cases hin : k < l.length
    · have hd1 : decide ((k : Int) < (l.length : Int)) = true := by simp; omega
      have i0 : (0 : Int) ≤ (k : Int) := by omega
      have i1 : (k : Int) < (l.length : Int) := by omega
      have i2 : (k : Int) ≤ 1000000000 := by have := HLL.out; omega
      obtain ⟨b, hb⟩ : ∃ b, l[k]? = some b := ⟨_, List.getElem?_eq_getElem hin⟩
      obtain ⟨g, off, rfl, hgl, hcell⟩ := data_byte HD.out hb
      have HN := Lib.hid (show crcs s (l.take (k + 1)) = crcN 8 (crcs s (l.take k) ^^^ b.toNat) from by rw [crcs_snoc s hb]; unfold crcB; exact Eq.refl _)
      have hlt := crcs_lt HS.out (l.take k)
      generalize crcs s (l.take k) = q at *
      have hbt := b.toNat_lt
      generalize b.toNat = c at *
      have hx := xor_nat (a := q) (b := c) hlt (by omega)
      have hxl : q ^^^ c < 4294967296 := Nat.xor_lt_two_pow (n := 32) (by omega) (by omega)
      generalize q ^^^ c = x at *
      have HXL := Lib.hid hxl
      have hc0 : 0 ≤ (c : Int) ∧ (c : Int) ≤ 255 := by omega
      have hq0 : 0 ≤ (q : Int) ∧ (q : Int) ≤ 4294967295 := by omega
      clear hb hlt hbt hxl
      go_wp2
      generalize gk = G at *
      generalize wr = wo at *
      go_loopg [18, 0] 8 (fun gk t18 t0 wr => ∃ j : Nat, j ≤ 8 ∧ gk + j = 8 ∧ t18 = .int .i64 (j : Int) ∧ t0 = .int .u32 (crcN j x : Int) ∧ wr = wo)
      case atStart => exact ⟨0, by omega, by omega, rfl, rfl, rfl⟩
      case round =>
        obtain ⟨j, hj, hgj, rfl, rfl, rfl⟩ := hrel
        have HGJ := Lib.hid hgj
        clear hgj
        by_cases hjn : j < 8
        · have hd2 : decide ((j : Int) < 8) = true := by simp; omega
          have j0 : 0 ≤ (j : Int) ∧ (j : Int) < 8 := by omega
          have HZ := Lib.hid (show crcN (j + 1) x = crc1 (crcN j x) from crcN_succ j x)
          have hyl := crcN_lt HXL.out j
          generalize crcN j x = y at *
          have ha := and_one hyl
          have hy0 : 0 ≤ (y : Int) ∧ (y : Int) ≤ 4294967295 := by omega
          have hh : (y : Int) / 2 = ((y / 2 : Nat) : Int) := by omega
          have hxx : bits .xor .u32 ((y / 2 : Nat) : Int) 2197175160 = ((y / 2 ^^^ 2197175160 : Nat) : Int) := xor_nat (a := y / 2) (b := 2197175160) (by omega) (by omega)
          have hh0 : 0 ≤ ((y / 2 : Nat) : Int) ∧ ((y / 2 : Nat) : Int) ≤ 4294967295 := by omega
          by_cases hodd : y % 2 = 1
          · rw [hodd] at ha
            have HZ2 := Lib.hid (show crcN (j + 1) x = (y / 2) ^^^ 2197175160 from by rw [HZ.out]; unfold crc1; rw [if_pos hodd]; rfl)
            generalize y / 2 = z at *
            generalize z ^^^ 2197175160 = zx at *
            clear HZ hodd
            go_wp2
            go_roundg (gk - 1)
            case rel => exact ⟨j + 1, by omega, by have := HGJ.out; omega, by go_num, by rw [HZ2.out], rfl⟩
            case measure => have := HGJ.out; omega
          · have hev : y % 2 = 0 := by omega
            rw [hev] at ha
            have HZ2 := Lib.hid (show crcN (j + 1) x = y / 2 from by rw [HZ.out]; unfold crc1; rw [if_neg hodd])
            generalize y / 2 = z at *
            clear HZ hodd hev hxx
            go_wp2
            go_roundg (gk - 1)
            case rel => exact ⟨j + 1, by omega, by have := HGJ.out; omega, by go_num, by rw [HZ2.out], rfl⟩
            case measure => have := HGJ.out; omega
        · obtain rfl : j = 8 := by omega
          go_wp2
          go_roundg (G - 1)
          case rel => exact ⟨k + 1, by omega, by have := HGK.out; omega, by go_num, by rw [HN.out], rfl⟩
          case measure => have := HGK.out; omega
    · have hd1 : decide ((k : Int) < (l.length : Int)) = false := by simp; omega
      obtain rfl : k = l.length := by omega
      rw [List.take_length]
      go_wp2
      go_ret
      exact ⟨rfl, rfl⟩

set_option maxRecDepth 100000 in
theorem rl_Checksum (v : Value) (l : List UInt8) (w : World) (h : Data w v l) (hl : l.length ≤ 1000000000) :
    Calls Tryz.prog 19 #[v] w fun e w' => e = .returned (.int .u32 (sumOf l : Int)) ∧ w' = w := by
  obtain ⟨va, vc, rfl⟩ := Sl.len h
  have hx : bits .xor .u32 IntKind.u32.max (crcs 4294967295 l : Int) = ((4294967295 ^^^ crcs 4294967295 l : Nat) : Int) := xor_nat (a := 4294967295) (b := crcs 4294967295 l) (by omega) (crcs_lt (by omega) l)
  have hsg : IntKind.u32.signed = false := rfl
  have HU := Lib.hid (rl_update 4294967295 (by omega) _ l w h hl)
  have HSM := Lib.hid (show sumOf l = 4294967295 ^^^ crcs 4294967295 l from by unfold sumOf; exact Eq.refl _)
  have hlt := crcs_lt (s := 4294967295) (by omega) l
  generalize crcs 4294967295 l = q at *
  generalize 4294967295 ^^^ q = z at *
  generalize sumOf l = sm at *
  clear h hl
  go_enter Tryz.func19, Tryz.ntmps19
  go_wp2_with fail
  refine HU.out.mono ?_
  rintro e w1 ⟨rfl, rfl⟩
  go_wp2
  go_ret
  exact ⟨by rw [HSM.out]; rfl, rfl⟩

end Go.Proofs.YtngddhoolijimaaGreatDoor
namespace Go.Proofs.YtngddhoolijimaaGreatDoor
open Go.RowKit
set_option linter.unusedVariables false
set_option linter.unusedSimpArgs false

/-- A slice; a nil one has no room. -/
def rSliceZ {α : Type} (R : Rd α) : Rd (List α) where
  size := 1
  rd := fun w F cs l => (rSlice R).rd w F cs l ∧ ∀ n c, cs = [.slice none n c] → c = 0
  len := fun h => (rSlice R).len h.1
  keep := fun hk hs h => ⟨(rSlice R).keep hk hs h.1, h.2⟩
  more := fun hF h => ⟨(rSlice R).more hF h.1, h.2⟩

theorem opens_sliceZ {α : Type} {P : Program} {t e : TypeId} {R : Rd α} (ht : P.underlying t = some (.slice e)) (hc : P.cellsOf t = 1) (hpos : 0 < R.size) (h : Opens P e R) : Opens P t (rSliceZ R) :=
  ⟨hc, fun {H enc w base spare held fuel cs x} g => by
    obtain ⟨l, hl⟩ := (opens_slice ht hc hpos h).open_ g
    refine ⟨l, hl, fun n c e1 => ?_⟩
    rcases Go.Deep.open_slice ht g with ⟨rfl, _⟩ | ⟨a, len, cap, m, n', D, Pl, rfl, _⟩
    · simp at e1; exact e1.2.symm
    · simp at e1⟩

/-- Bytes; records. -/
abbrev rBy : Rd (List UInt8) := rSliceZ rByte
abbrev rRs : Rd (List (List UInt8)) := rSliceZ rBy

/-- Bytes of a call's own. -/
def Row (w : World) (base : Nat) (v : Value) (l : List UInt8) : Prop := w.ownsRow base 5 1 v l.length (pc l)
/-- Data; a nil slice has no room. -/
def Dat (w : World) (v : Value) (l : List UInt8) : Prop := Data w v l ∧ ∀ n c, v = .slice none n c → c = 0

section
variable {w w' : World} {base : Nat} {v : Value} {l : List UInt8} {F G : Nat → Prop}

theorem Row.nil (w : World) (base : Nat) : Row w base (.slice none 0 0) [] := World.ownsRow_nil _ _ _ _
theorem Row.dat (h : Row w base v l) : Dat w v l := ⟨Sl.of_own h, fun n c e => by
  rcases h.2 with ⟨e1, _⟩ | ⟨g, cap, cur, e1, _⟩
  · rw [e] at e1; cases e1; rfl
  · rw [e] at e1; cases e1⟩
theorem Row.keep (h : Row w base v l) (hb : Below w.heap.size w w') : Row w' base v l := own_at h hb
theorem Row.low {base' : Nat} (h : Row w base v l) (hb : base' ≤ base) : Row w base' v l := own_le h hb
theorem Row.other {row : Option Nat} (h : Row w base v l) (hg : w.grownBy w' row) (hne : ∀ b, v.ownBlock = some b → some b ≠ row) : Row w' base v l := own_keep h hg hne
theorem Row.ge (h : Row w base v l) : ∀ b, v.ownBlock = some b → base ≤ b ∧ b < w.heap.size := fun b hb => ⟨own_base h b hb, by
  rcases Nat.lt_or_ge b w.heap.size with k | k
  · exact k
  · exact absurd hb.symm (own_block_lt h b k)⟩
theorem Dat.keep (h : Dat w v l) (hb : Below w.heap.size w w') : Dat w' v l := ⟨h.1.keep hb, h.2⟩
theorem Dat.of_rd (h : rBy.rd w F [v] l) : Dat w v l := ⟨data_of h.1, fun n c e => h.2 n c (by rw [e])⟩
theorem Dat.len (h : Dat w v l) : ∃ a c, v = .slice a l.length c := Sl.len h.1

/-- Own bytes, read. -/
theorem Row.rd (h : Row w base v l) (hF : ∀ b, base ≤ b → b < w.heap.size → F b) : rBy.rd w F [v] l := by
  refine ⟨rd_own (R := rByte) h ⟨by rw [pc_len]; exact (Nat.mul_one _).symm, rfl, fun i y hy => ?_⟩ hF, fun n c e => h.dat.2 n c (by simpa using e)⟩
  have e1 : rByte.size = 1 := rfl
  have hl : i < (pc l).length := by rw [pc_len]; exact (List.getElem?_eq_some_iff.1 hy).1
  have e2 : (pc l)[i] = .int .u8 (y.toNat : Int) := by
    have := pc_get hy
    rw [List.getElem?_eq_getElem hl] at this
    exact Option.some.inj this
  rw [e1, Nat.mul_one, List.drop_eq_getElem_cons hl, List.take_succ_cons, List.take_zero, e2]
  rfl

/-- What is read lies where something is. -/
theorem by_shrink (hG : ∀ b, F b → b < w.heap.size → G b) (h : rBy.rd w F [v] l) : rBy.rd w G [v] l := by
  obtain ⟨⟨a, n, c, e, h1, h2, h3, h4⟩, h5⟩ := h
  exact ⟨⟨a, n, c, e, h1, h2, h3, h4.imp id fun ⟨b, off, ea, hF, hl, hx⟩ => ⟨b, off, ea, hG b hF hl, hl, fun i x hi => by
    obtain ⟨ys, k1, k2⟩ := hx i x hi
    exact ⟨ys, k1, k2⟩⟩⟩, h5⟩

theorem rs_shrink {L : List (List UInt8)} (hG : ∀ b, F b → b < w.heap.size → G b) (h : rRs.rd w F [v] L) : rRs.rd w G [v] L := by
  obtain ⟨⟨a, n, c, e, h1, h2, h3, h4⟩, h5⟩ := h
  refine ⟨⟨a, n, c, e, h1, h2, h3, h4.imp id fun ⟨b, off, ea, hF, hl, hx⟩ => ⟨b, off, ea, hG b hF hl, hl, fun i x hi => ?_⟩⟩, h5⟩
  obtain ⟨ys, k1, k2⟩ := hx i x hi
  have hl : ys.length = 1 := rBy.len k2
  obtain ⟨u, rfl⟩ : ∃ u, ys = [u] := by match ys, hl with | [a], _ => exact ⟨a, rfl⟩
  exact ⟨[u], k1, by_shrink hG k2⟩

/-- A record. -/
theorem rs_get {L : List (List UInt8)} (h : rRs.rd w F [v] L) : ∃ a c, v = .slice a L.length c ∧ L.length ≤ c ∧ c ≤ maxLen ∧ ∀ k x, L[k]? = some x → ∃ g off u, a = some ⟨g, off, none⟩ ∧ F g ∧ g < w.heap.size ∧ w.cell? ⟨g, off + k, none⟩ = some u ∧ rBy.rd w F [u] x := by
  obtain ⟨⟨a, n, c, e, rfl, hnc, hcm, h4⟩, _⟩ := h
  obtain rfl : v = .slice a L.length c := by simpa using e
  refine ⟨a, c, rfl, hnc, hcm, fun k x hx => ?_⟩
  rcases h4 with h4 | ⟨b, off, rfl, hF, hb, h⟩
  · have := (List.getElem?_eq_some_iff.1 hx).1; omega
  · obtain ⟨ys, hA, hr⟩ := h k x hx
    have hl : ys.length = 1 := rBy.len hr
    obtain ⟨u, rfl⟩ : ∃ u, ys = [u] := by match ys, hl with | [a], _ => exact ⟨a, rfl⟩
    have := hA 0 _ rfl
    rw [Nat.add_zero, show k * rBy.size = k from Nat.mul_one k] at this
    exact ⟨b, off, u, rfl, hF, hb, this, hr⟩
end

/-- append on bytes. -/
theorem wpList_app {ops : Array Oper} {rest : List Oper} {o : Oper} {a : Act} {w : World} {Q : Exit → Act → World → Prop} (hgd : o.guard = none) (s x : Operand)
    (ho : o.op = Op.call { callee := Callee.builtin Builtin.append, args := #[s, x], argTypes := #[51, 51] })
    (base : Nat) (v : Value) (l : List UInt8) (hs : a.eval s = v) (hown : Row w base v l) (xv : Value) (m : List UInt8) (hx : a.eval x = xv) (hd : Dat w xv m) (hl : l.length + m.length ≤ 1000000000) (hbase : base ≤ w.heap.size)
    (h : ∀ v' w', Row w' base v' (l ++ m) → w.grownBy w' v.ownBlock → Below base w w' → wpList Tryz.prog ops Q rest (a.put o.dst v') w') : wpList Tryz.prog ops Q (o :: rest) a w := by
  obtain ⟨i0, hi0, hz0, hz1, hz2⟩ := info_parts byte_info2
  refine wpList_append_sl hgd s x 51 ho base 5 i0 _ 1 1 Tryz.underlying51 hi0 hz0 hz1 hz2 rfl (by decide) v l.length (pc l) hs hown xv m.length (pc m) hx hd.1 hd.2 (pc_one _) (by unfold maxLen; omega) (by omega) hbase ?_
  intro v' w' h1 h2 h3
  refine h v' w' ?_ h2 h3
  unfold Row
  rw [pc_append, List.length_append]; exact h1

theorem step_app {ops : Array Oper} {o : Oper} {a : Act} {w : World} {K : Act → World → Prop} {Q : Exit → Act → World → Prop} {E : Prop} (hgd : o.guard = none) (s x : Operand)
    (ho : o.op = Op.call { callee := Callee.builtin Builtin.append, args := #[s, x], argTypes := #[51, 51] })
    (base : Nat) (v : Value) (l : List UInt8) (hs : a.eval s = v) (hown : Row w base v l) (xv : Value) (m : List UInt8) (hx : a.eval x = xv) (hd : Dat w xv m) (hl : l.length + m.length ≤ 1000000000) (hbase : base ≤ w.heap.size) (w0 : World) (hb : Below base w0 w)
    (h : ∀ v' w', Row w' base v' (l ++ m) → w.grownBy w' v.ownBlock → Below base w0 w' → K (a.put o.dst v') w') :
    if Region.wanted o (yielded ops a.tmps) = true then Oper.wp Tryz.prog o a w K Q else E := by
  obtain ⟨i0, hi0, hz0, hz1, hz2⟩ := info_parts byte_info2
  refine step_append_sl hgd s x 51 ho base 5 i0 _ 1 1 Tryz.underlying51 hi0 hz0 hz1 hz2 rfl (by decide) v l.length (pc l) hs hown xv m.length (pc m) hx hd.1 (fun c hc => hd.2 _ c hc) (pc_one _) (by unfold maxLen; omega) (by omega) hbase w0 hb ?_
  intro v' w' h1 h2 h3
  refine h v' w' ?_ h2 h3
  unfold Row
  rw [pc_append, List.length_append]; exact h1

/-- A block of bytes just made. -/
theorem row_made (w : World) (l : List UInt8) (n : Nat) (hn : n = l.length) (hm : l.length ≤ 1000000000) : Row (w.alloc (.cells (pc l).toArray 5)) w.heap.size (.slice (some ⟨w.heap.size, 0, none⟩) n n) l := by
  subst hn
  exact row_new w _ _ _ 1 _ (Nat.le_refl _) (by unfold maxLen; omega) (by rw [pc_len, Nat.mul_one])

end Go.Proofs.YtngddhoolijimaaGreatDoor
namespace Go.Proofs.YtngddhoolijimaaGreatDoor
open Go.RowKit
set_option linter.unusedVariables false
set_option linter.unusedSimpArgs false

set_option maxRecDepth 100000 in
set_option maxHeartbeats 2000000 in
theorem rf_Checksum (v : Value) (l : List UInt8) (w : World) (h : Data w v l) (hl : l.length ≤ 1000000000) :
    Calls Tryz.prog 54 #[v] w fun e w' => e = .returned (.int .u32 (sumOf l : Int)) ∧ w' = w := by
  obtain ⟨va, vc, rfl⟩ := Sl.len h
  have HD := Lib.hid h
  obtain ⟨s, hsv⟩ : ∃ s : Nat, s = 4294967295 := ⟨_, rfl⟩
  have hs : s < 4294967296 := by omega
  have hsI : (4294967295 : Int) = (s : Int) := by omega
  have HS := Lib.hid hs
  have HSV := Lib.hid hsv
  have HLL := Lib.hid hl
  clear h hs hl hsv
  go_enter Tryz.func54, Tryz.ntmps54
  go_wp2
  go_loopg [3, 4] (l.length) (fun gk t3 t4 wr => ∃ k : Nat, k ≤ l.length ∧ gk + k = l.length ∧ t4 = .int .i64 (k : Int) ∧ t3 = .int .u32 (crcs s (l.take k) : Int) ∧ wr = w)
  case atStart => exact ⟨0, by omega, by omega, rfl, by rw [HSV.out]; exact Eq.refl _, rfl⟩
  case round =>
    obtain ⟨k, hk, hgk, rfl, rfl, rfl⟩ := hrel
    have HGK := Lib.hid hgk
    clear hgk
    by_cases hin : k < l.length
    · have hd1 : decide ((k : Int) < (l.length : Int)) = true := by simp; omega
      have i0 : (0 : Int) ≤ (k : Int) := by omega
      have i1 : (k : Int) < (l.length : Int) := by omega
      have i2 : (k : Int) ≤ 1000000000 := by have := HLL.out; omega
      obtain ⟨b, hb⟩ : ∃ b, l[k]? = some b := ⟨_, List.getElem?_eq_getElem hin⟩
      obtain ⟨g, off, rfl, hgl, hcell⟩ := data_byte HD.out hb
      have HN := Lib.hid (show crcs s (l.take (k + 1)) = crcN 8 (crcs s (l.take k) ^^^ b.toNat) from by rw [crcs_snoc s hb]; unfold crcB; exact Eq.refl _)
      have hlt := crcs_lt HS.out (l.take k)
      generalize crcs s (l.take k) = q at *
      have hbt := b.toNat_lt
      generalize b.toNat = c at *
      have hx := xor_nat (a := q) (b := c) hlt (by omega)
      have hxl : q ^^^ c < 4294967296 := Nat.xor_lt_two_pow (n := 32) (by omega) (by omega)
      generalize q ^^^ c = x at *
      have HXL := Lib.hid hxl
      have hc0 : 0 ≤ (c : Int) ∧ (c : Int) ≤ 255 := by omega
      have hq0 : 0 ≤ (q : Int) ∧ (q : Int) ≤ 4294967295 := by omega
      clear hb hlt hbt hxl
      go_wp2
      generalize gk = G at *
      generalize wr = wo at *
      go_loopg [3, 5] 8 (fun gk t3 t5 wr => ∃ j : Nat, j ≤ 8 ∧ gk + j = 8 ∧ t5 = .int .i64 (j : Int) ∧ t3 = .int .u32 (crcN j x : Int) ∧ wr = wo)
      case atStart => exact ⟨0, by omega, by omega, rfl, rfl, rfl⟩
      case round =>
        obtain ⟨j, hj, hgj, rfl, rfl, rfl⟩ := hrel
        have HGJ := Lib.hid hgj
        clear hgj
        by_cases hjn : j < 8
        · have hd2 : decide ((j : Int) < 8) = true := by simp; omega
          have j0 : 0 ≤ (j : Int) ∧ (j : Int) < 8 := by omega
          have HZ := Lib.hid (show crcN (j + 1) x = crc1 (crcN j x) from crcN_succ j x)
          have hyl := crcN_lt HXL.out j
          generalize crcN j x = y at *
          have ha := and_one hyl
          have hy0 : 0 ≤ (y : Int) ∧ (y : Int) ≤ 4294967295 := by omega
          have hh : (y : Int) / 2 = ((y / 2 : Nat) : Int) := by omega
          have hxx : bits .xor .u32 ((y / 2 : Nat) : Int) 2197175160 = ((y / 2 ^^^ 2197175160 : Nat) : Int) := xor_nat (a := y / 2) (b := 2197175160) (by omega) (by omega)
          have hh0 : 0 ≤ ((y / 2 : Nat) : Int) ∧ ((y / 2 : Nat) : Int) ≤ 4294967295 := by omega
          by_cases hodd : y % 2 = 1
          · rw [hodd] at ha
            have HZ2 := Lib.hid (show crcN (j + 1) x = (y / 2) ^^^ 2197175160 from by rw [HZ.out]; unfold crc1; rw [if_pos hodd]; rfl)
            generalize y / 2 = z at *
            generalize z ^^^ 2197175160 = zx at *
            clear HZ hodd
            go_wp2
            go_roundg (gk - 1)
            case rel => exact ⟨j + 1, by omega, by have := HGJ.out; omega, by go_num, by rw [HZ2.out], rfl⟩
            case measure => have := HGJ.out; omega
          · have hev : y % 2 = 0 := by omega
            rw [hev] at ha
            have HZ2 := Lib.hid (show crcN (j + 1) x = y / 2 from by rw [HZ.out]; unfold crc1; rw [if_neg hodd])
            generalize y / 2 = z at *
            clear HZ hodd hev hxx
            go_wp2
            go_roundg (gk - 1)
            case rel => exact ⟨j + 1, by omega, by have := HGJ.out; omega, by go_num, by rw [HZ2.out], rfl⟩
            case measure => have := HGJ.out; omega
        · obtain rfl : j = 8 := by omega
          go_wp2
          go_roundg (G - 1)
          case rel => exact ⟨k + 1, by omega, by have := HGK.out; omega, by go_num, by rw [HN.out], rfl⟩
          case measure => have := HGK.out; omega
    · have hd1 : decide ((k : Int) < (l.length : Int)) = false := by simp; omega
      obtain rfl : k = l.length := by omega
      rw [List.take_length]
      have hx : bits .xor .u32 IntKind.u32.max (crcs s l : Int) = ((4294967295 ^^^ crcs s l : Nat) : Int) := xor_nat (a := 4294967295) (b := crcs s l) (by omega) (crcs_lt HS.out l)
      have hsg : IntKind.u32.signed = false := rfl
      have HSM := Lib.hid (show sumOf l = 4294967295 ^^^ crcs s l from by rw [HSV.out]; unfold sumOf; exact Eq.refl _)
      generalize crcs s l = q at *
      generalize 4294967295 ^^^ q = z at *
      go_wp2
      go_ret
      exact ⟨by rw [HSM.out]; rfl, rfl⟩

set_option maxRecDepth 100000 in
theorem rl_appendWord (base : Nat) (v : Value) (l : List UInt8) (x : Nat) (w : World) (hown : Row w base v l) (hx : x < 4294967296) (hb : base ≤ w.heap.size) (hn : l.length ≤ 900000000) :
    Calls Tryz.prog 58 #[v, .int .u32 (x : Int)] w fun e w' => ∃ v', e = .returned v' ∧ Row w' base v' (l ++ four x) ∧ Grew v w w' ∧ Below base w w' := by
  have HO := Lib.hid hown
  clear hown
  go_enter Tryz.func58, Tryz.ntmps58
  go_wp2_with (at_builtin; rw [four_cells hx]; refine wpList_app rfl _ _ rfl base v l rfl (HO.out.keep ((Below.refl _ _).alloc (Nat.le_refl _) _)) _ (four x) rfl (row_made w _ 4 rfl (by rw [four_len]; omega)).dat (by rw [four_len]; omega) (by simp; omega) ?_)
  intro v' w' hown hg hbel
  have HO2 := Lib.hid hown
  have HG := Lib.hid hg
  have HB := Lib.hid hbel
  clear hown hbel hg
  go_wp2
  go_ret
  refine ⟨_, rfl, HO2.out, ?_, ((Below.refl _ _).alloc hb _).trans HB.out⟩
  exact (Chg.of_below ((Below.refl _ _).alloc (Nat.le_refl _) _)).trans (Chg.grown HG.out (fun b h => h))

set_option maxRecDepth 100000 in
theorem rf_four (x : Nat) (w : World) (hx : x < 4294967296) :
    Calls Tryz.prog 53 #[.int .u32 (x : Int)] w fun e w' => e = .returned (.slice (some ⟨w.heap.size, 0, none⟩) 4 4) ∧ w' = w.alloc (.cells (pc (four x)).toArray 5) := by
  have HF := Lib.hid (four_cells hx)
  go_enter Tryz.func53, Tryz.ntmps53
  go_wp2
  go_ret
  exact ⟨rfl, by rw [← HF.out]⟩

set_option maxRecDepth 100000 in
theorem rl_word (v : Value) (b : List UInt8) (w : World) (h : Data w v b) (hl : 4 ≤ b.length) : Calls Tryz.prog 73 #[v] w fun e w' => e = .returned (.int .u32 (wordAt b : Int)) ∧ Below w.heap.size w w' := by
  obtain ⟨va, vc, rfl⟩ := Sl.len h
  obtain ⟨g, off, rfl, _, hnc, c0, c1, c2, c3⟩ := data_four h hl
  have b0 := (b.getD 0 0).toNat_lt
  have b1 := (b.getD 1 0).toNat_lt
  have b2 := (b.getD 2 0).toNat_lt
  have b3 := (b.getD 3 0).toNat_lt
  have i0 : (0 : Int) < (b.length : Int) := by omega
  have i1 : (1 : Int) < (b.length : Int) := by omega
  have i2 : (2 : Int) < (b.length : Int) := by omega
  have i3 : (3 : Int) < (b.length : Int) := by omega
  unfold wordAt
  clear h
  generalize (b.getD 0 0).toNat = x0 at *
  generalize (b.getD 1 0).toNat = x1 at *
  generalize (b.getD 2 0).toNat = x2 at *
  generalize (b.getD 3 0).toNat = x3 at *
  generalize b.length = m at *
  have j0 : 0 < m := by omega
  have j1 : 1 < m := by omega
  have j2 : 2 < m := by omega
  have j3 : 3 < m := by omega
  go_enter Tryz.func73, Tryz.ntmps73
  go_wp2_with fail
  refine region_all (by kernel_rfl) (by kernel_rfl) ?_
  intro wD hWD
  have k0 : wD.cell? ⟨g, off, none⟩ = some (.int .u8 (x0 : Int)) := by rw [hWD]; exact c0
  have k1 : wD.cell? ⟨g, off + 1, none⟩ = some (.int .u8 (x1 : Int)) := by rw [hWD]; exact c1
  have k2 : wD.cell? ⟨g, off + 2, none⟩ = some (.int .u8 (x2 : Int)) := by rw [hWD]; exact c2
  have k3 : wD.cell? ⟨g, off + 3, none⟩ = some (.int .u8 (x3 : Int)) := by rw [hWD]; exact c3
  have HB := Lib.hid (show Below w.heap.size w wD from by rw [hWD]; exact (Below.refl _ _).drew)
  clear hWD c0 c1 c2 c3
  iterate 23 (refine stillH_want (by kernel_rfl) (fun K hK => ?_); go_simp; refine hK _ ?_; clear hK K)
  refine stillH_nil ?_
  go_wp2
  go_ret
  exact ⟨by rw [← word_bits b0 b1 b2 b3]; rfl, HB.out⟩

end Go.Proofs.YtngddhoolijimaaGreatDoor
namespace Go.Proofs.YtngddhoolijimaaGreatDoor
open Go.RowKit
set_option linter.unusedVariables false
set_option linter.unusedSimpArgs false

theorem encs_snoc {L : List (List UInt8)} {k : Nat} {x : List UInt8} (h : L[k]? = some x) : encs (L.take (k + 1)) = encs (L.take k) ++ recB x := by
  rw [snoc_take h, encs_append]; unfold encs; simp
theorem encs_take_le (L : List (List UInt8)) (k : Nat) : (encs (L.take k)).length ≤ (encs L).length := by
  conv => rhs; rw [← List.take_append_drop k L, encs_append, List.length_append]
  omega
theorem mem_of_get {α : Type} {L : List α} {k : Nat} {x : α} (h : L[k]? = some x) : x ∈ L := List.mem_of_getElem? h

theorem sum_parts (x : Nat) (r : List UInt8) : ((4294967295 ^^^ crcs (crcs 4294967295 (four x)) r : Nat)) = sumOf (four x ++ r) := by unfold sumOf; rw [crcs_append]

set_option maxRecDepth 100000 in
set_option maxHeartbeats 2000000 in
theorem rl_appendRecord {F : Nat → Prop} (base : Nat) (v : Value) (b : List UInt8) (dv : Value) (r : List UInt8) (w : World) (hown : Row w base v b) (hd : rBy.rd w F [dv] r) (hF : ∀ k, F k → k < base) (hb : base ≤ w.heap.size) (hr : r.length ≤ 1048576) (hn : b.length ≤ 100000000) :
    Calls Tryz.prog 39 #[v, dv] w fun e w' => ∃ v', e = .returned v' ∧ Row w' base v' (b ++ recB r) ∧ Below base w w' := by
  obtain ⟨da, dc, rfl⟩ := (Dat.of_rd hd).len
  have HO := Lib.hid hown
  have HD := Lib.hid hd
  have HF := Lib.hid hF
  have HLN := Lib.hid (And.intro hr hn)
  obtain ⟨x, hx⟩ : ∃ x, x = r.length + 1 := ⟨_, rfl⟩
  have hxI : (r.length : Int) + 1 = (x : Int) := by omega
  have hx0 : 0 ≤ (x : Int) ∧ (x : Int) ≤ 1048577 := by omega
  have hr0 : 0 ≤ (r.length : Int) ∧ (r.length : Int) ≤ 1048576 := by omega
  have HX := Lib.hid hx
  have HB := Lib.hid hb
  clear hown hd hF hn hx hb hr
  go_enter Tryz.func39, Tryz.ntmps39
  go_wp2_with fail
  refine (rl_appendWord w.heap.size (.slice none 0 0) [] x w (Row.nil _ _) (by omega) (Nat.le_refl _) (by simp)).mono ?_
  rintro e w1 ⟨v1, rfl, h1, _, hb1⟩
  rw [List.nil_append] at h1
  have H1 := Lib.hid h1
  have HB1 := Lib.hid hb1
  have HO1 := Lib.hid (HO.out.keep hb1)
  clear h1 hb1
  go_wp2_with (at_builtin; refine wpList_app rfl _ _ rfl base v b rfl HO1.out v1 (four x) rfl H1.out.dat (by rw [four_len]; have := HLN.out.2; omega) (by have := HB1.out.size; have := HB.out; omega) ?_)
  intro v2 w2 h2 hg2 hb2
  have H2 := Lib.hid h2
  have HB2 := Lib.hid ((HB1.out.mono HB.out).trans hb2)
  have H12 := Lib.hid (H1.out.other hg2 (fun k hk e => by
    have a := (H1.out.ge k hk).1
    have c := (HO.out.ge k e.symm).2
    omega))
  have HD2 := Lib.hid (rBy.keep (fun k hk hl => HB2.out.block k (HF.out k hk)) HB2.out.size HD.out)
  clear h2 hg2 hb2
  go_wp2_with fail
  refine (rl_update 4294967295 (by omega) v1 (four x) w2 H12.out.dat.1 (by rw [four_len]; omega)).mono ?_
  rintro e w3 ⟨rfl, rfl⟩
  obtain ⟨s1, hs1⟩ : ∃ s1, s1 = crcs 4294967295 (four x) := ⟨_, rfl⟩
  rw [← hs1]
  have hlt : s1 < 4294967296 := by rw [hs1]; exact crcs_lt (by omega) _
  have HS1 := Lib.hid hs1
  have HLT := Lib.hid hlt
  clear hs1 hlt
  go_wp2_with fail
  refine (rl_update s1 HLT.out _ r w3 (Dat.of_rd HD2.out).1 (by have := HLN.out.1; omega)).mono ?_
  rintro e w4 ⟨rfl, rfl⟩
  have hxs : bits .xor .u32 IntKind.u32.max (crcs s1 r : Int) = ((4294967295 ^^^ crcs s1 r : Nat) : Int) := xor_nat (a := 4294967295) (b := crcs s1 r) (by omega) (crcs_lt HLT.out r)
  have hsg : IntKind.u32.signed = false := rfl
  have hsm : 4294967295 ^^^ crcs s1 r = sumOf (four x ++ r) := by rw [HS1.out]; exact sum_parts x r
  rw [hsm] at hxs
  have HSL := Lib.hid (sumOf_lt (four x ++ r))
  generalize crcs s1 r = q at *
  obtain ⟨z, hz⟩ : ∃ z, z = sumOf (four x ++ r) := ⟨_, rfl⟩
  rw [← hz] at hxs HSL
  have HZ := Lib.hid hz
  clear hsm hz
  go_wp2_with fail
  refine (rl_appendWord base v2 (b ++ four x) z w4 H2.out HSL.out (by have := HB2.out.size; have := HB.out; omega) (by rw [List.length_append, four_len]; have := HLN.out.2; omega)).mono ?_
  rintro e w5 ⟨v5, rfl, h5, _, hb5⟩
  have H5 := Lib.hid h5
  have HB5 := Lib.hid (HB2.out.trans hb5)
  have HD5 := Lib.hid (rBy.keep (fun k hk hl => HB5.out.block k (HF.out k hk)) HB5.out.size HD.out)
  clear h5 hb5
  go_wp2_with (at_builtin; refine wpList_app rfl _ _ rfl base v5 ((b ++ four x) ++ four z) rfl H5.out _ r rfl (Dat.of_rd HD5.out) (by rw [List.length_append, List.length_append, four_len, four_len]; have := HLN.out; omega) (by have := HB5.out.size; have := HB.out; omega) ?_)
  intro v6 w6 h6 _ hb6
  have H6 := Lib.hid h6
  have HB6 := Lib.hid (HB5.out.trans hb6)
  clear h6 hb6
  go_wp2
  go_ret
  have e : b ++ recB r = b ++ (four x ++ (four z ++ r)) := by rw [HZ.out, HX.out]; unfold recB; simp [List.append_assoc]
  refine ⟨v6, rfl, ?_, HB6.out⟩
  rw [e]
  simpa only [List.append_assoc] using H6.out

/-- Records that can be encoded. -/
def Small (L : List (List UInt8)) : Prop := (∀ r ∈ L, r.length ≤ 1048576) ∧ (encs L).length ≤ 50000000

set_option maxRecDepth 100000 in
set_option maxHeartbeats 2000000 in
theorem rl_Encode {F : Nat → Prop} (lv : Value) (L : List (List UInt8)) (w : World) (h : rRs.rd w F [lv] L) (hs : Small L) :
    Calls Tryz.prog 20 #[lv] w fun e w' => ∃ v', e = .returned v' ∧ Row w' w.heap.size v' (encs L) ∧ Below w.heap.size w w' := by
  have h' := rs_shrink (G := (· < w.heap.size)) (fun b _ hb => hb) h
  obtain ⟨la, lc, rfl, hlc, hlm, hget⟩ := rs_get h'
  have HG := Lib.hid hget
  have HS := Lib.hid hs
  have hll : 0 ≤ (L.length : Int) := by omega
  have hlm2 : (L.length : Int) ≤ 9223372036854775807 := by unfold maxLen at hlm; omega
  clear h h' hget hs hlc hlm
  go_enter Tryz.func20, Tryz.ntmps20
  go_wp2
  go_loopg [3, 8] (L.length) (fun gk t3 t8 wr => ∃ (k : Nat) (v : Value), k ≤ L.length ∧ gk + k = L.length ∧ t8 = .int .i64 (k : Int) ∧ v = t3 ∧ Row wr w.heap.size v (encs (L.take k)) ∧ Below w.heap.size w wr)
  case atStart => exact ⟨0, _, by omega, by omega, rfl, rfl, Row.nil _ _, Below.refl _ _⟩
  case round =>
    obtain ⟨k, v, hk, hgk, rfl, rfl, hrow, hB⟩ := hrel
    have HGK := Lib.hid hgk
    have HR := Lib.hid hrow
    have HB := Lib.hid hB
    clear hgk hrow hB
    by_cases hin : k < L.length
    · have hd1 : decide ((k : Int) < (L.length : Int)) = true := by simp; omega
      have i0 : (0 : Int) ≤ (k : Int) := by omega
      have i1 : (k : Int) < (L.length : Int) := by omega
      obtain ⟨x, hx⟩ : ∃ x, L[k]? = some x := ⟨_, List.getElem?_eq_getElem hin⟩
      obtain ⟨g, off, u, rfl, _, hgl, hc, hu⟩ := HG.out k x hx
      have hc' := (HB.out.cell (p := ⟨g, off + k, none⟩) hgl).trans hc
      have HU := Lib.hid (rBy.keep (fun b hb hl => HB.out.block b hl) HB.out.size hu)
      have HX := Lib.hid hx
      clear hc hu hx
      go_wp2_with fail
      refine (rl_appendRecord w.heap.size v (encs (L.take k)) u x wr HR.out HU.out (fun b hb => hb) HB.out.size (HS.out.1 x (mem_of_get HX.out)) (by have := encs_take_le L k; have := HS.out.2; omega)).mono ?_
      rintro e w2 ⟨v2, rfl, h2, hb2⟩
      have H2 := Lib.hid h2
      have HB2 := Lib.hid (HB.out.trans hb2)
      clear h2 hb2
      go_wp2
      go_roundg (gk - 1)
      case rel => exact ⟨k + 1, _, by omega, by have := HGK.out; omega, by go_num, rfl, by rw [encs_snoc HX.out]; exact H2.out, HB2.out⟩
      case measure => have := HGK.out; omega
    · have hd1 : decide ((k : Int) < (L.length : Int)) = false := by simp; omega
      obtain rfl : k = L.length := by omega
      have hr := HR.out
      rw [List.take_length] at hr
      have HR2 := Lib.hid hr
      clear hr
      go_wp2
      go_ret
      exact ⟨_, rfl, HR2.out, HB.out⟩

set_option maxRecDepth 100000 in
set_option maxHeartbeats 4000000 in
theorem rf_EncodeRecords {F : Nat → Prop} (lv : Value) (L : List (List UInt8)) (w : World) (h : rRs.rd w F [lv] L) (hs : Small L) :
    Calls Tryz.prog 30 #[lv] w fun e w' => ∃ v', e = .returned v' ∧ Row w' w.heap.size v' (encs L) ∧ Below w.heap.size w w' := by
  have h' := rs_shrink (G := (· < w.heap.size)) (fun b _ hb => hb) h
  obtain ⟨la, lc, rfl, hlc, hlm, hget⟩ := rs_get h'
  have HG := Lib.hid hget
  have HS := Lib.hid hs
  have hll : 0 ≤ (L.length : Int) := by omega
  have hlm2 : (L.length : Int) ≤ 9223372036854775807 := by unfold maxLen at hlm; omega
  clear h h' hget hs hlc hlm
  go_enter Tryz.func30, Tryz.ntmps30
  go_wp2
  go_loopg [3, 4] (L.length) (fun gk t3 t4 wr => ∃ (k : Nat) (v : Value), k ≤ L.length ∧ gk + k = L.length ∧ t4 = .int .i64 (k : Int) ∧ v = t3 ∧ Row wr w.heap.size v (encs (L.take k)) ∧ Below w.heap.size w wr)
  case atStart => exact ⟨0, _, by omega, by omega, rfl, rfl, Row.nil _ _, Below.refl _ _⟩
  case round =>
    obtain ⟨k, v, hk, hgk, rfl, rfl, hrow, hB⟩ := hrel
    have HGK := Lib.hid hgk
    have HR := Lib.hid hrow
    have HB := Lib.hid hB
    clear hgk hrow hB
    by_cases hin : k < L.length
    · have hd1 : decide ((k : Int) < (L.length : Int)) = true := by simp; omega
      have i0 : (0 : Int) ≤ (k : Int) := by omega
      have i1 : (k : Int) < (L.length : Int) := by omega
      obtain ⟨r, hx⟩ : ∃ x, L[k]? = some x := ⟨_, List.getElem?_eq_getElem hin⟩
      obtain ⟨g, off, u, rfl, _, hgl, hc, hu⟩ := HG.out k r hx
      obtain ⟨da, dc, rfl⟩ := (Dat.of_rd hu).len
      have hc' := (HB.out.cell (p := ⟨g, off + k, none⟩) hgl).trans hc
      have HU := Lib.hid hu
      have KEEP := Lib.hid (show ∀ W', Below w.heap.size w W' → W'.cell? ⟨g, off + k, none⟩ = some (.slice da r.length dc) from fun W' hb => (hb.cell (p := ⟨g, off + k, none⟩) hgl).trans hc)
      have HX := Lib.hid hx
      have HRL := Lib.hid (HS.out.1 r (mem_of_get hx))
      obtain ⟨x, hxe⟩ : ∃ x, x = r.length + 1 := ⟨_, rfl⟩
      have hxI : (r.length : Int) + 1 = (x : Int) := by omega
      have hrl := HRL.out
      have hx0 : 0 ≤ (x : Int) ∧ (x : Int) ≤ 1048577 := by omega
      have hr0 : 0 ≤ (r.length : Int) ∧ (r.length : Int) ≤ 1048576 := by omega
      have HXE := Lib.hid hxe
      have HLN := Lib.hid (show (encs (L.take k)).length ≤ 50000000 from by have := encs_take_le L k; have := HS.out.2; omega)
      clear hc hu hx hxe hrl
      go_wp2_with fail
      refine (rf_four x wr (by omega)).mono ?_
      rintro e w1 ⟨rfl, hw1⟩
      have H1 := Lib.hid (show Row w1 wr.heap.size (.slice (some ⟨wr.heap.size, 0, none⟩) 4 4) (four x) from by rw [hw1]; exact row_made wr (four x) 4 rfl (by rw [four_len]; omega))
      have HB1 := Lib.hid (show Below wr.heap.size wr w1 from by rw [hw1]; exact (Below.refl _ _).alloc (Nat.le_refl _) _)
      have HR1 := Lib.hid (HR.out.keep HB1.out)
      have hc1 := KEEP.out w1 (HB.out.trans (HB1.out.mono HB.out.size))
      clear hw1 hc'
      go_wp2_with (at_builtin; refine wpList_app rfl _ _ rfl w.heap.size v (encs (L.take k)) rfl HR1.out _ (four x) rfl H1.out.dat (by rw [four_len]; have := HLN.out; omega) (by have := HB1.out.size; have := HB.out.size; omega) ?_)
      intro v2 w2 h2 hg2 hb2
      have H2 := Lib.hid h2
      have HB2 := Lib.hid ((HB.out.trans (HB1.out.mono HB.out.size)).trans hb2)
      have H12 := Lib.hid (H1.out.other hg2 (fun b hb e => by
        have a := (H1.out.ge b hb).1
        have c := (HR.out.ge b e.symm).2
        omega))
      have hc2 := KEEP.out w2 HB2.out
      clear h2 hg2 hb2 hc1
      go_wp2_with fail
      have hc3 := KEEP.out w2.drew HB2.out.drew
      go_region_held3 (fun W => W.cell? ⟨g, off + k, none⟩ = some (.slice da r.length dc))
        (first | assumption | exact KEEP.out _ HB2.out.drew | exact KEEP.out _ (HB2.out.trans (hbA.mono HB2.out.size)) | exact KEEP.out _ (HB2.out.trans (hbB.mono HB2.out.size)) | exact KEEP.out _ ((HB2.out.trans (hbB.mono HB2.out.size)).alloc ((HB2.out.trans (hbB.mono HB2.out.size)).size) _) | exact KEEP.out _ hbD)
        (first | (refine step_app (by rfl) (.const (.slice none 0 0)) (.tmp 24) (by rfl) w2.heap.size (.slice none 0 0) [] (by simp [Act.eval]) (Row.nil _ _) (.slice (some ⟨wr.heap.size, 0, none⟩) 4 4) (four x) (by simp [Act.eval, Act.put]) (H12.out.dat.keep (Below.refl _ _).drew) (by rw [four_len]; simp) (by simp) w2 ((Below.refl _ _).drew) ?_; intro vA wA hA hgA hbA; rw [List.nil_append] at hA) | (refine step_app (by rfl) (.tmp 25) (.tmp 29) (by rfl) w2.heap.size vA (four x) (by simp [Act.eval, Act.put]) hA (.slice da r.length dc) r (by simp [Act.eval, Act.put]) ((Dat.of_rd HU.out).keep (HB2.out.trans (hbA.mono HB2.out.size))) (by rw [four_len]; have := HRL.out; omega) (by have := hbA.size; omega) w2 hbA ?_; intro vB wB hB hgB hbB) | (go_at_call 54; refine (rf_Checksum vB (four x ++ r) wB hB.dat.1 (by rw [List.length_append, four_len]; have := HRL.out; omega)).mono ?_; rintro e wC ⟨rfl, rfl⟩) | (go_at_call 53; refine (rf_four (sumOf (four x ++ r)) _ (sumOf_lt _)).mono ?_; rintro e wD ⟨rfl, rfl⟩) | (refine step_app (by rfl) (.tmp 23) (.tmp 32) (by rfl) w.heap.size v2 (encs (L.take k) ++ four x) (by simp [Act.eval, Act.put]) ((H2.out.keep hbB).keep ((Below.refl _ _).alloc (Nat.le_refl _) _)) _ (four (sumOf (four x ++ r))) (by simp [Act.eval, Act.put]) (row_made _ _ 4 rfl (by rw [four_len]; omega)).dat (by rw [List.length_append, four_len, four_len]; have := HLN.out; omega) (by have := hbB.size; have := HB2.out.size; simp; omega) w ((HB2.out.trans (hbB.mono HB2.out.size)).alloc ((HB2.out.trans (hbB.mono HB2.out.size)).size) _) ?_; intro vD wE hD hgD hbD) | fail)
      all_goals
        have HD := Lib.hid hD
        have HBD := Lib.hid hbD
        have hc5 := KEEP.out wE hbD
        have HU5 := Lib.hid ((Dat.of_rd HU.out).keep hbD)
        clear hA hgA hbA hB hgB hbB hD hgD hbD hc2 hc3
        go_wp2_with (at_builtin; refine wpList_app rfl _ _ rfl w.heap.size vD _ rfl HD.out _ r rfl HU5.out (by rw [List.length_append, List.length_append, four_len, four_len]; have := HLN.out; have := HRL.out; omega) HBD.out.size ?_)
        intro v6 w6 h6 _ hb6
        have H6 := Lib.hid (show Row w6 w.heap.size v6 (encs (L.take (k + 1))) from by
          rw [encs_snoc HX.out]
          unfold recB
          rw [← HXE.out]
          simpa only [List.append_assoc] using h6)
        have HB6 := Lib.hid (HBD.out.trans hb6)
        clear h6 hb6
        go_wp2
        go_roundg (gk - 1)
        case rel => exact ⟨k + 1, _, by omega, by have := HGK.out; omega, by go_num, rfl, H6.out, HB6.out⟩
        case measure => have := HGK.out; omega
    · have hd1 : decide ((k : Int) < (L.length : Int)) = false := by simp; omega
      obtain rfl : k = L.length := by omega
      have hr := HR.out
      rw [List.take_length] at hr
      have HR2 := Lib.hid hr
      clear hr
      go_wp2
      go_ret
      exact ⟨_, rfl, HR2.out, HB.out⟩
end Go.Proofs.YtngddhoolijimaaGreatDoor
