/-
  The codec, plainly: data of any depth in bytes and back. No program in sight.
-/
import Derived.Test.YtfppjpmflpaffaaGreatRd
namespace Go.Proofs.YtfppjpmflpaffaaGreat
open Go.RowKit
set_option linter.unusedVariables false
set_option linter.unusedSimpArgs false

inductive Ty where
  | num
  | str
  | list (t : Ty)
  | pair (a b : Ty)

@[reducible] def Ty.T : Ty → Type
  | .num => Int
  | .str => ByteArray
  | .list t => List t.T
  | .pair a b => a.T × b.T

/-- How it lies in memory. -/
@[reducible] def Ty.rd : (t : Ty) → Rd t.T
  | .num => rInt .i64
  | .str => rStr
  | .list t => rSlice t.rd
  | .pair a b => rPair a.rd b.rd

/-- A number without its sign. -/
def zz (x : Int) : Nat := if x < 0 then (2 * (-x) - 1).toNat else (2 * x).toNat
def unz (u : Nat) : Int := if u % 2 = 1 then -((u / 2 : Nat) : Int) - 1 else ((u / 2 : Nat) : Int)

theorem unz_zz (x : Int) : unz (zz x) = x := by
  unfold unz zz
  split <;> split <;> omega
theorem zz_unz (u : Nat) : zz (unz u) = u := by
  unfold unz zz
  split <;> split <;> omega
theorem zz_lt {x : Int} (h1 : -9223372036854775808 ≤ x) (h2 : x < 9223372036854775808) : zz x < 2 ^ 64 := by unfold zz; split <;> omega
theorem unz_in {u : Nat} (h : u < 2 ^ 64) : -9223372036854775808 ≤ unz u ∧ unz u < 9223372036854775808 := by unfold unz; split <;> omega

/-- Groups of seven bits. -/
def vi (n : Nat) : List UInt8 := if h : n < 128 then [UInt8.ofNat n] else UInt8.ofNat (n % 128 + 128) :: vi (n / 128)
termination_by n
decreasing_by omega

theorem vi_one {n : Nat} (h : n < 128) : vi n = [UInt8.ofNat n] := by rw [vi, dif_pos h]
theorem vi_more {n : Nat} (h : ¬ n < 128) : vi n = UInt8.ofNat (n % 128 + 128) :: vi (n / 128) := by rw [vi, dif_neg h]
theorem vi_pos (n : Nat) : 0 < (vi n).length := by
  by_cases h : n < 128
  · rw [vi_one h]; simp
  · rw [vi_more h]; simp

theorem vi_len : ∀ (k n : Nat), n < 2 ^ (7 * k + 7) → (vi n).length ≤ k + 1
  | 0, n, h => by rw [vi_one (by omega)]; simp
  | k + 1, n, h => by
    by_cases h1 : n < 128
    · rw [vi_one h1]; simp
    · rw [vi_more h1, List.length_cons]
      have := vi_len k (n / 128) (by rw [show 7 * (k + 1) + 7 = 7 * k + 7 + 7 by omega, Nat.pow_add] at h; omega)
      omega

theorem ofNat_toNat {n : Nat} (h : n < 256) : (UInt8.ofNat n).toNat = n := by rw [UInt8.toNat_ofNat']; omega

def numB (x : Int) : List UInt8 := vi (zz x)
theorem numB_len {x : Int} (h1 : -9223372036854775808 ≤ x) (h2 : x < 9223372036854775808) : (numB x).length ≤ 10 := vi_len 9 _ (by have := zz_lt h1 h2; omega)

/-- The bytes. -/
def enc : (t : Ty) → t.T → List UInt8
  | .num, x => numB x
  | .str, s => numB s.size ++ s.data.toList
  | .list t, l => numB l.length ++ l.flatMap (enc t)
  | .pair a b, x => enc a x.1 ++ enc b x.2

/-- Numbers are numbers of 64 bits. -/
def Ok : (t : Ty) → t.T → Prop
  | .num, x => -9223372036854775808 ≤ x ∧ x < 9223372036854775808
  | .str, s => s.size < 9223372036854775808
  | .list t, l => l.length < 9223372036854775808 ∧ ∀ x ∈ l, Ok t x
  | .pair a b, x => Ok a x.1 ∧ Ok b x.2

/-- What is left, or the error. -/
abbrev St := Except Int (List UInt8)

def getN : (k u : Nat) → List UInt8 → Except Int (Nat × List UInt8)
  | _, _, [] => .error 2
  | k, u, c :: r => if (k = 9 ∧ 1 < c.toNat) ∨ (0 < k ∧ c.toNat = 0) then .error 5 else if c.toNat < 128 then .ok (u + c.toNat % 128 * 2 ^ (7 * k), r) else getN (k + 1) (u + c.toNat % 128 * 2 ^ (7 * k)) r

def dnum : St → Int × St
  | .error e => (0, .error e)
  | .ok b => match getN 0 0 b with
    | .error e => (0, .error e)
    | .ok (u, r) => (unz u, .ok r)

def dsize (s : St) : Nat × St := match dnum s with
  | (_, .error e) => (0, .error e)
  | (n, .ok r) => if n < 0 then (0, .error 5) else if (r.length : Int) < n then (0, .error 2) else (n.toNat, .ok r)

def dstr (s : St) : ByteArray × St := match dsize s with
  | (_, .error e) => (ByteArray.empty, .error e)
  | (n, .ok r) => (⟨(r.take n).toArray⟩, .ok (r.drop n))

def dmany {α : Type} (f : St → α × St) : Nat → St → List α × St
  | 0, s => ([], s)
  | n + 1, s => match s with
    | .error e => ([], .error e)
    | .ok r => ((f (.ok r)).1 :: (dmany f n (f (.ok r)).2).1, (dmany f n (f (.ok r)).2).2)

def dec : (t : Ty) → St → t.T × St
  | .num, s => dnum s
  | .str, s => dstr s
  | .list t, s => dmany (dec t) (dsize s).1 (dsize s).2
  | .pair a b, s => (((dec a s).1, (dec b (dec a s).2).1), (dec b (dec a s).2).2)

/-! Numbers. -/

theorem getN_vi : ∀ (m n k u : Nat) (r : List UInt8), n ≤ m → k ≤ 9 → n < 2 ^ (64 - 7 * k) → (0 < k → 0 < n) → getN k u (vi n ++ r) = .ok (u + n * 2 ^ (7 * k), r)
  | m, n, k, u, r, hm, hk, hn, hp => by
    have h9 : k = 9 → n < 2 := fun e => by subst e; exact hn
    by_cases h : n < 128
    · rw [vi_one h, List.cons_append, List.nil_append, getN, ofNat_toNat (by omega), if_neg (by omega), if_pos h, Nat.mod_eq_of_lt h]
    · have hk8 : k < 9 := by
        rcases Nat.lt_or_ge k 9 with h' | h'
        · exact h'
        · have := h9 (by omega); omega
      obtain ⟨m', rfl⟩ : ∃ m', m = m' + 1 := ⟨m - 1, by omega⟩
      rw [vi_more h, List.cons_append, getN, ofNat_toNat (by omega), if_neg (by omega), if_neg (by omega),
        getN_vi m' (n / 128) (k + 1) _ r (by omega) (by omega) (by
          have e : 2 ^ (64 - 7 * k) = 2 ^ (64 - 7 * (k + 1)) * 128 := by
            rw [show 64 - 7 * k = 64 - 7 * (k + 1) + 7 by omega, Nat.pow_add]
          rw [e] at hn
          omega) (fun _ => by omega)]
      congr 2
      rw [show 7 * (k + 1) = 7 + 7 * k by omega, Nat.pow_add, show (2 : Nat) ^ 7 = 128 from rfl, ← Nat.mul_assoc, Nat.add_assoc, ← Nat.add_mul]
      congr 2
      omega

theorem getN_back : ∀ (b : List UInt8) (k u v : Nat) (r : List UInt8), k ≤ 9 → getN k u b = .ok (v, r) → ∃ n, v = u + n * 2 ^ (7 * k) ∧ b = vi n ++ r ∧ (0 < k → 0 < n) ∧ n < 2 ^ (64 - 7 * k)
  | [], k, u, v, r, hk, h => by rw [getN] at h; cases h
  | c :: b, k, u, v, r, hk, h => by
    rw [getN] at h
    have hc := c.toNat_lt
    split at h
    · cases h
    · rename_i hs
      have hpw : 1 ≤ 2 ^ (64 - 7 * k) := Nat.one_le_two_pow
      have hlt : k < 9 → 128 ≤ 2 ^ (64 - 7 * k) := fun h => by
        rw [show 64 - 7 * k = 7 + (57 - 7 * k) by omega, Nat.pow_add]
        have : 1 ≤ 2 ^ (57 - 7 * k) := Nat.one_le_two_pow
        omega
      have h9 : k = 9 → 2 ^ (64 - 7 * k) = 2 := fun e => by subst e; rfl
      split at h
      · rename_i hl
        cases h
        refine ⟨c.toNat, by rw [Nat.mod_eq_of_lt hl], by rw [vi_one hl, UInt8.ofNat_toNat]; rfl, fun h => by omega, ?_⟩
        rcases Nat.lt_or_ge k 9 with h' | h'
        · have := hlt h'; omega
        · rw [h9 (by omega)]; omega
      · rename_i hl
        have hk8 : k < 9 := by
          rcases Nat.lt_or_ge k 9 with h' | h'
          · exact h'
          · exfalso; apply hs; left; omega
        obtain ⟨n, h1, h2, h3, h4⟩ := getN_back b (k + 1) _ v r (by omega) h
        have hn0 := h3 (by omega)
        have hd : (n * 128 + c.toNat % 128) / 128 = n := by omega
        have hm : (n * 128 + c.toNat % 128) % 128 + 128 = c.toNat := by omega
        refine ⟨n * 128 + c.toNat % 128, ?_, ?_, fun _ => by omega, ?_⟩
        · rw [h1, show 7 * (k + 1) = 7 + 7 * k by omega, Nat.pow_add, show (2 : Nat) ^ 7 = 128 from rfl, ← Nat.mul_assoc, Nat.add_assoc, ← Nat.add_mul]
          congr 2
          omega
        · rw [vi_more (by omega), hd, hm, UInt8.ofNat_toNat, h2]; rfl
        · have e : 2 ^ (64 - 7 * k) = 2 ^ (64 - 7 * (k + 1)) * 128 := by
            rw [show 64 - 7 * k = 64 - 7 * (k + 1) + 7 by omega, Nat.pow_add]
          rw [e]; omega

theorem getN_cut : ∀ (m n k u : Nat) (p q : List UInt8), n ≤ m → k ≤ 9 → n < 2 ^ (64 - 7 * k) → (0 < k → 0 < n) → vi n = p ++ q → q ≠ [] → getN k u p = .error 2
  | m, n, k, u, [], q, hm, hk, hn, hp, e, hq => by rw [getN]
  | m, n, k, u, c :: p, q, hm, hk, hn, hp, e, hq => by
    have h9 : k = 9 → n < 2 := fun e => by subst e; exact hn
    by_cases h : n < 128
    · rw [vi_one h, List.cons_append] at e
      have := congrArg List.length e
      simp at this
      exact absurd this.2 hq
    · have hk8 : k < 9 := by
        rcases Nat.lt_or_ge k 9 with h' | h'
        · exact h'
        · have := h9 (by omega); omega
      obtain ⟨m', rfl⟩ : ∃ m', m = m' + 1 := ⟨m - 1, by omega⟩
      rw [vi_more h, List.cons_append, List.cons.injEq] at e
      obtain ⟨rfl, e⟩ := e
      rw [getN, ofNat_toNat (by omega), if_neg (by omega), if_neg (by omega)]
      exact getN_cut m' (n / 128) (k + 1) _ p q (by omega) (by omega) (by
          have e : 2 ^ (64 - 7 * k) = 2 ^ (64 - 7 * (k + 1)) * 128 := by
            rw [show 64 - 7 * k = 64 - 7 * (k + 1) + 7 by omega, Nat.pow_add]
          rw [e] at hn
          omega) (fun _ => by omega) e hq

theorem dnum_num {x : Int} (h : -9223372036854775808 ≤ x ∧ x < 9223372036854775808) (r : List UInt8) : dnum (.ok (numB x ++ r)) = (x, .ok r) := by
  unfold dnum numB
  simp only
  rw [show getN 0 0 (vi (zz x) ++ r) = .ok (0 + zz x * 2 ^ (7 * 0), r) from getN_vi (zz x) (zz x) 0 0 r (Nat.le_refl _) (by omega) (zz_lt h.1 h.2) (fun h => by omega)]
  simp [unz_zz]

theorem dnum_back {b r : List UInt8} {x : Int} (h : dnum (.ok b) = (x, .ok r)) : b = numB x ++ r ∧ -9223372036854775808 ≤ x ∧ x < 9223372036854775808 := by
  unfold dnum at h
  split at h
  · cases h
  · rename_i s b' e
    cases e
    split at h
    · cases h
    · rename_i u r' hg
      cases h
      obtain ⟨n, h1, h2, h3, h4⟩ := getN_back _ 0 0 _ _ (by omega) hg
      obtain rfl : u = n := by simpa using h1
      unfold numB
      rw [zz_unz]
      exact ⟨h2, unz_in h4⟩

theorem dnum_cut {x : Int} (h : -9223372036854775808 ≤ x ∧ x < 9223372036854775808) {p q : List UInt8} (e : numB x = p ++ q) (hq : q ≠ []) : dnum (.ok p) = (0, .error 2) := by
  unfold dnum
  simp only
  rw [getN_cut (zz x) (zz x) 0 0 p q (Nat.le_refl _) (by omega) (zz_lt h.1 h.2) (fun h => by omega) e hq]

theorem dnum_error (e : Int) : dnum (.error e) = (0, .error e) := rfl
theorem dsize_error (e : Int) : dsize (.error e) = (0, .error e) := rfl
theorem dstr_error (e : Int) : dstr (.error e) = (ByteArray.empty, .error e) := rfl
theorem dmany_error {α : Type} (f : St → α × St) (n : Nat) (e : Int) : dmany f n (.error e) = ([], .error e) := by cases n <;> rfl

theorem dsize_num {n : Nat} {r : List UInt8} (h : n ≤ r.length) (h2 : n < 9223372036854775808) : dsize (.ok (numB n ++ r)) = (n, .ok r) := by
  unfold dsize
  rw [dnum_num (by omega)]
  simp only
  rw [if_neg (by omega), if_neg (by omega), Int.toNat_natCast]
theorem dsize_short {n : Nat} {r : List UInt8} (h : r.length < n) (h2 : n < 9223372036854775808) : dsize (.ok (numB n ++ r)) = (0, .error 2) := by
  unfold dsize
  rw [dnum_num (by omega)]
  simp only
  rw [if_neg (by omega), if_pos (by omega)]
theorem dsize_back {b r : List UInt8} {n : Nat} (h : dsize (.ok b) = (n, .ok r)) : b = numB n ++ r ∧ n ≤ r.length ∧ n < 9223372036854775808 := by
  unfold dsize at h
  split at h
  · cases h
  · rename_i x r' hd
    obtain ⟨h1, h2, h3⟩ := dnum_back hd
    split at h
    · cases h
    · split at h
      · cases h
      · cases h
        rename_i g1 g2
        have e : ((x.toNat : Nat) : Int) = x := by omega
        rw [e]
        exact ⟨h1, by omega, by omega⟩
theorem dsize_cut {n : Nat} (h : n < 9223372036854775808) {p q : List UInt8} (e : numB n = p ++ q) (hq : q ≠ []) : dsize (.ok p) = (0, .error 2) := by
  unfold dsize
  rw [dnum_cut (by omega) e hq]

/-! Data. -/

theorem enc_pos : ∀ (t : Ty) (x : t.T), 0 < (enc t x).length
  | .num, x => vi_pos _
  | .str, s => by show 0 < (numB s.size ++ _).length; rw [List.length_append]; have : 0 < (numB s.size).length := vi_pos _; omega
  | .list t, l => by show 0 < (numB (List.length l) ++ _).length; rw [List.length_append]; have : 0 < (numB (List.length l)).length := vi_pos _; omega
  | .pair a b, x => by show 0 < (enc a x.1 ++ enc b x.2).length; rw [List.length_append]; have := enc_pos a x.1; omega

theorem enc_many (t : Ty) : ∀ l : List t.T, l.length ≤ (l.flatMap (enc t)).length
  | [] => by simp
  | x :: l => by rw [List.flatMap_cons, List.length_append, List.length_cons]; have := enc_pos t x; have := enc_many t l; omega

theorem dec_error : ∀ (t : Ty) (e : Int), (dec t (.error e)).2 = .error e
  | .num, e => rfl
  | .str, e => rfl
  | .list t, e => by show (dmany (dec t) 0 (.error e)).2 = _; rfl
  | .pair a b, e => by show (dec b (dec a (.error e)).2).2 = _; rw [dec_error a, dec_error b]

theorem dec_enc : ∀ (t : Ty) (x : t.T) (r : List UInt8), Ok t x → dec t (.ok (enc t x ++ r)) = (x, .ok r)
  | .num, x, r, h => dnum_num h r
  | .str, s, r, h => by
    show dstr (.ok ((numB s.size ++ s.data.toList) ++ r)) = _
    rw [List.append_assoc]
    unfold dstr
    have hl : s.data.toList.length = s.size := Array.length_toList
    rw [dsize_num (by rw [List.length_append, hl]; omega) h]
    simp only
    rw [← hl, List.take_left' rfl, List.drop_left' rfl]
  | .list t, l, r, h => by
    show dmany (dec t) (dsize (.ok ((numB (List.length l) ++ List.flatMap (enc t) l) ++ r))).1 (dsize (.ok ((numB (List.length l) ++ List.flatMap (enc t) l) ++ r))).2 = _
    rw [List.append_assoc, dsize_num (by rw [List.length_append]; have := enc_many t l; omega) h.1]
    have hm : ∀ (l : List t.T), (∀ x ∈ l, Ok t x) → dmany (dec t) l.length (.ok (l.flatMap (enc t) ++ r)) = (l, .ok r) := by
      intro l
      induction l with
      | nil => intro _; rfl
      | cons x l ih =>
        intro hx
        rw [List.length_cons, List.flatMap_cons, List.append_assoc, dmany, dec_enc t x _ (hx x (by simp))]
        simp only
        rw [ih (fun y hy => hx y (by simp [hy]))]
    exact hm l h.2
  | .pair a b, x, r, h => by
    show (((dec a _).1, (dec b (dec a _).2).1), (dec b (dec a _).2).2) = _
    rw [show enc (.pair a b) x = enc a x.1 ++ enc b x.2 from rfl, List.append_assoc, dec_enc a x.1 _ h.1]
    simp only
    rw [dec_enc b x.2 _ h.2]

theorem enc_dec : ∀ (t : Ty) (b r : List UInt8) (x : t.T), dec t (.ok b) = (x, .ok r) → b = enc t x ++ r ∧ Ok t x
  | .num, b, r, x, h => dnum_back h
  | .str, b, r, s, h => by
    replace h : dstr (.ok b) = (s, .ok r) := h
    unfold dstr at h
    split at h
    · cases h
    · rename_i n r' hd
      obtain ⟨h1, h2, h3⟩ := dsize_back hd
      cases h
      have hz : (⟨(r'.take n).toArray⟩ : ByteArray).size = n := by
        show ((r'.take n).toArray).size = n
        rw [List.size_toArray, List.length_take]; omega
      refine ⟨?_, by show ByteArray.size _ < _; rw [hz]; exact h3⟩
      show b = (numB (ByteArray.size _) ++ _) ++ _
      rw [hz, List.append_assoc, h1]
      congr 1
      exact (List.take_append_drop n r').symm
  | .list t, b, r, l, h => by
    replace h : dmany (dec t) (dsize (.ok b)).1 (dsize (.ok b)).2 = (l, .ok r) := h
    have hm : ∀ (n : Nat) (b : List UInt8) (l : List t.T), dmany (dec t) n (.ok b) = (l, .ok r) → l.length = n ∧ b = l.flatMap (enc t) ++ r ∧ ∀ x ∈ l, Ok t x := by
      intro n
      induction n with
      | zero =>
        intro b l h
        cases h
        exact ⟨rfl, rfl, fun x hx => by cases hx⟩
      | succ n ih =>
        intro b l h
        rw [dmany] at h
        cases hd : (dec t (.ok b)).2 with
        | error e => rw [hd, dmany_error] at h; cases h
        | ok b' =>
          obtain ⟨y, hy⟩ : ∃ y, dec t (.ok b) = (y, .ok b') := ⟨(dec t (.ok b)).1, by rw [← hd]⟩
          obtain ⟨g1, g2⟩ := enc_dec t b b' y hy
          rw [hy] at h
          simp only [Prod.mk.injEq] at h
          obtain ⟨i1, i2, i3⟩ := ih b' (dmany (dec t) n (.ok b')).1 (by rw [← h.2])
          obtain ⟨rfl, -⟩ := h
          refine ⟨by rw [List.length_cons, i1], ?_, fun x hx => ?_⟩
          · rw [List.flatMap_cons, List.append_assoc, ← i2, g1]
          · rcases List.mem_cons.1 hx with rfl | hx
            · exact g2
            · exact i3 x hx
    cases hd : (dsize (.ok b)).2 with
    | error e => rw [hd, dmany_error] at h; cases h
    | ok b' =>
      obtain ⟨n, hn⟩ : ∃ n, dsize (.ok b) = (n, .ok b') := ⟨(dsize (.ok b)).1, by rw [← hd]⟩
      rw [hn] at h
      obtain ⟨h1, h2, h3⟩ := dsize_back hn
      obtain ⟨g1, g2, g3⟩ := hm n b' l h
      refine ⟨?_, ?_, g3⟩
      · show b = (numB (List.length l) ++ List.flatMap (enc t) l) ++ r
        rw [g1, List.append_assoc, ← g2, h1]
      · show List.length l < _
        rw [g1]; exact h3
  | .pair a b, bs, r, x, h => by
    replace h : (((dec a (.ok bs)).1, (dec b (dec a (.ok bs)).2).1), (dec b (dec a (.ok bs)).2).2) = (x, .ok r) := h
    cases hd : (dec a (.ok bs)).2 with
    | error e =>
      rw [hd] at h
      have := congrArg Prod.snd h
      simp only at this
      rw [dec_error b e] at this
      cases this
    | ok b' =>
      obtain ⟨y, hy⟩ : ∃ y, dec a (.ok bs) = (y, .ok b') := ⟨(dec a (.ok bs)).1, by rw [← hd]⟩
      rw [hy] at h
      simp only [Prod.mk.injEq] at h
      obtain ⟨rfl, h2⟩ := h
      obtain ⟨g1, g2⟩ := enc_dec a bs b' y hy
      obtain ⟨g3, g4⟩ := enc_dec b b' r (dec b (.ok b')).1 (by rw [← h2])
      refine ⟨?_, g2, g4⟩
      show bs = (enc a y ++ enc b (dec b (.ok b')).1) ++ r
      rw [List.append_assoc, ← g3, g1]

/-- What has been cut off is truncated. -/
theorem dec_cut : ∀ (t : Ty) (x : t.T) (p q : List UInt8), Ok t x → enc t x = p ++ q → q ≠ [] → (dec t (.ok p)).2 = .error 2
  | .num, x, p, q, h, e, hq => by
    show (dnum (.ok p)).2 = _
    rw [dnum_cut h e hq]
  | .str, s, p, q, h, e, hq => by
    show (dstr (.ok p)).2 = _
    have hl : s.data.toList.length = s.size := Array.length_toList
    replace e : numB s.size ++ s.data.toList = p ++ q := e
    unfold dstr
    rcases List.append_eq_append_iff.1 e with ⟨a, rfl, e2⟩ | ⟨a, e1, rfl⟩
    · have := congrArg List.length e2
      rw [List.length_append, hl] at this
      have : 0 < q.length := List.length_pos_iff.2 hq
      rw [dsize_short (by omega) h]
    · by_cases ha : a = []
      · subst ha
        rw [List.append_nil] at e1
        rw [← e1]
        have h0 := dsize_short (n := s.size) (r := []) (by
          have : 0 < ([] ++ s.data.toList).length := List.length_pos_iff.2 hq
          rw [List.nil_append, hl] at this
          exact this) h
        rw [List.append_nil] at h0
        rw [h0]
      · rw [dsize_cut h e1 ha]
  | .list t, l, p, q, h, e, hq => by
    show (dmany (dec t) (dsize (.ok p)).1 (dsize (.ok p)).2).2 = _
    replace e : numB (List.length l) ++ List.flatMap (enc t) l = p ++ q := e
    have hm : ∀ (l : List t.T) (p q : List UInt8), (∀ x ∈ l, Ok t x) → l.flatMap (enc t) = p ++ q → q ≠ [] → (dmany (dec t) l.length (.ok p)).2 = .error 2 := by
      intro l
      induction l with
      | nil =>
        intro p q _ e hq
        simp at e
        exact absurd e.2 hq
      | cons x l ih =>
        intro p q hx e hq
        rw [List.flatMap_cons] at e
        rw [List.length_cons, dmany]
        simp only
        rcases List.append_eq_append_iff.1 e with ⟨a, rfl, e2⟩ | ⟨a, e1, rfl⟩
        · rw [dec_enc t x a (hx x (by simp))]
          exact ih a q (fun y hy => hx y (by simp [hy])) e2 hq
        · by_cases ha : a = []
          · subst ha
            rw [List.append_nil] at e1
            have := dec_enc t x [] (hx x (by simp))
            rw [List.append_nil] at this
            rw [← e1, this]
            exact ih [] _ (fun y hy => hx y (by simp [hy])) (by simp) hq
          · rw [dec_cut t x p a (hx x (by simp)) e1 ha, dmany_error]
    rcases List.append_eq_append_iff.1 e with ⟨a, rfl, e2⟩ | ⟨a, e1, rfl⟩
    · by_cases hs : List.length l ≤ a.length
      · rw [dsize_num hs h.1]
        exact hm l a q h.2 e2 hq
      · rw [dsize_short (by omega) h.1, dmany_error]
    · by_cases ha : a = []
      · subst ha
        rw [List.append_nil] at e1
        rw [← e1]
        have hpos : 0 < List.length l := by
          rcases Nat.eq_zero_or_pos (List.length l) with h0 | h0
          · have := List.eq_nil_of_length_eq_zero h0
            rw [this] at hq
            exact absurd rfl hq
          · exact h0
        have h0 := dsize_short (n := List.length l) (r := []) hpos h.1
        rw [List.append_nil] at h0
        rw [h0, dmany_error]
      · rw [dsize_cut h.1 e1 ha, dmany_error]
  | .pair a b, x, p, q, h, e, hq => by
    show (dec b (dec a (.ok p)).2).2 = _
    replace e : enc a x.1 ++ enc b x.2 = p ++ q := e
    rcases List.append_eq_append_iff.1 e with ⟨c, rfl, e2⟩ | ⟨c, e1, rfl⟩
    · rw [dec_enc a x.1 c h.1]
      exact dec_cut b x.2 c q h.2 e2 hq
    · by_cases hc : c = []
      · subst hc
        rw [List.append_nil] at e1
        have := dec_enc a x.1 [] h.1
        rw [List.append_nil] at this
        rw [← e1, this]
        exact dec_cut b x.2 [] _ h.2 (by simp) hq
      · rw [dec_cut a x.1 p c h.1 e1 hc, dec_error]
end Go.Proofs.YtfppjpmflpaffaaGreat
