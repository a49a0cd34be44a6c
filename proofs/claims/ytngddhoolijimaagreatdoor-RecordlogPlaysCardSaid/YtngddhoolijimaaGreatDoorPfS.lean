/-
  The page file, plainly: what a list of writes makes of payloads. No program in sight.
-/
import Derived.Test.YtngddhoolijimaaGreatDoorPfR
namespace Go.Proofs.YtngddhoolijimaaGreatDoor
open Go.RowKit

/-- Payloads after some writes. -/
def withW (P : List (List UInt8)) (l : List (Int × List UInt8)) : List (List UInt8) := l.foldl (fun P x => P.set x.1.toNat (fill x.2)) P

def Right (n : Nat) (l : List (Int × List UInt8)) : Prop := ∀ x ∈ l, 0 ≤ x.1 ∧ x.1 < (n : Int) ∧ x.2.length ≤ 100

theorem fill_len {d : List UInt8} (h : d.length ≤ 100) : (fill d).length = 100 := by unfold fill; rw [List.length_append, List.length_replicate]; omega

theorem withW_cons (P : List (List UInt8)) (x : Int × List UInt8) (l : List (Int × List UInt8)) : withW P (x :: l) = withW (P.set x.1.toNat (fill x.2)) l := rfl

theorem withW_len (P : List (List UInt8)) (l : List (Int × List UInt8)) : (withW P l).length = P.length := by
  induction l generalizing P with
  | nil => rfl
  | cons x l ih => rw [withW_cons, ih, List.length_set]

def lastStep (i : Nat) (o : Option (List UInt8)) (x : Int × List UInt8) : Option (List UInt8) := if x.1 = (i : Int) then some (fill x.2) else o

theorem lastStep_eq {i : Nat} {x : Int × List UInt8} (h : x.1 = (i : Int)) (o : Option (List UInt8)) : lastStep i o x = some (fill x.2) := if_pos h
theorem lastStep_ne {i : Nat} {x : Int × List UInt8} (h : x.1 ≠ (i : Int)) (o : Option (List UInt8)) : lastStep i o x = o := if_neg h

theorem lastOf_eq (l : List (Int × List UInt8)) (i : Nat) : lastOf l i = l.foldl (lastStep i) none := rfl

theorem lastOf_none {l : List (Int × List UInt8)} {i : Nat} (o : Option (List UInt8)) (h : ∀ x ∈ l, x.1 ≠ (i : Int)) : l.foldl (lastStep i) o = o := by
  induction l generalizing o with
  | nil => rfl
  | cons x l ih =>
    rw [List.foldl_cons, lastStep_ne (h x (by simp))]
    exact ih o fun y hy => h y (by simp [hy])

theorem lastOf_free (l : List (Int × List UInt8)) (i : Nat) (o : Option (List UInt8)) : l.foldl (lastStep i) o = (l.foldl (lastStep i) none).or o := by
  induction l generalizing o with
  | nil => simp
  | cons x l ih =>
    rw [List.foldl_cons, List.foldl_cons, ih (lastStep i o x), ih (lastStep i none x)]
    by_cases e : x.1 = (i : Int)
    · rw [lastStep_eq e, lastStep_eq e]
      cases l.foldl (lastStep i) none <;> rfl
    · rw [lastStep_ne e, lastStep_ne e]
      simp

theorem withW_get {l : List (Int × List UInt8)} {P : List (List UInt8)} {i : Nat} (hp : ∀ x ∈ l, 0 ≤ x.1) (hi : i < P.length) : (withW P l).getD i [] = (lastOf l i).getD (P.getD i []) := by
  rw [lastOf_eq]
  induction l generalizing P with
  | nil => rfl
  | cons x l ih =>
    have h0 := hp x (by simp)
    rw [withW_cons, ih (fun y hy => hp y (by simp [hy])) (by rw [List.length_set]; exact hi), List.foldl_cons, lastOf_free l i (lastStep i none x)]
    cases h : l.foldl (lastStep i) none with
    | some p => rfl
    | none =>
      rw [Option.none_or, Option.getD_none]
      by_cases e : x.1 = (i : Int)
      · rw [lastStep_eq e, show x.1.toNat = i by omega, List.getD_eq_getElem?_getD, List.getElem?_set_self hi]; rfl
      · rw [lastStep_ne e, List.getD_eq_getElem?_getD, List.getElem?_set_ne (by omega), ← List.getD_eq_getElem?_getD]; rfl

theorem lastOf_len {l : List (Int × List UInt8)} {i : Nat} {p : List UInt8} (h : ∀ x ∈ l, x.2.length ≤ 100) (hp : lastOf l i = some p) : p.length = 100 := by
  rw [lastOf_eq] at hp
  have : ∀ (l : List (Int × List UInt8)) (o : Option (List UInt8)), (∀ x ∈ l, x.2.length ≤ 100) → (∀ q, o = some q → q.length = 100) → ∀ q, l.foldl (lastStep i) o = some q → q.length = 100 := by
    intro l
    induction l with
    | nil => intro o _ ho q hq; exact ho q hq
    | cons x l ih =>
      intro o hl ho q hq
      refine ih (lastStep i o x) (fun y hy => hl y (by simp [hy])) (fun r hr => ?_) q hq
      unfold lastStep at hr
      split at hr
      · cases hr; exact fill_len (hl x (by simp))
      · exact ho r hr
  exact this l none h (fun q hq => by cases hq) p hp

theorem effect_mem {n : Nat} {l : List (Int × List UInt8)} {y : Int × List UInt8} : y ∈ effect n l ↔ ∃ i p, i < n ∧ lastOf l i = some p ∧ y = ((i : Int), p) := by
  unfold effect
  rw [List.mem_filterMap]
  constructor
  · rintro ⟨i, hi, h⟩
    obtain ⟨p, hp, rfl⟩ := Option.map_eq_some_iff.1 h
    exact ⟨i, p, List.mem_range.1 hi, hp, rfl⟩
  · rintro ⟨i, p, hi, hp, rfl⟩
    exact ⟨i, List.mem_range.2 hi, by rw [hp]; rfl⟩

theorem lastOf_some {l : List (Int × List UInt8)} {x : Int × List UInt8} (hx : x ∈ l) {i : Nat} (e : x.1 = (i : Int)) : (lastOf l i).isSome = true := by
  rw [lastOf_eq]
  induction l with
  | nil => cases hx
  | cons y l ih =>
    rw [List.foldl_cons, lastOf_free]
    rcases List.mem_cons.1 hx with rfl | hx
    · rw [lastStep_eq e]
      cases List.foldl (lastStep i) none l <;> rfl
    · have := ih hx
      cases h : List.foldl (lastStep i) none l with
      | none => rw [show List.foldl (lastStep i) none l = none from h] at this; cases this
      | some p => rfl

theorem effect_nil {n : Nat} {l : List (Int × List UInt8)} (h : Right n l) (he : effect n l = []) : l = [] := by
  cases l with
  | nil => rfl
  | cons x l =>
    have hx := h x (by simp)
    obtain ⟨p, hp⟩ := Option.isSome_iff_exists.1 (lastOf_some (l := x :: l) (x := x) (by simp) (i := x.1.toNat) (by omega))
    have : ((x.1.toNat : Int), p) ∈ effect n (x :: l) := effect_mem.2 ⟨x.1.toNat, p, by omega, hp, rfl⟩
    rw [he] at this; cases this

theorem withW_pays {n : Nat} {l : List (Int × List UInt8)} {P : List (List UInt8)} (h : Right n l) (hp : Pays n P) : Pays n (withW P l) := by
  refine ⟨by rw [withW_len, hp.len], fun j hj => ?_⟩
  rw [withW_get (fun x hx => (h x hx).1) (by rw [hp.len]; exact hj)]
  cases hL : lastOf l j with
  | none => exact hp.each j hj
  | some p => exact lastOf_len (fun x hx => (h x hx).2.2) hL

theorem effect_makes {n : Nat} {l : List (Int × List UInt8)} {P : List (List UInt8)} (h : Right n l) (hp : Pays n P) : Makes n (effect n l) P (withW P l) := by
  refine ⟨fun y hy => ?_, ?_, fun j hj hno => ?_, fun y hy => ?_⟩
  · obtain ⟨i, p, hi, hL, rfl⟩ := effect_mem.1 hy
    exact ⟨by simp, by simpa using hi, lastOf_len (fun x hx => (h x hx).2.2) hL⟩
  · unfold effect
    exact Nat.le_trans (List.length_filterMap_le _ _) (by rw [List.length_range]; exact Nat.le_refl _)
  · rw [withW_get (fun x hx => (h x hx).1) (by rw [hp.len]; exact hj)]
    cases hL : lastOf l j with
    | none => rfl
    | some p => exact absurd rfl (hno ((j : Int), p) (effect_mem.2 ⟨j, p, hj, hL, rfl⟩))
  · obtain ⟨i, p, hi, hL, rfl⟩ := effect_mem.1 hy
    show (withW P l).getD ((i : Int)).toNat [] = p
    rw [Int.toNat_natCast, withW_get (fun x hx => (h x hx).1) (by rw [hp.len]; exact hi), hL]; rfl

theorem pages_run {n N : Nat} {P : List (List UInt8)} {l : List (Int × List UInt8)} {d : DK} (hup : d.down = false) (hbuf : d.buf = noBuf) (hst : d.st = canon N P) (hN : 2 * n < N) (hn : n ≤ 4096) (hp : Pays n P) (h : Right n l) :
    Run (· = canon N (withW P l)) (fun st' => Rec n P st' ∨ Rec n (withW P l) st') d (d.pages n l) := by
  unfold DK.pages
  by_cases he : effect n l = []
  · rw [if_pos he]
    refine Run.skip hup hbuf ?_
    rw [effect_nil h he]; exact hst
  · rw [if_neg he]
    exact write_run hup hbuf hst hN hn hp (withW_pays h hp) (effect_makes h hp) he

theorem wrong_zero {n : Nat} {x : Int × List UInt8} : wrong n x = 0 ↔ 0 ≤ x.1 ∧ x.1 < (n : Int) ∧ x.2.length ≤ 100 := by
  unfold wrong
  split
  · constructor
    · intro h; exact absurd h (by decide)
    · intro h; omega
  · split
    · constructor
      · intro h; exact absurd h (by decide)
      · intro h; omega
    · constructor
      · intro _; omega
      · intro _; rfl

theorem wrongs_cons (n : Nat) (x : Int × List UInt8) (l : List (Int × List UInt8)) : wrongs n (x :: l) = if wrong n x = 0 then wrongs n l else wrong n x := rfl

theorem wrongs_zero {n : Nat} {l : List (Int × List UInt8)} : wrongs n l = 0 ↔ Right n l := by
  induction l with
  | nil => exact ⟨fun _ x hx => (by cases hx), fun _ => rfl⟩
  | cons x l ih =>
    rw [wrongs_cons]
    constructor
    · intro h y hy
      by_cases hx : wrong n x = 0
      · rw [if_pos hx] at h
        rcases List.mem_cons.1 hy with rfl | hy
        · exact wrong_zero.1 hx
        · exact ih.1 h y hy
      · rw [if_neg hx] at h; exact absurd h hx
    · intro h
      rw [if_pos (wrong_zero.2 (h x (by simp)))]
      exact ih.2 fun y hy => h y (by simp [hy])

end Go.Proofs.YtngddhoolijimaaGreatDoor
