/-
  The disk, plainly: what its calls come to. No program in sight.
-/
import Derived.Test.YtngddhoolijimaaGreatDoorOwn
import Derived.Maps.RangeWalk
import Derived.Lib.SlKeysI
namespace Go.Proofs.YtngddhoolijimaaGreatDoor
open Go.RowKit Go.Maps

abbrev Page := List UInt8

def pageSize : Nat := 128

/-- Data filled up to a page. -/
def pad (d : List UInt8) : Page := d ++ List.replicate (128 - d.length) 0

theorem pad_len {d : List UInt8} (h : d.length ≤ 128) : (pad d).length = 128 := by
  unfold pad; rw [List.length_append, List.length_replicate]; omega

structure DK where
  st : List Page
  buf : Nat → Option Page
  down : Bool
  fuse : Nat

def eIO : Int := 13
def eRange : Int := 10
def eLong : Int := 4
def eArg : Int := 1

/-- What a disk always is. -/
structure DK.Ok (d : DK) : Prop where
  pages : ∀ p ∈ d.st, p.length = 128
  inside : ∀ i p, d.buf i = some p → i < d.st.length ∧ p.length = 128
  few : d.st.length ≤ 4096
  fuse : (Lit.int .i64 (d.fuse : Int)).wf = true

def DK.new (n : Nat) : DK := ⟨List.replicate n (List.replicate 128 0), fun _ => none, false, 0⟩

def DK.chk (d : DK) (i : Int) : Int := if d.down then 13 else if i < 0 ∨ (d.st.length : Int) ≤ i then 10 else 0

def DK.get (d : DK) (i : Nat) : Page := (d.buf i).getD (d.st.getD i [])

def DK.read (d : DK) (i : Int) : List UInt8 := if d.chk i = 0 then d.get i.toNat else []

def DK.burn (d : DK) : DK × Bool := if d.fuse = 0 then (d, false) else ({ d with fuse := d.fuse - 1, down := decide (d.fuse = 1) }, decide (d.fuse = 1))

def DK.put (d : DK) (i : Nat) (data : List UInt8) : DK := { d with buf := fun j => if j = i then some (pad data) else d.buf j }

def DK.write (d : DK) (i : Int) (data : List UInt8) : DK × Int :=
  if d.chk i ≠ 0 then (d, d.chk i) else if 128 < data.length then (d, 4) else
    (((d.put i.toNat data).burn).1, if ((d.put i.toNat data).burn).2 then 13 else 0)

/-- The stable pages with the buffered ones among S laid over them. -/
def over (st : List Page) (buf : Nat → Option Page) (S : Nat → Bool) : List Page := st.mapIdx fun i q => if S i then (buf i).getD q else q

def DK.flush (d : DK) : DK := { d with st := over d.st d.buf (fun _ => true), buf := fun _ => none }

def DK.sync (d : DK) : DK × Int := if d.down then (d, 13) else if d.burn.2 then (d.burn.1, 13) else (d.burn.1.flush, 0)

def DK.arm (d : DK) (n : Int) : DK := { d with fuse := (max n 0).toNat }

/-- How many buffered pages lie ahead of i. -/
def rank (buf : Nat → Option Page) (i : Nat) : Nat := ((List.range i).filter fun j => (buf j).isSome).length

def keepOf (keep : List Int) (k : Nat) : Nat := match keep[k]? with | none => 0 | some z => (min (max z 0) 128).toNat

def torn (n : Nat) (p q : Page) : Page := p.take n ++ q.drop n

/-- The stable pages after the first k buffered ones have fallen. -/
def fall (st : List Page) (buf : Nat → Option Page) (keep : List Int) (S : Nat → Bool) : List Page :=
  st.mapIdx fun i q => match buf i with | none => q | some p => if S i then torn (keepOf keep (rank buf i)) p q else q

def DK.crash (d : DK) (keep : List Int) : DK := { d with st := fall d.st d.buf keep (fun _ => true), buf := fun _ => none, down := true }

def DK.restart (d : DK) : DK := { (if d.down then { d.crash [] with down := false } else d) with fuse := 0 }

theorem torn_len {n : Nat} {p q : Page} (hn : n ≤ 128) (hp : p.length = 128) (hq : q.length = 128) : (torn n p q).length = 128 := by
  unfold torn; rw [List.length_append, List.length_take, List.length_drop]; omega

theorem keepOf_le (keep : List Int) (k : Nat) : keepOf keep k ≤ 128 := by
  unfold keepOf; split <;> omega

theorem over_len (st : List Page) (buf : Nat → Option Page) (S : Nat → Bool) : (over st buf S).length = st.length := by simp [over]
theorem fall_len (st : List Page) (buf : Nat → Option Page) (keep : List Int) (S : Nat → Bool) : (fall st buf keep S).length = st.length := by simp [fall]

theorem over_get {st : List Page} {buf : Nat → Option Page} {S : Nat → Bool} {i : Nat} {q : Page} (h : st[i]? = some q) : (over st buf S)[i]? = some (if S i then (buf i).getD q else q) := by
  simp [over, h]

theorem fall_get {st : List Page} {buf : Nat → Option Page} {keep : List Int} {S : Nat → Bool} {i : Nat} {q : Page} (h : st[i]? = some q) :
    (fall st buf keep S)[i]? = some (match buf i with | none => q | some p => if S i then torn (keepOf keep (rank buf i)) p q else q) := by
  simp [fall, h]

theorem mem_of_get_ {st : List Page} {p : Page} (h : p ∈ st) : ∃ i : Nat, st[i]? = some p := by
  obtain ⟨i, hi, e⟩ := List.getElem_of_mem h
  exact ⟨i, by rw [List.getElem?_eq_getElem hi, e]⟩

theorem DK.Ok.page {d : DK} (h : d.Ok) {i : Nat} {q : Page} (hq : d.st[i]? = some q) : q.length = 128 := h.pages q (List.mem_of_getElem? hq)

theorem DK.Ok.flush {d : DK} (h : d.Ok) : d.flush.Ok := by
  refine ⟨fun p hp => ?_, fun i p hp => (by cases hp), by simpa [DK.flush, over_len] using h.few, h.fuse⟩
  obtain ⟨i, hi⟩ := mem_of_get_ hp
  have hl : i < d.st.length := by have := (List.getElem?_eq_some_iff.1 hi).1; rwa [show d.flush.st = over d.st d.buf (fun _ => true) from rfl, over_len] at this
  have hq := List.getElem?_eq_getElem hl
  have := over_get (buf := d.buf) (S := fun _ => true) hq
  rw [show d.flush.st = over d.st d.buf (fun _ => true) from rfl, this] at hi
  cases hi
  rw [if_pos rfl]
  cases hb : d.buf i with
  | none => exact h.page hq
  | some b => exact (h.inside i b hb).2

theorem DK.Ok.crash {d : DK} (h : d.Ok) (keep : List Int) : (d.crash keep).Ok := by
  refine ⟨fun p hp => ?_, fun i p hp => (by cases hp), by simpa [DK.crash, fall_len] using h.few, h.fuse⟩
  obtain ⟨i, hi⟩ := mem_of_get_ hp
  have hl : i < d.st.length := by have := (List.getElem?_eq_some_iff.1 hi).1; rwa [show (d.crash keep).st = fall d.st d.buf keep (fun _ => true) from rfl, fall_len] at this
  have hq := List.getElem?_eq_getElem hl
  have := fall_get (buf := d.buf) (keep := keep) (S := fun _ => true) hq
  rw [show (d.crash keep).st = fall d.st d.buf keep (fun _ => true) from rfl, this] at hi
  cases hi
  cases hb : d.buf i with
  | none => exact h.page hq
  | some b => exact torn_len (keepOf_le _ _) (h.inside i b hb).2 (h.page hq)

theorem wf_small {n : Nat} (h : n ≤ 2000000) : (Lit.int .i64 (n : Int)).wf = true := by
  exact WalkArith.wf_i64 (by omega)

theorem DK.Ok.burn {d : DK} (h : d.Ok) : d.burn.1.Ok := by
  unfold DK.burn
  split
  · exact h
  · refine ⟨h.pages, h.inside, h.few, ?_⟩
    have := bounds_i64 h.fuse
    exact WalkArith.wf_i64 (n := ((d.fuse - 1 : Nat) : Int)) (by omega)

theorem DK.Ok.put {d : DK} (h : d.Ok) {i : Nat} (hi : i < d.st.length) {data : List UInt8} (hd : data.length ≤ 128) : (d.put i data).Ok := by
  refine ⟨h.pages, fun j p hp => ?_, h.few, h.fuse⟩
  by_cases e : j = i
  · subst e
    have : p = pad data := by simpa [DK.put] using hp.symm
    subst this
    exact ⟨hi, pad_len hd⟩
  · exact h.inside j p (by simpa [DK.put, e] using hp)

theorem DK.chk_zero {d : DK} {i : Int} (h : d.chk i = 0) : d.down = false ∧ 0 ≤ i ∧ i.toNat < d.st.length := by
  unfold DK.chk at h
  split at h
  · cases h
  · rename_i hd
    split at h
    · cases h
    · exact ⟨by simpa using hd, by omega, by omega⟩

theorem DK.Ok.write {d : DK} (h : d.Ok) (i : Int) (data : List UInt8) : (d.write i data).1.Ok := by
  unfold DK.write
  split
  · exact h
  · rename_i hc
    split
    · exact h
    · have := DK.chk_zero (by simpa using hc)
      exact (h.put this.2.2 (by omega)).burn

theorem DK.Ok.sync {d : DK} (h : d.Ok) : d.sync.1.Ok := by
  unfold DK.sync
  split
  · exact h
  · split
    · exact h.burn
    · exact h.burn.flush

theorem DK.Ok.arm {d : DK} (h : d.Ok) {n : Int} (hn : (Lit.int .i64 n).wf = true) : (d.arm n).Ok := by
  refine ⟨h.pages, h.inside, h.few, ?_⟩
  have := bounds_i64 hn
  exact WalkArith.wf_i64 (n := ((max n 0).toNat : Int)) (by omega)

theorem DK.Ok.restart {d : DK} (h : d.Ok) : d.restart.Ok := by
  unfold DK.restart
  split
  · have := h.crash []
    exact ⟨this.pages, this.inside, this.few, wf_small (n := 0) (by omega)⟩
  · exact ⟨h.pages, h.inside, h.few, wf_small (n := 0) (by omega)⟩

theorem DK.Ok.new {n : Nat} (h : n ≤ 4096) : (DK.new n).Ok :=
  ⟨fun p hp => by rw [List.eq_of_mem_replicate hp]; simp, fun i p hp => (by cases hp), by simpa [DK.new] using h, wf_small (n := 0) (by omega)⟩

theorem DK.get_len {d : DK} (h : d.Ok) {i : Nat} (hi : i < d.st.length) : (d.get i).length = 128 := by
  unfold DK.get
  cases hb : d.buf i with
  | some p => exact (h.inside i p hb).2
  | none =>
    have : d.st.getD i [] = d.st[i] := by simp [hi]
    simp only [Option.getD_none, this]
    exact h.pages _ (List.getElem_mem _)

/-- A map of pages by number reads as this datum. -/
structure MapOf (D : DataW Unit) (buf : Nat → Option Page) : Prop where
  has : ∀ i : Nat, Maps.has D (.int .i64 (i : Int)) = (buf i).isSome
  neg : ∀ x : Int, x < 0 → Maps.has D (.int .i64 x) = false
  at_ : ∀ (i : Nat) (p : Page) (z : DataW Unit), buf i = some p → D.atKey (.int .i64 (i : Int)) z = .lit (.string p)

theorem mapOf_empty : MapOf (.map []) (fun _ => none) := ⟨fun _ => rfl, fun _ _ => rfl, fun _ _ _ h => by cases h⟩

theorem isKey_int (a : Int) : WideAt.IsKeyLit (.int .i64 a) := trivial

theorem MapOf.put {D : DataW Unit} {buf : Nat → Option Page} (h : MapOf D buf) (hm : IsMap D) (i : Nat) (p : Page) : MapOf (D.put (.int .i64 (i : Int)) (.lit (.string p))) (fun j => if j = i then some p else buf j) := by
  refine ⟨fun j => ?_, fun x hx => ?_, fun j q z hj => ?_⟩
  · by_cases e : j = i
    · subst e
      rw [has_put_same hm (isKey_int _), if_pos rfl]; rfl
    · rw [has_put_other (by intro e1; injection e1 with _ e1; omega), if_neg e]; exact h.has j
  · rw [has_put_other (by intro e1; injection e1 with _ e1; omega)]
    exact h.neg x hx
  · by_cases e : j = i
    · subst e
      rw [if_pos rfl] at hj; cases hj
      exact atKey_put_same hm (isKey_int _) _ _
    · rw [if_neg e] at hj
      rw [atKey_put_other (by intro e1; injection e1 with _ e1; omega)]
      exact h.at_ j q z hj

end Go.Proofs.YtngddhoolijimaaGreatDoor
