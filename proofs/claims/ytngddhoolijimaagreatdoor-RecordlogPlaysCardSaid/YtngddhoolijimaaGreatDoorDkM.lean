/-
  Pages in memory; a map of pages. No program in sight.
-/
import Derived.Test.YtngddhoolijimaaGreatDoorDk
import Derived.Maps.RangeWalk
import Derived.Maps.OwnSet
import Derived.Lib.SlKeysI
import Derived.Deep.MidRow
import Derived.Deep.RegionHeld3
namespace Go.Proofs.YtngddhoolijimaaGreatDoor
open Go.RowKit Go.Maps

/-- The cells of bytes. -/
def pc (p : List UInt8) : List Value := p.map fun b => .int .u8 (b.toNat : Int)
/-- An array of bytes. -/
def pv (p : List UInt8) : Value := .agg (pc p).toArray

theorem pc_len (p : List UInt8) : (pc p).length = p.length := by simp [pc]
theorem pc_get {p : List UInt8} {j : Nat} {b : UInt8} (h : p[j]? = some b) : (pc p)[j]? = some (.int .u8 (b.toNat : Int)) := by simp [pc, h]
theorem pc_inv {p : List UInt8} {j : Nat} {u : Value} (h : (pc p)[j]? = some u) : ∃ b, p[j]? = some b ∧ u = .int .u8 (b.toNat : Int) := by
  unfold pc at h
  rw [List.getElem?_map] at h
  cases hp : p[j]? with
  | none => rw [hp] at h; cases h
  | some b => rw [hp] at h; cases h; exact ⟨b, rfl, rfl⟩
theorem pc_one (p : List UInt8) : ∀ v ∈ pc p, v.oneCell' = true := by
  intro v hv
  obtain ⟨b, _, rfl⟩ := List.mem_map.1 hv
  rfl
theorem pc_append (a b : List UInt8) : pc (a ++ b) = pc a ++ pc b := by simp [pc]
theorem pc_take (a : List UInt8) (n : Nat) : pc (a.take n) = (pc a).take n := by simp [pc, List.map_take]
theorem pc_drop (a : List UInt8) (n : Nat) : pc (a.drop n) = (pc a).drop n := by simp [pc, List.map_drop]

def byteOf : Value → Option UInt8
  | .int .u8 a => if 0 ≤ a ∧ a < 256 then some (UInt8.ofNat a.toNat) else none
  | _ => none

/-- How a page in a map reads. -/
def pageR (v : Value) : Option (DataW Unit × List MemPlace) :=
  match v with
  | .agg cs => (cs.toList.mapM byteOf).map fun l => (.lit (.string l), [])
  | _ => none

theorem byteOf_mk (b : UInt8) : byteOf (.int .u8 (b.toNat : Int)) = some b := by
  have := b.toNat_lt
  simp [byteOf]
  omega

theorem byteOf_inv {v : Value} {b : UInt8} (h : byteOf v = some b) : v = .int .u8 (b.toNat : Int) := by
  unfold byteOf at h
  split at h
  · rename_i a
    split at h
    · rename_i ha
      cases h
      congr 1
      have : a.toNat < 256 := by omega
      simp [Nat.mod_eq_of_lt this]
      omega
    · cases h
  · cases h

theorem mapM_bytes (p : List UInt8) : (pc p).mapM byteOf = some p := by
  induction p with
  | nil => rfl
  | cons b p ih =>
    have e : pc (b :: p) = .int .u8 (b.toNat : Int) :: pc p := rfl
    rw [e, List.mapM_cons, byteOf_mk, ih]; rfl

theorem mapM_inv : ∀ {cs : List Value} {p : List UInt8}, cs.mapM byteOf = some p → cs = pc p
  | [], p, h => by cases h; rfl
  | v :: cs, p, h => by
    rw [List.mapM_cons] at h
    cases hb : byteOf v with
    | none => rw [hb] at h; cases h
    | some b =>
      cases hc : cs.mapM byteOf with
      | none => rw [hb, hc] at h; cases h
      | some l =>
        rw [hb, hc] at h
        cases h
        rw [byteOf_inv hb, mapM_inv hc]; rfl

theorem pageR_pv (p : List UInt8) : pageR (pv p) = some (.lit (.string p), []) := by
  unfold pageR pv
  simp only [mapM_bytes]; rfl

theorem pageR_inv {v : Value} {z : DataW Unit × List MemPlace} (h : pageR v = some z) : ∃ p, v = pv p ∧ z = (.lit (.string p), []) := by
  unfold pageR at h
  split at h
  · rename_i cs
    cases hm : cs.toList.mapM byteOf with
    | none => rw [hm] at h; cases h
    | some l =>
      rw [hm] at h
      cases h
      refine ⟨l, ?_, rfl⟩
      unfold pv
      rw [← mapM_inv hm]
  · cases h

/-- How many entries. -/
theorem ownsMap_tight {P : Program} {k : TypeId} {R : Value → Option (DataW Unit × List MemPlace)} {w : World} {b n : Nat} {D : DataW Unit} (h : w.ownsMap P k R b n D) : w.ownsMap P k R b (Maps.size D) D := by
  obtain ⟨es, clock, hb, F, hs, rfl⟩ := h
  refine ⟨es, clock, hb, F, ?_, rfl⟩
  simp [Maps.size, length_sorted]

/-- The numbers of the buffered pages, ascending. -/
def nums (buf : Nat → Option Page) (N : Nat) : List Nat := (List.range N).filter fun j => (buf j).isSome

theorem nums_keys {P : Program} {k : TypeId} {w : World} {b n : Nat} {D : DataW Unit} {buf : Nat → Option Page} {N : Nat} (K : Keyed P k) (hk : P.underlying k = some (.int .i64)) (h : w.ownsMap P k pageR b n D) (hm : MapOf D buf)
    (hN : ∀ i p, buf i = some p → i < N) : ((nums buf N).map fun i : Nat => (i : Int)).Perm (intKeys D) := by
  obtain ⟨es, hD, hpw, _⟩ := h.entries K
  obtain ⟨es', hD', hko⟩ := h.keysOf
  obtain rfl : es = es' := by rw [hD] at hD'; simpa using hD'
  subst hD
  refine perm_intKeys hpw (fun p hp => by obtain ⟨v, hv⟩ := hko p hp; obtain ⟨x, _, hx, _⟩ := Maps.keyOf_i64 hk hv; exact ⟨x, hx⟩) ?_ (fun x => ?_)
  · have hd : (nums buf N).Nodup := List.nodup_range.filter _
    exact List.pairwise_map.2 (hd.imp (fun hne e => hne (by omega)))
  · rw [List.mem_map]
    constructor
    · rintro ⟨i, hi, rfl⟩
      rw [hm.has]
      simpa [nums] using (List.mem_filter.1 hi).2
    · intro hx
      have h0 : 0 ≤ x := by
        rcases Int.lt_or_le x 0 with h | h
        · rw [hm.neg x h] at hx; cases hx
        · exact h
      obtain ⟨i, rfl⟩ : ∃ i : Nat, x = (i : Int) := ⟨x.toNat, by omega⟩
      rw [hm.has] at hx
      obtain ⟨p, hp⟩ := Option.isSome_iff_exists.1 hx
      exact ⟨i, by simp [nums, hp, hN i p hp], rfl⟩

end Go.Proofs.YtngddhoolijimaaGreatDoor
