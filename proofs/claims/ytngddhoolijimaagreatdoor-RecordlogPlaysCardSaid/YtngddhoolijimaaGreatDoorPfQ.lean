/-
  The page file, plainly: a cut update takes effect whole or not at all; Open makes a disk clean. No program in sight.
-/
import Derived.Test.YtngddhoolijimaaGreatDoorPfP
namespace Go.Proofs.YtngddhoolijimaaGreatDoor
open Go.RowKit

/-- The stable pages of a clean page file with these payloads. -/
def canon (N : Nat) (Q : List (List UInt8)) : List Page := (List.range N).map fun j => if j < Q.length then pad (Q.getD j []) else zpage

theorem canon_len (N : Nat) (Q : List (List UInt8)) : (canon N Q).length = N := by simp [canon]
theorem canon_at {N : Nat} {Q : List (List UInt8)} {j : Nat} (h : j < N) : pgAt (canon N Q) j = if j < Q.length then pad (Q.getD j []) else zpage := by
  refine pgAt_eq ?_
  unfold canon
  rw [List.getElem?_map, List.getElem?_range h]; rfl

theorem canon_of {N : Nat} {Q : List (List UInt8)} {st : List Page} (hl : st.length = N) (h : ∀ j, j < N → pgAt st j = if j < Q.length then pad (Q.getD j []) else zpage) : st = canon N Q := by
  apply List.ext_getElem?
  intro j
  by_cases hj : j < N
  · rw [pgAt_get (by omega), pgAt_get (by rw [canon_len]; exact hj), h j hj, canon_at hj]
  · rw [List.getElem?_eq_none (by omega), List.getElem?_eq_none (by rw [canon_len]; omega)]

/-- Payloads: so many, each of 100 bytes. -/
structure Pays (n : Nat) (Q : List (List UInt8)) : Prop where
  len : Q.length = n
  each : ∀ j, j < n → (Q.getD j []).length = 100

/-- A head that commits these writes, and the journal that holds them. -/
structure LoggedIn (n : Nat) (Q : List (List UInt8)) (ws : List (Int × List UInt8)) (st : List Page) : Prop where
  ne : ws ≠ []
  good : ∀ x ∈ ws, 0 ≤ x.1 ∧ x.1 < (n : Int) ∧ x.2.length = 100
  com : committed n (pgAt st (2 * n)) = ws.length
  jn : ∀ k x, ws[k]? = some x → pgAt st (n + k) = pad (four x.1.toNat ++ x.2)
  homes : ∀ j, j < n → (∀ x ∈ ws, x.1.toNat ≠ j) → pgAt st j = pad (Q.getD j [])
  eff : ∀ x ∈ ws, Q.getD x.1.toNat [] = x.2

/-- Stable pages of which Open makes a file with these payloads. -/
structure Rec (n : Nat) (Q : List (List UInt8)) (st : List Page) : Prop where
  len : 2 * n < st.length
  few : n ≤ 4096
  pl : ∀ j, j < st.length → (pgAt st j).length = 128
  pays : Pays n Q
  spare : ∀ j, 2 * n < j → j < st.length → pgAt st j = zpage
  how : (committed n (pgAt st (2 * n)) = 0 ∧ ∀ j, j < n → pgAt st j = pad (Q.getD j [])) ∨ (∃ ws, LoggedIn n Q ws st)

theorem head_pad (m : Nat) : pad (headOf m) = headOf m ++ List.replicate 116 0 := rfl

theorem headOf_byte {m : Nat} (h : m ≤ 4096) : (headOf m)[8]? = some 165 := by
  have e : (headOf m)[8]? = some (UInt8.ofNat ((m ^^^ headMask) / 16777216)) := rfl
  rw [e]
  congr 1
  have : (m ^^^ headMask) / 16777216 = 165 := by
    have h1 := Nat.xor_div_two_pow (a := m) (b := headMask) (n := 24)
    have h2 : m / 2 ^ 24 = 0 := by omega
    rw [h2] at h1
    rw [show (16777216 : Nat) = 2 ^ 24 from rfl, h1]
    decide
  rw [this]; rfl

theorem committed_zero_of {n : Nat} {head : List UInt8} (h : ∀ m, 1 ≤ m → m ≤ n → head.take 12 ≠ headOf m) : committed n head = 0 := by
  unfold committed
  split
  · rfl
  · rename_i hc
    exact absurd (Decidable.not_not.1 fun e => hc (.inr (.inr e))) (h _ (by omega) (by omega))

theorem committed_head {n m : Nat} (h1 : 1 ≤ m) (h2 : m ≤ n) (h3 : n ≤ 4096) (r : List UInt8) : committed n (headOf m ++ r) = m := by
  have hw : wordAt ((headOf m ++ r).drop 4) = m := by
    have e : (headOf m ++ r).drop 4 = four m ++ (four (m ^^^ headMask) ++ r) := rfl
    rw [e]; exact word_four (by omega) _
  have ht : (headOf m ++ r).take 12 = headOf m := by rw [List.take_append_of_le_length (by rw [headOf_len]; omega)]; exact List.take_of_length_le (by rw [headOf_len]; omega)
  unfold committed
  rw [hw, ht, if_neg (by simp; omega)]

theorem committed_first {n : Nat} {head : List UInt8} (h : head[0]? = some 0) : committed n head = 0 := by
  refine committed_zero_of fun m _ _ e => ?_
  have : (head.take 12)[0]? = some 0 := by rw [List.getElem?_take]; simpa using h
  rw [e] at this
  have e2 : (headOf m)[0]? = some 65 := rfl
  rw [e2] at this
  exact absurd (Option.some.inj this) (by decide)

theorem committed_zpage (n : Nat) : committed n zpage = 0 := committed_first rfl

theorem torn_zero (p q : Page) : torn 0 p q = q := by simp [torn]
theorem torn_get {k j : Nat} {p q : Page} (hp : p.length = 128) (hk : k ≤ 128) : (torn k p q)[j]? = if j < k then p[j]? else q[j]? := by
  unfold torn
  split
  · rw [List.getElem?_append_left (by rw [List.length_take]; omega), List.getElem?_take, if_pos (by assumption)]
  · rw [List.getElem?_append_right (by rw [List.length_take]; omega), List.getElem?_drop, List.length_take]
    congr 1; omega

/-- Zeros over a head: what was no head is none. -/
theorem committed_erased {n k : Nat} {q : Page} (hk : k ≤ 128) : committed n (torn k zpage q) = committed n q ∧ torn k zpage q = q ∨ committed n (torn k zpage q) = 0 := by
  by_cases h : k = 0
  · subst h; rw [torn_zero]; exact .inl ⟨rfl, rfl⟩
  · right
    refine committed_first ?_
    rw [torn_get zpage_len hk, if_pos (by omega)]; rfl

/-- A head over zeros: it is there whole, or is none. -/
theorem committed_written {n m k : Nat} (hk : k ≤ 128) (h1 : 1 ≤ m) (h2 : m ≤ n) (h3 : n ≤ 4096) : committed n (torn k (pad (headOf m)) zpage) = 0 ∨ committed n (torn k (pad (headOf m)) zpage) = m := by
  have hpl : (pad (headOf m)).length = 128 := pad_len (by rw [headOf_len]; omega)
  by_cases h12 : 12 ≤ k
  · right
    have : ∃ r, torn k (pad (headOf m)) zpage = headOf m ++ r := by
      refine ⟨(List.replicate 116 0).take (k - 12) ++ zpage.drop k, ?_⟩
      unfold torn
      rw [head_pad, List.take_append, headOf_len, List.take_of_length_le (by rw [headOf_len]; exact h12), List.append_assoc]
    obtain ⟨r, e⟩ := this
    rw [e]; exact committed_head h1 h2 h3 r
  · have hle := committed_le n (torn k (pad (headOf m)) zpage)
    by_cases hc : committed n (torn k (pad (headOf m)) zpage) = 0
    · exact .inl hc
    · right
      unfold committed at hc ⊢
      split
      · rename_i h; rw [if_pos h] at hc; exact absurd rfl hc
      · rename_i h
        obtain ⟨mm, hmm⟩ : ∃ mm, mm = wordAt ((torn k (pad (headOf m)) zpage).drop 4) := ⟨_, rfl⟩
        rw [← hmm] at h ⊢
        have ht : (torn k (pad (headOf m)) zpage).take 12 = headOf mm := Decidable.not_not.1 fun e => h (.inr (.inr e))
        have hb : ((torn k (pad (headOf m)) zpage).take 12)[8]? = some 165 := by rw [ht]; exact headOf_byte (by omega)
        have hk8 : 8 < k := by
          refine Decidable.byContradiction fun h8 => ?_
          rw [List.getElem?_take, if_pos (by omega), torn_get hpl hk, if_neg h8] at hb
          have : zpage[8]? = some 0 := rfl
          rw [this] at hb
          exact absurd (Option.some.inj hb) (by decide)
        have hb : ∀ i, i < 8 → (torn k (pad (headOf m)) zpage)[i]? = (headOf m)[i]? := fun i hi => by
          rw [torn_get hpl hk, if_pos (by omega), head_pad, List.getElem?_append_left (by rw [headOf_len]; omega)]
        have hd : ∀ i, i < 4 → ((torn k (pad (headOf m)) zpage).drop 4).getD i 0 = (four m).getD i 0 := fun i hi => by
          have e1 : ((torn k (pad (headOf m)) zpage).drop 4)[i]? = (headOf m)[4 + i]? := by rw [List.getElem?_drop]; exact hb _ (by omega)
          have e2 : (headOf m)[4 + i]? = (four m)[i]? := by
            have : headOf m = [65, 78, 80, 70] ++ (four m ++ four (m ^^^ headMask)) := rfl
            rw [this, List.getElem?_append_right (by simp), List.getElem?_append_left (by rw [four_len]; simp; omega)]
            congr 1; simp
          rw [List.getD_eq_getElem?_getD, List.getD_eq_getElem?_getD, e1, e2]
        have : wordAt ((torn k (pad (headOf m)) zpage).drop 4) = wordAt (four m ++ []) := by
          unfold wordAt
          rw [hd 0 (by omega), hd 1 (by omega), hd 2 (by omega), hd 3 (by omega), List.append_nil]
        rw [hmm, this]
        exact word_four (by omega) []

theorem torn_len' {k : Nat} {p q : Page} (hk : k ≤ 128) (hp : p.length = 128) (hq : q.length = 128) : (torn k p q).length = 128 := torn_len hk hp hq

theorem tornBy_len {ws : List (Int × List UInt8)} {st st' : List Page} (h : TornBy ws st st') (hw : ∀ x ∈ ws, x.2.length ≤ 128) (hp : ∀ j, j < st.length → (pgAt st j).length = 128) : ∀ j, j < st'.length → (pgAt st' j).length = 128 := fun j hj => by
  rw [h.1] at hj
  rcases h.2 j with e | ⟨x, hx, _, k, hk, e⟩
  · rw [e]; exact hp j hj
  · rw [e]; exact torn_len hk (pad_len (hw x hx)) (hp j hj)

/-- The first phase of finish: the home pages. -/
theorem LoggedIn.homes_torn {n : Nat} {Q : List (List UInt8)} {ws : List (Int × List UInt8)} {st st' : List Page} (h : LoggedIn n Q ws st) (hr : Rec n Q st) (ht : TornBy ws st st') : Rec n Q st' ∧ LoggedIn n Q ws st' := by
  have same : ∀ j, (∀ x ∈ ws, x.1.toNat ≠ j) → pgAt st' j = pgAt st j := fun j hj => (ht.2 j).elim id fun ⟨x, hx, e, _⟩ => absurd e (hj x hx)
  have far : ∀ j, n ≤ j → pgAt st' j = pgAt st j := fun j hj => same j fun x hx e => by have := h.good x hx; omega
  have hl : LoggedIn n Q ws st' := ⟨h.ne, h.good, by rw [far _ (by omega)]; exact h.com, fun k x hx => by rw [far _ (by omega)]; exact h.jn k x hx, fun j hj hn => by rw [same j hn]; exact h.homes j hj hn, h.eff⟩
  exact ⟨⟨by rw [ht.1]; exact hr.len, hr.few, tornBy_len ht (fun x hx => by have := (h.good x hx).2.2; omega) hr.pl, hr.pays, fun j h1 h2 => by rw [far j (by omega)]; exact hr.spare j h1 (by rw [← ht.1]; exact h2), .inr ⟨ws, hl⟩⟩, hl⟩

theorem Rec.erased {n : Nat} {Q : List (List UInt8)} {st st' : List Page} {l : List Int} (hr : Rec n Q st) (hl : st'.length = st.length) (hlo : ∀ i ∈ l, (n : Int) ≤ i ∧ (i : Int) < (st.length : Int)) (hc : committed n (pgAt st (2 * n)) = 0) (hh : ∀ j, j < n → pgAt st j = pad (Q.getD j []))
    (h : ∀ j, pgAt st' j = pgAt st j ∨ ((j : Int) ∈ l ∧ ∃ k, k ≤ 128 ∧ pgAt st' j = torn k zpage (pgAt st j))) : Rec n Q st' := by
  refine ⟨by rw [hl]; exact hr.len, hr.few, fun j hj => ?_, hr.pays, fun j h1 h2 => ?_, .inl ⟨?_, fun j hj => ?_⟩⟩
  · rcases h j with e | ⟨_, k, hk, e⟩
    · rw [e]; exact hr.pl j (by omega)
    · rw [e]; exact torn_len hk zpage_len (hr.pl j (by omega))
  · have hz := hr.spare j h1 (by omega)
    rcases h j with e | ⟨_, k, hk, e⟩
    · rw [e]; exact hz
    · rw [e, hz]; unfold torn; exact List.take_append_drop _ _
  · rcases h (2 * n) with e | ⟨_, k, hk, e⟩
    · rw [e]; exact hc
    · rw [e]
      rcases committed_erased (n := n) (q := pgAt st (2 * n)) hk with h | h
      · rw [h.1]; exact hc
      · exact h
  · rcases h j with e | ⟨hm, _⟩
    · rw [e]; exact hh j hj
    · have := hlo _ hm; omega

theorem journalOf_mem {n k : Nat} {i : Int} : i ∈ journalOf n k ↔ ∃ j, j < k ∧ i = ((n + j : Nat) : Int) := by
  unfold journalOf
  rw [List.mem_map]
  constructor
  · rintro ⟨j, hj, rfl⟩; exact ⟨j, List.mem_range.1 hj, rfl⟩
  · rintro ⟨j, hj, rfl⟩; exact ⟨j, List.mem_range.2 hj, rfl⟩

/-- What finish leaves: the homes; no head; no journal of these writes; the rest as before. -/
structure Done (n : Nat) (Q : List (List UInt8)) (k : Nat) (st st' : List Page) : Prop where
  homes : ∀ j, j < n → pgAt st' j = pad (Q.getD j [])
  zero : ∀ j, n ≤ j → j < n + k → pgAt st' j = zpage
  head : pgAt st' (2 * n) = zpage
  rest : ∀ j, n + k ≤ j → j ≠ 2 * n → pgAt st' j = pgAt st j

theorem Rec.of_clean {n : Nat} {Q : List (List UInt8)} {st : List Page} (hl : 2 * n < st.length) (hn : n ≤ 4096) (hp : Pays n Q) (hs : ∀ j, 2 * n < j → j < st.length → pgAt st j = zpage) (hh : ∀ j, j < n → pgAt st j = pad (Q.getD j []))
    (hpl : ∀ j, n ≤ j → j < 2 * n → (pgAt st j).length = 128) (hc : committed n (pgAt st (2 * n)) = 0) (hcl : (pgAt st (2 * n)).length = 128) : Rec n Q st := by
  refine ⟨hl, hn, fun j hj => ?_, hp, hs, .inl ⟨hc, hh⟩⟩
  by_cases h1 : j < n
  · rw [hh j h1]; exact pad_len (by rw [hp.each j h1]; omega)
  · by_cases h2 : j < 2 * n
    · exact hpl j (by omega) h2
    · by_cases h3 : j = 2 * n
      · rw [h3]; exact hcl
      · rw [hs j (by omega) hj]; exact zpage_len

theorem finish_run {n : Nat} {Q : List (List UInt8)} {ws : List (Int × List UInt8)} {d : DK} (hup : d.down = false) (hbuf : d.buf = noBuf) (hr : Rec n Q d.st) (hl : LoggedIn n Q ws d.st) (hk : ws.length ≤ n) :
    Run (Done n Q ws.length d.st) (Rec n Q) d (d.finish n ws) := by
  have hlen := hr.len
  refine Run.thn (P := fun st => st.length = d.st.length ∧ (∀ j, j < n → pgAt st j = pad (Q.getD j [])) ∧ ∀ j, n ≤ j → pgAt st j = pgAt d.st j)
    (run_writes hup hbuf (fun x hx => by have := hl.good x hx; exact ⟨this.1, by omega, by omega⟩) (fun st' h1 h2 => ⟨h1, fun j hj => ?_, fun j hj => ?_⟩) (fun st' ht => (hl.homes_torn hr ht).1)) ?_
  · rw [h2 j (by omega)]
    by_cases hm : ∃ x ∈ ws, x.1.toNat = j
    · refine laid_mem hm fun x hx e => ?_
      rw [← hl.eff x hx, e]
    · rw [laid_not fun x hx e => hm ⟨x, hx, e⟩]
      exact hl.homes j hj fun x hx e => hm ⟨x, hx, e⟩
  · by_cases hj2 : j < d.st.length
    · rw [h2 j hj2]
      exact laid_not fun x hx e => by have := hl.good x hx; omega
    · rw [pgAt_out (by omega), pgAt_out (by omega)]
  · intro d1 hup1 hbuf1 hlen1 ⟨_, hh1, hf1⟩
    have hr1 : Rec n Q d1.st := by
      refine ⟨by omega, hr.few, fun j hj => ?_, hr.pays, fun j h1 h2 => by rw [hf1 j (by omega)]; exact hr.spare j h1 (by omega), .inr ⟨ws, hl.ne, hl.good, by rw [hf1 _ (by omega)]; exact hl.com, fun k x hx => by rw [hf1 _ (by omega)]; exact hl.jn k x hx, fun j hj _ => hh1 j hj, hl.eff⟩⟩
      by_cases h1 : j < n
      · rw [hh1 j h1]; exact pad_len (by rw [hr.pays.each j h1]; omega)
      · rw [hf1 j (by omega)]; exact hr.pl j (by omega)
    refine Run.thn (P := fun st => pgAt st (2 * n) = zpage ∧ ∀ j, j ≠ 2 * n → pgAt st j = pgAt d1.st j)
      (run_erase hup1 hbuf1 (fun i hi => by simp at hi; omega) (fun st' h1 h2 => ⟨(h2 (2 * n) (by omega)).1 (by simp), fun j hj => ?_⟩) (fun st' h1 h2 => ?_)) ?_
    · by_cases hj2 : j < d1.st.length
      · exact (h2 j hj2).2 (by simp; omega)
      · rw [pgAt_out (by omega), pgAt_out (by omega)]
    · have hsame : ∀ j, j ≠ 2 * n → pgAt st' j = pgAt d1.st j := fun j hj => (h2 j).elim id fun h => by have := h.1; simp at this; omega
      rcases h2 (2 * n) with e | ⟨_, k, hk, e⟩
      · have : st' = d1.st := by
          apply List.ext_getElem?
          intro j
          by_cases hj : j < st'.length
          · rw [pgAt_get hj, pgAt_get (by omega)]
            congr 1
            by_cases hj2 : j = 2 * n
            · rw [hj2]; exact e
            · exact hsame j hj2
          · rw [List.getElem?_eq_none (by omega), List.getElem?_eq_none (by omega)]
        rw [this]; exact hr1
      · have h128 := hr1.pl (2 * n) (by omega)
        rcases committed_erased (n := n) (q := pgAt d1.st (2 * n)) hk with ⟨_, h⟩ | h
        · have : st' = d1.st := by
            apply List.ext_getElem?
            intro j
            by_cases hj : j < st'.length
            · rw [pgAt_get hj, pgAt_get (by omega)]
              congr 1
              by_cases hj2 : j = 2 * n
              · rw [hj2, e, h]
              · exact hsame j hj2
            · rw [List.getElem?_eq_none (by omega), List.getElem?_eq_none (by omega)]
          rw [this]; exact hr1
        · exact Rec.of_clean (by omega) hr.few hr.pays (fun j h1 h2 => by rw [hsame j (by omega)]; exact hr1.spare j h1 (by omega)) (fun j hj => by rw [hsame j (by omega)]; exact hh1 j hj)
            (fun j h1 h2 => by rw [hsame j (by omega)]; exact hr1.pl j (by omega)) (by rw [e]; exact h) (by rw [e]; exact torn_len hk zpage_len h128)
    · intro d2 hup2 hbuf2 hlen2 ⟨hz2, hs2⟩
      have hh2 : ∀ j, j < n → pgAt d2.st j = pad (Q.getD j []) := fun j hj => by rw [hs2 j (by omega)]; exact hh1 j hj
      have hr2 : Rec n Q d2.st := Rec.of_clean (by omega) hr.few hr.pays (fun j h1 h2 => by rw [hs2 j (by omega)]; exact hr1.spare j h1 (by omega)) hh2
            (fun j h1 h2 => by rw [hs2 j (by omega)]; exact hr1.pl j (by omega)) (by rw [hz2]; exact committed_zpage n) (by rw [hz2]; exact zpage_len)
      have hjr : ∀ i ∈ journalOf n ws.length, (n : Int) ≤ i ∧ i < (n + ws.length : Nat) := fun i hi => by obtain ⟨j, hj, rfl⟩ := journalOf_mem.1 hi; omega
      refine run_erase hup2 hbuf2 (fun i hi => by have := hjr i hi; omega) (fun st' h1 h2 => ?_) (fun st' h1 h2 => hr2.erased h1 (fun i hi => by have := hjr i hi; omega) (by rw [hz2]; exact committed_zpage n) hh2 h2)
      have hin : ∀ j : Nat, (j : Int) ∈ journalOf n ws.length ↔ n ≤ j ∧ j < n + ws.length := fun j => by
        rw [journalOf_mem]
        constructor
        · rintro ⟨k, hk, e⟩; omega
        · rintro ⟨a, b⟩; exact ⟨j - n, by omega, by omega⟩
      have hkeep : ∀ j, ¬ (n ≤ j ∧ j < n + ws.length) → pgAt st' j = pgAt d2.st j := fun j hj => by
        by_cases hj2 : j < d2.st.length
        · exact (h2 j hj2).2 (fun h => hj ((hin j).1 h))
        · rw [pgAt_out (by omega), pgAt_out (by omega)]
      exact ⟨fun j hj => by rw [hkeep j (by omega)]; exact hh2 j hj, fun j ha hb => (h2 j (by omega)).1 ((hin j).2 ⟨ha, hb⟩), by rw [hkeep _ (by omega)]; exact hz2,
        fun j ha hb => by rw [hkeep j (by omega), hs2 j hb]; exact hf1 j (by omega)⟩

end Go.Proofs.YtngddhoolijimaaGreatDoor
