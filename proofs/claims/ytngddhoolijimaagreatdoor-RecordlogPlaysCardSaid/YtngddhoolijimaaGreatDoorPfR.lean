/-
  The page file, plainly: Write and Open, whole. No program in sight.
-/
import Derived.Test.YtngddhoolijimaaGreatDoorPfQ
namespace Go.Proofs.YtngddhoolijimaaGreatDoor
open Go.RowKit

theorem entries_get {n k : Nat} {ws : List (Int × List UInt8)} {y : Int × List UInt8} : (entries n ws)[k]? = some y ↔ ∃ x, ws[k]? = some x ∧ y = (((n + k : Nat) : Int), four x.1.toNat ++ x.2) := by
  unfold entries
  rw [List.getElem?_mapIdx]
  constructor
  · intro h
    obtain ⟨x, hx, e⟩ := Option.map_eq_some_iff.1 h
    exact ⟨x, hx, e.symm⟩
  · rintro ⟨x, hx, rfl⟩
    rw [hx]; rfl

theorem entries_mem {n : Nat} {ws : List (Int × List UInt8)} {y : Int × List UInt8} (h : y ∈ entries n ws) : ∃ k x, ws[k]? = some x ∧ y = (((n + k : Nat) : Int), four x.1.toNat ++ x.2) := by
  obtain ⟨k, hk, e⟩ := List.getElem_of_mem h
  obtain ⟨x, hx, e⟩ := entries_get.1 (show (entries n ws)[k]? = some y by rw [List.getElem?_eq_getElem hk, e])
  exact ⟨k, x, hx, e⟩

theorem canon_rec {n N : Nat} {Q : List (List UInt8)} (hN : 2 * n < N) (hn : n ≤ 4096) (hp : Pays n Q) : Rec n Q (canon N Q) := by
  refine Rec.of_clean (by rw [canon_len]; exact hN) hn hp (fun j h1 h2 => ?_) (fun j hj => ?_) (fun j h1 h2 => ?_) ?_ ?_
  · rw [canon_len] at h2
    rw [canon_at h2, if_neg (by rw [hp.len]; omega)]
  · rw [canon_at (by omega), if_pos (by rw [hp.len]; exact hj)]
  · rw [canon_at (by omega), if_neg (by rw [hp.len]; omega)]; exact zpage_len
  · rw [canon_at hN, if_neg (by rw [hp.len]; omega)]; exact committed_zpage n
  · rw [canon_at hN, if_neg (by rw [hp.len]; omega)]; exact zpage_len

/-- What some writes of whole payloads make of payloads. -/
structure Makes (n : Nat) (ws : List (Int × List UInt8)) (P Q : List (List UInt8)) : Prop where
  good : ∀ x ∈ ws, 0 ≤ x.1 ∧ x.1 < (n : Int) ∧ x.2.length = 100
  few : ws.length ≤ n
  keep : ∀ j, j < n → (∀ x ∈ ws, x.1.toNat ≠ j) → Q.getD j [] = P.getD j []
  eff : ∀ x ∈ ws, Q.getD x.1.toNat [] = x.2

/-- Write, from a clean disk. -/
theorem write_run {n N : Nat} {P Q : List (List UInt8)} {ws : List (Int × List UInt8)} {d : DK} (hup : d.down = false) (hbuf : d.buf = noBuf) (hst : d.st = canon N P) (hN : 2 * n < N) (hn : n ≤ 4096) (hp : Pays n P) (hq : Pays n Q) (hm : Makes n ws P Q) (hne : ws ≠ []) :
    Run (· = canon N Q) (fun st' => Rec n P st' ∨ Rec n Q st') d (thn (d.commit n ws) fun d => d.finish n ws) := by
  have hNl : d.st.length = N := by rw [hst, canon_len]
  have hrP : Rec n P d.st := by rw [hst]; exact canon_rec hN hn hp
  have hz : ∀ j, n ≤ j → j < N → pgAt d.st j = zpage := fun j h1 h2 => by rw [hst, canon_at h2, if_neg (by rw [hp.len]; omega)]
  have hhP : ∀ j, j < n → pgAt d.st j = pad (P.getD j []) := fun j hj => by rw [hst, canon_at (by omega), if_pos (by rw [hp.len]; exact hj)]
  have hwl : 0 < ws.length := List.length_pos_iff.2 hne
  have hel : ∀ x ∈ ws, (four x.1.toNat ++ x.2).length ≤ 128 := fun x hx => by rw [List.length_append, four_len, (hm.good x hx).2.2]; omega
  have eent : ∀ x ∈ entries n ws, 0 ≤ x.1 ∧ n ≤ x.1.toNat ∧ x.1.toNat < 2 * n ∧ x.2.length ≤ 128 := fun y hy => by
    obtain ⟨k, x, hx, rfl⟩ := entries_mem hy
    have := (List.getElem?_eq_some_iff.1 hx).1
    have := hm.few
    refine ⟨Int.natCast_nonneg _, by rw [Int.toNat_natCast]; omega, by rw [Int.toNat_natCast]; omega, hel x (List.mem_of_getElem? hx)⟩
  have hentlen : ∀ x ∈ entries n ws, x.2.length ≤ 128 := fun x hx => (eent x hx).2.2.2
  refine Run.thn (P := fun st => Rec n Q st ∧ LoggedIn n Q ws st ∧ ∀ j, n ≤ j → j < N → j ≠ 2 * n → n + ws.length ≤ j → pgAt st j = zpage) (Run.thn (P := fun st => (∀ k x, ws[k]? = some x → pgAt st (n + k) = pad (four x.1.toNat ++ x.2)) ∧ ∀ j, j < n ∨ n + ws.length ≤ j → pgAt st j = pgAt d.st j)
    (run_writes hup hbuf (fun x hx => ?_) (fun st' h1 h2 => ⟨fun k x hx => ?_, fun j hj => ?_⟩) (fun st' ht => ?_)) ?_) ?_
  · have := eent x hx; exact ⟨this.1, by omega, this.2.2.2⟩
  · have hk := (List.getElem?_eq_some_iff.1 hx).1
    have := hm.few
    rw [h2 (n + k) (by omega)]
    refine laid_mem ⟨_, List.mem_of_getElem? (entries_get.2 ⟨x, hx, rfl⟩), Int.toNat_natCast _⟩ fun y hy e => ?_
    obtain ⟨k', x', hx', rfl⟩ := entries_mem hy
    have : k' = k := by simp at e; omega
    subst this
    rw [hx] at hx'; cases hx'; rfl
  · by_cases hj2 : j < d.st.length
    · rw [h2 j hj2]
      refine laid_not fun y hy e => ?_
      obtain ⟨k', x', hx', rfl⟩ := entries_mem hy
      have := (List.getElem?_eq_some_iff.1 hx').1
      simp at e; omega
    · rw [pgAt_out (by omega), pgAt_out (by omega)]
  · left
    have hs : ∀ j, ¬ (n ≤ j ∧ j < 2 * n) → pgAt st' j = pgAt d.st j := fun j hj => (ht.2 j).elim id fun ⟨x, hx, e, _⟩ => by have := eent x hx; omega
    have hpl := tornBy_len ht hentlen hrP.pl
    refine Rec.of_clean (by rw [ht.1]; omega) hn hp (fun j h1 h2 => by rw [hs j (by omega)]; exact hz j (by omega) (by rw [ht.1] at h2; omega)) (fun j hj => by rw [hs j (by omega)]; exact hhP j hj) (fun j h1 h2 => hpl j (by rw [ht.1]; omega)) ?_ (hpl _ (by rw [ht.1]; omega))
    rw [hs _ (by omega), hz _ (by omega) hN]; exact committed_zpage n
  · intro d1 hup1 hbuf1 hlen1 ⟨hj1, hs1⟩
    have hN1 : d1.st.length = N := by omega
    have hp1 : ∀ j, j < N → (pgAt d1.st j).length = 128 := fun j hj => by
      by_cases h1 : j < n ∨ n + ws.length ≤ j
      · rw [hs1 j h1]; exact hrP.pl j (by omega)
      · obtain ⟨x, hx⟩ : ∃ x, ws[j - n]? = some x := ⟨_, List.getElem?_eq_getElem (by omega)⟩
        have := hj1 (j - n) x hx
        rw [show n + (j - n) = j by omega] at this
        rw [this]; exact pad_len (hel x (List.mem_of_getElem? hx))
    have hfew := hm.few
    have hz1 : pgAt d1.st (2 * n) = zpage := by rw [hs1 _ (by omega)]; exact hz _ (by omega) hN
    -- with any head, the rest as it is
    have key : ∀ st', st'.length = N → (∀ j, j ≠ 2 * n → pgAt st' j = pgAt d1.st j) → (pgAt st' (2 * n)).length = 128 → (committed n (pgAt st' (2 * n)) = 0 → Rec n P st') ∧ (committed n (pgAt st' (2 * n)) = ws.length → Rec n Q st' ∧ LoggedIn n Q ws st') := fun st' hl hs h128 => by
      have hsp : ∀ j, 2 * n < j → j < st'.length → pgAt st' j = zpage := fun j h1 h2 => by rw [hs j (by omega), hs1 j (by omega)]; exact hz j (by omega) (by omega)
      refine ⟨fun hc => Rec.of_clean (by omega) hn hp hsp (fun j hj => by rw [hs j (by omega), hs1 j (by omega)]; exact hhP j hj) (fun j h1 h2 => by rw [hs j (by omega)]; exact hp1 j (by omega)) hc h128, fun hc => ?_⟩
      have hL : LoggedIn n Q ws st' := ⟨hne, hm.good, hc, fun k x hx => by
          have := (List.getElem?_eq_some_iff.1 hx).1
          rw [hs _ (by omega)]; exact hj1 k x hx, fun j hj hno => by rw [hs j (by omega), hs1 j (by omega), hhP j hj, hm.keep j hj hno], hm.eff⟩
      refine ⟨⟨by omega, hn, fun j hj => ?_, hq, hsp, .inr ⟨ws, hL⟩⟩, hL⟩
      by_cases e : j = 2 * n
      · rw [e]; exact h128
      · rw [hs j e]; exact hp1 j (by omega)
    have hhead : (headOf ws.length).length ≤ 128 := by rw [headOf_len]; omega
    refine run_writes hup1 hbuf1 (fun x hx => ?_) (fun st' h1 h2 => ?_) (fun st' ht => ?_)
    · simp only [List.mem_singleton] at hx
      subst hx
      exact ⟨by simp; omega, by simp; omega, hhead⟩
    · have hsame : ∀ j, j ≠ 2 * n → pgAt st' j = pgAt d1.st j := fun j hj => by
        by_cases hj2 : j < d1.st.length
        · rw [h2 j hj2]
          refine laid_not fun y hy e => ?_
          simp only [List.mem_singleton] at hy
          subst hy; simp at e; omega
        · rw [pgAt_out (by omega), pgAt_out (by omega)]
      have hhd : pgAt st' (2 * n) = pad (headOf ws.length) := by
        rw [h2 _ (by omega)]
        refine laid_mem ⟨_, List.mem_singleton.2 rfl, Int.toNat_natCast _⟩ fun y hy _ => ?_
        simp only [List.mem_singleton] at hy
        subst hy; rfl
      have := (key st' (by omega) hsame (by rw [hhd]; exact pad_len hhead)).2 (by rw [hhd, head_pad]; exact committed_head hwl hm.few hn _)
      exact ⟨this.1, this.2, fun j h1 h2 h3 h4 => by rw [hsame j h3, hs1 j (.inr h4)]; exact hz j h1 h2⟩
    · have hsame : ∀ j, j ≠ 2 * n → pgAt st' j = pgAt d1.st j := fun j hj => (ht.2 j).elim id fun ⟨x, hx, e, _⟩ => by
        simp only [List.mem_singleton] at hx
        subst hx; simp at e; omega
      have hk := key st' (by rw [ht.1]; omega) hsame (tornBy_len ht (fun y hy => by simp only [List.mem_singleton] at hy; subst hy; exact hhead) (by rw [hN1]; exact hp1) _ (by rw [ht.1]; omega))
      rcases ht.2 (2 * n) with e | ⟨x, hx, _, k, hk2, e⟩
      · exact .inl (hk.1 (by rw [e, hz1]; exact committed_zpage n))
      · simp only [List.mem_singleton] at hx
        subst hx
        rw [hz1] at e
        rcases committed_written hk2 hwl hm.few hn with h | h
        · exact .inl (hk.1 (by rw [e]; exact h))
        · exact .inr (hk.2 (by rw [e]; exact h)).1
  · intro d2 hup2 hbuf2 hlen2 ⟨hr2, hl2, hz2⟩
    refine (finish_run hup2 hbuf2 hr2 hl2 hm.few).more (fun st' hls hd => canon_of (by omega) fun j hj => ?_) (fun st' h => .inr h)
    rw [hq.len]
    by_cases h1 : j < n
    · rw [if_pos h1]; exact hd.homes j h1
    · rw [if_neg h1]
      by_cases h2 : j < n + ws.length
      · exact hd.zero j (by omega) h2
      · by_cases h3 : j = 2 * n
        · rw [h3]; exact hd.head
        · rw [hd.rest j (by omega) h3]; exact hz2 j (by omega) hj h3 (by omega)

theorem blank_page {p : Page} (hl : p.length = 128) : blank p = true ↔ p = zpage := by
  unfold blank zpage
  constructor
  · intro h
    rw [← hl]
    exact List.eq_replicate_of_mem fun b hb => by simpa using List.all_eq_true.1 h b hb
  · rintro rfl; decide

theorem dirty_mem {first : Nat} {ps : List (List UInt8)} {i : Int} : i ∈ dirty first ps ↔ ∃ k, k < ps.length ∧ blank (ps.getD k []) = false ∧ i = ((first + k : Nat) : Int) := by
  unfold dirty
  simp only [List.mem_map, List.mem_filter, List.mem_range]
  constructor
  · rintro ⟨k, ⟨h1, h2⟩, rfl⟩; exact ⟨k, h1, by simpa using h2, rfl⟩
  · rintro ⟨k, h1, h2, rfl⟩; exact ⟨k, ⟨h1, by simpa using h2⟩, rfl⟩

/-- The last phase of Open: what is not blank is erased. -/
theorem clean_run {n : Nat} {Q : List (List UInt8)} {l : List Int} {d : DK} (hup : d.down = false) (hbuf : d.buf = noBuf) (hr : Rec n Q d.st) (hc : committed n (pgAt d.st (2 * n)) = 0) (hh : ∀ j, j < n → pgAt d.st j = pad (Q.getD j []))
    (hlo : ∀ i ∈ l, (n : Int) ≤ i ∧ i ≤ (2 * n : Nat)) (hall : ∀ j, n ≤ j → j ≤ 2 * n → pgAt d.st j = zpage ∨ (j : Int) ∈ l) : Run (· = canon d.st.length Q) (Rec n Q) d (d.clean l) := by
  have hlen := hr.len
  have fin : ∀ st', st'.length = d.st.length → (∀ j, j < d.st.length → ((j : Int) ∈ l → pgAt st' j = zpage) ∧ ((j : Int) ∉ l → pgAt st' j = pgAt d.st j)) → st' = canon d.st.length Q := fun st' h1 h2 => canon_of h1 fun j hj => by
    rw [hr.pays.len]
    by_cases ha : j < n
    · rw [if_pos ha, (h2 j hj).2 (fun h => by have := hlo _ h; omega)]; exact hh j ha
    · rw [if_neg ha]
      by_cases hm : (j : Int) ∈ l
      · exact (h2 j hj).1 hm
      · rw [(h2 j hj).2 hm]
        by_cases hb : j ≤ 2 * n
        · exact (hall j (by omega) hb).resolve_right hm
        · exact hr.spare j (by omega) hj
  unfold DK.clean
  by_cases hl : l = []
  · rw [if_pos hl]
    subst hl
    exact Run.skip hup hbuf (fin d.st rfl fun j _ => ⟨fun h => (by cases h), fun _ => rfl⟩)
  · rw [if_neg hl]
    exact run_erase hup hbuf (fun i hi => by have := hlo i hi; omega) (fun st' h1 h2 => fin st' h1 h2) (fun st' h1 h2 => hr.erased h1 (fun i hi => by have := hlo i hi; omega) hc hh h2)

theorem DK.get_at {d : DK} (h : d.buf = noBuf) (j : Nat) : d.get j = pgAt d.st j := by unfold DK.get; rw [h]; rfl

theorem journal_get {d : DK} {n k : Nat} (h : k < n) : (d.journal n).getD k [] = d.get (n + k) := by
  unfold DK.journal
  rw [List.getD_eq_getElem?_getD, List.getElem?_map, List.getElem?_range h]; rfl

theorem logged_eq {n : Nat} {Q : List (List UInt8)} {ws : List (Int × List UInt8)} {d : DK} (hb : d.buf = noBuf) (hn : n ≤ 4096) (hl : LoggedIn n Q ws d.st) (hk : ws.length ≤ n) : logged ((d.journal n).take ws.length) = ws := by
  unfold logged
  apply List.ext_getElem?
  intro k
  by_cases h : k < ws.length
  · obtain ⟨x, hx⟩ : ∃ x, ws[k]? = some x := ⟨_, List.getElem?_eq_getElem h⟩
    have hg := hl.good x (List.mem_of_getElem? hx)
    have e : (d.journal n)[k]? = some (pad (four x.1.toNat ++ x.2)) := by
      unfold DK.journal
      rw [List.getElem?_map, List.getElem?_range (by omega), ← hl.jn k x hx, ← DK.get_at hb]; rfl
    rw [List.getElem?_map, List.getElem?_take, if_pos h, e, hx]
    have hp : pad (four x.1.toNat ++ x.2) = four x.1.toNat ++ (x.2 ++ List.replicate 24 0) := by
      unfold pad
      rw [List.append_assoc, List.length_append, four_len, hg.2.2]
    have h1 : wordAt (pad (four x.1.toNat ++ x.2)) = x.1.toNat := by rw [hp]; exact word_four (by omega) _
    have h2 : ((pad (four x.1.toNat ++ x.2)).drop 4).take 100 = x.2 := by
      rw [hp]
      show (x.2 ++ List.replicate 24 0).take 100 = x.2
      rw [← hg.2.2, List.take_left]
    rw [Option.map_some, h1, h2]
    congr 1
    exact Prod.ext (by simp; omega) rfl
  · rw [List.getElem?_eq_none (by simp; omega), List.getElem?_eq_none (by omega)]

theorem recover_run {n : Nat} {Q : List (List UInt8)} {d : DK} (hup : d.down = false) (hbuf : d.buf = noBuf) (hr : Rec n Q d.st) : Run (· = canon d.st.length Q) (Rec n Q) d (d.recover n) := by
  have hlen := hr.len
  have hn := hr.few
  unfold DK.recover
  rw [DK.get_at hbuf]
  rcases hr.how with ⟨hc, hh⟩ | ⟨ws, hl⟩
  · rw [hc, if_neg (by omega)]
    have hjl : (d.journal n).length = n := d.journal_len n
    have hg : ∀ k, k ≤ n → (d.journal n ++ [pgAt d.st (2 * n)]).getD k [] = pgAt d.st (n + k) := fun k hk => by
      by_cases h : k < n
      · have e1 := journal_get (d := d) h
        rw [DK.get_at hbuf] at e1
        rw [← e1, List.getD_eq_getElem?_getD, List.getD_eq_getElem?_getD, List.getElem?_append_left (by omega)]
      · rw [show k = n by omega, List.getD_eq_getElem?_getD, List.getElem?_append_right (by omega), hjl, Nat.sub_self, show n + n = 2 * n by omega]; rfl
    refine clean_run hup hbuf hr hc hh (fun i hi => ?_) (fun j h1 h2 => ?_)
    · obtain ⟨k, hk, _, rfl⟩ := dirty_mem.1 hi
      rw [List.length_append, hjl] at hk
      simp at hk; omega
    · by_cases hb : blank (pgAt d.st j) = true
      · exact .inl ((blank_page (hr.pl j (by omega))).1 hb)
      · right
        refine dirty_mem.2 ⟨j - n, by rw [List.length_append, hjl]; simp; omega, ?_, by omega⟩
        rw [hg _ (by omega), show n + (j - n) = j by omega]; simpa using hb
  · have hk : ws.length ≤ n := by rw [← hl.com]; exact committed_le _ _
    have hwl : 0 < ws.length := List.length_pos_iff.2 hl.ne
    rw [hl.com, if_pos hwl, logged_eq hbuf hn hl hk]
    refine Run.thn (finish_run hup hbuf hr hl hk) fun d1 hup1 hbuf1 hlen1 hd => ?_
    have hjl : ((d.journal n).drop ws.length).length = n - ws.length := by rw [List.length_drop, d.journal_len n]
    have hg : ∀ k, k < n - ws.length → ((d.journal n).drop ws.length ++ [[]]).getD k [] = pgAt d.st (n + ws.length + k) := fun k hk => by
      rw [List.getD_eq_getElem?_getD, List.getElem?_append_left (by omega), List.getElem?_drop, ← List.getD_eq_getElem?_getD, journal_get (by omega), DK.get_at hbuf]
      congr 1; omega
    have hc1 : committed n (pgAt d1.st (2 * n)) = 0 := by rw [hd.head]; exact committed_zpage n
    have hr1 : Rec n Q d1.st := Rec.of_clean (by omega) hn hr.pays (fun j h1 h2 => by rw [hd.rest j (by omega) (by omega)]; exact hr.spare j h1 (by omega)) hd.homes (fun j h1 h2 => by
      by_cases hj : j < n + ws.length
      · rw [hd.zero j h1 hj]; exact zpage_len
      · rw [hd.rest j (by omega) (by omega)]; exact hr.pl j (by omega)) hc1 (by rw [hd.head]; exact zpage_len)
    rw [← hlen1]
    refine clean_run hup1 hbuf1 hr1 hc1 hd.homes (fun i hi => ?_) (fun j h1 h2 => ?_)
    · obtain ⟨k, hk, _, rfl⟩ := dirty_mem.1 hi
      rw [List.length_append, hjl] at hk
      simp at hk; omega
    · by_cases hj : j < n + ws.length
      · exact .inl (hd.zero j h1 hj)
      · by_cases hj2 : j = 2 * n
        · rw [hj2]; exact .inl hd.head
        · by_cases hb : blank (pgAt d.st j) = true
          · left
            rw [hd.rest j (by omega) hj2]
            exact (blank_page (hr.pl j (by omega))).1 hb
          · right
            refine dirty_mem.2 ⟨j - (n + ws.length), by rw [List.length_append, hjl]; simp; omega, ?_, by omega⟩
            rw [hg _ (by omega), show n + ws.length + (j - (n + ws.length)) = j by omega]; simpa using hb

theorem opens_eq {n : Nat} {d : DK} (hup : d.down = false) (hn : capN d.st.length = n) (h0 : 0 < n) : d.opens = if (d.recover n).2 = 0 then d.recover n else ((d.recover n).1, 13) := by
  subst hn
  unfold DK.opens
  rw [if_neg (by rw [hup]; exact Bool.false_ne_true), if_pos h0]

theorem Run.io {P F : List Page → Prop} {d : DK} {r : DK × Int} (h : Run P F d r) : Run P F d (if r.2 = 0 then r else (r.1, 13)) := by
  rcases h with ⟨h1, h2⟩ | ⟨h1, h2⟩
  · rw [if_pos h1]; exact .inl ⟨h1, h2⟩
  · rw [if_neg (by rw [h1]; decide)]; exact .inr ⟨rfl, h2⟩

theorem opens_run {n : Nat} {Q : List (List UInt8)} {d : DK} (hup : d.down = false) (hbuf : d.buf = noBuf) (hn : capN d.st.length = n) (h0 : 0 < n) (hr : Rec n Q d.st) : Run (· = canon d.st.length Q) (Rec n Q) d d.opens := by
  rw [opens_eq hup hn h0]
  exact (recover_run hup hbuf hr).io

theorem capN_room {N : Nat} (h : 7 ≤ N) : 0 < capN N ∧ 2 * capN N < N ∧ capN N ≤ 4096 := by unfold capN; rw [if_neg (by omega)]; omega

end Go.Proofs.YtngddhoolijimaaGreatDoor
