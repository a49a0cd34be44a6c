/-
  The page file's law, plainly: a clean file; a disk that can be opened. No program in sight.
-/
import Derived.Test.YtngddhoolijimaaGreatDoorPfM
namespace Go.Proofs.YtngddhoolijimaaGreatDoor
open Go.RowKit
set_option linter.unusedVariables false

def zeroP (n : Nat) : List (List UInt8) := List.replicate n (List.replicate 100 0)

theorem zeroP_pays (n : Nat) : Pays n (zeroP n) := ⟨by simp [zeroP], fun j hj => by unfold zeroP; rw [List.getD_eq_getElem?_getD, List.getElem?_replicate, if_pos hj]; simp⟩

/-- A disk that holds these payloads and nothing else. -/
structure Clean (n N : Nat) (P : List (List UInt8)) (d : DK) : Prop where
  up : d.down = false
  buf : d.buf = noBuf
  st : d.st = canon N P
  pays : Pays n P
  cap : capN N = n
  big : 7 ≤ N

section
variable {n N : Nat} {P Q : List (List UInt8)} {d : DK}

theorem Clean.len (h : Clean n N P d) : d.st.length = N := by rw [h.st, canon_len]
theorem Clean.pos (h : Clean n N P d) : 0 < n ∧ 2 * n < N ∧ n ≤ 4096 := by rw [← h.cap]; exact capN_room h.big
theorem Clean.recs (h : Clean n N P d) : Rec n P d.st := by rw [h.st]; exact canon_rec h.pos.2.1 h.pos.2.2 h.pays

theorem Clean.pay (h : Clean n N P d) {i : Nat} (hi : i < n) : d.pay i = P.getD i [] := by
  have hp := h.pos
  unfold DK.pay
  rw [DK.get_at h.buf, h.st, canon_at (by omega), if_pos (by rw [h.pays.len]; exact hi)]
  have := h.pays.each i hi
  unfold pad
  rw [← this, List.take_left]

theorem pad_zero : pad (List.replicate 100 0) = zpage := by unfold pad zpage; rw [List.replicate_append_replicate, List.length_replicate]

theorem new_clean (hN : 7 ≤ N) : Clean (capN N) N (zeroP (capN N)) (DK.new N) := by
  refine ⟨rfl, rfl, ?_, zeroP_pays _, rfl, hN⟩
  refine canon_of (by simp [DK.new]) fun j hj => ?_
  have e : pgAt (DK.new N).st j = zpage := pgAt_eq (by show (List.replicate N (List.replicate 128 0))[j]? = _; rw [List.getElem?_replicate, if_pos hj]; rfl)
  rw [e]
  split
  · rename_i h
    have : (zeroP (capN N)).getD j [] = List.replicate 100 0 := by
      unfold zeroP at h ⊢
      rw [List.length_replicate] at h
      rw [List.getD_eq_getElem?_getD, List.getElem?_replicate, if_pos h]; rfl
    rw [this, pad_zero]
  · rfl

theorem Clean.arm (h : Clean n N P d) (k : Int) : Clean n N P (d.arm k) := ⟨h.up, h.buf, h.st, h.pays, h.cap, h.big⟩

/-- A disk, up or down, of which a restart leaves such pages. -/
structure Ready (N : Nat) (S : List Page → Prop) (d : DK) : Prop where
  len : d.st.length = N
  dn : d.down = true → ∀ st', Tears d st' → S st'
  up : d.down = false → d.buf = noBuf ∧ S d.st

variable {S S' : List Page → Prop}

theorem Ready.more (h : Ready N S d) (hS : ∀ st, S st → S' st) : Ready N S' d := ⟨h.len, fun hd st' ht => hS _ (h.dn hd st' ht), fun hu => ⟨(h.up hu).1, hS _ (h.up hu).2⟩⟩

theorem Clean.ready (h : Clean n N P d) : Ready N (Rec n P) d := ⟨h.len, fun hd => (by rw [h.up] at hd; cases hd), fun _ => ⟨h.buf, h.recs⟩⟩

theorem Ready.arm (h : Ready N S d) (k : Int) : Ready N S (d.arm k) := ⟨h.len, h.dn, h.up⟩

theorem tears_clean {st' : List Page} (h : Tears d st') (hb : d.buf = noBuf) : st' = d.st := by
  apply List.ext_getElem?
  intro j
  by_cases hj : j < d.st.length
  · rw [pgAt_get hj, pgAt_get (by rw [h.1]; exact hj)]
    rcases h.2 j with e | ⟨p, k, _, hp, _⟩
    · rw [e]
    · rw [hb] at hp; cases hp
  · have := h.1
    rw [List.getElem?_eq_none (by omega), List.getElem?_eq_none (by omega)]

theorem Ready.crash (h : Ready N S d) (keep : List Int) : Ready N S (d.crash keep) := by
  have hS : S (d.crash keep).st := by
    by_cases hd : d.down = true
    · exact h.dn hd _ (crash_tears d keep)
    · have hu := h.up (by simpa using hd)
      rw [crash_clean hu.1]; exact hu.2
  exact ⟨by rw [← h.len]; exact (crash_tears d keep).1, fun _ st' ht => by rw [tears_clean ht rfl]; exact hS, fun hu => by cases hu⟩

theorem Ready.restart (h : Ready N S d) : d.restart.down = false ∧ d.restart.buf = noBuf ∧ S d.restart.st ∧ d.restart.st.length = N ∧ d.restart.fuse = 0 := by
  refine ⟨restart_up d, ?_, ?_, ?_, rfl⟩
  · refine restart_buf ?_
    by_cases hd : d.down = true
    · exact .inl hd
    · exact .inr (h.up (by simpa using hd)).1
  · by_cases hd : d.down = true
    · exact h.dn hd _ (restart_tears hd)
    · rw [restart_of_up (by simpa using hd)]; exact (h.up (by simpa using hd)).2
  · by_cases hd : d.down = true
    · rw [(restart_tears hd).1]; exact h.len
    · rw [restart_of_up (by simpa using hd)]; exact h.len

/-- Open: it is done, or the disk has fallen. -/
theorem opens_any (hup : d.down = false) (hbuf : d.buf = noBuf) (hl : d.st.length = N) (hc : capN N = n) (hN : 7 ≤ N) (hr : Rec n Q d.st) :
    (d.opens.2 = 0 ∧ Clean n N Q d.opens.1 ∧ (d.fuse = 0 → d.opens.1.fuse = 0)) ∨ (d.opens.2 = 13 ∧ d.fuse ≠ 0 ∧ d.opens.1.down = true ∧ Ready N (Rec n Q) d.opens.1) := by
  have h0 : 0 < n := by rw [← hc]; exact (capN_room hN).1
  rcases opens_run hup hbuf (by rw [hl]; exact hc) h0 hr with ⟨h1, h2, h3, h4, h5, h6⟩ | ⟨h1, h2, h3, h4, h5⟩
  · exact .inl ⟨h1, ⟨h2, h3, by rw [← hl]; exact h6, hr.pays, hc, hN⟩, h4⟩
  · exact .inr ⟨h1, h3, h2, h4.trans hl, fun _ => h5, fun hu => by rw [h2] at hu; cases hu⟩

/-- Write, on a clean file. -/
theorem pfWrite_any {f : PF} {l : List (Int × List UInt8)} (h : Clean n N P d) (hf : f = ⟨n, false⟩) :
    (wrongs n l ≠ 0 ∧ pfWrite f d l = (f, d, wrongs n l)) ∨
    (Right n l ∧ (pfWrite f d l).1 = f ∧ (pfWrite f d l).2.2 = 0 ∧ Clean n N (withW P l) (pfWrite f d l).2.1 ∧ (d.fuse = 0 → (pfWrite f d l).2.1.fuse = 0)) ∨
    (Right n l ∧ (pfWrite f d l).1 = ⟨n, true⟩ ∧ (pfWrite f d l).2.2 = 13 ∧ d.fuse ≠ 0 ∧ (pfWrite f d l).2.1.down = true ∧ Ready N (fun st => Rec n P st ∨ Rec n (withW P l) st) (pfWrite f d l).2.1) := by
  subst hf
  have hp := h.pos
  have hdn : PF.down ⟨n, false⟩ d = false := by unfold PF.down; rw [h.up]; rfl
  have e0 : pfWrite ⟨n, false⟩ d l = if wrongs n l ≠ 0 then (⟨n, false⟩, d, wrongs n l) else if (d.pages n l).2 = 0 then (⟨n, false⟩, d.pages n l) else (⟨n, true⟩, (d.pages n l).1, 13) := by
    unfold pfWrite
    rw [hdn]; rfl
  by_cases hw : wrongs n l = 0
  · have hr := wrongs_zero.1 hw
    have hrun := pages_run (l := l) h.up h.buf h.st hp.2.1 hp.2.2 h.pays hr
    rw [e0, if_neg (by rw [hw]; simp)]
    obtain ⟨C, hC⟩ : ∃ C, C = d.pages n l := ⟨_, rfl⟩
    rw [← hC] at hrun ⊢
    rcases hrun with ⟨h1, h2, h3, h4, h5, h6⟩ | ⟨h1, h2, h3, h4, h5⟩
    · rw [if_pos h1]
      exact .inr (.inl ⟨hr, rfl, h1, ⟨h2, h3, h6, withW_pays hr h.pays, h.cap, h.big⟩, h4⟩)
    · rw [if_neg (by rw [h1]; decide)]
      exact .inr (.inr ⟨hr, rfl, rfl, h3, h2, h4.trans h.len, fun _ => h5, fun hu => by rw [h2] at hu; cases hu⟩)
  · exact .inl ⟨hw, by rw [e0, if_pos hw]⟩

/-- Write, on a file that has fallen. -/
theorem pfWrite_down {f : PF} {l : List (Int × List UInt8)} (h : d.down = true) : pfWrite f d l = ({ f with failed := true }, d, 13) := by
  unfold pfWrite
  rw [if_pos (by unfold PF.down; rw [h]; simp)]

end
end Go.Proofs.YtngddhoolijimaaGreatDoor
