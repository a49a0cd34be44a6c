/-
  The page file, plainly: what an update that is cut leaves on the disk, and what Open makes of it. No program in sight.
-/
import Derived.Test.YtngddhoolijimaaGreatDoorPf
namespace Go.Proofs.YtngddhoolijimaaGreatDoor
open Go.RowKit

def zpage : Page := List.replicate 128 0
theorem zpage_len : zpage.length = 128 := by unfold zpage; simp
theorem pad_nil : pad [] = zpage := rfl

def noBuf : Nat → Option Page := fun _ => none

/-- Page j among stable pages. -/
def pgAt (st : List Page) (j : Nat) : Page := st.getD j []

/-- Page j after writes, the last one of it. -/
def laid (ws : List (Int × List UInt8)) (p : Page) (j : Nat) : Page := ws.foldl (fun p x => if x.1.toNat = j then pad x.2 else p) p

theorem laid_not {ws : List (Int × List UInt8)} {p : Page} {j : Nat} (h : ∀ x ∈ ws, x.1.toNat ≠ j) : laid ws p j = p := by
  induction ws generalizing p with
  | nil => rfl
  | cons x l ih =>
    unfold laid
    rw [List.foldl_cons, if_neg (h x (by simp))]
    exact ih fun y hy => h y (by simp [hy])

theorem laid_mem {ws : List (Int × List UInt8)} {p v : Page} {j : Nat} (h : ∃ x ∈ ws, x.1.toNat = j) (hv : ∀ x ∈ ws, x.1.toNat = j → pad x.2 = v) : laid ws p j = v := by
  induction ws generalizing p with
  | nil => obtain ⟨x, hx, _⟩ := h; cases hx
  | cons x l ih =>
    unfold laid
    rw [List.foldl_cons]
    by_cases hl : ∃ y ∈ l, y.1.toNat = j
    · exact ih hl fun y hy => hv y (by simp [hy])
    · have hn : ∀ y ∈ l, y.1.toNat ≠ j := fun y hy e => hl ⟨y, hy, e⟩
      have hx : x.1.toNat = j := by
        obtain ⟨y, hy, e⟩ := h
        rcases List.mem_cons.1 hy with rfl | hy
        · exact e
        · exact absurd e (hn y hy)
      have := laid_not (p := if x.1.toNat = j then pad x.2 else p) hn
      unfold laid at this
      rw [this, if_pos hx]
      exact hv x (by simp) hx

/-- Stable pages after the buffered ones have fallen, each with some bytes. -/
def Tears (d : DK) (st' : List Page) : Prop := st'.length = d.st.length ∧ ∀ j, pgAt st' j = pgAt d.st j ∨ ∃ p k, k ≤ 128 ∧ d.buf j = some p ∧ pgAt st' j = torn k p (pgAt d.st j)

/-- Stable pages of which some bytes of some writes have arrived. -/
def TornBy (ws : List (Int × List UInt8)) (st st' : List Page) : Prop := st'.length = st.length ∧ ∀ j, pgAt st' j = pgAt st j ∨ ∃ x ∈ ws, x.1.toNat = j ∧ ∃ k, k ≤ 128 ∧ pgAt st' j = torn k (pad x.2) (pgAt st j)

def InR (N : Nat) (ws : List (Int × List UInt8)) : Prop := ∀ x ∈ ws, 0 ≤ x.1 ∧ x.1 < (N : Int) ∧ x.2.length ≤ 128

theorem pgAt_eq {st : List Page} {j : Nat} {q : Page} (h : st[j]? = some q) : pgAt st j = q := by unfold pgAt; rw [List.getD_eq_getElem?_getD, h]; rfl
theorem pgAt_out {st : List Page} {j : Nat} (h : st.length ≤ j) : pgAt st j = [] := by unfold pgAt; rw [List.getD_eq_getElem?_getD, List.getElem?_eq_none h]; rfl
theorem pgAt_get {st : List Page} {j : Nat} (h : j < st.length) : st[j]? = some (pgAt st j) := by rw [List.getElem?_eq_getElem h]; congr 1; exact (pgAt_eq (List.getElem?_eq_getElem h)).symm

theorem sync_any (d : DK) (hup : d.down = false) :
    (d.sync.2 = 0 ∧ d.sync.1.down = false ∧ d.sync.1.buf = noBuf ∧ (d.fuse = 0 → d.sync.1.fuse = 0) ∧ d.sync.1.st.length = d.st.length ∧ ∀ j, j < d.st.length → pgAt d.sync.1.st j = d.get j) ∨
    (d.sync.2 = 13 ∧ d.sync.1.down = true ∧ d.sync.1.st = d.st ∧ d.fuse ≠ 0 ∧ d.sync.1.buf = d.buf) := by
  have hover : ∀ j, j < d.st.length → pgAt (over d.st d.buf fun _ => true) j = d.get j := fun j hj => by
    rw [pgAt_eq (over_get (S := fun _ => true) (buf := d.buf) (pgAt_get hj)), if_pos rfl]; rfl
  unfold DK.sync
  rw [hup]
  unfold DK.burn
  by_cases h0 : d.fuse = 0
  · left
    simp only [h0, if_true]
    exact ⟨rfl, hup, rfl, fun _ => h0, by simp [DK.flush, over_len], hover⟩
  · by_cases h1 : d.fuse = 1
    · right
      simp [h1]
    · left
      simp only [h0, h1, if_false]
      exact ⟨rfl, by simp [DK.flush], rfl, fun h => h.elim, by simp [DK.flush, over_len], hover⟩

theorem writes_any (ws : List (Int × List UInt8)) : ∀ d : DK, d.down = false → InR d.st.length ws →
    ((d.writes ws).2 = 0 ∧ (d.writes ws).1.down = false ∧ (d.writes ws).1.buf = noBuf ∧ (d.fuse = 0 → (d.writes ws).1.fuse = 0) ∧ (d.writes ws).1.st.length = d.st.length ∧ ∀ j, j < d.st.length → pgAt (d.writes ws).1.st j = laid ws (d.get j) j) ∨
    ((d.writes ws).2 = 13 ∧ (d.writes ws).1.down = true ∧ (d.writes ws).1.st = d.st ∧ d.fuse ≠ 0 ∧ ∀ j p, (d.writes ws).1.buf j = some p → d.buf j = some p ∨ ∃ x ∈ ws, x.1.toNat = j ∧ p = pad x.2) := by
  induction ws with
  | nil =>
    intro d hup _
    rcases sync_any d hup with ⟨h1, h2, h3, h4, h5, h6⟩ | ⟨h1, h2, h3, h4, h5⟩
    · exact .inl ⟨h1, h2, h3, h4, h5, h6⟩
    · exact .inr ⟨h1, h2, h3, h4, fun j p hp => .inl (by rw [← h5]; exact hp)⟩
  | cons x l ih =>
    intro d hup hin
    have hx := hin x (by simp)
    have hc : d.chk x.1 = 0 := by
      unfold DK.chk
      rw [hup, if_neg (by simp), if_neg (by omega)]
    have hw : d.write x.1 x.2 = (((d.put x.1.toNat x.2).burn).1, if ((d.put x.1.toNat x.2).burn).2 then 13 else 0) := by
      unfold DK.write
      rw [if_neg (by rw [hc]; simp), if_neg (by omega)]
    have e : d.writes (x :: l) = thn (d.write x.1 x.2) fun d => d.writes l := rfl
    rw [e, hw]
    by_cases h1 : d.fuse = 1
    · right
      have hb : (d.put x.1.toNat x.2).burn = ({ d.put x.1.toNat x.2 with fuse := 0, down := true }, true) := by simp [DK.burn, DK.put, h1]
      rw [hb]
      refine ⟨rfl, rfl, rfl, by omega, fun j p hp => ?_⟩
      simp only [thn, if_true] at hp
      rw [if_neg (by decide)] at hp
      by_cases ej : j = x.1.toNat
      · right
        refine ⟨x, by simp, ej.symm, ?_⟩
        simpa [DK.put, ej] using hp.symm
      · left
        simpa [DK.put, ej] using hp
    · obtain ⟨d1, hd1, hdn, hst, hbuf, hfu⟩ : ∃ d1, (d.put x.1.toNat x.2).burn = (d1, false) ∧ d1.down = false ∧ d1.st = d.st ∧ d1.buf = (d.put x.1.toNat x.2).buf ∧ (d.fuse = 0 ↔ d1.fuse = 0) := by
        by_cases h0 : d.fuse = 0
        · exact ⟨d.put x.1.toNat x.2, by simp [DK.burn, DK.put, h0], hup, rfl, rfl, Iff.rfl⟩
        · refine ⟨{ d.put x.1.toNat x.2 with fuse := d.fuse - 1, down := false }, by simp [DK.burn, DK.put, h0, h1], rfl, rfl, rfl, ?_⟩
          show d.fuse = 0 ↔ d.fuse - 1 = 0
          omega
      rw [hd1]
      have et : (thn (d1, if (false : Bool) then (13 : Int) else 0) fun d => d.writes l) = d1.writes l := rfl
      rw [et]
      have hget : ∀ j, d1.get j = if x.1.toNat = j then pad x.2 else d.get j := fun j => by
        unfold DK.get
        rw [hbuf, hst]
        by_cases ej : j = x.1.toNat
        · rw [if_pos ej.symm]; simp [DK.put, ej]
        · rw [if_neg fun e => ej e.symm]; simp [DK.put, ej]
      rcases ih d1 hdn (by rw [hst]; exact fun y hy => hin y (by simp [hy])) with ⟨k1, k2, k3, k4, k5, k6⟩ | ⟨k1, k2, k3, k4, k5⟩
      · refine .inl ⟨k1, k2, k3, fun h => k4 (hfu.1 h), by rw [k5, hst], fun j hj => ?_⟩
        rw [k6 j (by rw [hst]; exact hj), hget]
        rfl
      · refine .inr ⟨k1, k2, k3.trans hst, fun h => k4 (hfu.1 h), fun j p hp => ?_⟩
        rcases k5 j p hp with hp | ⟨y, hy, e1, e2⟩
        · by_cases ej : j = x.1.toNat
          · right
            refine ⟨x, by simp, ej.symm, ?_⟩
            rw [hbuf] at hp
            simpa [DK.put, ej] using hp.symm
          · left
            rw [hbuf] at hp
            simpa [DK.put, ej] using hp
        · exact .inr ⟨y, by simp [hy], e1, e2⟩

theorem crash_tears (d : DK) (keep : List Int) : Tears d (d.crash keep).st := by
  refine ⟨by simp [DK.crash, fall_len], fun j => ?_⟩
  by_cases hj : j < d.st.length
  · have := pgAt_eq (fall_get (buf := d.buf) (keep := keep) (S := fun _ => true) (pgAt_get hj))
    rw [show (d.crash keep).st = fall d.st d.buf keep (fun _ => true) from rfl, this]
    cases hb : d.buf j with
    | none => exact .inl rfl
    | some p => exact .inr ⟨p, keepOf keep (rank d.buf j), keepOf_le _ _, rfl, rfl⟩
  · left
    have hl : (d.crash keep).st.length = d.st.length := by simp [DK.crash, fall_len]
    rw [pgAt_out (by omega), pgAt_out (by omega)]

theorem fall_noBuf (st : List Page) (keep : List Int) : fall st noBuf keep (fun _ => true) = st := by
  unfold fall noBuf
  apply List.ext_getElem?
  intro i
  simp

theorem crash_clean {d : DK} (h : d.buf = noBuf) (keep : List Int) : (d.crash keep).st = d.st := by
  show fall d.st d.buf keep _ = d.st
  rw [h]; exact fall_noBuf _ _

theorem restart_up (d : DK) : d.restart.down = false := by unfold DK.restart; split <;> simp_all
theorem restart_fuse (d : DK) : d.restart.fuse = 0 := rfl
theorem restart_of_up {d : DK} (h : d.down = false) : d.restart = { d with fuse := 0 } := by unfold DK.restart; simp [h]
theorem restart_of_down {d : DK} (h : d.down = true) : d.restart = { d.crash [] with down := false, fuse := 0 } := by unfold DK.restart; rw [h]; rfl
theorem restart_buf {d : DK} (h : d.down = true ∨ d.buf = noBuf) : d.restart.buf = noBuf := by
  by_cases e : d.down = true
  · rw [restart_of_down e]; rfl
  · rw [restart_of_up (by simpa using e)]
    exact h.resolve_left e
theorem restart_tears {d : DK} (h : d.down = true) : Tears d d.restart.st := by rw [restart_of_down h]; exact crash_tears d []
theorem crash_restart_st (d : DK) (keep : List Int) : (d.crash keep).restart.st = (d.crash keep).st := by
  rw [restart_of_down rfl]
  exact crash_clean (d := d.crash keep) rfl []

/-- What a call of several steps comes to on a disk that is up and has nothing buffered: it is done; or the disk has fallen. -/
def Run (P F : List Page → Prop) (d : DK) (r : DK × Int) : Prop :=
  (r.2 = 0 ∧ r.1.down = false ∧ r.1.buf = noBuf ∧ (d.fuse = 0 → r.1.fuse = 0) ∧ r.1.st.length = d.st.length ∧ P r.1.st) ∨ (r.2 = 13 ∧ r.1.down = true ∧ d.fuse ≠ 0 ∧ r.1.st.length = d.st.length ∧ ∀ st', Tears r.1 st' → F st')

theorem Run.thn {P P' F : List Page → Prop} {d : DK} {r : DK × Int} {k : DK → DK × Int} (h : Run P F d r) (hk : ∀ d', d'.down = false → d'.buf = noBuf → d'.st.length = d.st.length → P d'.st → Run P' F d' (k d')) : Run P' F d (thn r k) := by
  unfold Go.Proofs.YtngddhoolijimaaGreatDoor.thn
  rcases h with ⟨h1, h2, h3, h4, h4l, h5⟩ | ⟨h1, h2, h3, h4l, h4⟩
  · rw [if_pos h1]
    rcases hk r.1 h2 h3 h4l h5 with ⟨k1, k2, k3, k4, k4l, k5⟩ | ⟨k1, k2, k3, k4l, k4⟩
    · exact .inl ⟨k1, k2, k3, fun h => k4 (h4 h), k4l.trans h4l, k5⟩
    · exact .inr ⟨k1, k2, fun h => k3 (h4 h), k4l.trans h4l, k4⟩
  · rw [if_neg (by rw [h1]; decide)]
    exact .inr ⟨h1, h2, h3, h4l, h4⟩

theorem Run.more {P P' F F' : List Page → Prop} {d : DK} {r : DK × Int} (h : Run P F d r) (hP : ∀ st, st.length = d.st.length → P st → P' st) (hF : ∀ st, F st → F' st) : Run P' F' d r := by
  rcases h with ⟨h1, h2, h3, h4, h4l, h5⟩ | ⟨h1, h2, h3, h4l, h4⟩
  · exact .inl ⟨h1, h2, h3, h4, h4l, hP _ h4l h5⟩
  · exact .inr ⟨h1, h2, h3, h4l, fun st' h => hF _ (h4 st' h)⟩

theorem Run.skip {P F : List Page → Prop} {d : DK} (hup : d.down = false) (hbuf : d.buf = noBuf) (h : P d.st) : Run P F d (d, 0) := .inl ⟨rfl, hup, hbuf, fun h => h, rfl, h⟩

theorem run_writes {P F : List Page → Prop} {d : DK} {ws : List (Int × List UInt8)} (hup : d.down = false) (hbuf : d.buf = noBuf) (hin : InR d.st.length ws)
    (hP : ∀ st', st'.length = d.st.length → (∀ j, j < d.st.length → pgAt st' j = laid ws (pgAt d.st j) j) → P st') (hF : ∀ st', TornBy ws d.st st' → F st') : Run P F d (d.writes ws) := by
  have hget : ∀ j, d.get j = pgAt d.st j := fun j => by unfold DK.get; rw [hbuf]; rfl
  rcases writes_any ws d hup hin with ⟨k1, k2, k3, k4, k5, k6⟩ | ⟨k1, k2, k3, k4, k5⟩
  · exact .inl ⟨k1, k2, k3, k4, k5, hP _ k5 fun j hj => by rw [k6 j hj, hget]⟩
  · refine .inr ⟨k1, k2, k4, by rw [k3], fun st' h => hF _ ⟨by rw [h.1, k3], fun j => ?_⟩⟩
    rcases h.2 j with h | ⟨p, k, hk, hp, h⟩
    · exact .inl (by rw [h, k3])
    · rcases k5 j p hp with hp | ⟨x, hx, e1, rfl⟩
      · rw [hbuf] at hp; cases hp
      · exact .inr ⟨x, hx, e1, k, hk, by rw [h, k3]⟩

theorem run_erase {P F : List Page → Prop} {d : DK} {l : List Int} (hup : d.down = false) (hbuf : d.buf = noBuf) (hin : ∀ i ∈ l, 0 ≤ i ∧ i < (d.st.length : Int))
    (hP : ∀ st', st'.length = d.st.length → (∀ j, j < d.st.length → ((j : Int) ∈ l → pgAt st' j = zpage) ∧ ((j : Int) ∉ l → pgAt st' j = pgAt d.st j)) → P st')
    (hF : ∀ st', st'.length = d.st.length → (∀ j, pgAt st' j = pgAt d.st j ∨ ((j : Int) ∈ l ∧ ∃ k, k ≤ 128 ∧ pgAt st' j = torn k zpage (pgAt d.st j))) → F st') : Run P F d (d.erase l) := by
  refine run_writes hup hbuf (fun x hx => ?_) (fun st' hl h => hP st' hl fun j hj => ⟨fun hm => ?_, fun hm => ?_⟩) (fun st' h => hF st' h.1 fun j => ?_)
  · obtain ⟨i, hi, rfl⟩ := List.mem_map.1 hx
    exact ⟨(hin i hi).1, (hin i hi).2, by simp⟩
  · rw [h j hj]
    refine laid_mem ⟨((j : Int), []), List.mem_map.2 ⟨_, hm, rfl⟩, by simp⟩ fun x hx _ => ?_
    obtain ⟨i, hi, rfl⟩ := List.mem_map.1 hx
    exact pad_nil
  · rw [h j hj]
    refine laid_not fun x hx e => ?_
    obtain ⟨i, hi, rfl⟩ := List.mem_map.1 hx
    have := (hin i hi).1
    refine hm ?_
    have e2 : (j : Int) = i := by simp at e; omega
    rw [e2]; exact hi
  · rcases h.2 j with h | ⟨x, hx, e, k, hk, h⟩
    · exact .inl h
    · obtain ⟨i, hi, rfl⟩ := List.mem_map.1 hx
      have := (hin i hi).1
      have e2 : (j : Int) = i := by simp at e; omega
      exact .inr ⟨by rw [e2]; exact hi, k, hk, h⟩

end Go.Proofs.YtngddhoolijimaaGreatDoor
