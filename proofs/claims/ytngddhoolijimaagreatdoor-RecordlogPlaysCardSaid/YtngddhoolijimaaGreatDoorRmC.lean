/-
  Merged: RlK, RlN, RlL, RlM.
-/
import Derived.Test.YtngddhoolijimaaGreatDoorRmB
import Derived.Test.YtngddhoolijimaaGreatDoorPfO
import Derived.Lib.AppendZeros
import Derived.Lib.SlBytesConst
import Derived.Test.YtngddhoolijimaaGreatDoorArg
namespace Go.Proofs.YtngddhoolijimaaGreatDoor
open Go.RowKit
set_option linter.unusedVariables false
set_option linter.unusedSimpArgs false

set_option maxRecDepth 100000 in
theorem rl_long (v : Value) (l : List UInt8) (w : World) (h : Dat w v l) : Calls Tryz.prog 34 #[v] w fun e w' => e = .returned (.bool (decide (1048576 < l.length))) ∧ w' = w := by
  obtain ⟨a, c, rfl⟩ := h.len
  clear h
  have hd : decide ((1048576 : Int) < (l.length : Int)) = decide (1048576 < l.length) := by
    by_cases h : 1048576 < l.length
    · rw [decide_eq_true h]; simp; omega
    · rw [decide_eq_false h]; simp; omega
  go_enter Tryz.func34, Tryz.ntmps34
  go_wp2
  go_ret
  exact ⟨by rw [← hd]; rfl, rfl⟩

/-- What Append makes of a log. -/
def lgAppend (g : LG) (f : PF) (d : DK) (data : List UInt8) : LG × PF × DK × Int :=
  if g.failed then (g, f, d, 13) else if 1048576 < data.length then (g, f, d, 4) else lgStore g f d (g.recs ++ [data])

section
variable {X : Nat → Prop} {w w' : World} {lb fb : Nat} {B : DB} {g : LG} {f : PF} {d : DK}

theorem LTurns.refl (h : IsLog X w lb fb B g) (hf : IsFile w fb B f) (hd : IsDisk w B d) : LTurns X lb fb B w w g f d := ⟨h, hf, hd, Chg.refl _ _⟩
theorem LTurns.after {w1 : World} {g' : LG} {f' : PF} {d' : DK} (hb : Below w.heap.size w w1) (h : LTurns X lb fb B w1 w' g' f' d') : LTurns X lb fb B w w' g' f' d' := ⟨h.1, h.2.1, h.2.2.1, (Chg.of_below hb).trans h.2.2.2⟩

set_option maxRecDepth 100000 in
set_option maxHeartbeats 8000000 in
theorem rl_Append (hX : ∀ b, X b → b < w.heap.size) (h : IsLog X w lb fb B g) (hf : IsFile w fb B f) (hd : IsDisk w B d) (dv : Value) (data : List UInt8) (hD : Dat w dv data) (hi : g.img.length = 100 * f.n) (hs : ∀ r ∈ g.recs, r.length ≤ 1048576) (hrl : g.recs.length ≤ 800000000) (hdl : data.length ≤ 800000000) :
    Calls Tryz.prog 16 #[lgPtr lb, dv] w fun e w' => e = .returned (.int .i64 (lgAppend g f d data).2.2.2) ∧ LTurns X lb fb B w w' (lgAppend g f d data).1 (lgAppend g f d data).2.1 (lgAppend g f d data).2.2.1 := by
  obtain ⟨da, dc, rfl⟩ := hD.len
  have HCK := Lib.hid (rl_check h)
  have HLN := Lib.hid (rl_long _ data w hD)
  have HDD := Lib.hid hD
  have HXX := Lib.hid hX
  have HLG := Lib.hid (And.intro h (And.intro hf hd))
  have HI := Lib.hid hi
  have HS := Lib.hid hs
  have HL := Lib.hid (And.intro hrl hdl)
  obtain ⟨v1, c1, r1⟩ := h.c1
  obtain ⟨ra, rc, rfl, _, _, _⟩ := rs_get r1
  have HR1 := Lib.hid (rs_shrink (G := fun b => LFree X B fb lb b ∧ b < w.heap.size) (fun b hb hl => ⟨hb, hl⟩) r1)
  obtain ⟨R, hR⟩ : ∃ R, R = lgAppend g f d data := ⟨_, rfl⟩
  rw [← hR]
  have HR := Lib.hid (show R = if g.failed then (g, f, d, 13) else if 1048576 < data.length then (g, f, d, 4) else lgStore g f d (g.recs ++ [data]) from by rw [hR]; rfl)
  clear h hf hd hD hi hs hrl hdl r1 hR hX
  unfold lgPtr at *
  obtain ⟨q, hq⟩ : ∃ q, q = g.failed := ⟨_, rfl⟩
  rw [← hq] at HR HCK
  have HQ := Lib.hid hq
  clear hq
  cases q with
  | true =>
    have HR2 := Lib.hid (show R = (g, f, d, 13) from HR.out)
    go_enter Tryz.func16, Tryz.ntmps16
    go_wp2_with fail
    refine HCK.out.mono ?_
    rintro e w1 ⟨rfl, rfl⟩
    go_wp2
    go_ret
    exact ⟨by rw [HR2.out]; rfl, by rw [HR2.out]; exact LTurns.refl HLG.out.1 HLG.out.2.1 HLG.out.2.2⟩
  | false =>
    have HR2 := Lib.hid (show R = if 1048576 < data.length then (g, f, d, 4) else lgStore g f d (g.recs ++ [data]) from HR.out)
    clear HR
    by_cases hlong : 1048576 < data.length
    · rw [decide_eq_true hlong] at HLN
      have HR3 := Lib.hid (show R = (g, f, d, 4) from by rw [HR2.out, if_pos hlong])
      go_enter Tryz.func16, Tryz.ntmps16
      go_wp2_with fail
      refine HCK.out.mono ?_
      rintro e w1 ⟨rfl, rfl⟩
      go_wp2_with fail
      refine HLN.out.mono ?_
      rintro e w2 ⟨rfl, rfl⟩
      go_wp2
      go_ret
      exact ⟨by rw [HR3.out]; rfl, by rw [HR3.out]; exact LTurns.refl HLG.out.1 HLG.out.2.1 HLG.out.2.2⟩
    · rw [decide_eq_false hlong] at HLN
      have HR3 := Lib.hid (show R = lgStore g f d (g.recs ++ [data]) from by rw [HR2.out, if_neg hlong])
      have HNL := Lib.hid hlong
      clear HR2 hlong
      obtain ⟨i0, hi0, hz0, hz1, hz2⟩ := info_parts bs_info
      go_enter Tryz.func16, Tryz.ntmps16
      go_wp2_with fail
      refine HCK.out.mono ?_
      rintro e w1 ⟨rfl, rfl⟩
      go_wp2_with fail
      refine HLN.out.mono ?_
      rintro e w2 ⟨rfl, rfl⟩
      go_wp2_with fail
      refine (rs_Clone _ g.recs w2 HR1.out (by have := HL.out.1; omega)).mono ?_
      rintro e w3 ⟨v3, xs, rfl, hown, hel, hb3⟩
      have HO := Lib.hid hown
      have HE := Lib.hid hel
      have HB3 := Lib.hid hb3
      clear hown hel hb3
      go_wp2_with fail
      refine (by_Clone _ data w3 (HDD.out.keep HB3.out) (by have := HL.out.2; omega)).mono ?_
      rintro e w4 ⟨v4, rfl, hr4, hb4⟩
      obtain ⟨xa, xc, rfl⟩ := hr4.dat.len
      have H4 := Lib.hid hr4
      have HB4 := Lib.hid (HB3.out.trans (hb4.mono HB3.out.size))
      have HO4 := Lib.hid (own_at HO.out hb4)
      have HBA := Lib.hid (show Below w4.heap.size w4 (w4.alloc (.cells #[.slice xa data.length xc] 51)) from (Below.refl _ _).alloc (Nat.le_refl _) _)
      clear hr4 hb4
      go_wp2_with (at_builtin; refine wpList_append_sl rfl _ _ 28 rfl w2.heap.size 51 i0 _ 1 24 Tryz.underlying28 hi0 hz0 hz1 hz2 rfl (by decide) v3 g.recs.length xs rfl (own_at HO4.out HBA.out) _ 1 [.slice xa data.length xc] rfl (sl_at rfl) (fun n c e => by cases e) (one_val _ rfl) (by unfold maxLen; have := HL.out.1; omega) (by have := HL.out.1; omega) (by have := HB4.out.size; have := HBA.out.size; omega) ?_)
      intro v5 w5 hown5 hg5 hb5
      have HB5 := Lib.hid ((HB4.out.trans (HBA.out.mono HB4.out.size)).trans hb5)
      have HFR := Lib.hid (show ∀ b, w2.heap.size ≤ b → LFree X B fb lb b from fun b hb => by
        have h1 := HLG.out.2.2.lt
        have h2 := HLG.out.2.1.lt
        have h3 := HLG.out.1.lt
        refine ⟨fun e => ?_, by omega, by omega, fun e => by have := HXX.out b e; omega⟩
        rcases e with e | e | e <;> (subst e; omega))
      have HRD := Lib.hid (show rRs.rd w5 (LFree X B fb lb) [v5] (g.recs ++ [data]) from by
        refine refs_rd (base := w2.heap.size) (xs := xs ++ [.slice xa data.length xc]) (by rw [List.length_append]; exact hown5) (fun j p hp => ?_) (fun b hb _ => HFR.out b hb)
        have hxl : xs.length = g.recs.length := by have := HO.out.1; omega
        by_cases hj : j < g.recs.length
        · rw [List.getElem?_append_left hj] at hp
          obtain ⟨u, e, hu⟩ := HE.out j p hp
          exact ⟨u, by rw [List.getElem?_append_left (by omega)]; exact e, rBy.more (fun b hb => hb.1) (rBy.keep (fun b hb _ => HB5.out.block b hb.2) HB5.out.size hu)⟩
        · have hjl := (List.getElem?_eq_some_iff.1 hp).1
          rw [List.length_append, List.length_singleton] at hjl
          obtain rfl : j = g.recs.length := by omega
          rw [List.getElem?_append_right (Nat.le_refl _), Nat.sub_self] at hp
          obtain rfl : data = p := by simpa using hp
          refine ⟨_, by rw [List.getElem?_append_right (by omega), hxl, Nat.sub_self]; rfl, ?_⟩
          exact ((H4.out.keep HBA.out).other hg5 (row_apart (H4.out.keep HBA.out) (own_at HO4.out HBA.out))).rd (fun b hb _ => HFR.out b (by have := HB3.out.size; omega)))
      have HF5 := Lib.hid (HLG.out.2.1.keep (Chg.of_below HB5.out (F := fun _ => False)) (fun h => h))
      have HSS := Lib.hid (show ∀ r ∈ g.recs ++ [data], r.length ≤ 1048576 from fun r hr => by
        rcases List.mem_append.1 hr with hr | hr
        · exact HS.out r hr
        · rw [List.mem_singleton.1 hr]; have := HNL.out; omega)
      clear hown5 hg5 hb5
      go_wp2_with fail
      refine (rl_store (fun b hb => Nat.lt_of_lt_of_le (HXX.out b hb) HB5.out.size) (HLG.out.1.below HB5.out) HF5.out (HLG.out.2.2.below HB5.out) v5 (g.recs ++ [data]) HRD.out HI.out HSS.out).mono ?_
      rintro e w6 ⟨rfl, hT⟩
      have HT := Lib.hid (LTurns.after HB5.out hT)
      rw [← HR3.out] at HT ⊢
      clear hT
      go_wp2
      go_ret
      exact ⟨rfl, HT.out⟩
end

theorem chg_fresh' {G : Nat → Prop} {w w1 w2 : World} (h : Chg G w w1) (k : Chg (fun b => w.heap.size ≤ b) w1 w2) : Chg G w w2 :=
  ⟨k.os.trans h.os, k.tape.trans h.tape, k.output.trans h.output, Nat.le_trans h.size k.size, fun b hb hn => (k.block b (Nat.lt_of_lt_of_le hb h.size) (by omega)).trans (h.block b hb hn)⟩

/-- A log that is being opened. -/
structure Opng (w wr : World) (fb : Nat) (B : DB) (f : PF) (d : DK) (v : Value) (l : List UInt8) : Prop where
  file : IsFile wr fb B f
  disk : IsDisk wr B d
  chg : Chg (fun b => B.has b ∨ b = fb) w wr
  bl : ∀ b, B.has b ∨ b = fb → b < w.heap.size
  c0 : wr.cell? ⟨w.heap.size, 0, none⟩ = some (pfPtr fb)
  c1 : wr.cell? ⟨w.heap.size, 1, none⟩ = some (.slice none 0 0)
  c2 : wr.cell? ⟨w.heap.size, 2, none⟩ = some v
  c3 : wr.cell? ⟨w.heap.size, 3, none⟩ = some (.bool false)
  fr : ∀ j, wr.frozen? ⟨w.heap.size, j, none⟩ = false
  row : Row wr (w.heap.size + 1) v l

section
variable {w wr w' : World} {fb : Nat} {B : DB} {f f' : PF} {d d' : DK} {v : Value} {l : List UInt8}

theorem Opng.lt (h : Opng w wr fb B f d v l) : w.heap.size < wr.heap.size := cell_lt h.c0

theorem Opng.turns (h : Opng w wr fb B f d v l) (ht : PTurns fb B wr w' f' d') : Opng w w' fb B f' d' v l := by
  have no : ∀ b, w.heap.size ≤ b → ¬ (B.has b ∨ b = fb) := fun b hb e => by have := h.bl b e; omega
  have c : ∀ j, w'.cell? ⟨w.heap.size, j, none⟩ = wr.cell? ⟨w.heap.size, j, none⟩ := fun j => ht.2.2.cell (a := ⟨w.heap.size, j, none⟩) (no _ (Nat.le_refl _)) h.lt
  exact ⟨ht.1, ht.2.1, h.chg.trans ht.2.2, h.bl, (c 0).trans h.c0, (c 1).trans h.c1, (c 2).trans h.c2, (c 3).trans h.c3, fun j => (ht.2.2.frozen (a := ⟨w.heap.size, j, none⟩) (no _ (Nat.le_refl _)) h.lt).trans (h.fr j), own_chg h.row ht.2.2 (fun b hb => no b (by have := own_base h.row b hb; omega))⟩

theorem Opng.below (h : Opng w wr fb B f d v l) (hb : Below wr.heap.size wr w') : Opng w w' fb B f d v l := h.turns ⟨h.file.keep (Chg.of_below hb (F := fun _ => False)) (fun h => h), h.disk.below hb, Chg.of_below hb⟩

/-- The image has grown. -/
theorem Opng.grow {v6 : Value} {l6 : List UInt8} (h : Opng w wr fb B f d v l) (hr : Row w' (w.heap.size + 1) v6 l6) (hb : Below (w.heap.size + 1) wr w') : Opng w (w'.setCell ⟨w.heap.size, 2, none⟩ v6) fb B f d v6 l6 := by
  have hc : Chg (fun b => w.heap.size < b) wr w' := ⟨hb.os, hb.tape, hb.output, hb.size, fun b _ hn => hb.block b (by omega)⟩
  have g1 : Chg (fun b => b = w.heap.size) w' (w'.setCell ⟨w.heap.size, 2, none⟩ v6) := Chg.setCell _ _ rfl
  have hc2 : Chg (fun b => w.heap.size ≤ b) wr (w'.setCell ⟨w.heap.size, 2, none⟩ v6) := (hc.more (fun b _ e => Nat.le_of_lt e)).trans (g1.more (fun b _ e => by omega))
  have c : ∀ j, j ≠ 2 → (w'.setCell ⟨w.heap.size, 2, none⟩ v6).cell? ⟨w.heap.size, j, none⟩ = wr.cell? ⟨w.heap.size, j, none⟩ := fun j hj => (lset_ne hj).trans (hb.cell (p := ⟨w.heap.size, j, none⟩) (by show w.heap.size < w.heap.size + 1; omega))
  have c2 : w'.cell? ⟨w.heap.size, 2, none⟩ = some v := (hb.cell (p := ⟨w.heap.size, 2, none⟩) (by show w.heap.size < w.heap.size + 1; omega)).trans h.c2
  have no : ∀ b, (B.has b ∨ b = fb) → ¬ w.heap.size ≤ b := fun b e hb => by have := h.bl b e; omega
  have fz : ∀ j, w'.frozen? ⟨w.heap.size, j, none⟩ = false := fun j => (hb.frozen (p := ⟨w.heap.size, j, none⟩) (by show w.heap.size < w.heap.size + 1; omega)).trans (h.fr j)
  refine ⟨h.file.keep hc2 (no _ (.inr rfl)), h.disk.keep hc2 (fun b hb => no b (.inl hb)), chg_fresh' h.chg hc2, h.bl, (c 0 (by decide)).trans h.c0, (c 1 (by decide)).trans h.c1, World.cell?_setCell_same _ _ _ c2, (c 3 (by decide)).trans h.c3, fun j => by rw [World.frozen?_setCell]; exact fz j, own_chg hr g1 (fun b hb e => by have := own_base hr b hb; omega)⟩
end

set_option maxRecDepth 100000 in
set_option maxHeartbeats 8000000 in
theorem rl_Open {X : Nat → Prop} {w : World} {fb n N : Nat} {B : DB} {d : DK} {P : List (List UInt8)} (hf : IsFile w fb B ⟨n, false⟩) (hd : IsDisk w B d) (hc : Clean n N P d) (hX : ∀ b, X b → b < w.heap.size) :
    Calls Tryz.prog 13 #[pfPtr fb] w fun e w' => e = .returned (.tuple #[lgPtr w.heap.size, .int .i64 0]) ∧ IsLog X w' w.heap.size fb B ⟨(dec P.flatten).1, P.flatten, false⟩ ∧ IsFile w' fb B ⟨n, false⟩ ∧ IsDisk w' B d ∧ Chg (fun b => B.has b ∨ b = fb) w w' := by
  have HFD := Lib.hid (And.intro hf hd)
  have HXX := Lib.hid hX
  have HC := Lib.hid hc
  have hn := hf.few
  have hn0 : 0 ≤ (n : Int) ∧ (n : Int) ≤ 4096 := by show 0 ≤ (n : Int) ∧ (n : Int) ≤ 4096; simp only at hn; omega
  obtain ⟨D, hD⟩ : ∃ D, D = dec P.flatten := ⟨_, rfl⟩
  rw [← hD]
  have HDE := Lib.hid hD
  clear hf hd hc hD hn hX
  unfold pfPtr
  go_enter Tryz.func13, Tryz.ntmps13
  go_wp2_with fail
  obtain ⟨W0, hW0⟩ : ∃ W0, W0 = w.alloc (.cells #[.pointer (some ⟨fb, 0, none⟩), .slice none 0 0, .slice none 0 0, .bool false] 70) := ⟨_, rfl⟩
  have HB0 := Lib.hid (show Below w.heap.size w W0 from by rw [hW0]; exact (Below.refl _ _).alloc (Nat.le_refl _) _)
  have hcs : ∀ j u, ([.pointer (some ⟨fb, 0, none⟩), .slice none 0 0, .slice none 0 0, .bool false] : List Value)[j]? = some u → W0.cell? ⟨w.heap.size, j, none⟩ = some u := fun j u hu => by
    rw [hW0]
    have := new_cells w [.pointer (some ⟨fb, 0, none⟩), .slice none 0 0, .slice none 0 0, .bool false] 70 j u hu
    rw [Addr.add_mid, Nat.zero_add] at this; exact this
  have hfr : ∀ j, W0.frozen? ⟨w.heap.size, j, none⟩ = false := fun j => by rw [hW0]; go_simp
  have HO0 := Lib.hid (show Opng w W0 fb B ⟨n, false⟩ d (.slice none 0 0) [] from
    ⟨HFD.out.1.keep (Chg.of_below HB0.out (F := fun _ => False)) (fun h => h), HFD.out.2.below HB0.out, Chg.of_below HB0.out, fun b hb => by
      have h1 := HFD.out.2.lt
      have h2 := HFD.out.1.lt
      rcases hb with (e | e | e) | e <;> (subst e; omega), hcs 0 _ rfl, hcs 1 _ rfl, hcs 2 _ rfl, hcs 3 _ rfl, hfr, Row.nil _ _⟩)
  rw [← hW0]
  clear hW0 hcs hfr
  refine (pf_cap HO0.out.file).mono ?_
  rintro e w1 ⟨rfl, rfl⟩
  go_wp2
  go_loopg [15] n (fun gk t15 wr => ∃ (i : Nat) (v : Value), i ≤ n ∧ gk + i = n ∧ t15 = .int .i64 (i : Int) ∧ Opng w wr fb B ⟨n, false⟩ d v ((P.take i).flatten))
  case atStart => exact ⟨0, _, by omega, by omega, rfl, by rw [List.take_zero]; exact HO0.out⟩
  case round =>
    obtain ⟨i, v, hin, hgk, rfl, hO⟩ := hrel
    obtain ⟨I, hI⟩ : ∃ I, I = (P.take i).flatten := ⟨_, rfl⟩
    rw [← hI] at hO
    have HI := Lib.hid hI
    clear hI
    have HGK := Lib.hid hgk
    have HO := Lib.hid hO
    obtain ⟨va, vc, rfl⟩ := hO.row.dat.len
    have hi0 : 0 ≤ (i : Int) ∧ (i : Int) ≤ 4096 := by omega
    clear hgk hO
    by_cases hlt : i < n
    · have hd1 : decide ((i : Int) < (n : Int)) = true := by simp; omega
      have hd1' : (i : Int) < (n : Int) := by omega
      have hdn : PF.down ⟨n, false⟩ d = false := by unfold PF.down; rw [HC.out.up]; rfl
      have hperr : pfErr ⟨n, false⟩ d (i : Int) = 0 := by unfold pfErr; rw [hdn]; show (if (i : Int) < 0 ∨ (n : Int) ≤ (i : Int) then (10 : Int) else 0) = 0; rw [if_neg (by omega)]
      have hpay : d.pay (i : Int).toNat = P.getD i [] := by rw [Int.toNat_natCast, HC.out.pay hlt]
      have hNl : (⟨n, false⟩ : PF).n ≤ d.st.length := by rw [HC.out.len]; have := HC.out.pos; show n ≤ N; omega
      have hrdc := pf_Read HO.out.file HO.out.disk (i : Int) (WalkArith.wf_i64 (by omega)) hNl
      rw [hperr, hpay, hdn] at hrdc
      obtain ⟨pg, hpg⟩ : ∃ pg, pg = P.getD i [] := ⟨_, rfl⟩
      rw [← hpg] at hrdc
      have HRC := Lib.hid hrdc
      have HPI := Lib.hid (show P[i]? = some pg ∧ pg.length = 100 from ⟨by rw [hpg, List.getD_eq_getElem?_getD, List.getElem?_eq_getElem (by rw [HC.out.pays.len]; exact hlt)]; rfl, by rw [hpg]; exact HC.out.pays.each i hlt⟩)
      clear hrdc hpay hperr hdn hNl hpg
      unfold pfPtr at HRC
      go_wp2_with fail
      refine HRC.out.mono ?_
      rintro e w2 ⟨pv, rfl, hG, hT⟩
      obtain ⟨gp, rfl, hPA⟩ := hG.1 rfl
      have HO2 := Lib.hid (HO.out.turns hT)
      have HPA := Lib.hid (show Dat w2 (.slice (some ⟨gp, 0, none⟩) 100 100) pg from ⟨hPA.data, fun n c e => by cases e⟩)
      have c2 := HO2.out.c2
      have fz2 := HO2.out.fr 2
      have HFL := Lib.hid (show I.length ≤ 409600 from by rw [HI.out, flat_len (pays_take HC.out.pays (Nat.le_of_lt hlt))]; omega)
      clear hG hT hPA
      go_wp2_with (at_builtin; refine wpList_app rfl _ _ rfl (w.heap.size + 1) _ _ rfl HO2.out.row _ pg rfl HPA.out (by have := HFL.out; have := HPI.out.2; omega) HO2.out.lt ?_)
      intro v6 w6 h6 _ hb6
      obtain ⟨I6, hI6⟩ : ∃ I6, I6 = I ++ pg := ⟨_, rfl⟩
      rw [← hI6] at h6
      obtain ⟨xa6, xc6, rfl⟩ := h6.dat.len
      have HO6 := Lib.hid (HO2.out.grow h6 hb6)
      have HX := Lib.hid (show (P.take (i + 1)).flatten = I6 from by rw [hI6, snoc_take HPI.out.1, List.flatten_append, HI.out]; simp)
      have c2' : w6.cell? ⟨w.heap.size, 2, none⟩ = some (.slice va I.length vc) := (hb6.cell (p := ⟨w.heap.size, 2, none⟩) (by show w.heap.size < w.heap.size + 1; omega)).trans c2
      have fz2' : w6.frozen? ⟨w.heap.size, 2, none⟩ = false := (hb6.frozen (p := ⟨w.heap.size, 2, none⟩) (by show w.heap.size < w.heap.size + 1; omega)).trans fz2
      clear h6 hb6 hI6
      go_wp2
      go_roundg (gk - 1)
      case rel => exact ⟨i + 1, _, by omega, by have := HGK.out; omega, by go_num, by rw [HX.out]; exact HO6.out⟩
      case measure => have := HGK.out; omega
    · have hd1 : decide ((i : Int) < (n : Int)) = false := by simp; omega
      have hd1' : ¬ (i : Int) < (n : Int) := by omega
      obtain rfl : i = n := by omega
      have hro := HO.out.row
      have htk : P.take i = P := List.take_of_length_le (by rw [HC.out.pays.len]; exact Nat.le_refl _)
      have hIP : I = P.flatten := by rw [HI.out, htk]
      have HIL := Lib.hid (show I.length ≤ 100000000 from by rw [hIP, flat_len HC.out.pays]; omega)
      have HIP := Lib.hid hIP
      have c2 := HO.out.c2
      clear htk hIP
      go_wp2_with fail
      refine (rl_Decode _ I wr hro.dat HIL.out).mono ?_
      rintro e w2 ⟨v2, rfl, hr2, hb2⟩
      have hDI : dec I = D := by rw [HDE.out, HIP.out]
      rw [hDI] at hr2
      obtain ⟨xa, xc, rfl⟩ := hr2.len
      have HR2 := Lib.hid hr2
      have HO2 := Lib.hid (HO.out.below hb2)
      have c1 := HO2.out.c1
      have fz1 := HO2.out.fr 1
      have HWL := Lib.hid HO.out.lt
      have HLB := Lib.hid (show IsLog X w2 w.heap.size fb B ⟨[], I, false⟩ from by
        have HFR : ∀ b, w.heap.size + 1 ≤ b → LFree X B fb w.heap.size b := fun b hb => ⟨fun e => by have := HO2.out.bl b (.inl e); omega, fun e => by have := HO2.out.bl b (.inr e); omega, by omega, fun e => by have := HXX.out b e; omega⟩
        exact ⟨fun e => by have := HO2.out.bl _ (.inl e); omega, fun e => by have := HO2.out.bl _ (.inr e); omega, HO2.out.c0, ⟨_, HO2.out.c1, (Recs.nil w2 w2.heap.size).rd (fun b hb hl => by omega)⟩, ⟨_, HO2.out.c2, HO2.out.row.rd (fun b hb _ => HFR b hb)⟩, HO2.out.c3, HO2.out.fr⟩)
      have HFIN := Lib.hid (show IsLog X (w2.setCell ⟨w.heap.size, 1, none⟩ (.slice xa D.1.length xc)) w.heap.size fb B ⟨D.1, P.flatten, false⟩ from by
        have := HLB.out.setRecs (HR2.out.rd (fun b hb _ => show LFree X B fb w.heap.size b from ⟨fun e => by have := HO2.out.bl b (.inl e); have := HWL.out; omega, fun e => by have := HO2.out.bl b (.inr e); have := HWL.out; omega, by have := HWL.out; omega, fun e => by have := HXX.out b e; have := HWL.out; omega⟩))
        rw [← HIP.out]; exact this)
      have HFF := Lib.hid (show IsFile (w2.setCell ⟨w.heap.size, 1, none⟩ (.slice xa D.1.length xc)) fb B ⟨i, false⟩ ∧ IsDisk (w2.setCell ⟨w.heap.size, 1, none⟩ (.slice xa D.1.length xc)) B d ∧ Chg (fun b => B.has b ∨ b = fb) w (w2.setCell ⟨w.heap.size, 1, none⟩ (.slice xa D.1.length xc)) from by
        have g1 : Chg (fun b => b = w.heap.size) w2 (w2.setCell ⟨w.heap.size, 1, none⟩ (.slice xa D.1.length xc)) := Chg.setCell _ _ rfl
        exact ⟨HO2.out.file.keep g1 (fun e => HLB.out.nf e.symm), HO2.out.disk.keep g1 (fun b hb e => HLB.out.nB (e ▸ hb)), chg_fresh' HO2.out.chg (g1.more (fun b _ e => by omega))⟩)
      clear hr2 hb2
      go_wp2
      go_ret2
      exact ⟨rfl, HFIN.out, HFF.out⟩
end Go.Proofs.YtngddhoolijimaaGreatDoor
namespace Go.Proofs.YtngddhoolijimaaGreatDoor
open Go.RowKit
set_option linter.unusedVariables false
set_option linter.unusedSimpArgs false

theorem zero_cells (m : Nat) : (Builtin.zeroCells (Value.int .u8 0).cells m).toList = pc (List.replicate m 0) := by
  unfold Builtin.zeroCells pc
  rw [List.map_replicate]
  apply List.ext_getElem?
  intro j
  by_cases hj : j < m
  · simp [hj, Value.cells, Nat.mod_one]
  · simp [hj, Value.cells]

theorem zero_arr (m : Nat) : Builtin.zeroCells (Value.int .u8 0).cells m = (pc (List.replicate m 0)).toArray := by
  apply Array.ext'
  rw [zero_cells]

theorem run_append_z {w : World} {base : Nat} {v : Value} {l : List UInt8} (tn ty : TypeId) (k kn : IntKind) (htn : Tryz.prog.underlying tn = some (.int kn)) (hown : Row w base v l) (m : Nat) (hlm : l.length + m ≤ 1000000000) (hbase : base ≤ w.heap.size) :
    ∃ v' w', (Builtin.append_ #[51, tn] ty #[v, .int k (m : Int)]).run Tryz.prog w = .ok v' w' ∧ Row w' base v' (l ++ List.replicate m 0) ∧ w.grownBy w' v.ownBlock := by
  obtain ⟨i, hi, hz, hs, hb⟩ := info_parts byte_info2
  have ht := Tryz.underlying51
  have hw : IntKind.i64.wrap (m : Int) = m := by rw [IntKind.wrap_i64]; omega
  have hw0 : IntKind.i64.wrap 0 = 0 := rfl
  have hneg : ¬ ((m : Int) < 0) := by omega
  have hnews : (pc (List.replicate m 0)).length = m := by rw [pc_len, List.length_replicate]
  have hll : (l ++ List.replicate m 0).length = l.length + m := by rw [List.length_append, List.length_replicate]
  have h48i : ¬ (281474976710656 < (m : Int) * (i.bytes : Int)) := by rw [hb]; omega
  have h63' : ¬ (9223372036854775807 < (l.length : Int) + (m : Int)) := by omega
  rcases hown.2 with ⟨rfl, h0⟩ | ⟨g, cap, cur, rfl, hbg, hg, hnc, hcm, hcs, htake⟩
  · have hl0 : l = [] := List.eq_nil_of_length_eq_zero h0
    subst hl0
    by_cases hm : m = 0
    · subst hm
      refine ⟨.slice none 0 0, w, ?_, Row.nil _ _, ⟨rfl, rfl, rfl, Nat.le_refl _, fun _ _ _ => rfl⟩⟩
      simp [Builtin.append_, run_underlying ht, run_underlying htn, sizeOf, typeInfo, hi, asInt, asIntOf, hw0]
    · have hr := Lib.run_append_nil_zeros (P := Tryz.prog) w 51 tn ty 5 i (.int .u8 0) k kn ht htn hi hz m (by omega) (by omega) (by omega) (by rw [hb]; omega)
      have hge := grownCap_ge w m 0 5
      refine ⟨_, _, hr, ?_, ⟨rfl, rfl, rfl, by simp, fun k hk _ => heap_alloc_old w.drew _ hk⟩⟩
      rw [List.nil_append]
      unfold Row
      rw [List.length_replicate]
      refine ⟨by rw [hnews, Nat.mul_one], .inr ⟨w.heap.size, _, _, rfl, hbase, heap_alloc_new w.drew _, hge, grownCap_le_maxLen w m 0 _ (by unfold maxLen; omega), ?_, ?_⟩⟩
      · simp only [Array.size_append, size_zeroCells, Value.cells]
        simp; omega
      · rw [Array.toList_append, zero_cells, Nat.mul_one, List.take_left' hnews]
  · by_cases hroom : l.length + m ≤ cap
    · have hst := run_storeCells_at Tryz.prog g l.length 5 (pc (List.replicate m 0)) 0 cur w hg (by rw [hnews, hcs]; omega) (pc_one _)
      simp only [Nat.add_zero] at hst
      have hr : (Builtin.append_ #[51, tn] ty #[.slice (some ⟨g, 0, none⟩) l.length cap, .int k (m : Int)]).run Tryz.prog w = .ok (.slice (some ⟨g, 0, none⟩) (l.length + m) cap) (w.setRow g (cur.toList.take l.length ++ pc (List.replicate m 0) ++ cur.toList.drop (l.length + (pc (List.replicate m 0)).length)).toArray) := by
        by_cases hm : m = 0
        · subst hm
          simp [Builtin.append_, run_underlying ht, run_underlying htn, sizeOf, typeInfo, zeroValue, hi, hz, hs, asInt, asIntOf, hw0, Addr.add_lit, pc] at hst ⊢
          rw [if_pos (by omega), hst]
          simp
        · simp [Builtin.append_, run_underlying ht, run_underlying htn, sizeOf, typeInfo, zeroValue, hi, hz, hs, asInt, asIntOf, hw, hneg, hm, h48i, hroom, Addr.add_lit, zero_cells, hst]
      refine ⟨_, _, hr, ?_, ⟨rfl, rfl, rfl, by simp, fun k _ hk => setRow_other w g k _ (fun e => hk (by simp [Value.ownBlock, e]))⟩⟩
      unfold Row
      rw [hll, pc_append]
      refine ⟨by rw [List.length_append, pc_len, hnews]; omega, .inr ⟨g, cap, _, rfl, hbg, setRow_heap w g cur _ _ _ hg, hroom, hcm, ?_, ?_⟩⟩
      · simp only [List.size_toArray, List.length_append, List.length_take, List.length_drop, Array.length_toList, hnews, hcs]
        omega
      · rw [Nat.mul_one] at htake ⊢
        rw [htake]
        exact List.take_left' (by rw [List.length_append, pc_len, hnews])
    · have holds : ∀ j u, (pc l)[j]? = some u → w.cell? ((⟨g, 0, none⟩ : Addr).add j) = some u := World.ownsRow.cells (g := g) hown rfl
      have hfo := run_firstCells_some (P := Tryz.prog) w.drew 1 l.length ⟨g, 0, none⟩ l.length cap (pc l) (by rw [pc_len, Nat.mul_one]) (by simpa using holds)
      have hm : m ≠ 0 := by omega
      have hfit := growslice_fits (old := cap) (need := l.length + m) (bytes := 1) (by omega) (by omega)
      have h48' : ¬ (281474976710656 < Builtin.nextslicecap (l.length + m) cap * i.bytes) := by rw [hb]; omega
      have hr : (Builtin.append_ #[51, tn] ty #[.slice (some ⟨g, 0, none⟩) l.length cap, .int k (m : Int)]).run Tryz.prog w = .ok (.slice (some ⟨w.heap.size, 0, none⟩) (l.length + m) (grownCap w (l.length + m) cap 5)) (w.drew.alloc (.cells ((pc l).toArray ++ (pc (List.replicate m 0)).toArray ++ Builtin.zeroCells (Value.int .u8 0).cells (grownCap w (l.length + m) cap 5 - (l.length + m))) 5)) := by
        simp [Builtin.append_, run_underlying ht, run_underlying htn, sizeOf, typeInfo, zeroValue, hi, hz, hs, asInt, asIntOf, hw, hneg, hm, h48i, hroom, h63', h48', Question.forced, hfo, newRow, grownCap, zero_arr]
      have hge := grownCap_ge w (l.length + m) cap 5
      refine ⟨_, _, hr, ?_, ⟨rfl, rfl, rfl, by simp, fun k hk _ => heap_alloc_old w.drew _ hk⟩⟩
      unfold Row
      rw [hll, pc_append]
      refine ⟨by rw [List.length_append, pc_len, hnews]; omega, .inr ⟨w.heap.size, _, _, rfl, hbase, heap_alloc_new w.drew _, hge, grownCap_le_maxLen w _ _ _ (by unfold maxLen; omega), ?_, ?_⟩⟩
      · simp only [Array.size_append, List.size_toArray, size_zeroCells, Value.cells, pc_len, hnews]
        simp; omega
      · simp only [Array.toList_append, List.toList_toArray, Nat.mul_one]
        exact List.take_left' (by rw [List.length_append, pc_len, hnews])

/-- append of zeros, in a plain region. -/
theorem wpList_zeros {ops : Array Oper} {rest : List Oper} {o : Oper} {a : Act} {w : World} {Q : Exit → Act → World → Prop} (hgd : o.guard = none) (s x : Operand) (tn : TypeId)
    (ho : o.op = Op.call { callee := Callee.builtin Builtin.append, args := #[s, x], argTypes := #[51, tn] }) (k kn : IntKind) (htn : Tryz.prog.underlying tn = some (.int kn))
    (base : Nat) (v : Value) (l : List UInt8) (hs : a.eval s = v) (hown : Row w base v l) (m : Nat) (hx : a.eval x = .int k (m : Int)) (hl : l.length + m ≤ 1000000000) (hbase : base ≤ w.heap.size)
    (h : ∀ v' w', Row w' base v' (l ++ List.replicate m 0) → w.grownBy w' v.ownBlock → Below base w w' → wpList Tryz.prog ops Q rest (a.put o.dst v') w') : wpList Tryz.prog ops Q (o :: rest) a w := by
  obtain ⟨v', w', hr, h1, h2⟩ := run_append_z (w := w) tn o.type k kn htn hown m hl hbase
  refine Lib.wpList_append_run w hgd s x 51 tn ho v _ hs hx v' w' hr (h v' w' h1 h2 ?_)
  exact (Below.refl _ _).grown h2 hbase (fun b hb => (hown.ge b hb).1)

end Go.Proofs.YtngddhoolijimaaGreatDoor
namespace Go.Proofs.YtngddhoolijimaaGreatDoor
open Go.RowKit
set_option linter.unusedVariables false
set_option linter.unusedSimpArgs false

theorem zeroP_flat (n : Nat) : (zeroP n).flatten = List.replicate (100 * n) 0 := by
  unfold zeroP
  rw [List.flatten_replicate_replicate, Nat.mul_comm]

theorem lgStore_any {g : LG} {f : PF} {d : DK} {n N : Nat} {P L : List (List UInt8)} (hc : Clean n N P d) (hf : f = ⟨n, false⟩) (hI : g.img = P.flatten) :
    (100 * n < (encs L).length ∧ lgStore g f d L = (g, f, d, 12)) ∨
    ((encs L).length ≤ 100 * n ∧ ∃ d', lgStore g f d L = (⟨L, padTo (100 * n) (encs L), g.failed⟩, f, d', 0) ∧ Clean n N (pgs n (padTo (100 * n) (encs L))) d' ∧ (d.fuse = 0 → d'.fuse = 0)) ∨
    ((encs L).length ≤ 100 * n ∧ ∃ d', lgStore g f d L = ({ g with failed := true }, ⟨n, true⟩, d', 13) ∧ d.fuse ≠ 0 ∧ d'.down = true ∧ Ready N (fun st => Rec n P st ∨ Rec n (pgs n (padTo (100 * n) (encs L))) st) d') := by
  subst hf
  have hil : g.img.length = 100 * n := by rw [hI, flat_len hc.pays]
  by_cases hlen : (encs L).length ≤ 100 * n
  · have hnew : lgNew g L = padTo (100 * n) (encs L) := by unfold lgNew; rw [hil]
    have hnl := padTo_len hlen
    have hw : withW P (lgWrs g n L) = pgs n (padTo (100 * n) (encs L)) := by
      have := diffs_all (a := g.img) hnl
      rw [hI, pays_pgs hc.pays] at this
      unfold lgWrs
      rw [hnew, hI]; exact this
    have hr : Right n (lgWrs g n L) := by unfold lgWrs; rw [hnew]; exact diffs_right hnl
    have hany := pfWrite_any (l := lgWrs g n L) hc (f := ⟨n, false⟩) rfl
    have e0 : lgStore g ⟨n, false⟩ d L = if (pfWrite ⟨n, false⟩ d (lgWrs g n L)).2.2 = 0 then (⟨L, lgNew g L, g.failed⟩, (pfWrite ⟨n, false⟩ d (lgWrs g n L)).1, (pfWrite ⟨n, false⟩ d (lgWrs g n L)).2.1, 0) else ({ g with failed := decide ((pfWrite ⟨n, false⟩ d (lgWrs g n L)).2.2 = 13) }, (pfWrite ⟨n, false⟩ d (lgWrs g n L)).1, (pfWrite ⟨n, false⟩ d (lgWrs g n L)).2.1, (pfWrite ⟨n, false⟩ d (lgWrs g n L)).2.2) := by
      unfold lgStore
      rw [if_neg (by omega)]
    rw [hw] at hany
    obtain ⟨C, hC⟩ : ∃ C, C = pfWrite ⟨n, false⟩ d (lgWrs g n L) := ⟨_, rfl⟩
    rw [← hC] at hany e0
    rcases hany with ⟨h1, _⟩ | ⟨_, h1, h2, h3, h4⟩ | ⟨_, h1, h2, h3, h4, h5⟩
    · exact absurd (wrongs_zero.2 hr) h1
    · right; left
      refine ⟨hlen, C.2.1, ?_, h3, h4⟩
      rw [e0, if_pos h2, h1, hnew]
    · right; right
      refine ⟨hlen, C.2.1, ?_, h3, h4, h5⟩
      rw [e0, if_neg (by rw [h2]; decide), h1, h2]; rfl
  · left
    refine ⟨by omega, ?_⟩
    unfold lgStore
    rw [if_pos (by omega)]

/-- A log, its file and its disk, of a call's own. -/
structure Ld (W w : World) (B : DB) (fb lb : Nat) (g : LG) (f : PF) (d : DK) : Prop where
  log : IsLog (fun _ => False) w lb fb B g
  file : IsFile w fb B f
  disk : IsDisk w B d
  bel : Below W.heap.size W w
  ge : ∀ b, LT B fb lb b → W.heap.size ≤ b

section
variable {W w w' : World} {B : DB} {fb lb : Nat} {g g' : LG} {f f' : PF} {d d' : DK}
theorem Ld.turns (h : Ld W w B fb lb g f d) (ht : LTurns (fun _ => False) lb fb B w w' g' f' d') : Ld W w' B fb lb g' f' d' :=
  ⟨ht.1, ht.2.1, ht.2.2.1, h.bel.trans (ht.2.2.2.below h.bel.size h.ge), h.ge⟩
theorem Ld.below (h : Ld W w B fb lb g f d) (hb : Below w.heap.size w w') : Ld W w' B fb lb g f d :=
  ⟨h.log.below hb, h.file.keep (Chg.of_below hb (F := fun _ => False)) (fun h => h), h.disk.below hb, h.bel.trans (hb.mono h.bel.size), h.ge⟩
theorem Ld.lt (h : Ld W w B fb lb g f d) : ∀ b, LT B fb lb b → b < w.heap.size := fun b hb => by
  have h1 := h.disk.lt
  have h2 := h.file.lt
  have h3 := h.log.lt
  rcases hb with (e | e | e) | e | e <;> (subst e; omega)
end

/-- Open, on a file of one's own. -/
theorem ld_open {W w : World} {fb n N : Nat} {B : DB} {d : DK} {P : List (List UInt8)} (h : Fd W w B fb ⟨n, false⟩ d) (hc : Clean n N P d) :
    Calls Tryz.prog 13 #[pfPtr fb] w fun e w' => e = .returned (.tuple #[lgPtr w.heap.size, .int .i64 0]) ∧ Ld W w' B fb w.heap.size ⟨(dec P.flatten).1, P.flatten, false⟩ ⟨n, false⟩ d ∧ Chg (fun b => B.has b ∨ b = fb) w w' :=
  (rl_Open (X := fun _ => False) h.file h.disk hc (fun _ h => h.elim)).mono fun e w' ⟨he, h1, h2, h3, h4⟩ => ⟨he, ⟨h1, h2, h3, (h.turns ⟨h2, h3, h4⟩).bel, fun b hb => by
    rcases hb with hb | hb | hb
    · exact h.bge b hb
    · rw [hb]; exact h.fge
    · rw [hb]; exact h.bel.size⟩, h4⟩

theorem cells9 : #[Value.int .u8 49, .int .u8 50, .int .u8 51, .int .u8 52, .int .u8 53, .int .u8 54, .int .u8 55, .int .u8 56, .int .u8 57] = (pc [49, 50, 51, 52, 53, 54, 55, 56, 57]).toArray := by kernel_rfl
theorem cells3 : #[Value.int .u8 97, .int .u8 98, .int .u8 99] = (pc [97, 98, 99]).toArray := by kernel_rfl

/-- The bytes of a constant. -/
theorem dat_mark (w : World) (l : List UInt8) (n : Nat) (fr : Nat × Nat) (hn : n = l.length) : Dat (w.alloc (.cells (pc l).toArray 5 fr)) (.slice (some ⟨w.heap.size, 0, none⟩) n n) l := by
  subst hn
  refine ⟨⟨by rw [pc_len, Nat.mul_one], .inr ⟨w.heap.size, 0, l.length, rfl, Nat.le_refl _, by simp, fun j u hu => ?_⟩⟩, fun n c e => by cases e⟩
  rw [Nat.zero_add]
  exact (World.cell?_alloc_mark w (pc l).toArray 5 fr j).trans (by simpa using hu)

theorem rd_nil1 (w : World) (T : TypeId) : rRs.rd (w.alloc (.cells #[.slice none 0 0] T)) (fun b => w.heap.size ≤ b) [.slice (some ⟨w.heap.size, 0, none⟩) 1 1] [[]] := by
  refine ⟨⟨_, 1, 1, rfl, rfl, Nat.le_refl _, by unfold maxLen; omega, .inr ⟨w.heap.size, 0, rfl, Nat.le_refl _, by simp, fun i x hx => ?_⟩⟩, fun n c e => by simp at e⟩
  match i, hx with
  | 0, hx =>
    obtain rfl : ([] : List UInt8) = x := by simpa using hx
    refine ⟨[.slice none 0 0], fun j u hu => ?_, ⟨none, 0, 0, rfl, rfl, Nat.le_refl _, Nat.zero_le _, .inl rfl⟩, fun n c e => by simp at e; exact e.2.symm⟩
    have := new_cells w [.slice none 0 0] T j u hu
    rw [Addr.add_mid] at this
    simpa using this

set_option maxRecDepth 100000 in
set_option maxHeartbeats 4000000 in
theorem awake37_any (w : World) : Calls Tryz.prog 8 #[] w fun e w' => e = .returned (.bool true) ∧ Below w.heap.size w w' := by
  have hcl := new_clean (N := 20) (by omega)
  have hc10 : capN 20 = 5 := rfl
  rw [hc10] at hcl
  have HCL := Lib.hid hcl
  clear hcl hc10
  have kc := fun (w : World) (C : Array Value) (n c : Nat) => Lib.run_convert_bytes_const (P := Tryz.prog) w 51 5 C n c Tryz.underlying51 Tryz.underlying5
  go_enter Tryz.func8, Tryz.ntmps8
  go_wp2_with fail
  refine (dk_new (20 : Int) 20 (by rfl) _).mono ?_
  rintro e w1 ⟨B, rfl, hM⟩
  have HM := Lib.hid hM
  have hBge : ∀ b, B.has b → w.heap.size ≤ b := fun b hb => by
    have := hM.2.2
    rcases hb with rfl | rfl | rfl <;> omega
  have HBG := Lib.hid hBge
  clear hM hBge
  unfold DB.ptr
  go_wp2_with fail
  refine (fd_open (W := w) HM.out.1 HCL.out.up HCL.out.buf HCL.out.len HCL.out.cap (by omega) HCL.out.recs HM.out.2.1 HBG.out).mono ?_
  rintro e w2 (⟨fb, d2, rfl, hfb, hfd, hc2, hfu, hch⟩ | ⟨d2, rfl, hfu, _⟩)
  · have HFD := Lib.hid hfd
    have HC2 := Lib.hid hc2
    have HFU := Lib.hid (hfu rfl)
    clear hfd hc2 hfu hch hfb
    unfold pfPtr
    go_wp2_with fail
    have ho := ld_open HFD.out HC2.out
    rw [zeroP_flat, dec_zero] at ho
    refine ho.mono ?_
    rintro e w3 ⟨rfl, hLD, _⟩
    have HLD := Lib.hid hLD
    obtain ⟨lb, hlb⟩ : ∃ lb, lb = w2.heap.size := ⟨_, rfl⟩
    rw [← hlb] at HLD ⊢
    clear ho hLD hlb
    unfold lgPtr
    go_wp2_with fail
    rw [cells3]
    have HR3 := Lib.hid (dat_mark w3 [97, 98, 99] 3 (3, 4) rfl)
    have HLD3 := Lib.hid (HLD.out.below (w' := w3.alloc (.cells (pc [97, 98, 99]).toArray 5 (3, 4))) ((Below.refl _ _).alloc (Nat.le_refl _) _))
    have hap := rl_Append (fun _ h => h.elim) HLD3.out.log HLD3.out.file HLD3.out.disk (.slice (some ⟨w3.heap.size, 0, none⟩) 3 3) [97, 98, 99] HR3.out (by rw [List.length_replicate]) (fun r hr => by cases hr) (by decide) (by decide)
    have hst := lgStore_any (g := ⟨[], List.replicate (100 * 5) 0, false⟩) (L := [[97, 98, 99]]) HC2.out (f := ⟨5, false⟩) rfl (zeroP_flat 5).symm
    have hlen : (encs [[97, 98, 99]]).length = 11 := rfl
    have hla : lgAppend ⟨[], List.replicate (100 * 5) 0, false⟩ ⟨5, false⟩ d2 [97, 98, 99] = lgStore ⟨[], List.replicate (100 * 5) 0, false⟩ ⟨5, false⟩ d2 [[97, 98, 99]] := by
      unfold lgAppend
      rw [if_neg (by simp), if_neg (by decide)]; rfl
    rw [hlen] at hst
    rcases hst with ⟨h1, _⟩ | ⟨_, d', h1, h2, h3⟩ | ⟨_, _, _, h3, _⟩
    · omega
    · rw [hla, h1] at hap
      refine hap.mono ?_
      rintro e w4 ⟨rfl, hT⟩
      have HLD4 := Lib.hid (HLD3.out.turns hT)
      clear hap hla hlen h1 h2 h3 hT
      go_wp2_with fail
      refine (rl_Len HLD4.out.log).mono ?_
      rintro e w5 ⟨rfl, rfl⟩
      go_wp2_with fail
      refine (rl_Read HLD4.out.log 0 [97, 98, 99] rfl (by decide)).mono ?_
      rintro e w6 ⟨v6, rfl, hr6, hb6⟩
      have HLD6 := Lib.hid (HLD4.out.below hb6)
      have hcv0 := convert_data hr6.dat.1
      obtain ⟨xa, xc, rfl⟩ := hr6.dat.len
      have hcv : (convert 51 9 (.slice xa 3 xc)).run Tryz.prog w6 = .ok (.string ⟨#[97, 98, 99]⟩) w6 := hcv0
      clear hr6 hb6 hcv0
      go_wp2_with fail
      rw [cells9]
      obtain ⟨w7, hw7⟩ : ∃ w7, w7 = w6.alloc (.cells (pc [49, 50, 51, 52, 53, 54, 55, 56, 57]).toArray 5 (9, 10)) := ⟨_, rfl⟩
      have HR9 := Lib.hid (show Dat w7 (.slice (some ⟨w6.heap.size, 0, none⟩) 9 9) [49, 50, 51, 52, 53, 54, 55, 56, 57] from by rw [hw7]; exact dat_mark w6 [49, 50, 51, 52, 53, 54, 55, 56, 57] 9 (9, 10) rfl)
      have HLD7 := Lib.hid (show Ld w w7 B fb lb _ _ _ from by rw [hw7]; exact HLD6.out.below ((Below.refl _ _).alloc (Nat.le_refl _) _))
      rw [← hw7]
      clear hw7
      have hck := rl_Checksum _ _ _ HR9.out.1 (by decide)
      rw [sum_check] at hck
      refine hck.mono ?_
      rintro e w7 ⟨rfl, rfl⟩
      clear hck hcv
      go_wp2_with fail
      have HN := Lib.hid (rd_nil1 w7 51)
      have HLD8 := Lib.hid (HLD7.out.below (w' := w7.alloc (.cells #[.slice none 0 0] 51)) ((Below.refl _ _).alloc (Nat.le_refl _) _))
      refine (rl_Encode _ [[]] _ HN.out ⟨fun r hr => by rw [List.mem_singleton.1 hr]; simp, by decide⟩).mono ?_
      rintro e w8 ⟨v8, rfl, hr8, hb8⟩
      have HFIN := Lib.hid (HLD8.out.below hb8).bel
      obtain ⟨ya, yc, rfl⟩ := hr8.dat.len
      rw [show (encs [[]]).length = 8 from rfl]
      clear hr8 hb8
      go_wp2
      go_ret
      exact ⟨rfl, HFIN.out⟩
    · exact absurd HFU.out h3
  · exact absurd rfl hfu
end Go.Proofs.YtngddhoolijimaaGreatDoor
namespace Go.Proofs.YtngddhoolijimaaGreatDoor
open Go.RowKit
set_option linter.unusedVariables false
set_option linter.unusedSimpArgs false

/-- A slice argument has a reading, whatever the reading says of it. -/
theorem open_argz {α : Type} {P : Program} {H : Type} {enc : TypeId × Value → H} {w : World} {base b0 : Nat} {r : Reach} {spare : Nat → Bool} {held : Bool} {t e : TypeId} {v : Value} {d : DataW H} {ps : List MemPlace} {R : Rd α}
    (ht : P.underlying t = some (.slice e)) (hval : Value.okWide P w r b0 t v) (hd : DataW.Trod enc P w base spare held t v d ps) (ho : Opens P t R) : ∃ l, R.rd w (· < w.heap.size) [v] l := by
  obtain ⟨a, n, c, rfl⟩ := Go.WideShapes.okWide_slice ht hval
  obtain ⟨fuel, hf⟩ := hd
  exact ho.open_ hf

theorem opensBy : Opens Tryz.prog 51 rBy := opens_sliceZ Tryz.underlying51 (by kernel_rfl) (by decide) (opens_byte Tryz.underlying5 (by kernel_rfl))
theorem opensRs : Opens Tryz.prog 28 rRs := opens_sliceZ Tryz.underlying28 (by kernel_rfl) (by decide) opensBy