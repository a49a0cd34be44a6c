/-
  The disk's Sync where it runs through.
-/
import Derived.Test.YtngddhoolijimaaGreatDoorDkE
namespace Go.Proofs.YtngddhoolijimaaGreatDoor
open Go.RowKit Go.Maps
set_option linter.unusedVariables false

abbrev klaw := Maps.int_keyed (P := Tryz.prog) Tryz.underlying3

theorem invK : ∀ key kl, keyOf Tryz.prog kInt key = some kl → ∃ x : Int, key = Value.int .i64 x := fun key kl hk => by obtain ⟨x, hx, _⟩ := Maps.keyOf_i64 Tryz.underlying3 hk; exact ⟨x, hx⟩
theorem invV : ∀ v y, pageR v = some y → ∃ p : Page, v = pv p := fun v y hv => by obtain ⟨p, rfl, _⟩ := pageR_inv hv; exact ⟨p, rfl⟩

/-- The round of the range. -/
def Flush (w1 wr : World) (sb mb r n : Nat) (D : DataW Unit) (st : List Page) (buf : Nat → Option Page) (left : Lit → Bool) (cnt : Nat) : Prop :=
  wr.ranges Tryz.prog kInt pageR mb r n D left cnt ∧ Stable wr sb (over st buf (fun i => !left (.int .i64 (i : Int)))) ∧ Chg (fun b => b = sb) w1 wr

section
variable {w : World} {B : DB} {d : DK}

set_option maxRecDepth 100000 in
set_option maxHeartbeats 4000000 in
theorem dk_sync_ok (h : IsDisk w B d) (hd : d.down = false) (hb : d.burn.2 = false) : Calls Tryz.prog 79 #[B.ptr] w fun e w' => e = .returned (.int .i64 d.sync.2) ∧ Turns B w w' d.sync.1 := by
  have hr : d.sync = (d.burn.1.flush, 0) := by unfold DK.sync; rw [if_neg (by simp [hd]), if_neg (by simp [hb])]
  have c2 := h.hd
  have hk := Lib.hid (dk_burn h)
  rw [hb] at hk
  rw [hd] at c2
  rw [hr]
  clear h hr hd hb
  simp only
  generalize d.burn.1 = d1 at *
  unfold DB.ptr at *
  have hzl : (pc zeroPage).length = 128 := rfl
  have hal := zero_run
  go_enter Tryz.func79, Tryz.ntmps79
  go_wp2_with fail
  refine hk.out.mono ?_
  rintro e w1 ⟨rfl, ht⟩
  clear hk c2
  have HT := Lib.hid ht
  obtain ⟨D, n, hown, hof⟩ := ht.1.mp
  have c1 := ht.1.hm
  obtain ⟨c, c0, hcn⟩ := ht.1.hs
  have hlt := ht.1.lt
  obtain ⟨hl1, hl2, hl3⟩ := hlt
  have hn1 := ht.1.n1
  have hn2 := ht.1.n2
  have hn3 := ht.1.n3
  have hfew := ht.1.ok.few
  have HP := Lib.hid ht.1.ok.pages
  have HIN := Lib.hid ht.1.ok.inside
  have HS := Lib.hid ht.1.pg
  have HF := Lib.hid hof
  clear ht hof
  go_wp2_with (first
    | (at_range; refine wpList_range_own _ rfl _ 40 rfl kInt 68 klaw Tryz.underlying40 _ B.mb n _ rfl hown ?_; intro w0 hrg0 hg0 hs0)
    | go_in)
  go_frame
  have HC0 := Lib.hid (Chg.grown (F := fun b => b = B.sb) hg0 (fun b e => by cases e))
  have HS0 := Lib.hid (HS.out.keep (Chg.grown (F := fun _ => False) hg0 (fun b e => by cases e)) (fun h => h))
  go_loopw [3] (fun _ wr => ∃ left cnt, Flush w1 wr B.sb B.mb w1.heap.size n D d1.st d1.buf left cnt) (fun _ wr => wr.rangeLeft B.mb w1.heap.size)
  case atStart =>
    refine ⟨_, _, hrg0, ?_, HC0.out⟩
    rw [over_nothing (fun i p hp => by rw [HF.out.has, hp]; rfl)]
    exact HS0.out
  case round =>
    obtain ⟨left, cnt, hrg, hst, hch⟩ := hrel
    clear HC0 HS0 hrg0 hg0 hs0
    have HST := Lib.hid hst
    have HCH := Lib.hid hch
    clear hst hch
    go_wp2_with (first
      | (at_next; refine wpList_next_ranges _ rfl _ rfl kInt klaw pageR (Value.int .i64) pv invK invV B.mb w1.heap.size n D left cnt rfl hrg ?_ ?_)
      | go_in)
    · intro hc0 hl0
      have hownr := hrg.owns
      have HN := Lib.hid (over_same (st := d1.st) (buf := d1.buf) (S := fun i => !left (.int .i64 (i : Int))) (S' := fun _ => true) (fun i p _ => by rw [hl0]; rfl))
      have c1r : wr.cell? ⟨B.db, 1, none⟩ = some (.map (some B.mb)) := (HCH.out.cell (a := ⟨B.db, 1, none⟩) hn1 hl1).trans c1
      obtain ⟨w3, hrun, hown3, hg3⟩ := clear_run (ty := 0) Tryz.underlying40 hownr
      have HE := Lib.hid (show Turns B w w3 d1.flush from by
        have h1 := HT.out.1.newPages HCH.out (over_len _ _ _) (by have := HST.out; rw [HN.out] at this; exact this) (HT.out.1.ok.over _)
        have hc3 : Chg (fun b => b = B.mb) wr w3 := Chg.grown hg3 (fun b e => by cases e; rfl)
        refine ⟨h1.newMap hc3 ⟨_, _, hown3, mapOf_empty⟩ HT.out.1.ok.flush, ?_⟩
        exact HT.out.2.trans ((HCH.out.more (fun b _ e => .inr (.inl e))).trans (hc3.more (fun b _ e => .inr (.inr e)))))
      clear hrg hownr c1 c0 hown hown3 hg3 hl0
      go_wp2
      go_ret
      exact ⟨rfl, HE.out⟩
    · intro x p kl yd yp w2 cnt2 hkey hlk hv hat hrg2 hlt hg2 hs2 hen
      obtain ⟨x', ex, rfl, hwx⟩ := Maps.keyOf_i64 Tryz.underlying3 hkey
      obtain rfl : x = x' := encZ_inj ex
      rw [pageR_pv] at hv
      obtain ⟨rfl, rfl⟩ : yd = .lit (.string p) ∧ yp = [] := by injection hv with hv; injection hv with h1 h2; exact ⟨h1.symm, h2.symm⟩
      obtain ⟨i, rfl, hbi⟩ := entry_of HF.out hat
      obtain ⟨hin, hpl⟩ := HIN.out i p hbi
      have hch2 : Chg (fun b => b = B.sb ∨ w1.heap.size ≤ b) w1 w2 := (HCH.out.more (fun b _ e => .inl e)).trans (Chg.grown hg2 (fun b e => .inr (by cases e; exact Nat.le_refl _)))
      have k0 : w2.cell? ⟨B.db, 0, none⟩ = some (.slice (some ⟨B.sb, 0, none⟩) d1.st.length c) := (hch2.cell (a := ⟨B.db, 0, none⟩) (fun e => by rcases e with e | e; exact hn1 e; have : w1.heap.size ≤ B.db := e; omega) hl1).trans c0
      have hl2d : B.db < w2.heap.size := Nat.lt_of_lt_of_le hl1 hch2.size
      have hst2 : Stable w2 B.sb (over d1.st d1.buf (fun i => !left (.int .i64 (i : Int)))) := HST.out.keep (Chg.grown (F := fun b => b = w1.heap.size) hg2 (fun b e => by cases e; rfl)) (by show ¬ B.sb = w1.heap.size; omega)
      have HG2 := Lib.hid hg2
      have HS2 := Lib.hid hs2
      have HC2 := Lib.hid hch2
      have HST2 := Lib.hid hst2
      have HRG2 := Lib.hid hrg2
      have HRGo := Lib.hid hrg.left_eq
      have HLT := Lib.hid hlt
      have hxl : (pc p).length = 128 := by rw [pc_len, hpl]
      have HX1 := Lib.hid (pc_one p)
      have hst := fun W => store_page W 68 (pc zeroPage) (pc p) hzl hxl (pc_one p)
      have HBI := Lib.hid hbi
      have HPL := Lib.hid hpl
      have HIN2 := Lib.hid hin
      have hi0 : (0 : Int) ≤ (i : Int) := by omega
      have hi1 : (i : Int) < (d1.st.length : Int) := by omega
      unfold pv at hen ⊢
      clear hg2 hs2 hst2 hrg2 hrg hlt hlk hat hkey hch2 c0 c1 hbi hpl hwx hown hin
      generalize hX : pc p = X at *
      generalize pc zeroPage = Z at *
      go_wp2_with fail
      refine region_still 7 (by kernel_rfl) (by kernel_rfl) ?_
      intro wD hWD
      simp only [List.take_succ_cons, List.take_zero, List.drop_succ_cons, List.drop_zero]
      have k0' : wD.cell? ⟨B.db, 0, none⟩ = some (.slice (some ⟨B.sb, 0, none⟩) d1.st.length c) := by rw [hWD]; go_simp
      have hWg : w2.grownBy wD none := by rw [hWD]; exact (World.grownBy_alloc w2 _ none).trans (grown_drew _)
      have HRNG := Lib.hid (show wD.rangeAt w2.heap.size 0 X from by rw [hWD]; exact (World.rangeAt_drew _ _ _ _).2 new_page)
      have HWG := Lib.hid hWg
      clear hWD k0 hst hal hWg hen
      refine stillH_want (by kernel_rfl) (fun K hK => ?_); go_simp; refine hK _ ?_; clear hK K
      refine stillH_want (by kernel_rfl) (fun K hK => ?_); go_simp; refine hK _ ?_; clear hK K
      refine stillH_want (by kernel_rfl) (fun K hK => ?_); go_simp; refine hK _ ?_; clear hK K
      refine stillH_want (by kernel_rfl) (fun K hK => ?_); go_simp; refine hK _ ?_; clear hK K
      refine stillH_want (by kernel_rfl) (fun K hK => ?_); go_simp; refine hK _ ?_; clear hK K
      refine stillH_want (by kernel_rfl) (fun K hK => ?_)
      refine still_load_mid 68 _ rfl w2.heap.size 0 rfl X _ HRNG.out Tryz.underlying68 rfl (by rw [hxl]; kernel_rfl) ?_
      refine hK _ ?_; clear hK K
      refine stillH_want (by kernel_rfl) (fun K hK => ?_); go_simp; refine hK _ ?_; clear hK K
      refine stillH_nil ?_
      have hSD : Stable wD B.sb (over d1.st d1.buf (fun i => !left (.int .i64 (i : Int)))) := HST2.out.keep (Chg.grown (F := fun _ => False) HWG.out (fun b e => by cases e)) (fun h => h)
      refine wpList_store_mid rfl 68 _ _ rfl B.sb (i * 128) X.toArray rfl rfl ?_ (by rw [List.size_toArray, hxl]; kernel_rfl) (by subst hX; exact pc_arr p) ?_
      · intro j hj
        have hj' : j < 128 := by simpa [hxl] using hj
        have := hSD.2.2 (i * 128 + j) (by rw [over_len]; have := HIN2.out; omega)
        rwa [Nat.zero_add] at this
      have hgs := grown_setCells wD B.sb (i * 128) X
      have hrg3 := (HRG2.out.kept HWG.out (by simp) (by simp)).kept hgs (fun e => hn3 (Option.some.inj e).symm) (fun e => by have := Option.some.inj e; omega)
      have hst3 : Stable (wD.setCells B.sb (i * 128) X) B.sb (over d1.st d1.buf (fun j => !(left (.int .i64 (j : Int)) && !(Lit.int .i64 (j : Int)).sameKey (.int .i64 (i : Int))))) := by
        have := hSD.put (i := i) (p := p) ((HT.out.1.ok.over _).pages) (by rw [over_len]; exact HIN2.out) HPL.out
        rw [over_step HBI.out, hX] at this
        rw [over_same (S' := fun j => (!left (.int .i64 (j : Int))) || decide (j = i))]
        · exact this
        · intro j q _
          by_cases e : j = i
          · subst e; simp [Lit.sameKey]
          · have e1 : ¬ ((j : Int) = (i : Int)) := by omega
            simp [Lit.sameKey, e]
            exact fun e2 => absurd e2 e1
      have hch3 : Chg (fun b => b = B.sb) w1 (wD.setCells B.sb (i * 128) X) := ((HC2.out.trans (Chg.grown HWG.out (fun b e => by cases e))).trans (Chg.grown hgs (fun b e => by cases e; exact .inl rfl))).more (fun b hb e => by rcases e with e | e; exact e; have : w1.heap.size ≤ b := e; omega)
      have HFL := Lib.hid (show Flush w1 (wD.setCells B.sb (i * 128) X) B.sb B.mb w1.heap.size n D d1.st d1.buf _ cnt2 from ⟨hrg3, hst3, hch3⟩)
      have HME := Lib.hid (show (wD.setCells B.sb (i * 128) X).rangeLeft B.mb w1.heap.size < wr.rangeLeft B.mb w1.heap.size from by rw [hrg3.left_eq, HRGo.out]; exact HLT.out)
      clear hgs hrg3 hst3 hch3 hSD
      change wpList _ _ _ _ _ (wD.setCells B.sb (i * 128) X)
      generalize wD.setCells B.sb (i * 128) X = wF at *
      go_frame
      go_roundw
      case rel => exact ⟨_, _, _, _, _, _, _, _, _, _, _, _, _, _, ⟨_, cnt2, HFL.out⟩, rfl⟩
      case measure => exact HME.out
end

end Go.Proofs.YtngddhoolijimaaGreatDoor
