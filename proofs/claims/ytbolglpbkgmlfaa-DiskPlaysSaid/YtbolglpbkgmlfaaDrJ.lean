/-
  A disk beside its model: same.
-/
import Derived.Test.YtbolglpbkgmlfaaDrI
namespace Go.Proofs.Ytbolglpbkgmlfaa
open Go.RowKit Go.Maps
set_option linter.unusedVariables false

theorem quiet_eq {P : Program} {f : FuncId} {args : Array Value} {w : World} {n : Nat} {v : Value} (h : Calls P f args (w.drewN n) fun e w' => e = .returned v ∧ w' = w.drewN n) : Calls P f args (w.drewN n) fun e w'' => e = .returned v ∧ ∃ m, w'' = w.drewN m :=
  h.mono (by rintro e w' ⟨rfl, rfl⟩; exact ⟨rfl, n, rfl⟩)

/-- The two disks, of one state. -/
structure Pair (w : World) (B : DB) (R : RB) (d : DK) : Prop where
  disk : IsDisk w B d
  ref : IsRef w R d B.has

theorem Pair.keep {w w' : World} {B : DB} {R : RB} {d : DK} (h : Pair w B R d) {F : Nat → Prop} (hc : Chg F w w') (hF : ∀ b, F b → w.heap.size ≤ b) : Pair w' B R d := by
  have hl := h.disk.lt
  refine ⟨h.disk.keep hc (fun b hb hf => ?_), h.ref.keep hc (fun b hb => .inr (hF b hb))⟩
  have := hF b hf
  rcases hb with rfl | rfl | rfl <;> omega

theorem Pair.apart {w : World} {B : DB} {R : RB} {d : DK} (h : Pair w B R d) : ∀ b, B.has b → ¬ R.has d.st.length b := fun b hb hr => (h.ref.good b hr).2 hb

/-- The disk has turned. -/
theorem Pair.disk_ {w w1 : World} {B : DB} {R : RB} {d d' : DK} (h : Pair w B R d) (ht : Turns B w w1 d') : IsDisk w1 B d' ∧ IsRef w1 R d B.has :=
  ⟨ht.1, h.ref.keep ht.2 (fun b hb => .inl hb)⟩

/-- The model has turned too. -/
theorem Pair.both {w1 w2 : World} {B : DB} {R : RB} {d d' : DK} (hd : IsDisk w1 B d') (hr : IsRef w1 R d B.has) (ht : RTurns R B.has w1 w2 d d') : Pair w2 B R d' :=
  ⟨hd.keep ht.2.1 (fun b hb hx => (hr.good b hx).2 hb), ht.1⟩

theorem IsDisk.drewN {w : World} {B : DB} {d : DK} (h : IsDisk w B d) (n : Nat) : IsDisk (w.drewN n) B d := h.keep (F := fun _ => False) ⟨rfl, rfl, rfl, Nat.le_refl _, fun _ _ _ => rfl⟩ (fun _ _ h => h)

def Fresh (w : World) : Nat → Prop := fun b => w.heap.size ≤ b

theorem fresh_below {w w1 w2 : World} (h : Chg (Fresh w) w w1) (hb : Below w1.heap.size w1 w2) : Chg (Fresh w) w w2 := h.trans (Chg.of_below hb)

set_option maxRecDepth 100000 in
set_option maxHeartbeats 8000000 in
theorem same_call {w : World} {B : DB} {R : RB} {d : DK} (h : Pair w B R d) (hn : d.st.length ≤ 40) : Calls Try.prog 19 #[B.ptr, R.ptr] w fun e w' => e = .returned (.bool true) ∧ Chg (Fresh w) w w' := by
  have H := Lib.hid h
  have HN := Lib.hid hn
  have c3 := h.ref.hd
  obtain ⟨sa, sc, c0, hsa⟩ := h.ref.hs
  have hrl := h.ref.rb_lt
  have hDN := Lib.hid (fun n => dk_down (h.disk.drewN n))
  have hPN := Lib.hid (fun n => dk_pages (h.disk.drewN n))
  clear h hsa hn
  unfold DB.ptr RB.ptr at *
  go_enter Try.func19, Try.ntmps19
  cases hdn : d.down with
  | true =>
    rw [hdn] at c3 hDN
    go_wp2_with fail
    go_quiet ((first | (go_at_call 14; exact quiet_eq (hDN.out _)) | (go_at_call 10; exact quiet_eq (hPN.out _))))
    have HQ := Lib.hid (show Chg (Fresh w) w (w.drewN nq) from ⟨rfl, rfl, rfl, Nat.le_refl _, fun _ _ _ => rfl⟩)
    generalize w.drewN nq = wq at HQ ⊢
    clear c3 c0 hDN hPN hrl
    go_wp2
    go_loopg [5] (d.st.length) (fun gk t wr => ∃ i : Nat, i ≤ d.st.length ∧ gk + i = d.st.length ∧ t = .int .i64 (i : Int) ∧ Chg (Fresh w) w wr)
    case atStart => exact ⟨0, by omega, by omega, rfl, HQ.out⟩
    case round =>
      obtain ⟨i, hi, hgk, rfl, hch⟩ := hrel
      have HGK := Lib.hid hgk
      have HCH := Lib.hid hch
      have HP := Lib.hid (H.out.keep hch (fun b h => h))
      obtain ⟨ra, rc, c0, _⟩ := HP.out.ref.hs
      have hrl := HP.out.ref.rb_lt
      have hw40 := HN.out
      clear hgk hch
      by_cases hin : i < d.st.length
      · have hd1 : decide ((i : Int) < (d.st.length : Int)) = true := by simp; omega
        have hd2 : decide ((i : Int) < 40) = true := by simp; omega
        go_wp2_with fail
        refine (dk_read HP.out.disk i (wf_small (by omega))).mono ?_
        rintro e w1 ⟨va, rfl, hr1⟩
        have HR1 := Lib.hid hr1
        have HP1 := Lib.hid (HP.out.keep (F := fun _ => False) (Chg.of_below hr1.2) (fun _ h => h.elim))
        have HC1 := Lib.hid (fresh_below HCH.out hr1.2)
        have HWR := Lib.hid (show w.heap.size ≤ wr.heap.size from HCH.out.size)
        clear hr1 c0 hrl
        generalize hci : d.chk i = ci at *
        have HCI := Lib.hid hci
        clear hci
        go_wp2_with fail
        refine (rf_read HP1.out.ref i).mono ?_
        rintro e w2 ⟨vb, rfl, hr2⟩
        rw [HCI.out]
        have HP2 := Lib.hid (HP1.out.keep (F := fun _ => False) (Chg.of_below hr2.2) (fun _ h => h.elim))
        have HC2 := Lib.hid (fresh_below HC1.out hr2.2)
        have hcA := convert_data ((read_cells HR1.out).keep hr2.2)
        have hcB := convert_data (read_cells hr2)
        have hoA : w2.ownsRow wr.heap.size 5 1 va (d.read i).length (pc (d.read i)) := own_below HR1.out.1 hr2.2
        have hrb2 := HP2.out.ref.rb_lt
        obtain ⟨g, gc, ⟨ga, rfl, hga⟩, hgb⟩ := own_block hoA
        obtain ⟨ba, bc, rfl⟩ := Sl.len (read_cells hr2)
        have HOA := Lib.hid (show ∃ zs : List Int, zs.length = (d.read i).length ∧ w2.ownsRow wr.heap.size 5 1 (.slice ga (d.read i).length gc) (d.read i).length (zs.map (Value.int .u8)) from ⟨(d.read i).map fun b => (b.toNat : Int), by simp, by rw [List.map_map]; exact hoA⟩)
        have HGA := Lib.hid hga
        have HGB := Lib.hid (show 0 < (d.read i).length → wr.heap.size ≤ g from fun hp => (hgb hp).1)
        have hml : (d.read i).length ≤ 128 := by
          unfold DK.read
          split
          · rename_i hc
            have := DK.chk_zero hc
            exact Nat.le_of_eq (DK.get_len H.out.disk.ok this.2.2)
          · simp
        unfold txt at hcA hcB
        clear hr2 hoA hga hgb
        generalize (d.read i).length = m at *
        generalize (⟨(d.read i).toArray⟩ : ByteArray) = S1 at hcA hcB
        go_wp2
        generalize hgk0 : gk = gk0 at *
        generalize hwr0 : wr = wr0 at *
        clear hgk0 hwr0
        go_loopg [65] m (fun gk2 t wr2 => ∃ j : Nat, j ≤ m ∧ gk2 + j = m ∧ t = .int .i64 (j : Int) ∧ Chg (Fresh w) w wr2 ∧ ∃ zs : List Int, zs.length = m ∧ wr2.ownsRow wr0.heap.size 5 1 (.slice ga m gc) m (zs.map (Value.int .u8)))
        case atStart => exact ⟨0, by omega, by omega, rfl, HC2.out, HOA.out⟩
        case round =>
          obtain ⟨j, hj, hgk2, rfl, hch2, zs, hzs, hown⟩ := hrel
          have HGK2 := Lib.hid hgk2
          have HCH2 := Lib.hid hch2
          clear hgk2 hch2 hcA hcB
          by_cases hjm : j < m
          · obtain rfl := HGA.out (by omega)
            have hd3 : decide ((j : Int) < (m : Int)) = true := by simp; omega
            obtain ⟨z, hz⟩ : ∃ z, zs[j]? = some z := ⟨_, List.getElem?_eq_getElem (by omega)⟩
            have hcell : wr.cell? ⟨g, j, none⟩ = some (.int .u8 z) := by
              have := hown.cellAt j (by omega)
              have h2 : (zs.map (Value.int .u8))[j]? = some (.int .u8 z) := by rw [List.getElem?_map, hz]; rfl
              exact (show wr.cell? ⟨g, j, none⟩ = _ from this).trans h2
            have hfz : wr.frozen? ⟨g, j, none⟩ = false := hown.frozenAt j
            have HST := Lib.hid (show ∀ u : Int, ∃ zs : List Int, zs.length = m ∧ (wr.setCell ⟨g, j, none⟩ (.int .u8 u)).ownsRow wr0.heap.size 5 1 (.slice (some ⟨g, 0, none⟩) m gc) m (zs.map (Value.int .u8)) from fun u => ⟨zs.set j u, by simp [hzs], by
              have := (hown.stored j (.int .u8 u)).1
              rw [List.map_set]; exact this⟩)
            have HSC := Lib.hid (show ∀ u : Int, Chg (Fresh w) w (wr.setCell ⟨g, j, none⟩ (.int .u8 u)) from fun u => HCH2.out.trans (Chg.setCell _ _ (by show w.heap.size ≤ g; have := HGB.out (by omega); have := HWR.out; omega)))
            have hj0 : (0 : Int) ≤ (j : Int) := by omega
            have hj1 : (j : Int) < (m : Int) := by omega
            clear hown hz
            go_wp2
            go_roundg (gk - 1)
            case rel => exact ⟨j + 1, by omega, by have := HGK2.out; omega, rfl, HSC.out _, HST.out _⟩
            case measure => have := HGK2.out; omega
          · have hd3 : decide ((j : Int) < (m : Int)) = false := by simp; omega
            clear hown
            go_wp2
            go_roundg (gk0 - 1)
            case rel => exact ⟨i + 1, by omega, by have := HGK.out; omega, rfl, HCH2.out⟩
            case measure => have := HGK.out; omega
      · have hd1 : decide ((i : Int) < (d.st.length : Int)) = false := by simp; omega
        go_wp2
        go_ret
        exact ⟨rfl, HCH.out⟩
  | false =>
    rw [hdn] at c3 hDN
    go_wp2_with fail
    go_quiet ((first | (go_at_call 14; exact quiet_eq (hDN.out _)) | (go_at_call 10; exact quiet_eq (hPN.out _))))
    have HQ := Lib.hid (show Chg (Fresh w) w (w.drewN nq) from ⟨rfl, rfl, rfl, Nat.le_refl _, fun _ _ _ => rfl⟩)
    generalize w.drewN nq = wq at HQ ⊢
    clear c3 c0 hDN hPN hrl
    go_wp2
    go_loopg [5] (d.st.length) (fun gk t wr => ∃ i : Nat, i ≤ d.st.length ∧ gk + i = d.st.length ∧ t = .int .i64 (i : Int) ∧ Chg (Fresh w) w wr)
    case atStart => exact ⟨0, by omega, by omega, rfl, HQ.out⟩
    case round =>
      obtain ⟨i, hi, hgk, rfl, hch⟩ := hrel
      have HGK := Lib.hid hgk
      have HCH := Lib.hid hch
      have HP := Lib.hid (H.out.keep hch (fun b h => h))
      obtain ⟨ra, rc, c0, _⟩ := HP.out.ref.hs
      have hrl := HP.out.ref.rb_lt
      have hw40 := HN.out
      clear hgk hch
      by_cases hin : i < d.st.length
      · have hd1 : decide ((i : Int) < (d.st.length : Int)) = true := by simp; omega
        have hd2 : decide ((i : Int) < 40) = true := by simp; omega
        go_wp2_with fail
        refine (dk_read HP.out.disk i (wf_small (by omega))).mono ?_
        rintro e w1 ⟨va, rfl, hr1⟩
        have HR1 := Lib.hid hr1
        have HP1 := Lib.hid (HP.out.keep (F := fun _ => False) (Chg.of_below hr1.2) (fun _ h => h.elim))
        have HC1 := Lib.hid (fresh_below HCH.out hr1.2)
        have HWR := Lib.hid (show w.heap.size ≤ wr.heap.size from HCH.out.size)
        clear hr1 c0 hrl
        generalize hci : d.chk i = ci at *
        have HCI := Lib.hid hci
        clear hci
        go_wp2_with fail
        refine (rf_read HP1.out.ref i).mono ?_
        rintro e w2 ⟨vb, rfl, hr2⟩
        rw [HCI.out]
        have HP2 := Lib.hid (HP1.out.keep (F := fun _ => False) (Chg.of_below hr2.2) (fun _ h => h.elim))
        have HC2 := Lib.hid (fresh_below HC1.out hr2.2)
        have hcA := convert_data ((read_cells HR1.out).keep hr2.2)
        have hcB := convert_data (read_cells hr2)
        have hoA : w2.ownsRow wr.heap.size 5 1 va (d.read i).length (pc (d.read i)) := own_below HR1.out.1 hr2.2
        have hrb2 := HP2.out.ref.rb_lt
        obtain ⟨g, gc, ⟨ga, rfl, hga⟩, hgb⟩ := own_block hoA
        obtain ⟨ba, bc, rfl⟩ := Sl.len (read_cells hr2)
        have HOA := Lib.hid (show ∃ zs : List Int, zs.length = (d.read i).length ∧ w2.ownsRow wr.heap.size 5 1 (.slice ga (d.read i).length gc) (d.read i).length (zs.map (Value.int .u8)) from ⟨(d.read i).map fun b => (b.toNat : Int), by simp, by rw [List.map_map]; exact hoA⟩)
        have HGA := Lib.hid hga
        have HGB := Lib.hid (show 0 < (d.read i).length → wr.heap.size ≤ g from fun hp => (hgb hp).1)
        have hml : (d.read i).length ≤ 128 := by
          unfold DK.read
          split
          · rename_i hc
            have := DK.chk_zero hc
            exact Nat.le_of_eq (DK.get_len H.out.disk.ok this.2.2)
          · simp
        unfold txt at hcA hcB
        clear hr2 hoA hga hgb
        generalize (d.read i).length = m at *
        generalize (⟨(d.read i).toArray⟩ : ByteArray) = S1 at hcA hcB
        go_wp2
        generalize hgk0 : gk = gk0 at *
        generalize hwr0 : wr = wr0 at *
        clear hgk0 hwr0
        go_loopg [65] m (fun gk2 t wr2 => ∃ j : Nat, j ≤ m ∧ gk2 + j = m ∧ t = .int .i64 (j : Int) ∧ Chg (Fresh w) w wr2 ∧ ∃ zs : List Int, zs.length = m ∧ wr2.ownsRow wr0.heap.size 5 1 (.slice ga m gc) m (zs.map (Value.int .u8)))
        case atStart => exact ⟨0, by omega, by omega, rfl, HC2.out, HOA.out⟩
        case round =>
          obtain ⟨j, hj, hgk2, rfl, hch2, zs, hzs, hown⟩ := hrel
          have HGK2 := Lib.hid hgk2
          have HCH2 := Lib.hid hch2
          clear hgk2 hch2 hcA hcB
          by_cases hjm : j < m
          · obtain rfl := HGA.out (by omega)
            have hd3 : decide ((j : Int) < (m : Int)) = true := by simp; omega
            obtain ⟨z, hz⟩ : ∃ z, zs[j]? = some z := ⟨_, List.getElem?_eq_getElem (by omega)⟩
            have hcell : wr.cell? ⟨g, j, none⟩ = some (.int .u8 z) := by
              have := hown.cellAt j (by omega)
              have h2 : (zs.map (Value.int .u8))[j]? = some (.int .u8 z) := by rw [List.getElem?_map, hz]; rfl
              exact (show wr.cell? ⟨g, j, none⟩ = _ from this).trans h2
            have hfz : wr.frozen? ⟨g, j, none⟩ = false := hown.frozenAt j
            have HST := Lib.hid (show ∀ u : Int, ∃ zs : List Int, zs.length = m ∧ (wr.setCell ⟨g, j, none⟩ (.int .u8 u)).ownsRow wr0.heap.size 5 1 (.slice (some ⟨g, 0, none⟩) m gc) m (zs.map (Value.int .u8)) from fun u => ⟨zs.set j u, by simp [hzs], by
              have := (hown.stored j (.int .u8 u)).1
              rw [List.map_set]; exact this⟩)
            have HSC := Lib.hid (show ∀ u : Int, Chg (Fresh w) w (wr.setCell ⟨g, j, none⟩ (.int .u8 u)) from fun u => HCH2.out.trans (Chg.setCell _ _ (by show w.heap.size ≤ g; have := HGB.out (by omega); have := HWR.out; omega)))
            have hj0 : (0 : Int) ≤ (j : Int) := by omega
            have hj1 : (j : Int) < (m : Int) := by omega
            clear hown hz
            go_wp2
            go_roundg (gk - 1)
            case rel => exact ⟨j + 1, by omega, by have := HGK2.out; omega, rfl, HSC.out _, HST.out _⟩
            case measure => have := HGK2.out; omega
          · have hd3 : decide ((j : Int) < (m : Int)) = false := by simp; omega
            clear hown
            go_wp2
            go_roundg (gk0 - 1)
            case rel => exact ⟨i + 1, by omega, by have := HGK.out; omega, rfl, HCH2.out⟩
            case measure => have := HGK.out; omega
      · have hd1 : decide ((i : Int) < (d.st.length : Int)) = false := by simp; omega
        go_wp2
        go_ret
        exact ⟨rfl, HCH.out⟩

end Go.Proofs.Ytbolglpbkgmlfaa
