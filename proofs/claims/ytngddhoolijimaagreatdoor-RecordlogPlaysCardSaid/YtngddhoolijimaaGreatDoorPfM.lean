/-
  Open; the results of nil.
-/
import Derived.Test.YtngddhoolijimaaGreatDoorPfL
namespace Go.Proofs.YtngddhoolijimaaGreatDoor
open Go.RowKit
set_option linter.unusedVariables false

section
variable {w : World} {B : DB} {d : DK}

/-- What Open leaves. -/
def Opened (w : World) (B : DB) (n : Nat) (R : DK × Int) (e : Ending) (w' : World) : Prop :=
  Turns B w w' R.1 ∧ ((R.2 = 0 ∧ ∃ fb, w.heap.size ≤ fb ∧ e = .returned (.tuple #[pfPtr fb, .int .i64 0]) ∧ IsFile w' fb B ⟨n, false⟩) ∨ (R.2 = 13 ∧ e = .returned (.tuple #[.pointer none, .int .i64 13])))

set_option maxRecDepth 100000 in
set_option maxHeartbeats 1000000 in
theorem pf_Open_down (hd : IsDisk w B d) (hdn : d.down = true) : Calls Tryz.prog 11 #[B.ptr] w fun e w' => e = .returned (.tuple #[.pointer none, .int .i64 13]) ∧ Below w.heap.size w w' := by
  have HP := Lib.hid (dk_pages hd)
  have HD := Lib.hid hd
  have HDN := Lib.hid hdn
  have hfew := hd.ok.few
  have hnn := hd.ok.few
  clear hd hdn hfew
  unfold DB.ptr at *
  go_enter Tryz.func11, Tryz.ntmps11
  go_wp2_with fail
  refine HP.out.mono ?_
  rintro e w1 ⟨rfl, rfl⟩
  go_wp2_with fail
  refine (pf_Capacity _ _).mono ?_
  rintro e w2 ⟨rfl, rfl⟩
  rw [capI_nat]
  go_wp2_with fail
  have hb : Below w2.heap.size w2 (w2.alloc (.cells #[.pointer (some ⟨B.db, 0, none⟩), .int .i64 (capN d.st.length : Int), .bool false] 61)) := (Below.refl _ _).alloc (Nat.le_refl _) _
  have HB := Lib.hid hb
  have hdn := dk_down (HD.out.below hb)
  rw [HDN.out] at hdn
  have HDW := Lib.hid hdn
  clear hb hdn
  refine HDW.out.mono ?_
  rintro e w3 ⟨rfl, rfl⟩
  go_wp2
  go_ret2
  exact ⟨rfl, HB.out⟩

set_option maxRecDepth 100000 in
set_option maxHeartbeats 1000000 in
theorem pf_Open {n : Nat} {Q : List (List UInt8)} (hd : IsDisk w B d) (hup : d.down = false) (hbuf : d.buf = noBuf) (hn : capN d.st.length = n) (h0 : 0 < n) (hr : Rec n Q d.st) :
    Calls Tryz.prog 11 #[B.ptr] w (Opened w B n d.opens) := by
  have HP := Lib.hid (dk_pages hd)
  have HD := Lib.hid hd
  have HUP := Lib.hid hup
  have HBF := Lib.hid hbuf
  have HRC := Lib.hid hr
  have hnn := hd.ok.few
  have hRR := opens_eq hup hn h0
  have hfew := hr.few
  have hB : ∀ b, B.has b → b < w.heap.size := fun b hb => by
    have := hd.lt
    rcases hb with rfl | rfl | rfl <;> omega
  have HB := Lib.hid hB
  have HN := Lib.hid hn
  obtain ⟨C, hC⟩ : ∃ C, C = d.recover n := ⟨_, rfl⟩
  obtain ⟨R, hR⟩ : ∃ R, R = d.opens := ⟨_, rfl⟩
  rw [← hR]
  rw [← hR, ← hC] at hRR
  have HC := Lib.hid hC
  have HR := Lib.hid hRR
  clear hRR hC hR hd hup hbuf hr hn hB
  unfold DB.ptr at *
  go_enter Tryz.func11, Tryz.ntmps11
  go_wp2_with fail
  refine HP.out.mono ?_
  rintro e w1 ⟨rfl, rfl⟩
  go_wp2_with fail
  refine (pf_Capacity _ _).mono ?_
  rintro e w2 ⟨rfl, rfl⟩
  rw [capI_nat, HN.out]
  go_wp2_with fail
  obtain ⟨W0, hW0⟩ : ∃ W0, W0 = w2.alloc (.cells #[.pointer (some ⟨B.db, 0, none⟩), .int .i64 (n : Int), .bool false] 61) := ⟨_, rfl⟩
  have hb : Below w2.heap.size w2 W0 := by rw [hW0]; exact (Below.refl _ _).alloc (Nat.le_refl _) _
  have hfile : IsFile W0 w2.heap.size B ⟨n, false⟩ := by
    refine ⟨fun h => absurd (HB.out _ h) (Nat.lt_irrefl _), ?_, ?_, ?_, fun j => ?_, hfew⟩
    · rw [hW0]; go_simp
    · rw [hW0]; go_simp
    · rw [hW0]; go_simp
    · rw [hW0]; go_simp
  have hdn := dk_down (HD.out.below hb)
  rw [HUP.out] at hdn
  have HDW := Lib.hid hdn
  have HFL := Lib.hid hfile
  have HBB := Lib.hid hb
  have HDK := Lib.hid (HD.out.below hb)
  have c1 := hfile.hn
  have hn0 : decide ((0 : Int) < (n : Int)) = true := decide_eq_true (by omega)
  rw [← hW0]
  clear hW0 hb hdn hfile
  refine HDW.out.mono ?_
  rintro e w3 ⟨rfl, rfl⟩
  go_wp2_with fail
  have hrec := pf_recover HFL.out HDK.out HUP.out HBF.out HRC.out
  rw [show d.recover (PF.n ⟨n, false⟩) = C from HC.out.symm] at hrec
  refine hrec.mono ?_
  rintro e w4 ⟨rfl, hT⟩
  have HT := Lib.hid hT
  have HF4 := Lib.hid (HFL.out.turns hT)
  clear hT c1 hrec
  have hsz := HBB.out.size
  have HSZ := Lib.hid (show Turns B w2 w4 C.1 from ⟨HT.out.1, (Chg.of_below HBB.out).trans HT.out.2⟩)
  clear HRC
  clear hsz
  by_cases hc : C.2 = 0
  · have gc : (C.2 != 0) = false := by simp [hc]
    have HR2 := Lib.hid (show R = C from by rw [HR.out, if_pos hc])
    go_wp2
    go_ret2
    refine ⟨by rw [HR2.out]; exact HSZ.out, .inl ⟨by rw [HR2.out]; exact hc, _, Nat.le_refl _, rfl, HF4.out⟩⟩
  · have gc : (C.2 != 0) = true := by simpa using hc
    have HR2 := Lib.hid (show R = (C.1, 13) from by rw [HR.out, if_neg hc])
    go_wp2
    go_ret2
    refine ⟨by rw [HR2.out]; exact HSZ.out, .inr ⟨by rw [HR2.out], rfl⟩⟩
end
end Go.Proofs.YtngddhoolijimaaGreatDoor
