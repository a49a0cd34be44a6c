/-
  SplitPeriod of the reference; the walk of the law on Split.
-/
import Derived.Test.YtgimfajanmmkfaaSplit
import Derived.Deep.LoopGhost
import Derived.Deep.DeepMust
namespace Go.Proofs.Ytgimfajanmmkfaa
open Go.RowKit

theorem gp_frozen (w : World) (k s a t : Int) (t1 t2 : TypeId) : ((w.alloc (.cells #[.int .i64 k, .int .i64 s] t1)).alloc (.cells #[.int .i64 a, .int .i64 t] t2)).frozen? ⟨w.heap.size + 1, 0, none⟩ = false := by go_simp

theorem own_setCell {w : World} {base : Nat} {e : TypeId} {size : Nat} {v : Value} {n : Nat} {xs : List Value} (h : w.ownsRow base e size v n xs) {p : Addr} (hp : p.block < base) (u : Value) : (w.setCell p u).ownsRow base e size v n xs := ownsRow_setCell_below h hp u

theorem Gp.setFrom {w w1 : World} {k s a t : Int} (h : Gp w w1 k s a t) (x : Int) : Gp w (w1.setCell ⟨w.heap.size + 1, 0, none⟩ (.int .i64 x)) k s x t := by
  have hz := h.sz
  refine ⟨?_, ?_, ?_, ?_, ?_, ?_⟩
  · rw [World.cell?_setCell_other _ _ _ _ (by simp)]; exact h.c0
  · rw [World.cell?_setCell_other _ _ _ _ (by simp)]; exact h.c1
  · exact World.cell?_setCell_same _ _ _ h.c2
  · rw [World.cell?_setCell_other _ _ _ _ (by simp)]; exact h.c3
  · simpa [World.setCell] using hz
  · exact h.bl.setCell (by simp) _

set_option maxRecDepth 100000 in
set_option maxHeartbeats 2000000 in
theorem ref_SplitPeriod_no (k s a t : Int) (w : World) (h : ¬ (Gr.vg k s = true ∧ 0 ≤ a ∧ a < t ∧ t ≤ 1000000)) :
    Calls Try.prog 23 #[.agg #[.int .i64 k, .int .i64 s], .agg #[.int .i64 a, .int .i64 t]] w (Splits [] w) := by
  have HG := Lib.hid (gp_at w k s a t 23 30)
  cases hv : Gr.vg k s with
  | false =>
    clear h
    go_enter Try.func23, Try.ntmps23
    go_wp2_with (go_at_call 15; refine (ref_ValidGranularity _ _ _).mono ?_; rintro e w1 ⟨rfl, hb⟩; obtain ⟨c0, c1, c2, c3, sz, bl⟩ := HG.out.keep_ hb)
    go_ret
    exact splits_nil _ _ bl
  | true =>
    have hvd : vdB a t = false := by
      cases hx : vdB a t with
      | false => rfl
      | true => exact absurd ⟨hv, (vdB_iff a t).1 hx⟩ h
    clear h
    go_enter Try.func23, Try.ntmps23
    go_wp2_with (first | (go_at_call 15; refine (ref_ValidGranularity _ _ _).mono ?_; rintro e w1 ⟨rfl, hb⟩; obtain ⟨c0, c1, c2, c3, sz, bl⟩ := HG.out.keep_ hb) | (go_at_call 31; refine (ref_ValidDays _ _ _).mono ?_; rintro e w2 ⟨rfl, hb2⟩; obtain ⟨d0, d1, d2, d3, sz2, bl2⟩ := (Gp.mk c0 c1 c2 c3 sz bl).keep_ hb2))
    go_ret
    exact splits_nil _ _ bl2

set_option maxRecDepth 100000 in
set_option maxHeartbeats 4000000 in
theorem ref_SplitPeriod (k s a t : Int) (w : World) (hv : Gr.vg k s = true) (h0 : 0 ≤ a) (h1 : a < t) (h2 : t ≤ 1000000) :
    Calls Try.prog 23 #[.agg #[.int .i64 k, .int .i64 s], .agg #[.int .i64 a, .int .i64 t]] w (Splits (pieces k s a t) w) := by
  have HV := Lib.hid hv
  have hvd : vdB a t = true := (vdB_iff a t).2 ⟨h0, h1, h2⟩
  obtain ⟨pi, hpi, hpz, hps, hpb⟩ := info_parts period_info
  have HG := Lib.hid (gp_at w k s a t 23 30)
  have HZ := Lib.hid (gp_frozen w k s a t 23 30)
  go_enter Try.func23, Try.ntmps23
  go_wp2_with (first | (go_at_call 15; refine (ref_ValidGranularity _ _ _).mono ?_; rintro e w1 ⟨rfl, hb⟩; obtain ⟨c0, c1, c2, c3, sz, bl⟩ := HG.out.keep_ hb) | (go_at_call 31; refine (ref_ValidDays _ _ _).mono ?_; rintro e w2 ⟨rfl, hb2⟩; obtain ⟨d0, d1, d2, d3, sz2, bl2⟩ := (Gp.mk c0 c1 c2 c3 sz bl).keep_ hb2))
  have HF := Lib.hid (show w2.frozen? ⟨w.heap.size + 1, 0, none⟩ = false from (hb2.frozen (p := ⟨w.heap.size + 1, 0, none⟩) (by simp; omega)).trans ((hb.frozen (p := ⟨w.heap.size + 1, 0, none⟩) (by simp)).trans HZ.out))
  clear hv hb hb2 HG HZ c0 c1 c2 c3 sz bl hvd
  go_loopg [5] (t - a).toNat (fun kx v wr => ∃ (d : Int) (done : List (Int × Int)), a ≤ d ∧ d ≤ t ∧ (t - d).toNat ≤ kx ∧ wr.ownsRow (w.heap.size + 2) 30 2 v done.length (flat done) ∧ Gp w wr k s d t ∧ wr.frozen? ⟨w.heap.size + 1, 0, none⟩ = false ∧ Hid (done ++ pieces k s d t = pieces k s a t) ∧ (done.length : Int) ≤ d - a)
  case atStart => exact ⟨a, [], by omega, by omega, by omega, World.ownsRow_nil _ _ _ _, ⟨d0, d1, d2, d3, sz2, bl2⟩, HF.out, Lib.hid (by simp), by simp⟩
  case round =>
    clear d0 d1 d2 d3 sz2 bl2 HF w1 w2
    obtain ⟨d, done, hd1, hd2, hm, hown, hgp, hfz, HP, hlen⟩ := hrel
    obtain ⟨d0, d1, d2, d3, sz', bl'⟩ := hgp
    by_cases hlt : d < t
    · have hnb := nx_bd (d := d) HV.out (by omega) (by omega)
      obtain ⟨n0, n1⟩ := hnb
      have HS := Lib.hid (pieces_step (a := d) HV.out (by omega) h2 hlt)
      have io1 : ioB k s d = true := by unfold ioB; rw [HV.out, (Cal.isDay_iff d).2 ⟨by omega, by omega⟩]; rfl
      obtain ⟨i, hi⟩ : ∃ i, ioN k s d = i := ⟨_, rfl⟩
      have hi' : i = Gr.idx k s d := by rw [← hi]; unfold ioN; rw [if_pos io1]
      have hsp : spB k s i = true := (spB_iff k s i).2 ⟨HV.out, by rw [hi']; exact (Gr.idx_bd HV.out (by omega) (by omega)).1, by rw [hi']; exact (Gr.idx_mono HV.out (by omega) (show d ≤ 999999 by omega) (by omega)).1⟩
      have hst : spT k s i = nx k s d := by rw [(sp_yes hsp).2, hi']; rfl
      clear hi'
      have HGp := Lib.hid (Gp.mk d0 d1 d2 d3 sz' bl')
      have HO := Lib.hid hown
      have HFz := Lib.hid hfz
      clear hown hfz
      go_wp2_with fail
      refine (ref_IndexOf k s d _).mono ?_
      rintro e w3 ⟨rfl, hb3⟩
      have HGp3 := Lib.hid (HGp.out.keep_ hb3)
      obtain ⟨e0, e1, e2, e3, sz3, bl3⟩ := HGp3.out
      go_wp2_with fail
      refine (ref_Span k s i _).mono ?_
      rintro e w4 ⟨rfl, hb4⟩
      have HGp4 := Lib.hid (HGp3.out.keep_ hb4)
      obtain ⟨f0, f1, f2, f3, sz4, bl4⟩ := HGp4.out
      have hO4 := own_below (own_below HO.out hb3) hb4
      have HF4 := Lib.hid (show w4.frozen? ⟨w.heap.size + 1, 0, none⟩ = false from (hb4.frozen (p := ⟨w.heap.size + 1, 0, none⟩) (by simp; omega)).trans ((hb3.frozen (p := ⟨w.heap.size + 1, 0, none⟩) (by simp; omega)).trans HFz.out))
      clear hb3 hb4 e0 e1 e2 e3 sz3 bl3 d0 d1 d2 d3
      have hl4 : w.heap.size + 1 < w4.heap.size := by omega
      by_cases hmn : t < nx k s d
      · have HX := Lib.hid (show min (nx k s d) t = t by omega)
        have hx0 : d < t := by omega
        have hx1 : t ≤ t := by omega
        go_wp2_with (at_builtin; refine wpList_append_own _ rfl _ _ 42 rfl (w.heap.size + 2) 30 pi _ 2 16 Try.underlying42 hpi hpz hps hpb rfl (by decide) _ _ _ rfl ((hO4.alloc _).alloc _) ⟨w4.heap.size + 1, 0, none⟩ 1 1 [.int .i64 d, .int .i64 (t)] rfl rfl ?a1 ?a2 ?a3 ?a4 ?a5 ?_)
        case a1 =>
          have := new_cells (w4.alloc (.cells #[.int .i64 (spF k s i), .int .i64 (nx k s d)] 30)) [.int .i64 d, .int .i64 (t)] 30
          simpa using this
        case a2 => intro u hu; simp at hu; rcases hu with rfl | rfl <;> rfl
        case a3 => unfold maxLen; omega
        case a4 => omega
        case a5 => have := HGp4.out.sz; simp; omega
        intro v' w10 hown10 hgrow _
        have hlt9 := hO4.lt
        have hB10 : Below (w.heap.size + 2) w4 w10 := (((Below.refl _ w4).alloc HGp4.out.sz _).alloc (by have := HGp4.out.sz; simp; omega) _).grown hgrow (by have := HGp4.out.sz; simp; omega) (fun g hg => (hlt9 g hg).1)
        have hgp10 := Lib.hid (HGp4.out.keep hB10)
        have hF10 := Lib.hid ((hB10.frozen (p := ⟨w.heap.size + 1, 0, none⟩) (by simp)).trans HF4.out)
        have hOw := Lib.hid hown10
        have hB10' := Lib.hid hB10
        clear hown10 hgrow hlt9 hB10 hO4 f0 f1 f2 f3 sz4 bl4
        have g2 := hgp10.out.c2
        have g4 := hF10.out
        go_wp2
        go_roundg ((t - t).toNat)
        case rel =>
          exact ⟨t, done ++ [(d, t)], by omega, by omega, by omega, own_setCell (by have := hOw.out; simpa [flat_append, flat] using this) (by simp) _, hgp10.out.setFrom _, by first | (go_simp; done) | exact (World.frozen?_setCell _ _ _ _).trans g4, Lib.hid (by rw [List.append_assoc, ← HP.out, HS.out, HX.out]; rfl), by simp; omega⟩
        case measure => omega
      · have HX := Lib.hid (show min (nx k s d) t = nx k s d by omega)
        have hx0 : d < nx k s d := by omega
        have hx1 : nx k s d ≤ t := by omega
        go_wp2_with (at_builtin; refine wpList_append_own _ rfl _ _ 42 rfl (w.heap.size + 2) 30 pi _ 2 16 Try.underlying42 hpi hpz hps hpb rfl (by decide) _ _ _ rfl ((hO4.alloc _).alloc _) ⟨w4.heap.size + 1, 0, none⟩ 1 1 [.int .i64 d, .int .i64 (nx k s d)] rfl rfl ?b1 ?b2 ?b3 ?b4 ?b5 ?_)
        case b1 =>
          have := new_cells (w4.alloc (.cells #[.int .i64 (spF k s i), .int .i64 (nx k s d)] 30)) [.int .i64 d, .int .i64 (nx k s d)] 30
          simpa using this
        case b2 => intro u hu; simp at hu; rcases hu with rfl | rfl <;> rfl
        case b3 => unfold maxLen; omega
        case b4 => omega
        case b5 => have := HGp4.out.sz; simp; omega
        intro v' w10 hown10 hgrow _
        have hlt9 := hO4.lt
        have hB10 : Below (w.heap.size + 2) w4 w10 := (((Below.refl _ w4).alloc HGp4.out.sz _).alloc (by have := HGp4.out.sz; simp; omega) _).grown hgrow (by have := HGp4.out.sz; simp; omega) (fun g hg => (hlt9 g hg).1)
        have hgp10 := Lib.hid (HGp4.out.keep hB10)
        have hF10 := Lib.hid ((hB10.frozen (p := ⟨w.heap.size + 1, 0, none⟩) (by simp)).trans HF4.out)
        have hOw := Lib.hid hown10
        have hB10' := Lib.hid hB10
        clear hown10 hgrow hlt9 hB10 hO4 f0 f1 f2 f3 sz4 bl4
        have g2 := hgp10.out.c2
        have g4 := hF10.out
        go_wp2
        go_roundg ((t - nx k s d).toNat)
        case rel =>
          exact ⟨nx k s d, done ++ [(d, nx k s d)], by omega, by omega, by omega, own_setCell (by have := hOw.out; simpa [flat_append, flat] using this) (by simp) _, hgp10.out.setFrom _, by first | (go_simp; done) | exact (World.frozen?_setCell _ _ _ _).trans g4, Lib.hid (by rw [List.append_assoc, ← HP.out, HS.out, HX.out]; rfl), by simp; omega⟩
        case measure => omega
    · have hp := HP.out
      rw [pieces_end (by omega), List.append_nil] at hp
      have HQ := Lib.hid hp
      clear hp
      go_wp2
      go_ret
      exact ⟨u5, rfl, by rw [← HQ.out]; exact own_base hown (by omega), bl'⟩

end Go.Proofs.Ytgimfajanmmkfaa
