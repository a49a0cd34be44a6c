/-
  A region that draws its order, begins with a call that all else waits for, and holds a second call that parts the rest: walked once. No program in sight.
-/
import Derived.Test.YtngddhoolijimaaDoorStl
import Derived.StillTail
namespace Go.Proofs.YtngddhoolijimaaDoor
open Go.RowKit
set_option linter.unusedVariables false

section
variable {P : Program} {ops : Array Oper} {md : Region.Mode} {w : World}

/-- Whatever stands behind operation n waits for one from n on. -/
def tailW (md : Region.Mode) (ops : Array Oper) (n : Nat) : Bool :=
  (List.range ops.size).all fun t => decide (t ≤ n) || (List.range t).any fun j => decide (n ≤ j) && Region.waitsFor md ops t j

theorem tail_waits2 {n : Nat} {listed : Array Bool} (hs : Region.sinkB md ops n = true) (hc : tailW md ops n = true) (hn : n < ops.size) (inv : HeadInv md ops n listed) :
    ∀ (d i : Nat), n - i = d → i < n → listed.getD i true = false → ∀ t, n ≤ t → t ∉ Region.ready md ops listed := by
  intro d
  induction d using Nat.strongRecOn with
  | _ d ih =>
    intro i hd hi hun t ht hr
    obtain ⟨_, ot, hot, hall⟩ := mem_ready.1 hr
    have htlt : t < ops.size := (Array.getElem?_eq_some_iff.1 hot).1
    by_cases htn : t = n
    · subst htn
      have h1 := List.all_eq_true.1 hs i (List.mem_range.2 hi)
      obtain ⟨j, hj, hj2⟩ := List.any_eq_true.1 h1
      simp only [Bool.and_eq_true, decide_eq_true_eq] at hj2
      obtain ⟨oj, hoj, e, he, hb, hon⟩ := Region.waitsFor_spec hj2.2
      have hjle : j ≤ t := by have := List.mem_range.1 hj; omega
      by_cases hjt : j = t
      · subst hjt
        have : oj = ot := Option.some.inj (hoj.symm.trans hot)
        subst this
        have h2 := hall e he hb
        rw [hon, getD_both hun] at h2
        cases h2
      · cases hl : listed.getD j false with
        | true =>
          have h2 := inv.closed j oj hoj hl e he hb
          rw [hon, getD_both hun] at h2
          cases h2
        | false =>
          have hjs : j < listed.size := by rw [inv.size]; omega
          exact ih (t - j) (by omega) j rfl (by omega) (getD_in hjs hl) t (Nat.le_refl _) hr
    · have h1 := List.all_eq_true.1 hc t (List.mem_range.2 htlt)
      simp only [Bool.or_eq_true, decide_eq_true_eq] at h1
      rcases h1 with h1 | h1
      · omega
      · obtain ⟨j, hj, hj2⟩ := List.any_eq_true.1 h1
        simp only [Bool.and_eq_true, decide_eq_true_eq] at hj2
        obtain ⟨o', ho', e, he, hb, hon⟩ := Region.waitsFor_spec hj2.2
        have hjt := List.mem_range.1 hj
        have : o' = ot := Option.some.inj (ho'.symm.trans hot)
        subst this
        have h2 := hall e he hb
        rw [hon, getD_both (inv.tail j hj2.1 (by omega))] at h2
        cases h2

theorem wpAnyL_first2 {n i : Nat} {oi : Oper} {v : Value} {L : Array Bool → Act → Prop} (hi : ops[i]? = some oi) (hsel : ∀ (j : Nat) (o : Oper) cs b, ops[j]? = some o → o.op ≠ .select cs b)
    (hs : Region.sinkB md ops n = true) (hc : tailW md ops n = true) (hn : n < ops.size) (hin : i < n)
    (hdone : ∀ listed a, L listed a → ∀ j ∈ Region.ready md ops listed, n ≤ j) :
    ∀ (f : Nat) (listed : Array Bool) (a : Act), HeadInv md ops n listed →
      (∀ j oj, ops[j]? = some oj → j ≠ i → listed.getD j true = false → (∀ e ∈ oj.after, Region.binds md e = true → e.on ≠ i) → oi.apart ops oj = true) →
      i ∈ Region.ready md ops listed → YieldsAt P ops w oi v a →
      wpAnyL P md ops w n L f (listed.setIfInBounds i true) (a.put oi.dst v) → wpAnyL P md ops w n L (f + 1) listed a := by
  intro f
  induction f with
  | zero =>
    intro listed a inv _ hr hy H
    have hun := (mem_ready.1 hr).1
    refine ⟨fun h => (by rw [h] at hr; cases hr), fun j hj => ?_⟩
    have hjn : j < n := by
      rcases Nat.lt_or_ge j n with h | h
      · exact h
      · exact absurd hj (tail_waits2 hs hc hn inv _ i rfl hin hun j h)
    refine ⟨hjn, ?_⟩
    by_cases hji : j = i
    · subst hji; exact hy.stOp hi H
    · have := hdone _ _ H j (ready_mono hj hji)
      omega
  | succ f ih =>
    intro listed a inv hfree hr hy H
    have hun := (mem_ready.1 hr).1
    refine ⟨fun h => (by rw [h] at hr; cases hr), fun j hj => ?_⟩
    have hjn : j < n := by
      rcases Nat.lt_or_ge j n with h | h
      · exact h
      · exact absurd hj (tail_waits2 hs hc hn inv _ i rfl hin hun j h)
    refine ⟨hjn, ?_⟩
    by_cases hji : j = i
    · subst hji; exact hy.stOp hi H
    · have h1 := (H.2 j (ready_mono hj hji)).2
      obtain ⟨hjun, oj, hoj, hall⟩ := mem_ready.1 hj
      have hnot : ∀ e ∈ oj.after, Region.binds md e = true → e.on ≠ i := fun e he hb heq => by
        have h1 := hall e he hb
        rw [heq, getD_both hun] at h1
        cases h1
      have h2 := stOp_put hoj (hfree j oj hoj hji hjun hnot) (fun cs b => hsel i oi cs b hi) (fun cs b => hsel j oj cs b hoj) hy h1
      have hfree' : ∀ k ok, ops[k]? = some ok → k ≠ i → (listed.setIfInBounds j true).getD k true = false →
          (∀ e ∈ ok.after, Region.binds md e = true → e.on ≠ i) → oi.apart ops ok = true := fun k ok hk hki hun hno => by
        refine hfree k ok hk hki ?_ hno
        by_cases hjk : j = k
        · subst hjk; exact hjun
        · rw [getD_set_ne true hjk] at hun; exact hun
      refine stOp_mono (fun a' h3 => ih (listed.setIfInBounds j true) a' (inv.set hj hjn) hfree' (ready_mono hr (Ne.symm hji)) h3.1 ?_) h2
      rw [Array.setIfInBounds_comm _ _ hji]
      exact h3.2

/-- The head's operations in the text's order; then n alone; then the rest in the text's order. -/
def lexTo (md : Region.Mode) (ops : Array Oper) (n g : Nat) : Nat → Nat → Array Bool → Bool
  | 0, k, listed => decide (Region.ready md ops listed = [n]) && Region.lexFrom md ops g (n + 1) (listed.setIfInBounds n true)
  | f + 1, k, listed => (Region.ready md ops listed).contains k && Region.free md ops listed k && lexTo md ops n g f (k + 1) (listed.setIfInBounds k true)

theorem wpAnyL_lex2 {n g : Nat} {Lq : Act → Prop} (hsel : Region.noSelect ops = true) (hs : Region.sinkB md ops n = true) (hc : tailW md ops n = true) (hn : n < ops.size) :
    ∀ (l : List Oper) (k : Nat) (listed : Array Bool) (a : Act), (∀ j, j < l.length → l[j]? = ops[k + j]?) → k + l.length = n → HeadInv md ops n listed →
    lexTo md ops n g l.length k listed = true → wpStill P ops w Lq l a →
    wpAnyL P md ops w n (fun listed' a' => (Region.ready md ops listed' = [n] ∧ Region.lexFrom md ops g (n + 1) (listed'.setIfInBounds n true) = true) ∧ Lq a') l.length listed a
  | [], k, listed, a, _, hk, _, hB, h => by
    simp only [List.length_nil, lexTo, Bool.and_eq_true, decide_eq_true_eq] at hB
    exact ⟨hB, h⟩
  | o :: l, k, listed, a, hl, hk, inv, hB, h => by
    have h0 : ops[k]? = some o := by simpa using (hl 0 (by simp)).symm
    simp only [List.length_cons, lexTo, Bool.and_eq_true] at hB
    obtain ⟨⟨hr, hf⟩, hB'⟩ := hB
    have hkn : k < n := by simp only [List.length_cons] at hk; omega
    have hr' : k ∈ Region.ready md ops listed := by simpa using hr
    have hst : stOp P ops w k (wpStill P ops w Lq l) a := by unfold stOp; simp only [h0]; exact h
    obtain ⟨v, hy, hK⟩ := yieldsAt_of_stOp h0 hst
    exact wpAnyL_first2 h0 (Region.noSelect_spec hsel) hs hc hn hkn (fun listed' a' hL => by rw [hL.1.1]; intro j hj; rw [List.mem_singleton.1 hj]; exact Nat.le_refl _) l.length listed a inv (Region.free_spec h0 hf) hr' hy
      (wpAnyL_lex2 hsel hs hc hn l (k + 1) _ _ (fun j hj => by have := hl (j + 1) (by simp; omega); simpa [Nat.add_assoc, Nat.add_comm 1 j] using this) (by simp only [List.length_cons] at hk; omega) (inv.set hr' hkn) hB' hK)
end

def callB2 (ops : Array Oper) (n : Nat) : Bool :=
  Region.noSelect ops && decide (Region.ready .any ops (Array.replicate ops.size false) = [0]) && decide (0 < n) && decide (n < ops.size) && Region.sinkB .any ops n && tailW .any ops n && lexTo .any ops n (ops.size - n - 1) (n - 1) 1 ((Array.replicate ops.size false).setIfInBounds 0 true)

theorem region_call_still_call {P : Program} {id : Nat} {Q : Exit → Act → World → Prop} {a : Act} {w : World} {o : Oper} {l : List Oper} (n : Nat) (o2 : Oper) (hm : P.follows .mixedOrders = true) (hB : callB2 (o :: l).toArray n = true) (ho2 : (o :: l)[n]? = some o2)
    (hw : Region.wanted o (yielded (o :: l).toArray a.tmps) = true)
    (h : ∀ W', W' = w.drew → o.wp P a W' (fun a' w' => Veil (wpStill P (o :: l).toArray w' (fun a1 => Region.wanted o2 (yielded (o :: l).toArray a1.tmps) = true ∧ o2.wp P a1 w' (fun a2 w2 => Veil (wpStill P (o :: l).toArray w2 (fun a3 => Q .normal a3 w2) ((o :: l).drop (n + 1)) a2)) Q) (l.take (n - 1)) a')) Q) : (Code.region id (o :: l).toArray true).wp P Q a w := by
  simp only [callB2, Bool.and_eq_true, decide_eq_true_eq] at hB
  obtain ⟨⟨⟨⟨⟨⟨hs, hr⟩, h0n⟩, hn⟩, hsk⟩, hc⟩, hlex⟩ := hB
  refine wp_region_any hm ?_
  have hsz : (o :: l).toArray.size = l.length + 1 := by simp
  have hnl : n ≤ l.length := by omega
  show wpAny P .any (o :: l).toArray Q (o :: l).toArray.size (Array.replicate (o :: l).toArray.size false) a { w with drawn := w.drawn + 1 }
  have inv0 : HeadInv .any (o :: l).toArray n (Array.replicate (o :: l).toArray.size false) :=
    ⟨by simp, fun j oj _ hl => (by rw [getD_replicate_false] at hl; cases hl), fun t _ ht => getD_in (by simpa using ht) (getD_replicate_false _ _)⟩
  have inv1 := inv0.set (i := 0) (by rw [hr]; simp) h0n
  have key : ∀ m, m = l.length + 1 → wpAny P .any (o :: l).toArray Q m (Array.replicate (o :: l).toArray.size false) a { w with drawn := w.drawn + 1 } := by
    rintro m rfl
    refine ⟨fun h0 => (by rw [hr] at h0; cases h0), fun i hi => ?_⟩
    rw [hr] at hi
    obtain rfl : i = 0 := by simpa using hi
    unfold wpOp
    have h0 : (o :: l).toArray[0]? = some o := by simp
    simp only [h0, hw, if_true]
    refine .inl (Oper.wp_mono (fun a' w' hv => ?_) (h _ rfl))
    have htk : (l.take (n - 1)).length = n - 1 := by rw [List.length_take]; omega
    have hL := wpAnyL_lex2 (md := .any) (g := (o :: l).toArray.size - n - 1) hs hsk hc hn (l.take (n - 1)) 1 _ a' (fun j hj => by
      rw [htk] at hj
      rw [List.getElem?_take_of_lt hj]; simp [Nat.add_comm 1 j]) (by rw [htk]; omega) inv1 (by rw [htk]; exact hlex) hv.out
    have := wpAny_of_head (Q' := Q) (g := l.length - (n - 1)) (fun listed a1 hL1 => by
      obtain ⟨⟨h1, h2⟩, hw2, h3⟩ := hL1
      obtain ⟨k, hk⟩ : ∃ k, l.length - (n - 1) = k + 1 := ⟨l.length - n, by omega⟩
      rw [hk]
      refine ⟨fun h0 => (by rw [h1] at h0; cases h0), fun i hi => ?_⟩
      rw [h1] at hi
      obtain rfl : i = n := by simpa using hi
      unfold wpOp
      have hg : (o :: l).toArray[i]? = some o2 := by simpa using ho2
      simp only [hg, hw2, if_true]
      refine .inl (Oper.wp_mono (fun a2 w2 hv2 => ?_) h3)
      refine wpAny_of_still (fun _ h => h) _ _ _ ?_
      have hdl : ((o :: l).drop (i + 1)).length = k := by rw [List.length_drop, List.length_cons]; omega
      have := wpAnyS_lex (md := .any) hs ((o :: l).drop (i + 1)) (i + 1) (listed.setIfInBounds i true) a2 (fun j => by rw [List.getElem?_drop]; simp) (by rw [hdl]; rw [hsz, show l.length + 1 - i - 1 = k by omega] at h2; exact h2) hv2.out
      rw [hdl] at this
      exact this) _ _ _ hL
    rw [htk] at this
    rw [show n - 1 + (l.length - (n - 1)) = l.length by omega] at this
    exact this
  exact key _ hsz

end Go.Proofs.YtngddhoolijimaaDoor
