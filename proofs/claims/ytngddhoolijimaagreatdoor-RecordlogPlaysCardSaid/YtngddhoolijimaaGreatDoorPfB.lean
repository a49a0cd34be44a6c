/-
  Words: appendWord, word.
-/
import Derived.Test.YtngddhoolijimaaGreatDoorPfA
import Derived.Test.YtngddhoolijimaaGreatDoorApp
import Derived.Test.YtngddhoolijimaaGreatDoorDkO
import Derived.Lib.EndianBits
namespace Go.Proofs.YtngddhoolijimaaGreatDoor
open Go.RowKit
set_option linter.unusedVariables false

theorem byte_info2 : (Tryz.prog.info? 5).map (fun i => (i.zero, i.size, i.bytes)) = some (some (.int .u8 0), 1, 1) := by kernel_rfl

/-- Nothing of w has turned but the block that a slice owns. -/
abbrev Grew (v : Value) (w w' : World) : Prop := Chg (fun b => v.ownBlock = some b) w w'

theorem wf_u32 {x : Nat} (h : x < 4294967296) : (Lit.int .u32 (x : Int)).wf = true := by
  simp [Lit.wf, IntKind.min, IntKind.max, IntKind.bits, IntKind.signed]; omega

theorem pc_four {x : Nat} (h : x < 4294967296) : pc (four x) = [.int .u8 ((x : Int) / 16777216), .int .u8 ((x : Int) / 65536 % 256), .int .u8 ((x : Int) / 256 % 256), .int .u8 ((x : Int) % 256)] := by
  have e : ∀ y : Nat, ((UInt8.ofNat y).toNat : Int) = (y : Int) % 256 := fun y => by rw [UInt8.toNat_ofNat']; simp
  unfold four pc
  simp only [List.map_cons, List.map_nil, e]
  have : ((x / 16777216 : Nat) : Int) % 256 = (x : Int) / 16777216 := by omega
  rw [this]
  simp

theorem sl_cells (w : World) (xs : List Value) (t : TypeId) (n : Nat) (hn : n = xs.length) : Sl (w.alloc (.cells xs.toArray t)) 1 (.slice (some ⟨w.heap.size, 0, none⟩) n n) n xs := by
  refine ⟨by rw [hn, Nat.mul_one], .inr ⟨_, 0, n, rfl, Nat.le_refl _, by simp, fun j u hu => ?_⟩⟩
  have := new_cells w xs t j u hu
  have e : (⟨w.heap.size, 0, none⟩ : Addr).add j = ⟨w.heap.size, j, none⟩ := by unfold Addr.add; split <;> simp_all
  rw [e] at this
  rw [Nat.zero_add]; exact this

theorem four_cells {x : Nat} (h : x < 4294967296) : #[Value.int .u8 ((x : Int) / 16777216), .int .u8 ((x : Int) / 65536 % 256), .int .u8 ((x : Int) / 256 % 256), .int .u8 ((x : Int) % 256)] = (pc (four x)).toArray := by rw [pc_four h]

theorem below_chg {B : Nat} {F : Nat → Prop} {w w' : World} (h : Below B w w') (k : Chg F w w') : Below B w w' ∧ Chg F w w' := ⟨h, k⟩

set_option maxRecDepth 100000 in
theorem pf_appendWord (base : Nat) (v : Value) (n : Nat) (l : List UInt8) (x : Nat) (w : World) (hown : w.ownsRow base 5 1 v n (pc l)) (hx : x < 4294967296) (hb : base ≤ w.heap.size) (hn : n ≤ 1000000000) :
    Calls Tryz.prog 77 #[v, .int .u32 (x : Int)] w fun e w' => ∃ v', e = .returned v' ∧ w'.ownsRow base 5 1 v' (n + 4) (pc (l ++ four x)) ∧ Grew v w w' ∧ Below base w w' := by
  obtain ⟨i0, hi0, hz0, hz1, hz2⟩ := info_parts byte_info2
  have HO := Lib.hid hown
  clear hown
  go_enter Tryz.func77, Tryz.ntmps77
  go_wp2_with (at_builtin; rw [four_cells hx]; refine wpList_append_sl rfl _ _ 51 rfl base 5 i0 _ 1 1 Tryz.underlying51 hi0 hz0 hz1 hz2 rfl (by decide) v n (pc l) rfl (HO.out.alloc _) _ 4 (pc (four x)) rfl (sl_cells w _ _ 4 rfl) (fun _ _ h => by cases h) (pc_one _) (by unfold maxLen; omega) (by omega) (by simp; omega) ?_)
  intro v' w' hown hg hbel
  have HO2 := Lib.hid hown
  have HG := Lib.hid hg
  have HB := Lib.hid hbel
  clear hown hbel hg
  go_wp2
  go_ret
  refine ⟨_, rfl, by rw [pc_append]; exact HO2.out, ?_, ((Below.refl _ _).alloc hb _).trans HB.out⟩
  exact (Chg.of_below ((Below.refl _ _).alloc (Nat.le_refl _) _)).trans (Chg.grown HG.out (fun b h => h))
theorem region_all {P : Program} {id : Nat} {Q : Exit → Act → World → Prop} {a : Act} {w : World} {l : List Oper} (hm : P.follows .mixedOrders = true) (hB : Region.lexB .any l.toArray = true)
    (h : ∀ W', W' = w.drew → Veil (wpStill P l.toArray W' (fun a' => Q .normal a' W') l a)) : (Code.region id l.toArray true).wp P Q a w := wp_region_still_lit hm hB (h _ rfl).out

theorem u32_id {n : Nat} (h : n < 4294967296) : IntKind.u32.wrap (n : Int) = (n : Int) := wraps_u32 _ (by omega) (by omega)

theorem or_nat (i : Nat) (x y : Nat) (hx : x % 2 ^ i = 0) (h1 : x < 4294967296) (hy : y < 2 ^ i) (h2 : y < 4294967296) : bits .or .u32 (x : Int) (y : Int) = ((x + y : Nat) : Int) := by
  have h := bits_join .u32 32 (by decide) wraps_u32 i x y (by omega) (by exact_mod_cast hx) (by omega) (by omega) (by exact_mod_cast hy) (by omega)
  rw [h]; omega

theorem word_bits {x0 x1 x2 x3 : Nat} (h0 : x0 < 256) (h1 : x1 < 256) (h2 : x2 < 256) (h3 : x3 < 256) :
    bits .or .u32 (bits .or .u32 (bits .or .u32 (IntKind.u32.wrap (IntKind.u32.wrap (x0 : Int) * 16777216)) (IntKind.u32.wrap (IntKind.u32.wrap (x1 : Int) * 65536))) (IntKind.u32.wrap (IntKind.u32.wrap (x2 : Int) * 256))) (IntKind.u32.wrap (x3 : Int)) = ((x0 * 16777216 + x1 * 65536 + x2 * 256 + x3 : Nat) : Int) := by
  rw [u32_id (show x0 < 4294967296 by omega), u32_id (show x1 < 4294967296 by omega), u32_id (show x2 < 4294967296 by omega), u32_id (show x3 < 4294967296 by omega)]
  rw [show (x0 : Int) * 16777216 = ((x0 * 16777216 : Nat) : Int) by omega, show (x1 : Int) * 65536 = ((x1 * 65536 : Nat) : Int) by omega, show (x2 : Int) * 256 = ((x2 * 256 : Nat) : Int) by omega]
  rw [u32_id (show x0 * 16777216 < 4294967296 by omega), u32_id (show x1 * 65536 < 4294967296 by omega), u32_id (show x2 * 256 < 4294967296 by omega)]
  rw [or_nat 24 _ _ (by omega) (by omega) (by omega) (by omega), or_nat 16 _ _ (by omega) (by omega) (by omega) (by omega), or_nat 8 _ _ (by omega) (by omega) (by omega) (by omega)]


/-- append onto a slice that is full. -/
theorem run_append_full {P : Program} {w : World} (base : Nat) (t ty e : TypeId) (i : TypeInfo) (z : Value) (size bytes : Nat) (ht : P.underlying t = some (.slice e)) (hi : P.info? e = some i) (hz : i.zero = some z)
    (hsize : i.size = size) (hby : i.bytes = bytes) (hzs : z.cells.size = size) (b : Addr) (n : Nat) (olds : List Value) (hlo : olds.length = n * size) (holds : ∀ j v, olds[j]? = some v → w.cell? (b.add j) = some v)
    (a : Addr) (m c : Nat) (news : List Value) (hl : news.length = m * size) (hnews : ∀ j u, news[j]? = some u → w.cell? (a.add j) = some u) (hm : 0 < m)
    (h63 : n + m ≤ maxLen) (hbytes : (n + m) * bytes ≤ 140737488355328) (hbase : base ≤ w.heap.size) :
    ∃ v' w', (Builtin.append_ #[t, t] ty #[.slice (some b) n n, .slice (some a) m c]).run P w = .ok v' w' ∧ w'.ownsRow base e size v' (n + m) (olds ++ news) ∧ w.grownBy w' none := by
  subst hsize
  subst hby
  have hsmall : n + m ≤ 9223372036854775807 := by simp only [maxLen] at h63; omega
  have hlen : (olds ++ news).length = (n + m) * i.size := by rw [List.length_append, hlo, hl, Nat.add_mul]
  have hr := run_append_grow (P := P) w t ty e i z ht hi hz b n n olds hlo holds a m c news hl hnews (by omega) (by omega) (growslice_fits (by omega) hbytes)
  refine ⟨_, _, hr, ⟨hlen, .inr ⟨w.heap.size, _, _, rfl, hbase, heap_alloc_new w.drew _, grownCap_ge w (n + m) n e, grownCap_le_maxLen w (n + m) n e h63, ?_, ?_⟩⟩, ⟨rfl, rfl, rfl, by simp, fun k hk _ => heap_alloc_old w.drew _ hk⟩⟩
  · have hge := grownCap_ge w (n + m) n e
    simp only [Array.size_append, List.size_toArray, size_zeroCells, hzs, hlo, hl, ← Nat.add_mul]
    congr 1
    omega
  · simp only [Array.toList_append, List.append_assoc]
    rw [← List.append_assoc, ← hlen]
    exact List.take_left

/-- append, by what it comes to. -/
theorem wpList_append_eq {P : Program} {ops : Array Oper} {rest : List Oper} {o : Oper} {a : Act} {w w' : World} {Q : Exit → Act → World → Prop} (hg : o.guard = none) (s x : Operand) (t : TypeId)
    (ho : o.op = Op.call { callee := Callee.builtin Builtin.append, args := #[s, x], argTypes := #[t, t] }) (v' : Value)
    (hrun : (Builtin.append_ #[t, t] o.type #[a.eval s, a.eval x]).run P w = .ok v' w') (h : wpList P ops Q rest (a.put o.dst v') w') : wpList P ops Q (o :: rest) a w := by
  refine wpList_plain hg fun K hK => ?_
  unfold Oper.wp
  simp [execOp, ho, resolve, invoke, builtin, hrun, Result.andThen]
  exact hK _ _ h

/-- appendWord onto a slice that is full. -/
theorem pf_appendWord_full (g off : Nat) (l : List UInt8) (x : Nat) (w : World) (hc : w.rangeAt g off (pc l)) (hg : g < w.heap.size) (hx : x < 4294967296) (hn : l.length ≤ 1000000000) :
    Calls Tryz.prog 77 #[.slice (some ⟨g, off, none⟩) l.length l.length, .int .u32 (x : Int)] w fun e w' => ∃ v', e = .returned v' ∧ w'.ownsRow w.heap.size 5 1 v' (l.length + 4) (pc (l ++ four x)) ∧ Below w.heap.size w w' := by
  obtain ⟨i0, hi0, hz0, hz1, hz2⟩ := info_parts byte_info2
  have hc1 : ∀ j v, (pc l)[j]? = some v → (w.alloc (.cells (pc (four x)).toArray 5)).cell? ((⟨g, off, none⟩ : Addr).add j) = some v := fun j v hv => by
    have e : (⟨g, off, none⟩ : Addr).add j = ⟨g, off + j, none⟩ := by unfold Addr.add; split <;> simp_all
    rw [e]
    exact (World.cell?_of_block (w := w) (a := ⟨g, off + j, none⟩) (heap_alloc_old w _ hg)).trans (hc j v hv)
  obtain ⟨v', w', hrun, hown, hgr⟩ := run_append_full (P := Tryz.prog) (w := w.alloc (.cells (pc (four x)).toArray 5)) w.heap.size 51 51 5 i0 _ 1 1 Tryz.underlying51 hi0 hz0 hz1 hz2 rfl ⟨g, off, none⟩ l.length (pc l) (by rw [pc_len, Nat.mul_one]) hc1 ⟨w.heap.size, 0, none⟩ 4 4 (pc (four x)) (by rw [pc_len]; rfl) (new_cells w _ _) (by omega) (by unfold maxLen; omega) (by omega) (by simp)
  have HO := Lib.hid (And.intro hown hgr)
  have HR := Lib.hid hrun
  clear hown hgr hrun hc1
  generalize hll : l.length = n at *
  go_enter Tryz.func77, Tryz.ntmps77
  go_wp2_with (at_builtin; rw [four_cells hx]; refine wpList_append_eq rfl _ _ 51 rfl v' HR.out ?_)
  go_wp2
  go_ret
  refine ⟨_, rfl, by rw [pc_append]; exact HO.out.1, ?_⟩
  have h2 := (Below.refl (w.alloc (.cells (pc (four x)).toArray 5)).heap.size _).grown HO.out.2 (Nat.le_refl _) (by simp)
  exact below_new h2

/-- Four bytes at an address. -/
theorem data_four {w : World} {b : List UInt8} {a : Option Addr} {n c : Nat} (h : Data w (.slice a n c) b) (hl : 4 ≤ b.length) :
    ∃ g off, a = some ⟨g, off, none⟩ ∧ n = b.length ∧ n ≤ c ∧ w.cell? ⟨g, off, none⟩ = some (.int .u8 ((b.getD 0 0).toNat : Int)) ∧ w.cell? ⟨g, off + 1, none⟩ = some (.int .u8 ((b.getD 1 0).toNat : Int)) ∧ w.cell? ⟨g, off + 2, none⟩ = some (.int .u8 ((b.getD 2 0).toNat : Int)) ∧ w.cell? ⟨g, off + 3, none⟩ = some (.int .u8 ((b.getD 3 0).toNat : Int)) := by
  obtain ⟨hlen, h | ⟨g, off, c', e, hnc, hg, hc⟩⟩ := h
  · omega
  · simp only [Value.slice.injEq] at e
    obtain ⟨rfl, rfl, rfl⟩ := e
    have k : ∀ j, j < 4 → w.cell? ⟨g, off + j, none⟩ = some (.int .u8 ((b.getD j 0).toNat : Int)) := fun j hj => hc j _ (by
      have : b[j]? = some (b.getD j 0) := by rw [List.getD_eq_getElem?_getD, List.getElem?_eq_getElem (by omega)]; rfl
      exact pc_get this)
    exact ⟨g, off, rfl, rfl, hnc, k 0 (by omega), k 1 (by omega), k 2 (by omega), k 3 (by omega)⟩

set_option maxRecDepth 100000 in
theorem pf_word (v : Value) (b : List UInt8) (w : World) (h : Data w v b) (hl : 4 ≤ b.length) : Calls Tryz.prog 44 #[v] w fun e w' => e = .returned (.int .u32 (wordAt b : Int)) ∧ Below w.heap.size w w' := by
  obtain ⟨va, vc, rfl⟩ := Sl.len h
  obtain ⟨g, off, rfl, _, hnc, c0, c1, c2, c3⟩ := data_four h hl
  have b0 := (b.getD 0 0).toNat_lt
  have b1 := (b.getD 1 0).toNat_lt
  have b2 := (b.getD 2 0).toNat_lt
  have b3 := (b.getD 3 0).toNat_lt
  have i0 : (0 : Int) < (b.length : Int) := by omega
  have i1 : (1 : Int) < (b.length : Int) := by omega
  have i2 : (2 : Int) < (b.length : Int) := by omega
  have i3 : (3 : Int) < (b.length : Int) := by omega
  unfold wordAt
  clear h
  generalize (b.getD 0 0).toNat = x0 at *
  generalize (b.getD 1 0).toNat = x1 at *
  generalize (b.getD 2 0).toNat = x2 at *
  generalize (b.getD 3 0).toNat = x3 at *
  generalize b.length = m at *
  have j0 : 0 < m := by omega
  have j1 : 1 < m := by omega
  have j2 : 2 < m := by omega
  have j3 : 3 < m := by omega
  go_enter Tryz.func44, Tryz.ntmps44
  go_wp2_with fail
  refine region_all (by kernel_rfl) (by kernel_rfl) ?_
  intro wD hWD
  have k0 : wD.cell? ⟨g, off, none⟩ = some (.int .u8 (x0 : Int)) := by rw [hWD]; exact c0
  have k1 : wD.cell? ⟨g, off + 1, none⟩ = some (.int .u8 (x1 : Int)) := by rw [hWD]; exact c1
  have k2 : wD.cell? ⟨g, off + 2, none⟩ = some (.int .u8 (x2 : Int)) := by rw [hWD]; exact c2
  have k3 : wD.cell? ⟨g, off + 3, none⟩ = some (.int .u8 (x3 : Int)) := by rw [hWD]; exact c3
  have HB := Lib.hid (show Below w.heap.size w wD from by rw [hWD]; exact (Below.refl _ _).drew)
  clear hWD c0 c1 c2 c3
  iterate 23 (refine stillH_want (by kernel_rfl) (fun K hK => ?_); go_simp; refine hK _ ?_; clear hK K)
  refine stillH_nil ?_
  go_wp2
  go_ret
  exact ⟨by rw [← word_bits b0 b1 b2 b3]; rfl, HB.out⟩

end Go.Proofs.YtngddhoolijimaaGreatDoor
