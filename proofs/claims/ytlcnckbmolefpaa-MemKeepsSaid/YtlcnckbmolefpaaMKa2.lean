/- Walks and laws of several statements of this seat, joined into one text; no condition. -/
import Derived.Test.YtlcnckbmolefpaaProg
import Derived.Below
import Derived.Deep.Draws
import Derived.Deep.AppendLies
import Derived.Maps.AppendAt
import Derived.OwnWalk
import Derived.Laws.BytesArg
import Derived.Laws.MakeOwn
import Derived.Laws.OwnMore
import Derived.Deep.OwnRows
import Derived.Tactics
import Derived.Lib.ConvBytes
import Derived.Laws.Slices
import Derived.WalkKit
import Derived.KernelRfl
import Derived.RowKit3
import Derived.Deep.LoopGhost
import Derived.Deep.QuietTactic
import Derived.BigQuiet
import Derived.WideLaws
import Derived.Deep.DeepCutAuto
import Derived.Deep.CutBlock
import Derived.Deep.RegionHeld3
import Derived.Laws.Rows
import Derived.Lib.AppendStr
import Derived.ArgAppend
import Derived.Laws.IdiomCopy
import Derived.OrdersHeld
import Derived.Laws.BitsLemmas
import Derived.RowKit
import Derived.Laws.StructEq
import Derived.Maps.RangeWalk
import Derived.Maps.OwnRows
import Derived.Maps.Views
import Derived.Maps.OwnSet
import Derived.IntWalk
import Derived.Shelf.SlMaps.Clone
import Derived.Laws.CopyOwn
import Derived.Deep.RegionLaw
import Derived.LoopTactic
import Derived.Outline
import Derived.Lib.BufferMore
import Derived.Deep.CutRange
import Derived.Test.YtlcnckbmolefpaaMKa0
import Derived.Test.YtlcnckbmolefpaaMKa1
section
namespace Go.Proofs.Ytlcnckbmolefpaa.P
open Go.RowKit Go.Maps Go.Proofs.Ytlcnckbmolefpaa.CK Go.Proofs.YtlcnckbmolefpaaW.PrintWords Go.Proofs.YtlcnckbmolefpaaW.PrintLast Go.Proofs.YtlcnckbmolefpaaW.PrintMore
set_option linter.unusedVariables false
set_option linter.unusedSimpArgs false
set_option maxRecDepth 100000
def T8.t0 : MS := ⟨List.replicate 1 0, List.replicate 1 [], List.replicate 1 (-1), fun _ => none, 0, []⟩
def T8.t1 : MS := T8.t0.pass 0 4 0 (-1) 0
def T8.t2 : MS := T8.t1.pass 1 4 0 (-1) 1
def T8.t3 : MS := T8.t2.sleep 0 0
def T8.t4 : MS := T8.t3.pass 1 4 0 (-1) 1
def T8.t5 : MS := T8.t4.pass 0 4 0 (-1) 0
def T8.t6 : MS := T8.t5.wake 1 0
def T8.t7 : MS := T8.t6.store 0 0 7
def T8.t8 : MS := T8.t7.loadTo 1 0
theorem T8.facts : (T8.t0.passB 0 0 (-1) = true ∧ T8.t1.passB 1 0 (-1) = false ∧ T8.t2.passB 0 0 0 = true ∧ T8.t3.passB 1 0 (-1) = true) ∧ ((T8.t4.beds 0).isSome = true ∧ T8.t4.passB 0 0 (-1) = false ∧ T8.t5.passB 1 0 1 = true ∧ (T8.t7.beds 0).isSome = false) ∧ (T8.t7.load 1 0 = 7 ∧ T8.t8.log.length = 7 ∧ T8.t8.holder 0 = 1) := by
  refine ⟨⟨?_, ?_, ?_, ?_⟩, ⟨?_, ?_, ?_, ?_⟩, ?_, ?_, ?_⟩ <;> decide
theorem T8.small : (T8.t0.log.length ≤ 1000000 ∧ T8.t1.log.length ≤ 1000000 ∧ T8.t2.log.length ≤ 1000000 ∧ T8.t3.log.length ≤ 1000000) ∧ (T8.t4.log.length ≤ 1000000 ∧ T8.t5.log.length ≤ 1000000 ∧ T8.t6.log.length ≤ 1000000 ∧ T8.t7.log.length ≤ 1000000) ∧ (T8.t2.nb ≤ 1000000 ∧ T8.t5.nb ≤ 1000000) := by
  refine ⟨⟨?_, ?_, ?_, ?_⟩, ⟨?_, ?_, ?_, ?_⟩, ?_, ?_⟩ <;> decide
theorem T8.bed (x : Int) : T8.t5.beds x = some 0 ↔ x = 0 := by
  have e : T8.t5.beds = upd (fun _ => none) 0 (some 0) := rfl
  rw [e]
  unfold upd
  by_cases h : x = 0
  · simp [h]
  · simp [h]
theorem T8.one {V : List Int} (hn : V.Nodup) (h : ∀ x, x ∈ V ↔ T8.t5.passB 1 0 1 = true ∧ T8.t5.beds x = some 0) : V.length = 1 := by
  have h2 : ∀ x, x ∈ V ↔ x = 0 := fun x => by rw [h, T8.bed, T8.facts.2.1.2.2.1]; simp
  match V, hn, h2 with
  | [], _, h2 => exact absurd ((h2 0).2 rfl) List.not_mem_nil
  | [a], _, _ => rfl
  | a :: b :: l, hn, h2 =>
    have ha := (h2 a).1 (by simp)
    have hb := (h2 b).1 (by simp)
    rw [ha, hb] at hn
    simp at hn
theorem told8_calls (W : World) : Calls Try.prog 31 #[] W fun e w' => e = .returned (.bool true) ∧ Below W.heap.size W w' := by
  have w0 : (Lit.int .i64 0).wf = true := by decide
  have w1 : (Lit.int .i64 1).wf = true := by decide
  have W0 := Aside0.mk w0
  have W1 := Aside0.mk w1
  have SM := Aside0.mk T8.small
  obtain ⟨⟨b0, b1, b2, b3⟩, ⟨b4, b5, b6, b7⟩, b8, b9, b10⟩ := T8.facts
  clear w0 w1
  go_enter Try.func31, Try.ntmps31
  go_upto_region 4 with (first | (go_at_call 30; ((refine (New_C 1 1 1 (by decide) (by decide) (by decide) _).mono ?_); rintro e w1 ⟨g, own0, rfl, hm, -, hb⟩; have HM := Aside0.mk (show MemC w1 W.heap.size own0 g T8.t0 from hm); have HB := Aside0.mk hb; clear hm hb)))
  go_upto_region 5 with (first
    | (go_at_call 49; ((with_reducible refine (Take_C 0 0 W0.out HM.out SM.out.1.1).mono ?_); rintro e w2 ⟨rfl, ⟨own1, hc1, -⟩, -, hb1⟩; have HM1 := Aside0.mk (show MemC w2 W.heap.size own1 g T8.t1 from hc1); have HB1 := Aside0.mk (HB.out.trans hb1); clear hc1 hb1 HM HB; have HM := HM1; have HB := HB1; clear HM1 HB1))
    | (go_at_call 49; ((with_reducible refine (Take_C 1 0 W1.out HM.out SM.out.1.2.1).mono ?_); rintro e w2 ⟨rfl, ⟨own1, hc1, -⟩, -, hb1⟩; have HM1 := Aside0.mk (show MemC w2 W.heap.size own1 g T8.t2 from hc1); have HB1 := Aside0.mk (HB.out.trans hb1); clear hc1 hb1 HM HB; have HM := HM1; have HB := HB1; clear HM1 HB1))
    | (go_at_call 51; ((with_reducible refine (Sleep_C 0 0 W0.out W0.out HM.out SM.out.1.2.2.1 SM.out.2.2.1).mono ?_); rintro e w2 ⟨rfl, ⟨own1, hc1, -⟩, -, hb1⟩; have HM1 := Aside0.mk (show MemC w2 W.heap.size own1 g T8.t3 from hc1); have HB1 := Aside0.mk (HB.out.trans hb1); clear hc1 hb1 HM HB; have HM := HM1; have HB := HB1; clear HM1 HB1))
    | (go_at_call 49; ((with_reducible refine (Take_C 1 0 W1.out HM.out SM.out.1.2.2.2).mono ?_); rintro e w2 ⟨rfl, ⟨own1, hc1, -⟩, -, hb1⟩; have HM1 := Aside0.mk (show MemC w2 W.heap.size own1 g T8.t4 from hc1); have HB1 := Aside0.mk (HB.out.trans hb1); clear hc1 hb1 HM HB; have HM := HM1; have HB := HB1; clear HM1 HB1)))
  go_upto_region 6 with (first
    | (go_at_call 44; (with_reducible refine (Asleep_C 0 W0.out HM.out).mono ?_); rintro e w2 ⟨rfl, rfl⟩)
    | (go_at_call 49; ((with_reducible refine (Take_C 0 0 W0.out HM.out SM.out.2.1.1).mono ?_); rintro e w2 ⟨rfl, ⟨own1, hc1, -⟩, -, hb1⟩; have HM1 := Aside0.mk (show MemC w2 W.heap.size own1 g T8.t5 from hc1); have HB1 := Aside0.mk (HB.out.trans hb1); clear hc1 hb1 HM HB; have HM := HM1; have HB := HB1; clear HM1 HB1)))
  go_upto_region 7 with (first
    | (go_at_call 52; ((with_reducible refine (Wake_C 1 0 W1.out HM.out SM.out.2.1.2.1 SM.out.2.2.2).mono ?_); rintro e w2 ⟨V, rfl, hV1, hV2, ⟨own1, hc1, -⟩, -, hb1⟩; have hV := T8.one hV1 hV2; have HM1 := Aside0.mk (show MemC w2 W.heap.size own1 g T8.t6 from hc1); have HB1 := Aside0.mk (HB.out.trans hb1); clear hc1 hb1 HM HB hV1 hV2; have HM := HM1; have HB := HB1; clear HM1 HB1)))
  go_upto_region 8 with (first
    | (go_at_call 32; ((with_reducible refine (Store_C 0 0 7 W0.out HM.out SM.out.2.1.2.2.1).mono ?_); rintro e w2 ⟨rfl, ⟨own1, hc1, -⟩, -, hb1⟩; have HM1 := Aside0.mk (show MemC w2 W.heap.size own1 g T8.t7 from hc1); have HB1 := Aside0.mk (HB.out.trans hb1); clear hc1 hb1 HM HB; have HM := HM1; have HB := HB1; clear HM1 HB1)))
  go_wp2_with (first
    | (go_at_call 44; (with_reducible refine (Asleep_C 0 W0.out HM.out).mono ?_); rintro e w2 ⟨rfl, rfl⟩)
    | (go_at_call 36; ((with_reducible refine (Load_C 1 0 W1.out HM.out SM.out.2.1.2.2.2).mono ?_); rintro e w2 ⟨rfl, ⟨own1, hc1, -⟩, -, hb1⟩; have HM1 := Aside0.mk (show MemC w2 W.heap.size own1 g T8.t8 from hc1); have HB1 := Aside0.mk (HB.out.trans hb1); clear hc1 hb1 HM HB; have HM := HM1; have HB := HB1; clear HM1 HB1))
    | (go_at_call 43; (with_reducible refine (Time_C HM.out).mono ?_); rintro e w2 ⟨rfl, rfl⟩)
    | (go_at_call 46; (with_reducible refine (Holder_C 0 HM.out).mono ?_); rintro e w2 ⟨rfl, rfl⟩))
  go_ret
  exact ⟨by first | rfl | (simp; done) | (simp [*]; done), HB.out⟩
open Go.RowKit Go.Proofs.YtlcnckbmolefpaaW.PrintWords Go.Proofs.YtlcnckbmolefpaaW.PrintLast Go.Proofs.YtlcnckbmolefpaaW.PrintMore
attribute [local go_sem] max2_int min2_int max_two min_two max_three min_three max_four min_four   -- for this text's walks alone
/-! ### marchlandref03_before: function 109 -/
def marchlandref03_before.f (a0_0 : Int) (a0_1 : Int) (a0_2 : Int) (a1_0 : Int) (a1_1 : Int) (a1_2 : Int) : Option (Bool) := if a0_0 < a1_0 then (some true) else (if a0_0 = a1_0 then (some (decide (a0_1 < a1_1))) else (some false))
set_option maxHeartbeats 8000000 in
set_option maxRecDepth 100000 in
theorem marchlandref03_before.calls (a0_0 : Int) (a0_1 : Int) (a0_2 : Int) (a1_0 : Int) (a1_1 : Int) (a1_2 : Int) (r : Bool) (w : World) (h : marchlandref03_before.f a0_0 a0_1 a0_2 a1_0 a1_1 a1_2 = some r) :
    Calls Try.prog 109 #[.agg #[.int .i64 a0_0, .int .u64 a0_1, .int .i64 a0_2], .agg #[.int .i64 a1_0, .int .u64 a1_1, .int .i64 a1_2]] w fun e w' => e = .returned (.bool r) ∧ Below w.heap.size w w' := by
  have hu140 := Try.underlying140
  have HB := Aside0.mk (Below.refl w.heap.size w)
  have H : (if a0_0 < a1_0 then (some true) else (if a0_0 = a1_0 then (some (decide (a0_1 < a1_1))) else (some false))) = some r := h
  clear h
  by_cases c3 : a0_0 < a1_0
  · rw [if_pos c3] at H
    have c3b0 : decide (a0_0 < a1_0) = true := decide_eq_true c3
    clear c3
    obtain rfl := Option.some.inj H
    go_enter Try.func109, Try.ntmps109
    go_wp2_with (first | ((with_reducible refine gate_dst (N := 2) rfl ?_); refine box_event ?hg (N := 2) ?hd (cs := #[.int .i64 a0_0, .int .u64 a0_1, .int .i64 a0_2]) (t := 140) ?hr ?_; (case hd => rfl); (case hg => rfl); (case hr => first | (go_simp; done) | (go_simp; rfl)); intro gb240 hg w4 hbox hb; have n0_ := Aside0.mk (below_step (by repeat (first | (with_reducible first | exact HB.out | apply below_alloc | apply pw_below_drewN | apply below_drew1) | exact HB.out)) hb); have n1_ := Aside0.mk (hbox); have n2_ := Aside0.mk ((by rw [hg]; exact (below_size (by repeat (first | (with_reducible first | exact HB.out | apply below_alloc | apply pw_below_drewN | apply below_drew1) | exact HB.out))) : w.heap.size ≤ gb240)); have n3_ := Aside0.mk ((by rw [hg]; exact (below_size (by repeat (first | (with_reducible first | exact HB.out | apply below_alloc | apply pw_below_drewN | apply below_drew1) | exact HB.out))) : w.heap.size ≤ gb240)); clear HB; have HB := n0_; have BK240 := n1_; have GW240 := n2_; have GE240 := n3_; clear n0_ n1_ n2_ n3_; clear hb hbox hg) | ((with_reducible refine gate_dst (N := 3) rfl ?_); refine box_event ?hg (N := 3) ?hd (cs := #[.int .i64 a1_0, .int .u64 a1_1, .int .i64 a1_2]) (t := 140) ?hr ?_; (case hd => rfl); (case hg => rfl); (case hr => first | (go_simp; done) | (go_simp; rfl)); intro gb241 hg w5 hbox hb; have n0_ := Aside0.mk (blk_below (g := gb240) (o := .cells #[.int .i64 a0_0, .int .u64 a0_1, .int .i64 a0_2] 140 (0, 0)) (by (with_reducible repeat (first | refine blk_drewN ?_ _ | refine blk_drew ?_ | refine blk_alloc ?_ _)); exact BK240.out) hb); have n1_ := Aside0.mk (below_step (by repeat (first | (with_reducible first | exact HB.out | apply below_alloc | apply pw_below_drewN | apply below_drew1 | refine below_set ?_ GE240.out) | exact HB.out)) hb); have n2_ := Aside0.mk (hbox); have n3_ := Aside0.mk ((by rw [hg]; exact (below_size (by repeat (first | (with_reducible first | exact HB.out | apply below_alloc | apply pw_below_drewN | apply below_drew1 | refine below_set ?_ GE240.out) | exact HB.out))) : w.heap.size ≤ gb241)); have n4_ := Aside0.mk ((by rw [hg]; exact (below_size (by repeat (first | (with_reducible first | exact HB.out | apply below_alloc | apply pw_below_drewN | apply below_drew1 | refine below_set ?_ GE240.out) | exact HB.out))) : w.heap.size ≤ gb241)); have n5_ := Aside0.mk ((by rw [hg]; exact Nat.ne_of_lt (blk_lt (g := gb240) (o := .cells #[.int .i64 a0_0, .int .u64 a0_1, .int .i64 a0_2] 140 (0, 0)) (by (with_reducible repeat (first | refine blk_drewN ?_ _ | refine blk_drew ?_ | refine blk_alloc ?_ _)); exact BK240.out)) : gb240 ≠ gb241)); have n6_ := Aside0.mk ((by rw [hg]; exact Nat.ne_of_gt (blk_lt (g := gb240) (o := .cells #[.int .i64 a0_0, .int .u64 a0_1, .int .i64 a0_2] 140 (0, 0)) (by (with_reducible repeat (first | refine blk_drewN ?_ _ | refine blk_drew ?_ | refine blk_alloc ?_ _)); exact BK240.out)) : gb241 ≠ gb240)); clear BK240; clear HB; have BK240 := n0_; have HB := n1_; have BK241 := n2_; have GW241 := n3_; have GE241 := n4_; have NB240_241 := n5_; have NB241_240 := n6_; clear n0_ n1_ n2_ n3_ n4_ n5_ n6_; clear hb hbox hg; have hnb6 := NB240_241.out; have hnc6 := NB241_240.out; have hcz7_0 : w5.cell? ⟨gb240, 0, none⟩ = some (.int .i64 a0_0) := (blk_cell BK240.out 0).trans rfl; have hcz7_1 : w5.cell? ⟨gb240, 1, none⟩ = some (.int .u64 a0_1) := (blk_cell BK240.out 1).trans rfl; have hcz7_2 : w5.cell? ⟨gb240, 2, none⟩ = some (.int .i64 a0_2) := (blk_cell BK240.out 2).trans rfl; have hfz7_0 := blk_frozen BK240.out 0; have hfz7_1 := blk_frozen BK240.out 1; have hfz7_2 := blk_frozen BK240.out 2; have hcz8_0 : w5.cell? ⟨gb241, 0, none⟩ = some (.int .i64 a1_0) := (blk_cell BK241.out 0).trans rfl; have hcz8_1 : w5.cell? ⟨gb241, 1, none⟩ = some (.int .u64 a1_1) := (blk_cell BK241.out 1).trans rfl; have hcz8_2 : w5.cell? ⟨gb241, 2, none⟩ = some (.int .i64 a1_2) := (blk_cell BK241.out 2).trans rfl; have hfz8_0 := blk_frozen BK241.out 0; have hfz8_1 := blk_frozen BK241.out 1; have hfz8_2 := blk_frozen BK241.out 2))
    go_ret
    exact ⟨by first | rfl | (simp [errW_none, errW_some] <;> rfl) | (simp [*, errW_none, errW_some] <;> rfl), by repeat (first | (with_reducible first | exact HB.out | apply below_alloc | apply pw_below_drewN | apply below_drew1 | refine below_set ?_ GE240.out | refine below_set ?_ GE241.out) | exact HB.out)⟩
  · rw [if_neg c3] at H
    have c3b0 : decide (a0_0 < a1_0) = false := decide_eq_false c3
    clear c3
    by_cases c9 : a0_0 = a1_0
    · rw [if_pos c9] at H
      have c9b0 : (a0_0 == a1_0) = true := beq_iff_eq.mpr c9
      have c9b1 : (a0_0 != a1_0) = false := bne_eq_false_iff_eq.mpr c9
      clear c9
      obtain rfl := Option.some.inj H
      go_enter Try.func109, Try.ntmps109
      go_wp2_with (first | ((with_reducible refine gate_dst (N := 2) rfl ?_); refine box_event ?hg (N := 2) ?hd (cs := #[.int .i64 a0_0, .int .u64 a0_1, .int .i64 a0_2]) (t := 140) ?hr ?_; (case hd => rfl); (case hg => rfl); (case hr => first | (go_simp; done) | (go_simp; rfl)); intro gb240 hg w10 hbox hb; have n0_ := Aside0.mk (below_step (by repeat (first | (with_reducible first | exact HB.out | apply below_alloc | apply pw_below_drewN | apply below_drew1) | exact HB.out)) hb); have n1_ := Aside0.mk (hbox); have n2_ := Aside0.mk ((by rw [hg]; exact (below_size (by repeat (first | (with_reducible first | exact HB.out | apply below_alloc | apply pw_below_drewN | apply below_drew1) | exact HB.out))) : w.heap.size ≤ gb240)); have n3_ := Aside0.mk ((by rw [hg]; exact (below_size (by repeat (first | (with_reducible first | exact HB.out | apply below_alloc | apply pw_below_drewN | apply below_drew1) | exact HB.out))) : w.heap.size ≤ gb240)); clear HB; have HB := n0_; have BK240 := n1_; have GW240 := n2_; have GE240 := n3_; clear n0_ n1_ n2_ n3_; clear hb hbox hg) | ((with_reducible refine gate_dst (N := 3) rfl ?_); refine box_event ?hg (N := 3) ?hd (cs := #[.int .i64 a1_0, .int .u64 a1_1, .int .i64 a1_2]) (t := 140) ?hr ?_; (case hd => rfl); (case hg => rfl); (case hr => first | (go_simp; done) | (go_simp; rfl)); intro gb241 hg w11 hbox hb; have n0_ := Aside0.mk (blk_below (g := gb240) (o := .cells #[.int .i64 a0_0, .int .u64 a0_1, .int .i64 a0_2] 140 (0, 0)) (by (with_reducible repeat (first | refine blk_drewN ?_ _ | refine blk_drew ?_ | refine blk_alloc ?_ _)); exact BK240.out) hb); have n1_ := Aside0.mk (below_step (by repeat (first | (with_reducible first | exact HB.out | apply below_alloc | apply pw_below_drewN | apply below_drew1 | refine below_set ?_ GE240.out) | exact HB.out)) hb); have n2_ := Aside0.mk (hbox); have n3_ := Aside0.mk ((by rw [hg]; exact (below_size (by repeat (first | (with_reducible first | exact HB.out | apply below_alloc | apply pw_below_drewN | apply below_drew1 | refine below_set ?_ GE240.out) | exact HB.out))) : w.heap.size ≤ gb241)); have n4_ := Aside0.mk ((by rw [hg]; exact (below_size (by repeat (first | (with_reducible first | exact HB.out | apply below_alloc | apply pw_below_drewN | apply below_drew1 | refine below_set ?_ GE240.out) | exact HB.out))) : w.heap.size ≤ gb241)); have n5_ := Aside0.mk ((by rw [hg]; exact Nat.ne_of_lt (blk_lt (g := gb240) (o := .cells #[.int .i64 a0_0, .int .u64 a0_1, .int .i64 a0_2] 140 (0, 0)) (by (with_reducible repeat (first | refine blk_drewN ?_ _ | refine blk_drew ?_ | refine blk_alloc ?_ _)); exact BK240.out)) : gb240 ≠ gb241)); have n6_ := Aside0.mk ((by rw [hg]; exact Nat.ne_of_gt (blk_lt (g := gb240) (o := .cells #[.int .i64 a0_0, .int .u64 a0_1, .int .i64 a0_2] 140 (0, 0)) (by (with_reducible repeat (first | refine blk_drewN ?_ _ | refine blk_drew ?_ | refine blk_alloc ?_ _)); exact BK240.out)) : gb241 ≠ gb240)); clear BK240; clear HB; have BK240 := n0_; have HB := n1_; have BK241 := n2_; have GW241 := n3_; have GE241 := n4_; have NB240_241 := n5_; have NB241_240 := n6_; clear n0_ n1_ n2_ n3_ n4_ n5_ n6_; clear hb hbox hg; have hnb12 := NB240_241.out; have hnc12 := NB241_240.out; have hcz13_0 : w11.cell? ⟨gb240, 0, none⟩ = some (.int .i64 a0_0) := (blk_cell BK240.out 0).trans rfl; have hcz13_1 : w11.cell? ⟨gb240, 1, none⟩ = some (.int .u64 a0_1) := (blk_cell BK240.out 1).trans rfl; have hcz13_2 : w11.cell? ⟨gb240, 2, none⟩ = some (.int .i64 a0_2) := (blk_cell BK240.out 2).trans rfl; have hfz13_0 := blk_frozen BK240.out 0; have hfz13_1 := blk_frozen BK240.out 1; have hfz13_2 := blk_frozen BK240.out 2; have hcz14_0 : w11.cell? ⟨gb241, 0, none⟩ = some (.int .i64 a1_0) := (blk_cell BK241.out 0).trans rfl; have hcz14_1 : w11.cell? ⟨gb241, 1, none⟩ = some (.int .u64 a1_1) := (blk_cell BK241.out 1).trans rfl; have hcz14_2 : w11.cell? ⟨gb241, 2, none⟩ = some (.int .i64 a1_2) := (blk_cell BK241.out 2).trans rfl; have hfz14_0 := blk_frozen BK241.out 0; have hfz14_1 := blk_frozen BK241.out 1; have hfz14_2 := blk_frozen BK241.out 2))
      go_ret
      exact ⟨by first | rfl | (simp [errW_none, errW_some] <;> rfl) | (simp [*, errW_none, errW_some] <;> rfl), by repeat (first | (with_reducible first | exact HB.out | apply below_alloc | apply pw_below_drewN | apply below_drew1 | refine below_set ?_ GE240.out | refine below_set ?_ GE241.out) | exact HB.out)⟩
    · rw [if_neg c9] at H
      have c9b0 : (a0_0 == a1_0) = false := beq_eq_false_iff_ne.mpr c9
      have c9b1 : (a0_0 != a1_0) = true := bne_iff_ne.mpr c9
      obtain rfl := Option.some.inj H
      go_enter Try.func109, Try.ntmps109
      go_wp2_with (first | ((with_reducible refine gate_dst (N := 2) rfl ?_); refine box_event ?hg (N := 2) ?hd (cs := #[.int .i64 a0_0, .int .u64 a0_1, .int .i64 a0_2]) (t := 140) ?hr ?_; (case hd => rfl); (case hg => rfl); (case hr => first | (go_simp; done) | (go_simp; rfl)); intro gb240 hg w15 hbox hb; have n0_ := Aside0.mk (below_step (by repeat (first | (with_reducible first | exact HB.out | apply below_alloc | apply pw_below_drewN | apply below_drew1) | exact HB.out)) hb); have n1_ := Aside0.mk (hbox); have n2_ := Aside0.mk ((by rw [hg]; exact (below_size (by repeat (first | (with_reducible first | exact HB.out | apply below_alloc | apply pw_below_drewN | apply below_drew1) | exact HB.out))) : w.heap.size ≤ gb240)); have n3_ := Aside0.mk ((by rw [hg]; exact (below_size (by repeat (first | (with_reducible first | exact HB.out | apply below_alloc | apply pw_below_drewN | apply below_drew1) | exact HB.out))) : w.heap.size ≤ gb240)); clear HB; have HB := n0_; have BK240 := n1_; have GW240 := n2_; have GE240 := n3_; clear n0_ n1_ n2_ n3_; clear hb hbox hg) | ((with_reducible refine gate_dst (N := 3) rfl ?_); refine box_event ?hg (N := 3) ?hd (cs := #[.int .i64 a1_0, .int .u64 a1_1, .int .i64 a1_2]) (t := 140) ?hr ?_; (case hd => rfl); (case hg => rfl); (case hr => first | (go_simp; done) | (go_simp; rfl)); intro gb241 hg w16 hbox hb; have n0_ := Aside0.mk (blk_below (g := gb240) (o := .cells #[.int .i64 a0_0, .int .u64 a0_1, .int .i64 a0_2] 140 (0, 0)) (by (with_reducible repeat (first | refine blk_drewN ?_ _ | refine blk_drew ?_ | refine blk_alloc ?_ _)); exact BK240.out) hb); have n1_ := Aside0.mk (below_step (by repeat (first | (with_reducible first | exact HB.out | apply below_alloc | apply pw_below_drewN | apply below_drew1 | refine below_set ?_ GE240.out) | exact HB.out)) hb); have n2_ := Aside0.mk (hbox); have n3_ := Aside0.mk ((by rw [hg]; exact (below_size (by repeat (first | (with_reducible first | exact HB.out | apply below_alloc | apply pw_below_drewN | apply below_drew1 | refine below_set ?_ GE240.out) | exact HB.out))) : w.heap.size ≤ gb241)); have n4_ := Aside0.mk ((by rw [hg]; exact (below_size (by repeat (first | (with_reducible first | exact HB.out | apply below_alloc | apply pw_below_drewN | apply below_drew1 | refine below_set ?_ GE240.out) | exact HB.out))) : w.heap.size ≤ gb241)); have n5_ := Aside0.mk ((by rw [hg]; exact Nat.ne_of_lt (blk_lt (g := gb240) (o := .cells #[.int .i64 a0_0, .int .u64 a0_1, .int .i64 a0_2] 140 (0, 0)) (by (with_reducible repeat (first | refine blk_drewN ?_ _ | refine blk_drew ?_ | refine blk_alloc ?_ _)); exact BK240.out)) : gb240 ≠ gb241)); have n6_ := Aside0.mk ((by rw [hg]; exact Nat.ne_of_gt (blk_lt (g := gb240) (o := .cells #[.int .i64 a0_0, .int .u64 a0_1, .int .i64 a0_2] 140 (0, 0)) (by (with_reducible repeat (first | refine blk_drewN ?_ _ | refine blk_drew ?_ | refine blk_alloc ?_ _)); exact BK240.out)) : gb241 ≠ gb240)); clear BK240; clear HB; have BK240 := n0_; have HB := n1_; have BK241 := n2_; have GW241 := n3_; have GE241 := n4_; have NB240_241 := n5_; have NB241_240 := n6_; clear n0_ n1_ n2_ n3_ n4_ n5_ n6_; clear hb hbox hg; have hnb17 := NB240_241.out; have hnc17 := NB241_240.out; have hcz18_0 : w16.cell? ⟨gb240, 0, none⟩ = some (.int .i64 a0_0) := (blk_cell BK240.out 0).trans rfl; have hcz18_1 : w16.cell? ⟨gb240, 1, none⟩ = some (.int .u64 a0_1) := (blk_cell BK240.out 1).trans rfl; have hcz18_2 : w16.cell? ⟨gb240, 2, none⟩ = some (.int .i64 a0_2) := (blk_cell BK240.out 2).trans rfl; have hfz18_0 := blk_frozen BK240.out 0; have hfz18_1 := blk_frozen BK240.out 1; have hfz18_2 := blk_frozen BK240.out 2; have hcz19_0 : w16.cell? ⟨gb241, 0, none⟩ = some (.int .i64 a1_0) := (blk_cell BK241.out 0).trans rfl; have hcz19_1 : w16.cell? ⟨gb241, 1, none⟩ = some (.int .u64 a1_1) := (blk_cell BK241.out 1).trans rfl; have hcz19_2 : w16.cell? ⟨gb241, 2, none⟩ = some (.int .i64 a1_2) := (blk_cell BK241.out 2).trans rfl; have hfz19_0 := blk_frozen BK241.out 0; have hfz19_1 := blk_frozen BK241.out 1; have hfz19_2 := blk_frozen BK241.out 2))
      go_ret
      exact ⟨by first | rfl | (simp [errW_none, errW_some] <;> rfl) | (simp [*, errW_none, errW_some] <;> rfl), by repeat (first | (with_reducible first | exact HB.out | apply below_alloc | apply pw_below_drewN | apply below_drew1 | refine below_set ?_ GE240.out | refine below_set ?_ GE241.out) | exact HB.out)⟩
/-! ### marchlandref03_within: function 110 -/
def marchlandref03_within.f (a0 : Int) : Option (Bool) := if a0 ≥ (-576460752303423488) then (some (decide (a0 ≤ 576460752303423488))) else (some false)
set_option maxHeartbeats 8000000 in
set_option maxRecDepth 100000 in
theorem marchlandref03_within.calls (a0 : Int) (r : Bool) (w : World) (h : marchlandref03_within.f a0 = some r) :
    Calls Try.prog 110 #[.int .i64 a0] w fun e w' => e = .returned (.bool r) ∧ Drawn0 w w' := by
  have H : (if a0 ≥ (-576460752303423488) then (some (decide (a0 ≤ 576460752303423488))) else (some false)) = some r := h
  clear h
  by_cases c2 : a0 ≥ (-576460752303423488)
  · rw [if_pos c2] at H
    have c2b0 : decide ((-576460752303423488) ≤ a0) = true := decide_eq_true c2
    clear c2
    obtain rfl := Option.some.inj H
    go_enter Try.func110, Try.ntmps110
    go_wp2
    go_ret
    exact ⟨by first | rfl | (simp; done) | (simp [*]; done), by repeat (first | exact Drawn0.refl _ | apply Drawn0.step)⟩
  · rw [if_neg c2] at H
    have c2b0 : decide ((-576460752303423488) ≤ a0) = false := decide_eq_false c2
    clear c2
    obtain rfl := Option.some.inj H
    go_enter Try.func110, Try.ntmps110
    go_wp2
    go_ret
    exact ⟨by first | rfl | (simp; done) | (simp [*]; done), by repeat (first | exact Drawn0.refl _ | apply Drawn0.step)⟩
end Go.Proofs.Ytlcnckbmolefpaa.P
end
