/- Walks and laws of several statements of this seat, joined into one text; no condition. -/
import Derived.Test.YtgeldmhgbnamcaaProg
import Derived.Below
import Derived.Deep.Draws
import Derived.Deep.AppendLies
import Derived.Maps.AppendAt
import Derived.OwnWalk
import Derived.Laws.BytesArg
import Derived.Laws.MakeOwn
import Derived.Laws.OwnMore
import Derived.Deep.OwnRows
import Derived.Tactics
import Derived.Lib.ConvBytes
import Derived.Laws.Slices
import Derived.WalkKit
import Derived.KernelRfl
import Derived.RowKit3
import Derived.Deep.LoopGhost
import Derived.Deep.QuietTactic
import Derived.BigQuiet
import Derived.WideLaws
import Derived.Deep.DeepCutAuto
import Derived.Deep.CutBlock
import Derived.Deep.RegionHeld3
import Derived.Laws.Rows
import Derived.Lib.AppendStr
import Derived.ArgAppend
import Derived.Laws.IdiomCopy
import Derived.OrdersHeld
import Derived.Laws.BitsLemmas
import Derived.RowKit
import Derived.Laws.StructEq
import Derived.Lib.BufferMore
import Derived.IntWalk
import Derived.LoopTactic
import Derived.Deep.Slices
import Derived.SizedLaws
import Derived.OpenShut
import Derived.Test.YtgeldmhgbnamcaaYa0
import Derived.Test.YtgeldmhgbnamcaaYa1
import Derived.Test.YtgeldmhgbnamcaaYa2
import Derived.Test.YtgeldmhgbnamcaaYa5
import Derived.Test.YtgeldmhgbnamcaaYa6
section
/- BatchGreat: printed but for its loop (wip/hand/great.py). -/
namespace Go.Proofs.Ytgeldmhgbnamcaa.P
open Go.RowKit Go.Proofs.YtgeldmhgbnamcaaW.PrintWords Go.Proofs.YtgeldmhgbnamcaaW.PrintLast Go.Proofs.YtgeldmhgbnamcaaW.PrintMore
attribute [local go_sem] max2_int min2_int max_two min_two max_three min_three max_four min_four   -- for this text's walks alone
set_option linter.unusedVariables false
set_option linter.unusedSimpArgs false
/-! ### marchlandlaw03_BatchGreat: function 5 -/
def fixn (n : Int) : Int := if Int.tmod n 576460752303423489 = 0 then 1 else Int.tmod n 576460752303423489
mutual
def marchlandlaw03_BatchGreat.j1 : Nat → Int → Int → Int → Int → Option (Bool)
 | 0, _, _, _, _ => none
 | k + 1, x7, x8, x234000, x234001 => (some (([(⟨x7, x8, x234000⟩ : S40)] : List (S40)) : List (S40))).bind fun y234 => ((marchlandlaw03_To.f k y234).bind fun t240 => ((marchlandlaw03_To.f k (([(⟨x7, x8, x234001⟩ : S40)] : List (S40)))).bind fun t243 => ((batch_Merge.f k t240 t243).bind fun bt246 => (if (wrap64 (x234000 + x234001)) > 576460752303423488 then (marchlandlaw03_BatchGreat.j2 k x7 x8 y234 bt246.1 bt246.2 (wrap64 (x234000 + x234001)) true x234000 x234001) else (marchlandlaw03_BatchGreat.j2 k x7 x8 y234 bt246.1 bt246.2 (wrap64 (x234000 + x234001)) (decide ((wrap64 (x234000 + x234001)) < (-576460752303423488))) x234000 x234001)))))
def marchlandlaw03_BatchGreat.j2 : Nat → Int → Int → List (S40) → List (S50) → Int → Int → Bool → Int → Int → Option (Bool)
 | 0, _, _, _, _, _, _, _, _, _ => none
 | k + 1, x7, x8, x11, x13, x14, x15, x68, x234000, x234001 => if x68 = true then ((marchlandlaw03_told.f k).bind fun t250 => (if t250 = true then (if x14 = 10 then (some ((x13.length : Int) == 0)) else (some false)) else (some false))) else ((marchlandlaw03_told.f k).bind fun t251 => (if t251 = true then (if x14 = 0 then ((batch_Of.f k x13 x7 x8).bind fun t252 => (if t252 = x15 then (if (((x13.length : Int) == 0) == (x15 == 0)) = true then ((marchlandlaw03_To.f k x11).bind fun t253 => ((batch_Of.f k t253 x7 x8).bind fun t256 => (if t256 = x234000 then ((marchlandlaw03_To.f k x11).bind fun t257 => ((batch_Of.f k t257 x7 (IntKind.u64.wrap (x8 + 1))).bind fun t260 => (some (t260 == 0)))) else (some false)))) else (some false)) else (some false))) else (some false)) else (some false)))
end
def marchlandlaw03_BatchGreat.f (k : Nat) (a0 a1 a2_0 a2_1 : Int) : Option Bool := marchlandlaw03_BatchGreat.j1 k (wrap64 (Int.tmod (IntKind.u64.wrap (a0)) 64)) (Int.tmod a1 18446744073709551615) (fixn a2_0) (fixn a2_1)
theorem marchlandlaw03_BatchGreat.mono_l : ∀ k, (∀ y0 y1 y2 y3, LeO (marchlandlaw03_BatchGreat.j1 k y0 y1 y2 y3) (marchlandlaw03_BatchGreat.j1 (k + 1) y0 y1 y2 y3)) ∧ (∀ y0 y1 y2 y3 y4 y5 y6 y7 y8, LeO (marchlandlaw03_BatchGreat.j2 k y0 y1 y2 y3 y4 y5 y6 y7 y8) (marchlandlaw03_BatchGreat.j2 (k + 1) y0 y1 y2 y3 y4 y5 y6 y7 y8))
 | 0 => ⟨fun _ _ _ _ r h => by simp [marchlandlaw03_BatchGreat.j1] at h, fun _ _ _ _ _ _ _ _ _ r h => by simp [marchlandlaw03_BatchGreat.j2] at h⟩
 | k + 1 => by
  obtain ⟨ih1, ih2⟩ := marchlandlaw03_BatchGreat.mono_l k
  refine ⟨?_, ?_⟩
  ·intro y0 y1 y2 y3
   unfold marchlandlaw03_BatchGreat.j1
   repeat' first
   | (with_reducible exact ih1 _ _ _ _)
   | (with_reducible exact ih2 _ _ _ _ _ _ _ _ _)
   | (with_reducible exact batch_Merge.mono _ _ _)
   | (with_reducible exact batch_Of.mono _ _ _ _)
   | (with_reducible exact marchlandlaw03_To.mono _ _)
   | (with_reducible exact marchlandlaw03_told.mono _)
   | (with_reducible exact LeO.refl _)
   | (with_reducible exact LeO.none _)
   | (with_reducible refine LeO.ite ?_ ?_)
   | (with_reducible refine LeO.bind ?_ (fun _ => ?_))
   | exact ih1 _ _ _ _
   | exact ih2 _ _ _ _ _ _ _ _ _
   | exact batch_Merge.mono _ _ _
   | exact batch_Of.mono _ _ _ _
   | exact marchlandlaw03_To.mono _ _
   | exact marchlandlaw03_told.mono _
   | exact LeO.none _
   | refine LeO.ite ?_ ?_
   | refine LeO.bind ?_ (fun _ => ?_)
  ·intro y0 y1 y2 y3 y4 y5 y6 y7 y8
   unfold marchlandlaw03_BatchGreat.j2
   repeat' first
   | (with_reducible exact ih1 _ _ _ _)
   | (with_reducible exact ih2 _ _ _ _ _ _ _ _ _)
   | (with_reducible exact batch_Merge.mono _ _ _)
   | (with_reducible exact batch_Of.mono _ _ _ _)
   | (with_reducible exact marchlandlaw03_To.mono _ _)
   | (with_reducible exact marchlandlaw03_told.mono _)
   | (with_reducible exact LeO.refl _)
   | (with_reducible exact LeO.none _)
   | (with_reducible refine LeO.ite ?_ ?_)
   | (with_reducible refine LeO.bind ?_ (fun _ => ?_))
   | exact ih1 _ _ _ _
   | exact ih2 _ _ _ _ _ _ _ _ _
   | exact batch_Merge.mono _ _ _
   | exact batch_Of.mono _ _ _ _
   | exact marchlandlaw03_To.mono _ _
   | exact marchlandlaw03_told.mono _
   | exact LeO.none _
   | refine LeO.ite ?_ ?_
   | refine LeO.bind ?_ (fun _ => ?_)
theorem marchlandlaw03_BatchGreat.mono : ∀ a0 a1 a2 a3 k, LeO (marchlandlaw03_BatchGreat.f k a0 a1 a2 a3) (marchlandlaw03_BatchGreat.f (k + 1) a0 a1 a2 a3) := fun _ _ _ _ k => (marchlandlaw03_BatchGreat.mono_l k).1 _ _ _ _
def marchlandlaw03_BatchGreat.T10 : Bool × List (List Nat × List Nat) := (true, [([], []), ([], []), ([], []), ([2], [2]), ([0, 1, 3], [0, 1, 3]), ([4], [4]), ([], []), ([], []), ([], []), ([8], [8]), ([6, 7, 9], [6, 7, 9]), ([10], [10]), ([5, 0, 1, 2, 3, 4, 5], [5]), ([11, 12, 0, 1, 2, 3, 4, 5, 6, 7, 8, 9, 10, 11, 12], [11])])
def marchlandlaw03_BatchGreat.B10 : List Nat := [0, 0, 0, 4, 15, 31, 0, 0, 0, 256, 960, 1984, 63, 8191]
theorem marchlandlaw03_BatchGreat.tab10 : rtab .any (opsOf Try.f5 10) = marchlandlaw03_BatchGreat.T10 := by kernel_rfl
theorem marchlandlaw03_BatchGreat.bits10 : waitsOk marchlandlaw03_BatchGreat.T10.2 marchlandlaw03_BatchGreat.B10 = true := by kernel_rfl
def marchlandlaw03_BatchGreat.T15 : Bool × List (List Nat × List Nat) := (true, [([], []), ([0, 0], [0]), ([1], [1]), ([2, 1], [1, 2]), ([1, 3], [1, 3]), ([4, 1], [4]), ([5], [5]), ([5], [5]), ([5], [5]), ([6, 7, 8, 5, 5], [5, 6, 7, 8]), ([5], [5]), ([9, 10, 5], [5, 9, 10]), ([5, 11], [5, 11]), ([12, 9], [12]), ([13], [13]), ([14, 13], [13, 14]), ([15, 13], [13, 15]), ([13], [13]), ([17, 13], [13, 17]), ([16, 18, 13], [13, 16, 18]), ([13, 19], [13, 19]), ([20, 13], [20]), ([21], [21]), ([22, 21, 21], [21, 22]), ([21], [21]), ([21], [21]), ([23, 24, 25, 23, 21], [21, 23, 24, 25]), ([21], [21]), ([27, 21], [21, 27]), ([26, 28, 21], [21, 26, 28]), ([21, 29], [21, 29]), ([30, 26], [30]), ([31], [31]), ([32, 31, 31], [31, 32]), ([31], [31]), ([31], [31]), ([35, 31], [31, 35]), ([33, 34, 36, 33, 31], [31, 33, 34, 36]), ([37, 31], [31, 37]), ([31, 38], [31, 38]), ([39, 37, 0, 1, 2, 3, 4, 5, 6, 7, 8, 9, 10, 11, 12, 13, 14, 15, 16, 17, 18, 19, 20, 21, 22, 23, 24, 25, 26, 27, 28, 29, 30, 31, 32, 33, 34, 35, 36, 37, 38, 39], [39])])
def marchlandlaw03_BatchGreat.B15 : List Nat := [0, 1, 3, 7, 15, 31, 63, 63, 63, 511, 63, 2047, 4095, 8191, 16383, 32767, 65535, 16383, 147455, 524287, 1048575, 2097151, 4194303, 8388607, 4194303, 4194303, 67108863, 4194303, 138412031, 536870911, 1073741823, 2147483647, 4294967295, 8589934591, 4294967295, 4294967295, 38654705663, 137438953471, 274877906943, 549755813887, 1099511627775]
theorem marchlandlaw03_BatchGreat.tab15 : rtab .any (opsOf Try.f5 15) = marchlandlaw03_BatchGreat.T15 := by kernel_rfl
theorem marchlandlaw03_BatchGreat.bits15 : waitsOk marchlandlaw03_BatchGreat.T15.2 marchlandlaw03_BatchGreat.B15 = true := by kernel_rfl
set_option maxHeartbeats 8000000 in
set_option maxRecDepth 100000 in
theorem marchlandlaw03_BatchGreat.calls (k : Nat) (a0 : Int) (a1 : Int) (a2_0 : Int) (a2_1 : Int) (r : Bool) (w : World) (h : marchlandlaw03_BatchGreat.f k a0 a1 a2_0 a2_1 = some r) :
  Calls Try.prog 5 #[.int .i64 a0, .int .u64 a1, .agg #[.int .i64 a2_0, .int .i64 a2_1]] w fun e w' => e = .returned (.bool r) ∧ Below w.heap.size w w' := by
 have hu42 := Try.underlying42
 have hu40 := Try.underlying40
 have HB := Aside0.mk (Below.refl w.heap.size w)
 have H : (marchlandlaw03_BatchGreat.j1 k (wrap64 (Int.tmod (IntKind.u64.wrap (a0)) 64)) (Int.tmod a1 18446744073709551615) (fixn a2_0) (fixn a2_1)) = some r := h
 clear h
 have HC4 := Aside0.mk H
 clear H
 go_enter Try.func5, Try.ntmps5
 go_wp2_with (first | ((with_reducible refine gate_dst (N := 5) rfl ?_); (try (refine gate_guard (by rfl) ?_; dsimp only)); refine box_event ?hg (N := 5) ?hd (cs := #[.int .i64 a2_0, .int .i64 a2_1]) (t := 42) ?hr ?_; (case hd => rfl); (case hg => rfl); (case hr => first | (go_simp; done) | (go_simp; rfl)); intro gb232 hg w5 hbox hb; have n0_ := Aside0.mk (below_step (by repeat (first | (with_reducible first | exact HB.out | apply below_alloc | apply pw_below_drewN | apply below_drew1) | exact HB.out)) hb); have n1_ := Aside0.mk (hbox); have n2_ := Aside0.mk ((by rw [hg]; exact (below_size (by repeat (first | (with_reducible first | exact HB.out | apply below_alloc | apply pw_below_drewN | apply below_drew1) | exact HB.out))) : w.heap.size ≤ gb232)); have n3_ := Aside0.mk ((by rw [hg]; exact (below_size (by repeat (first | (with_reducible first | exact HB.out | apply below_alloc | apply pw_below_drewN | apply below_drew1) | exact HB.out))) : w.heap.size ≤ gb232)); clear HB; have HB := n0_; have BK232 := n1_; have GW232 := n2_; have GE232 := n3_; clear n0_ n1_ n2_ n3_; clear hb hbox hg) | ((with_reducible refine gate_dst (N := 9) rfl ?_); (try (refine gate_guard (by rfl) ?_; dsimp only)); refine box_event ?hg (N := 9) ?hd (cs := #[.int .i64 0, .int .i64 0]) (t := 42) ?hr ?_; (case hd => rfl); (case hg => rfl); (case hr => first | (go_simp; done) | (go_simp; rfl)); intro gb233 hg w6 hbox hb; have n0_ := Aside0.mk (blk_below (g := gb232) (o := .cells #[.int .i64 a2_0, .int .i64 a2_1] 42 (0, 0)) (by (with_reducible repeat (first | refine blk_drewN ?_ _ | refine blk_drew ?_ | refine blk_alloc ?_ _)); exact BK232.out) hb); have n1_ := Aside0.mk (below_step (by repeat (first | (with_reducible first | exact HB.out | apply below_alloc | apply pw_below_drewN | apply below_drew1 | refine below_set ?_ GE232.out) | exact HB.out)) hb); have n2_ := Aside0.mk (hbox); have n3_ := Aside0.mk ((by rw [hg]; exact (below_size (by repeat (first | (with_reducible first | exact HB.out | apply below_alloc | apply pw_below_drewN | apply below_drew1 | refine below_set ?_ GE232.out) | exact HB.out))) : w.heap.size ≤ gb233)); have n4_ := Aside0.mk ((by rw [hg]; exact (below_size (by repeat (first | (with_reducible first | exact HB.out | apply below_alloc | apply pw_below_drewN | apply below_drew1 | refine below_set ?_ GE232.out) | exact HB.out))) : w.heap.size ≤ gb233)); have n5_ := Aside0.mk ((by rw [hg]; exact Nat.ne_of_lt (blk_lt (g := gb232) (o := .cells #[.int .i64 a2_0, .int .i64 a2_1] 42 (0, 0)) (by (with_reducible repeat (first | refine blk_drewN ?_ _ | refine blk_drew ?_ | refine blk_alloc ?_ _)); exact BK232.out)) : gb232 ≠ gb233)); have n6_ := Aside0.mk ((by rw [hg]; exact Nat.ne_of_gt (blk_lt (g := gb232) (o := .cells #[.int .i64 a2_0, .int .i64 a2_1] 42 (0, 0)) (by (with_reducible repeat (first | refine blk_drewN ?_ _ | refine blk_drew ?_ | refine blk_alloc ?_ _)); exact BK232.out)) : gb233 ≠ gb232)); clear BK232; clear HB; have BK232 := n0_; have HB := n1_; have BK233 := n2_; have GW233 := n3_; have GE233 := n4_; have NB232_233 := n5_; have NB233_232 := n6_; clear n0_ n1_ n2_ n3_ n4_ n5_ n6_; clear hb hbox hg; have hnb7 := NB232_233.out; have hnc7 := NB233_232.out; have hcz8_0 : w6.cell? ⟨gb232, 0, none⟩ = some (.int .i64 a2_0) := (blk_cell BK232.out 0).trans rfl; have hcz8_1 : w6.cell? ⟨gb232, 1, none⟩ = some (.int .i64 a2_1) := (blk_cell BK232.out 1).trans rfl; have hfz8_0 := blk_frozen BK232.out 0; have hfz8_1 := blk_frozen BK232.out 1; have hcz9_0 : w6.cell? ⟨gb233, 0, none⟩ = some (.int .i64 0) := (blk_cell BK233.out 0).trans rfl; have hcz9_1 : w6.cell? ⟨gb233, 1, none⟩ = some (.int .i64 0) := (blk_cell BK233.out 1).trans rfl; have hfz9_0 := blk_frozen BK233.out 0; have hfz9_1 := blk_frozen BK233.out 1))
 go_loopw [10] (fun v10 wr => ∃ (i : Int) (y0 y1 : Int), v10 = .int .i64 i ∧ Aside0 (0 ≤ i ∧ i ≤ 2 ∧ y0 = (if 1 ≤ i then fixn a2_0 else 0) ∧ y1 = (if 2 ≤ i then fixn a2_1 else 0)) ∧ Aside0 (wr.heap[gb232]? = some (.cells #[.int .i64 a2_0, .int .i64 a2_1] 42 (0, 0))) ∧ Aside0 (wr.heap[gb233]? = some (.cells #[.int .i64 y0, .int .i64 y1] 42 (0, 0))) ∧ Aside0 (Below w.heap.size w wr)) (fun v10 _ => (2 - intOf v10).toNat)
 case atStart => exact ⟨0, 0, 0, rfl, ⟨by omega, by omega, by simp, by simp⟩, ⟨by (with_reducible repeat (first | refine blk_drewN ?_ _ | refine blk_drew ?_ | refine blk_alloc ?_ _)); (with_reducible repeat (first | refine blk_far ?_ NB232_233.out _ | refine blk_drewN ?_ _ | refine blk_drew ?_ | refine blk_alloc ?_ _)); exact BK232.out⟩, ⟨by (with_reducible repeat (first | refine blk_drewN ?_ _ | refine blk_drew ?_ | refine blk_alloc ?_ _)); exact BK233.out⟩, ⟨by repeat (first | (with_reducible first | exact HB.out | apply below_alloc | apply pw_below_drewN | apply below_drew1 | refine below_set ?_ GE232.out | refine below_set ?_ GE233.out) | exact HB.out)⟩⟩
 case round =>
  obtain ⟨i, y0, y1, rfl, HI, BK232, BK233, HB⟩ := hrel
  obtain ⟨wc, rfl⟩ : ∃ wo : World, wo = wr := ⟨_, rfl⟩
  have i0 := HI.out.1
  have i1 := HI.out.2.1
  by_cases e0 : i = 0
  ·subst e0
   obtain ⟨rfl, rfl⟩ : y0 = 0 ∧ y1 = 0 := by have := HI.out; refine ⟨this.2.2.1.trans (by simp), this.2.2.2.trans (by simp)⟩
   have hnb14 := NB232_233.out
   have hnc14 := NB233_232.out
   have hc232_0 : wc.cell? ⟨gb232, 0, none⟩ = some (.int .i64 a2_0) := (blk_cell BK232.out 0).trans rfl
   have hf232_0 := blk_frozen BK232.out 0
   have hc232_1 : wc.cell? ⟨gb232, 1, none⟩ = some (.int .i64 a2_1) := (blk_cell BK232.out 1).trans rfl
   have hf232_1 := blk_frozen BK232.out 1
   have hc233_0 : wc.cell? ⟨gb233, 0, none⟩ = some (.int .i64 0) := (blk_cell BK233.out 0).trans rfl
   have hf233_0 := blk_frozen BK233.out 0
   have hc233_1 : wc.cell? ⟨gb233, 1, none⟩ = some (.int .i64 0) := (blk_cell BK233.out 1).trans rfl
   have hf233_1 := blk_frozen BK233.out 1
   have ha : Try.prog.underlying 42 = Try.prog.underlying 42 := rfl
   go_upto_if 35 with (fail)
   by_cases c : (Int.tmod a2_0 576460752303423489) = 0
   ·have cb : ((Int.tmod a2_0 576460752303423489) == 0) = true := beq_iff_eq.mpr c
    have ef : fixn a2_0 = 1 := by unfold fixn; rw [if_pos c]
    clear c
    (first | rw [cb] | (simp only [i64_w, i32_w]; rw [cb]) | skip)
    go_wp2
    go_roundw
    case rel => exact ⟨1, fixn a2_0, 0, by go_num, ⟨by omega, by omega, by simp, by simp⟩, ⟨by (with_reducible repeat (first | refine blk_drewN ?_ _ | refine blk_drew ?_ | refine blk_alloc ?_ _)); (with_reducible repeat (first | refine blk_far ?_ NB232_233.out _ | refine blk_drewN ?_ _ | refine blk_drew ?_ | refine blk_alloc ?_ _)); exact BK232.out⟩, ⟨by rw [ef]; exact (by (with_reducible repeat (first | refine blk_drewN ?_ _ | refine blk_drew ?_ | refine blk_alloc ?_ _)); refine blk_put (cs := #[.int .i64 (Int.tmod a2_0 576460752303423489), .int .i64 0]) ?_ 0 _ rfl; (with_reducible repeat (first | refine blk_drewN ?_ _ | refine blk_drew ?_ | refine blk_alloc ?_ _)); refine blk_put (cs := #[.int .i64 0, .int .i64 0]) ?_ 0 _ rfl; (with_reducible repeat (first | refine blk_drewN ?_ _ | refine blk_drew ?_ | refine blk_alloc ?_ _)); exact BK233.out)⟩, ⟨by repeat (first | (with_reducible first | exact HB.out | apply below_alloc | apply pw_below_drewN | apply below_drew1 | refine below_set ?_ GE232.out | refine below_set ?_ GE233.out) | exact HB.out)⟩⟩
    case measure => simp [intOf]
   ·have cb : ((Int.tmod a2_0 576460752303423489) == 0) = false := beq_eq_false_iff_ne.mpr c
    have ef : fixn a2_0 = (Int.tmod a2_0 576460752303423489) := by unfold fixn; rw [if_neg c]
    clear c
    (first | rw [cb] | (simp only [i64_w, i32_w]; rw [cb]) | skip)
    go_wp2
    go_roundw
    case rel => exact ⟨1, fixn a2_0, 0, by go_num, ⟨by omega, by omega, by simp, by simp⟩, ⟨by (with_reducible repeat (first | refine blk_drewN ?_ _ | refine blk_drew ?_ | refine blk_alloc ?_ _)); (with_reducible repeat (first | refine blk_far ?_ NB232_233.out _ | refine blk_drewN ?_ _ | refine blk_drew ?_ | refine blk_alloc ?_ _)); exact BK232.out⟩, ⟨by rw [ef]; exact (by (with_reducible repeat (first | refine blk_drewN ?_ _ | refine blk_drew ?_ | refine blk_alloc ?_ _)); refine blk_put (cs := #[.int .i64 0, .int .i64 0]) ?_ 0 _ rfl; (with_reducible repeat (first | refine blk_drewN ?_ _ | refine blk_drew ?_ | refine blk_alloc ?_ _)); exact BK233.out)⟩, ⟨by repeat (first | (with_reducible first | exact HB.out | apply below_alloc | apply pw_below_drewN | apply below_drew1 | refine below_set ?_ GE232.out | refine below_set ?_ GE233.out) | exact HB.out)⟩⟩
    case measure => simp [intOf]
  by_cases e1 : i = 1
  ·subst e1
   obtain ⟨rfl, rfl⟩ : y0 = (fixn a2_0) ∧ y1 = 0 := by have := HI.out; refine ⟨this.2.2.1.trans (by simp), this.2.2.2.trans (by simp)⟩
   have hnb14 := NB232_233.out
   have hnc14 := NB233_232.out
   have hc232_0 : wc.cell? ⟨gb232, 0, none⟩ = some (.int .i64 a2_0) := (blk_cell BK232.out 0).trans rfl
   have hf232_0 := blk_frozen BK232.out 0
   have hc232_1 : wc.cell? ⟨gb232, 1, none⟩ = some (.int .i64 a2_1) := (blk_cell BK232.out 1).trans rfl
   have hf232_1 := blk_frozen BK232.out 1
   have hc233_0 : wc.cell? ⟨gb233, 0, none⟩ = some (.int .i64 (fixn a2_0)) := (blk_cell BK233.out 0).trans rfl
   have hf233_0 := blk_frozen BK233.out 0
   have hc233_1 : wc.cell? ⟨gb233, 1, none⟩ = some (.int .i64 0) := (blk_cell BK233.out 1).trans rfl
   have hf233_1 := blk_frozen BK233.out 1
   have ha : Try.prog.underlying 42 = Try.prog.underlying 42 := rfl
   go_upto_if 35 with (fail)
   by_cases c : (Int.tmod a2_1 576460752303423489) = 0
   ·have cb : ((Int.tmod a2_1 576460752303423489) == 0) = true := beq_iff_eq.mpr c
    have ef : fixn a2_1 = 1 := by unfold fixn; rw [if_pos c]
    clear c
    (first | rw [cb] | (simp only [i64_w, i32_w]; rw [cb]) | skip)
    go_wp2
    go_roundw
    case rel => exact ⟨2, fixn a2_0, fixn a2_1, by go_num, ⟨by omega, by omega, by simp, by simp⟩, ⟨by (with_reducible repeat (first | refine blk_drewN ?_ _ | refine blk_drew ?_ | refine blk_alloc ?_ _)); (with_reducible repeat (first | refine blk_far ?_ NB232_233.out _ | refine blk_drewN ?_ _ | refine blk_drew ?_ | refine blk_alloc ?_ _)); exact BK232.out⟩, ⟨by rw [ef]; exact (by (with_reducible repeat (first | refine blk_drewN ?_ _ | refine blk_drew ?_ | refine blk_alloc ?_ _)); refine blk_put (cs := #[.int .i64 (fixn a2_0), .int .i64 (Int.tmod a2_1 576460752303423489)]) ?_ 1 _ rfl; (with_reducible repeat (first | refine blk_drewN ?_ _ | refine blk_drew ?_ | refine blk_alloc ?_ _)); refine blk_put (cs := #[.int .i64 (fixn a2_0), .int .i64 0]) ?_ 1 _ rfl; (with_reducible repeat (first | refine blk_drewN ?_ _ | refine blk_drew ?_ | refine blk_alloc ?_ _)); exact BK233.out)⟩, ⟨by repeat (first | (with_reducible first | exact HB.out | apply below_alloc | apply pw_below_drewN | apply below_drew1 | refine below_set ?_ GE232.out | refine below_set ?_ GE233.out) | exact HB.out)⟩⟩
    case measure => simp [intOf]
   ·have cb : ((Int.tmod a2_1 576460752303423489) == 0) = false := beq_eq_false_iff_ne.mpr c
    have ef : fixn a2_1 = (Int.tmod a2_1 576460752303423489) := by unfold fixn; rw [if_neg c]
    clear c
    (first | rw [cb] | (simp only [i64_w, i32_w]; rw [cb]) | skip)
    go_wp2
    go_roundw
    case rel => exact ⟨2, fixn a2_0, fixn a2_1, by go_num, ⟨by omega, by omega, by simp, by simp⟩, ⟨by (with_reducible repeat (first | refine blk_drewN ?_ _ | refine blk_drew ?_ | refine blk_alloc ?_ _)); (with_reducible repeat (first | refine blk_far ?_ NB232_233.out _ | refine blk_drewN ?_ _ | refine blk_drew ?_ | refine blk_alloc ?_ _)); exact BK232.out⟩, ⟨by rw [ef]; exact (by (with_reducible repeat (first | refine blk_drewN ?_ _ | refine blk_drew ?_ | refine blk_alloc ?_ _)); refine blk_put (cs := #[.int .i64 (fixn a2_0), .int .i64 0]) ?_ 1 _ rfl; (with_reducible repeat (first | refine blk_drewN ?_ _ | refine blk_drew ?_ | refine blk_alloc ?_ _)); exact BK233.out)⟩, ⟨by repeat (first | (with_reducible first | exact HB.out | apply below_alloc | apply pw_below_drewN | apply below_drew1 | refine below_set ?_ GE232.out | refine below_set ?_ GE233.out) | exact HB.out)⟩⟩
    case measure => simp [intOf]
  obtain rfl : i = 2 := by omega
  obtain ⟨e0, e1⟩ : fixn a2_0 = y0 ∧ fixn a2_1 = y1 := by have := HI.out; exact ⟨(this.2.2.1.trans (by simp)).symm, (this.2.2.2.trans (by simp)).symm⟩
  go_wp2
  have HA := HC4
  clear HC4
  rw [e0, e1] at HA
  have HJ12 : Aside0 (k ≤ k) := ⟨Nat.le_refl _⟩
  cases k with
  | zero => exact absurd HA.out (by simp [marchlandlaw03_BatchGreat.j1])
  | succ kj12 =>
   have H := HA.out
   clear HA
   simp only [marchlandlaw03_BatchGreat.j1] at H
   obtain ⟨y234, hy234⟩ : ∃ y_ : List (S40), y_ = (([(⟨(wrap64 (Int.tmod (IntKind.u64.wrap (a0)) 64)), (Int.tmod a1 18446744073709551615), y0⟩ : S40)] : List (S40))) := ⟨_, rfl⟩
   replace H : ((marchlandlaw03_To.f kj12 y234).bind fun t240 => ((marchlandlaw03_To.f kj12 (([(⟨(wrap64 (Int.tmod (IntKind.u64.wrap (a0)) 64)), (Int.tmod a1 18446744073709551615), y1⟩ : S40)] : List (S40)))).bind fun t243 => ((batch_Merge.f kj12 t240 t243).bind fun bt246 => (if (wrap64 (y0 + y1)) > 576460752303423488 then (marchlandlaw03_BatchGreat.j2 kj12 (wrap64 (Int.tmod (IntKind.u64.wrap (a0)) 64)) (Int.tmod a1 18446744073709551615) y234 bt246.1 bt246.2 (wrap64 (y0 + y1)) true y0 y1) else (marchlandlaw03_BatchGreat.j2 kj12 (wrap64 (Int.tmod (IntKind.u64.wrap (a0)) 64)) (Int.tmod a1 18446744073709551615) y234 bt246.1 bt246.2 (wrap64 (y0 + y1)) (decide ((wrap64 (y0 + y1)) < (-576460752303423488))) y0 y1))))) = some r := by first | (rw [hy234]; with_reducible exact H) | (have H2_ := (Option.bind_some _ _).symm.trans H; rw [hy234]; with_reducible exact H2_) | (have H2_ := (Option.bind_some _ _).symm.trans H; with_reducible exact H2_) | with_reducible exact H | (rw [hy234]; exact H) | exact H
   have Ny234 := Aside0.mk hy234
   clear hy234
   obtain ⟨y237, hy237⟩ : ∃ y_ : List (S40), y_ = (([(⟨(wrap64 (Int.tmod (IntKind.u64.wrap (a0)) 64)), (Int.tmod a1 18446744073709551615), y1⟩ : S40)] : List (S40))) := ⟨_, rfl⟩
   replace H : ((marchlandlaw03_To.f kj12 y234).bind fun t240 => ((marchlandlaw03_To.f kj12 y237).bind fun t243 => ((batch_Merge.f kj12 t240 t243).bind fun bt246 => (if (wrap64 (y0 + y1)) > 576460752303423488 then (marchlandlaw03_BatchGreat.j2 kj12 (wrap64 (Int.tmod (IntKind.u64.wrap (a0)) 64)) (Int.tmod a1 18446744073709551615) y234 bt246.1 bt246.2 (wrap64 (y0 + y1)) true y0 y1) else (marchlandlaw03_BatchGreat.j2 kj12 (wrap64 (Int.tmod (IntKind.u64.wrap (a0)) 64)) (Int.tmod a1 18446744073709551615) y234 bt246.1 bt246.2 (wrap64 (y0 + y1)) (decide ((wrap64 (y0 + y1)) < (-576460752303423488))) y0 y1))))) = some r := by first | (rw [hy237]; with_reducible exact H) | (have H2_ := (Option.bind_some _ _).symm.trans H; rw [hy237]; with_reducible exact H2_) | (have H2_ := (Option.bind_some _ _).symm.trans H; with_reducible exact H2_) | with_reducible exact H | (rw [hy237]; exact H) | exact H
   have Ny237 := Aside0.mk hy237
   clear hy237
   replace H := Option.bind_eq_some_iff.mp H
   obtain ⟨t240, A200, H⟩ := H
   replace H : ((marchlandlaw03_To.f kj12 y237).bind fun t243 => ((batch_Merge.f kj12 t240 t243).bind fun bt246 => (if (wrap64 (y0 + y1)) > 576460752303423488 then (marchlandlaw03_BatchGreat.j2 kj12 (wrap64 (Int.tmod (IntKind.u64.wrap (a0)) 64)) (Int.tmod a1 18446744073709551615) y234 bt246.1 bt246.2 (wrap64 (y0 + y1)) true y0 y1) else (marchlandlaw03_BatchGreat.j2 kj12 (wrap64 (Int.tmod (IntKind.u64.wrap (a0)) 64)) (Int.tmod a1 18446744073709551615) y234 bt246.1 bt246.2 (wrap64 (y0 + y1)) (decide ((wrap64 (y0 + y1)) < (-576460752303423488))) y0 y1)))) = some r := H
   have A20 := Aside0.mk A200
   clear A200
   replace H := Option.bind_eq_some_iff.mp H
   obtain ⟨t243, A210, H⟩ := H
   replace H : ((batch_Merge.f kj12 t240 t243).bind fun bt246 => (if (wrap64 (y0 + y1)) > 576460752303423488 then (marchlandlaw03_BatchGreat.j2 kj12 (wrap64 (Int.tmod (IntKind.u64.wrap (a0)) 64)) (Int.tmod a1 18446744073709551615) y234 bt246.1 bt246.2 (wrap64 (y0 + y1)) true y0 y1) else (marchlandlaw03_BatchGreat.j2 kj12 (wrap64 (Int.tmod (IntKind.u64.wrap (a0)) 64)) (Int.tmod a1 18446744073709551615) y234 bt246.1 bt246.2 (wrap64 (y0 + y1)) (decide ((wrap64 (y0 + y1)) < (-576460752303423488))) y0 y1))) = some r := H
   have A21 := Aside0.mk A210
   clear A210
   replace H := Option.bind_eq_some_iff.mp H
   obtain ⟨⟨t246, t249⟩, A220, H⟩ := H
   replace H : (if (wrap64 (y0 + y1)) > 576460752303423488 then (marchlandlaw03_BatchGreat.j2 kj12 (wrap64 (Int.tmod (IntKind.u64.wrap (a0)) 64)) (Int.tmod a1 18446744073709551615) y234 t246 t249 (wrap64 (y0 + y1)) true y0 y1) else (marchlandlaw03_BatchGreat.j2 kj12 (wrap64 (Int.tmod (IntKind.u64.wrap (a0)) 64)) (Int.tmod a1 18446744073709551615) y234 t246 t249 (wrap64 (y0 + y1)) (decide ((wrap64 (y0 + y1)) < (-576460752303423488))) y0 y1)) = some r := H
   have A22 := Aside0.mk A220
   clear A220
   have HC23 := Aside0.mk H
   clear H
   try go_wp2
   have n0_ := Aside0.mk (blk_drew BK232.out)
   have n1_ := Aside0.mk (blk_drew BK233.out)
   have n2_ := Aside0.mk (below_drew1 HB.out)
   clear BK232
   clear BK233
   clear HB
   have BK232 := n0_
   have BK233 := n1_
   have HB := n2_
   clear n0_ n1_ n2_
   refine start_ (n := 14) (S := fun w' => True) (ds := []) (mk_ 0 14) (by kernel_rfl) rfl rfl trivial (fun hHeld => ?_); refine with_tabW marchlandlaw03_BatchGreat.tab10 marchlandlaw03_BatchGreat.bits10 (fun HT_ HW_ => ?_)
   generalize wc.drew = w24 at BK232 BK233 HB hHeld ⊢
   refine pv_ 0 38 (mk_ 1 13) HT_ ?_
   refine pv_ 1 39 (mk_ 2 12) HT_ ?_
   refine pv_ 2 40 (mk_ 3 11) HT_ ?_
   refine pv_ 6 44 #[true, true, true, false, false, false, true, false, false, false, false, false, false, false] HT_ ?_
   refine pv_ 7 45 #[true, true, true, false, false, false, true, true, false, false, false, false, false, false] HT_ ?_
   refine pv_ 8 46 #[true, true, true, false, false, false, true, true, true, false, false, false, false, false] HT_ ?_
   refine inv_at [3, 4, 5, 9, 10, 11, 12, 13] (fun a0_ b a w' => ∃ (v235 : Value) (v238 : Value) (m12_ : Value) (m13_ : Value), a = putSel a0_ b [(3, 41, .int .i64 y0), (4, 42, .agg #[.int .i64 (wrap64 (Int.tmod (IntKind.u64.wrap (a0)) 64)), .int .u64 (Int.tmod a1 18446744073709551615), .int .i64 y0]), (5, 43, v235), (9, 47, .int .i64 y1), (10, 48, .agg #[.int .i64 (wrap64 (Int.tmod (IntKind.u64.wrap (a0)) 64)), .int .u64 (Int.tmod a1 18446744073709551615), .int .i64 y1]), (11, 49, v238), (12, 11, m12_), (13, 12, m13_)] ∧ (w'.heap[gb232]? = some (.cells #[.int .i64 a2_0, .int .i64 a2_1] 42 (0, 0))) ∧ (w'.heap[gb233]? = some (.cells #[.int .i64 y0, .int .i64 y1] 42 (0, 0))) ∧ (Below w.heap.size w w') ∧ (b 5 = true → Kd.R k40 40 w' w.heap.size (fun _ => True) v235 y234) ∧ (b 11 = true → Kd.R k40 40 w' w.heap.size (fun _ => True) v238 y237) ∧ (b 12 = true → (m12_ : Value) = v235) ∧ (b 13 = true → (m13_ : Value) = v238)) HT_.out HW_.out (by kernel_rfl) (by kernel_rfl) ?_ ?_ ?_
   ·exact ⟨.bool false, .bool false, .bool false, .bool false, by simp only [putSel, Bool.false_eq_true, if_false], BK232.out, BK233.out, HB.out, fun h_ => absurd h_ (by decide), fun h_ => absurd h_ (by decide), fun h_ => absurd h_ (by decide), fun h_ => absurd h_ (by decide)⟩
   ·skip
    clear BK232 BK233 HB
    refine steps_cons ?_ ?_
    ·rintro b a w' ⟨v235, v238, m12_, m13_, ha, Q_BK232, Q_BK233, Q_HB, Q_HO236, Q_HO239, Q_X12_, Q_X13_⟩ hb_ hon hoff
     refine ⟨_, rfl, fun K hK => ?_⟩
     have e40 : a.tmps[40]? = some (.pointer (some ⟨gb233, 0, none⟩)) := by rw [ha]; exact (putSel_off rfl).trans rfl
     replace ha := Aside0.mk ha
     have BK232 := Aside0.mk Q_BK232
     have BK233 := Aside0.mk Q_BK233
     have HB := Aside0.mk Q_HB
     have hc0_ : w'.cell? ⟨gb233, 0, none⟩ = some (.int .i64 y0) := (blk_cell BK233.out 0).trans rfl
     have hc1_ : w'.cell? ⟨gb233, 1, none⟩ = some (.int .i64 y1) := (blk_cell BK233.out 1).trans rfl
     refine value_ (w1 := w') (v := .int .i64 y0) (by rfl) rfl ?_ ?_
     ·go_simp
      (try simp only [i64_w])
      try rfl
     refine hK.out _ _ ⟨v235, v238, m12_, m13_, (by rw [ha.out]; exact putSel_upk 0 hb_ rfl rfl rfl), Q_BK232, Q_BK233, Q_HB, fun h0_ => absurd ((hoff 5 (by kernel_rfl)).symm.trans h0_) (by decide), Q_HO239, fun h0_ => absurd ((hoff 12 (by kernel_rfl)).symm.trans h0_) (by decide), fun h0_ => absurd ((hoff 13 (by kernel_rfl)).symm.trans h0_) (by decide)⟩
    refine steps_cons ?_ ?_
    ·rintro b a w' ⟨v235, v238, m12_, m13_, ha, Q_BK232, Q_BK233, Q_HB, Q_HO236, Q_HO239, Q_X12_, Q_X13_⟩ hb_ hon hoff
     refine ⟨_, rfl, fun K hK => ?_⟩
     have e38 : a.tmps[38]? = some (.int .i64 (wrap64 (Int.tmod (IntKind.u64.wrap (a0)) 64))) := by rw [ha]; exact (putSel_off rfl).trans rfl
     have e39 : a.tmps[39]? = some (.int .u64 (Int.tmod a1 18446744073709551615)) := by rw [ha]; exact (putSel_off rfl).trans rfl
     have e41 : a.tmps[41]? = some (.int .i64 y0) := by rw [ha]; exact putSel_on (e := (3, 41, .int .i64 y0)) 0 rfl rfl (hon 3 (by kernel_rfl)) rfl
     replace ha := Aside0.mk ha
     have BK232 := Aside0.mk Q_BK232
     have BK233 := Aside0.mk Q_BK233
     have HB := Aside0.mk Q_HB
     refine value_ (w1 := w') (v := .agg #[.int .i64 (wrap64 (Int.tmod (IntKind.u64.wrap (a0)) 64)), .int .u64 (Int.tmod a1 18446744073709551615), .int .i64 y0]) (by rfl) rfl ?_ ?_
     ·go_simp
      (try simp only [i64_w])
      try rfl
     refine hK.out _ _ ⟨v235, v238, m12_, m13_, (by rw [ha.out]; exact putSel_upk 1 hb_ rfl rfl rfl), Q_BK232, Q_BK233, Q_HB, fun h0_ => absurd ((hoff 5 (by kernel_rfl)).symm.trans h0_) (by decide), Q_HO239, fun h0_ => absurd ((hoff 12 (by kernel_rfl)).symm.trans h0_) (by decide), fun h0_ => absurd ((hoff 13 (by kernel_rfl)).symm.trans h0_) (by decide)⟩
    refine steps_cons ?_ ?_
    ·rintro b a w' ⟨v235, v238, m12_, m13_, ha, Q_BK232, Q_BK233, Q_HB, Q_HO236, Q_HO239, Q_X12_, Q_X13_⟩ hb_ hon hoff
     refine ⟨_, rfl, fun K hK => ?_⟩
     have e42 : a.tmps[42]? = some (.agg #[.int .i64 (wrap64 (Int.tmod (IntKind.u64.wrap (a0)) 64)), .int .u64 (Int.tmod a1 18446744073709551615), .int .i64 y0]) := by rw [ha]; exact putSel_on (e := (4, 42, .agg #[.int .i64 (wrap64 (Int.tmod (IntKind.u64.wrap (a0)) 64)), .int .u64 (Int.tmod a1 18446744073709551615), .int .i64 y0])) 1 rfl rfl (hon 4 (by kernel_rfl)) rfl
     replace ha := Aside0.mk ha
     have BK232 := Aside0.mk Q_BK232
     have BK233 := Aside0.mk Q_BK233
     have HB := Aside0.mk Q_HB
     refine Kd.R_lit_step k40 _ 40 ?hg (N := 43) ?hd (xs := ([(⟨(wrap64 (Int.tmod (IntKind.u64.wrap (a0)) 64)), (Int.tmod a1 18446744073709551615), y0⟩ : S40)] : List (S40))) (inner := [.int .i64 (wrap64 (Int.tmod (IntKind.u64.wrap (a0)) 64)), .int .u64 (Int.tmod a1 18446744073709551615), .int .i64 y0]) (ok := fun _ => True) (okp := fun _ => True) ?hr ?hp (fun _ hk => hk) trivial (Below.refl _ _) (Nat.le_refl _) (by simp) ?_; (case hd => rfl); (case hg => rfl); (case hr => first | (go_simp; done) | (go_simp; rfl)); (case hp => exact (Reps.c3 (show Kd.M k40 _ _ _ (⟨(wrap64 (Int.tmod (IntKind.u64.wrap (a0)) 64)), (Int.tmod a1 18446744073709551615), y0⟩ : S40) [.int .i64 (wrap64 (Int.tmod (IntKind.u64.wrap (a0)) 64)), .int .u64 (Int.tmod a1 18446744073709551615), .int .i64 y0] from (k40_mkM _ _ _ (⟨(wrap64 (Int.tmod (IntKind.u64.wrap (a0)) 64)), (Int.tmod a1 18446744073709551615), y0⟩ : S40) )) (Reps.none _ _)))
     intro v235 w25 ho26 hb hg_ hnew_
     clear hg_ hnew_
     (first | rw [← Ny234.out] at ho26 | (simp only [Int.reduceToNat] at ho26; rw [← Ny234.out] at ho26))
     have n0_ := Aside0.mk (Kd.R_lower ho26 (below_size (by repeat (first | (with_reducible first | exact HB.out | apply below_alloc | apply pw_below_drewN | apply below_drew1 | refine below_set ?_ GE232.out | refine below_set ?_ GE233.out) | exact HB.out))))
     have n1_ := Aside0.mk (blk_below (g := gb232) (o := .cells #[.int .i64 a2_0, .int .i64 a2_1] 42 (0, 0)) (by (with_reducible repeat (first | refine blk_drewN ?_ _ | refine blk_drew ?_ | refine blk_alloc ?_ _)); exact BK232.out) hb)
     have n2_ := Aside0.mk (blk_below (g := gb233) (o := .cells #[.int .i64 y0, .int .i64 y1] 42 (0, 0)) (by (with_reducible repeat (first | refine blk_drewN ?_ _ | refine blk_drew ?_ | refine blk_alloc ?_ _)); exact BK233.out) hb)
     have n3_ := Aside0.mk (below_step (by repeat (first | (with_reducible first | exact HB.out | apply below_alloc | apply pw_below_drewN | apply below_drew1 | refine below_set ?_ GE232.out | refine below_set ?_ GE233.out) | exact HB.out)) hb)
     have z_HO239 := fun (h0_ : b 11 = true) => (show Kd.R k40 40 w25 w.heap.size (fun _ => True) v238 y237 from by first | exact (Kd.R_elder' (by (with_reducible repeat (first | apply Kd.R_alloc | apply Kd.R_drewN | apply Kd.R_drew)); exact (Q_HO239 h0_)) (Kd.R_base ho26) hb) | exact Kd.R_mono (Kd.R_elder' (by (with_reducible repeat (first | apply Kd.R_alloc | apply Kd.R_drewN | apply Kd.R_drew)); exact (Q_HO239 h0_)) (Kd.R_base ho26) hb) (fun _ h_ => by first | trivial | exact h_ | exact h_.1))
     clear BK232
     clear BK233
     clear HB
     have HO236 := n0_
     have BK232 := n1_
     have BK233 := n2_
     have HB := n3_
     clear n0_ n1_ n2_ n3_
     clear hb ho26
     refine hK.out _ _ ⟨v235, v238, m12_, m13_, (by rw [ha.out]; exact putSel_upk 2 hb_ rfl rfl rfl), (by (with_reducible repeat (first | refine blk_drewN ?_ _ | refine blk_drew ?_ | refine blk_alloc ?_ _)); exact BK232.out), (by (with_reducible repeat (first | refine blk_drewN ?_ _ | refine blk_drew ?_ | refine blk_alloc ?_ _)); exact BK233.out), (by repeat (first | (with_reducible first | exact HB.out | apply below_alloc | apply pw_below_drewN | apply below_drew1 | refine below_set ?_ GE232.out | refine below_set ?_ GE233.out) | exact HB.out)), fun _ => (by (with_reducible repeat (first | apply Kd.R_alloc | apply Kd.R_drewN | apply Kd.R_drew)); exact HO236.out), z_HO239, fun h0_ => absurd ((hoff 12 (by kernel_rfl)).symm.trans h0_) (by decide), fun h0_ => absurd ((hoff 13 (by kernel_rfl)).symm.trans h0_) (by decide)⟩
    refine steps_cons ?_ ?_
    ·rintro b a w' ⟨v235, v238, m12_, m13_, ha, Q_BK232, Q_BK233, Q_HB, Q_HO236, Q_HO239, Q_X12_, Q_X13_⟩ hb_ hon hoff
     refine ⟨_, rfl, fun K hK => ?_⟩
     have e46 : a.tmps[46]? = some (.pointer (some ⟨gb233, 1, none⟩)) := by rw [ha]; exact (putSel_off rfl).trans rfl
     replace ha := Aside0.mk ha
     have BK232 := Aside0.mk Q_BK232
     have BK233 := Aside0.mk Q_BK233
     have HB := Aside0.mk Q_HB
     have hc0_ : w'.cell? ⟨gb233, 0, none⟩ = some (.int .i64 y0) := (blk_cell BK233.out 0).trans rfl
     have hc1_ : w'.cell? ⟨gb233, 1, none⟩ = some (.int .i64 y1) := (blk_cell BK233.out 1).trans rfl
     refine value_ (w1 := w') (v := .int .i64 y1) (by rfl) rfl ?_ ?_
     ·go_simp
      (try simp only [i64_w])
      try rfl
     refine hK.out _ _ ⟨v235, v238, m12_, m13_, (by rw [ha.out]; exact putSel_upk 3 hb_ rfl rfl rfl), Q_BK232, Q_BK233, Q_HB, Q_HO236, fun h0_ => absurd ((hoff 11 (by kernel_rfl)).symm.trans h0_) (by decide), Q_X12_, fun h0_ => absurd ((hoff 13 (by kernel_rfl)).symm.trans h0_) (by decide)⟩
    refine steps_cons ?_ ?_
    ·rintro b a w' ⟨v235, v238, m12_, m13_, ha, Q_BK232, Q_BK233, Q_HB, Q_HO236, Q_HO239, Q_X12_, Q_X13_⟩ hb_ hon hoff
     refine ⟨_, rfl, fun K hK => ?_⟩
     have e44 : a.tmps[44]? = some (.int .i64 (wrap64 (Int.tmod (IntKind.u64.wrap (a0)) 64))) := by rw [ha]; exact (putSel_off rfl).trans rfl
     have e45 : a.tmps[45]? = some (.int .u64 (Int.tmod a1 18446744073709551615)) := by rw [ha]; exact (putSel_off rfl).trans rfl
     have e47 : a.tmps[47]? = some (.int .i64 y1) := by rw [ha]; exact putSel_on (e := (9, 47, .int .i64 y1)) 3 rfl rfl (hon 9 (by kernel_rfl)) rfl
     replace ha := Aside0.mk ha
     have BK232 := Aside0.mk Q_BK232
     have BK233 := Aside0.mk Q_BK233
     have HB := Aside0.mk Q_HB
     refine value_ (w1 := w') (v := .agg #[.int .i64 (wrap64 (Int.tmod (IntKind.u64.wrap (a0)) 64)), .int .u64 (Int.tmod a1 18446744073709551615), .int .i64 y1]) (by rfl) rfl ?_ ?_
     ·go_simp
      (try simp only [i64_w])
      try rfl
     refine hK.out _ _ ⟨v235, v238, m12_, m13_, (by rw [ha.out]; exact putSel_upk 4 hb_ rfl rfl rfl), Q_BK232, Q_BK233, Q_HB, Q_HO236, fun h0_ => absurd ((hoff 11 (by kernel_rfl)).symm.trans h0_) (by decide), Q_X12_, fun h0_ => absurd ((hoff 13 (by kernel_rfl)).symm.trans h0_) (by decide)⟩
    refine steps_cons ?_ ?_
    ·rintro b a w' ⟨v235, v238, m12_, m13_, ha, Q_BK232, Q_BK233, Q_HB, Q_HO236, Q_HO239, Q_X12_, Q_X13_⟩ hb_ hon hoff
     refine ⟨_, rfl, fun K hK => ?_⟩
     have e48 : a.tmps[48]? = some (.agg #[.int .i64 (wrap64 (Int.tmod (IntKind.u64.wrap (a0)) 64)), .int .u64 (Int.tmod a1 18446744073709551615), .int .i64 y1]) := by rw [ha]; exact putSel_on (e := (10, 48, .agg #[.int .i64 (wrap64 (Int.tmod (IntKind.u64.wrap (a0)) 64)), .int .u64 (Int.tmod a1 18446744073709551615), .int .i64 y1])) 4 rfl rfl (hon 10 (by kernel_rfl)) rfl
     replace ha := Aside0.mk ha
     have BK232 := Aside0.mk Q_BK232
     have BK233 := Aside0.mk Q_BK233
     have HB := Aside0.mk Q_HB
     refine Kd.R_lit_step k40 _ 40 ?hg (N := 49) ?hd (xs := ([(⟨(wrap64 (Int.tmod (IntKind.u64.wrap (a0)) 64)), (Int.tmod a1 18446744073709551615), y1⟩ : S40)] : List (S40))) (inner := [.int .i64 (wrap64 (Int.tmod (IntKind.u64.wrap (a0)) 64)), .int .u64 (Int.tmod a1 18446744073709551615), .int .i64 y1]) (ok := fun _ => True) (okp := fun _ => True) ?hr ?hp (fun _ hk => hk) trivial (Below.refl _ _) (Nat.le_refl _) (by simp) ?_; (case hd => rfl); (case hg => rfl); (case hr => first | (go_simp; done) | (go_simp; rfl)); (case hp => exact (Reps.c3 (show Kd.M k40 _ _ _ (⟨(wrap64 (Int.tmod (IntKind.u64.wrap (a0)) 64)), (Int.tmod a1 18446744073709551615), y1⟩ : S40) [.int .i64 (wrap64 (Int.tmod (IntKind.u64.wrap (a0)) 64)), .int .u64 (Int.tmod a1 18446744073709551615), .int .i64 y1] from (k40_mkM _ _ _ (⟨(wrap64 (Int.tmod (IntKind.u64.wrap (a0)) 64)), (Int.tmod a1 18446744073709551615), y1⟩ : S40) )) (Reps.none _ _)))
     intro v238 w25 ho26 hb hg_ hnew_
     clear hg_ hnew_
     (first | rw [← Ny237.out] at ho26 | (simp only [Int.reduceToNat] at ho26; rw [← Ny237.out] at ho26))
     have n0_ := Aside0.mk (Kd.R_lower ho26 (below_size (by repeat (first | (with_reducible first | exact HB.out | apply below_alloc | apply pw_below_drewN | apply below_drew1 | refine below_set ?_ GE232.out | refine below_set ?_ GE233.out) | exact HB.out))))
     have n1_ := Aside0.mk (blk_below (g := gb232) (o := .cells #[.int .i64 a2_0, .int .i64 a2_1] 42 (0, 0)) (by (with_reducible repeat (first | refine blk_drewN ?_ _ | refine blk_drew ?_ | refine blk_alloc ?_ _)); exact BK232.out) hb)
     have n2_ := Aside0.mk (blk_below (g := gb233) (o := .cells #[.int .i64 y0, .int .i64 y1] 42 (0, 0)) (by (with_reducible repeat (first | refine blk_drewN ?_ _ | refine blk_drew ?_ | refine blk_alloc ?_ _)); exact BK233.out) hb)
     have n3_ := Aside0.mk (below_step (by repeat (first | (with_reducible first | exact HB.out | apply below_alloc | apply pw_below_drewN | apply below_drew1 | refine below_set ?_ GE232.out | refine below_set ?_ GE233.out) | exact HB.out)) hb)
     have z_HO236 := fun (h0_ : b 5 = true) => (show Kd.R k40 40 w25 w.heap.size (fun _ => True) v235 y234 from by first | exact (Kd.R_elder' (by (with_reducible repeat (first | apply Kd.R_alloc | apply Kd.R_drewN | apply Kd.R_drew)); exact (Q_HO236 h0_)) (Kd.R_base ho26) hb) | exact Kd.R_mono (Kd.R_elder' (by (with_reducible repeat (first | apply Kd.R_alloc | apply Kd.R_drewN | apply Kd.R_drew)); exact (Q_HO236 h0_)) (Kd.R_base ho26) hb) (fun _ h_ => by first | trivial | exact h_ | exact h_.1))
     clear BK232
     clear BK233
     clear HB
     have HO239 := n0_
     have BK232 := n1_
     have BK233 := n2_
     have HB := n3_
     clear n0_ n1_ n2_ n3_
     clear hb ho26
     refine hK.out _ _ ⟨v235, v238, m12_, m13_, (by rw [ha.out]; exact putSel_upk 5 hb_ rfl rfl rfl), (by (with_reducible repeat (first | refine blk_drewN ?_ _ | refine blk_drew ?_ | refine blk_alloc ?_ _)); exact BK232.out), (by (with_reducible repeat (first | refine blk_drewN ?_ _ | refine blk_drew ?_ | refine blk_alloc ?_ _)); exact BK233.out), (by repeat (first | (with_reducible first | exact HB.out | apply below_alloc | apply pw_below_drewN | apply below_drew1 | refine below_set ?_ GE232.out | refine below_set ?_ GE233.out) | exact HB.out)), z_HO236, fun _ => (by (with_reducible repeat (first | apply Kd.R_alloc | apply Kd.R_drewN | apply Kd.R_drew)); exact HO239.out), Q_X12_, fun h0_ => absurd ((hoff 13 (by kernel_rfl)).symm.trans h0_) (by decide)⟩
    refine steps_cons ?_ ?_
    ·rintro b a w' ⟨v235, v238, m12_, m13_, ha, Q_BK232, Q_BK233, Q_HB, Q_HO236, Q_HO239, Q_X12_, Q_X13_⟩ hb_ hon hoff
     refine ⟨_, rfl, fun K hK => ?_⟩
     have e43 : a.tmps[43]? = some (v235) := by rw [ha]; exact putSel_on (e := (5, 43, v235)) 2 rfl rfl (hon 5 (by kernel_rfl)) rfl
     replace ha := Aside0.mk ha
     have BK232 := Aside0.mk Q_BK232
     have BK233 := Aside0.mk Q_BK233
     have HB := Aside0.mk Q_HB
     have HO236 := Aside0.mk (Q_HO236 (hon 5 (by kernel_rfl)))
     refine value_ (w1 := w') (v := v235) (by rfl) rfl ?_ ?_
     ·go_simp
      (try simp only [i64_w])
      try rfl
     refine hK.out _ _ ⟨v235, v238, (v235), m13_, (by rw [ha.out]; exact putSel_upk 6 hb_ rfl rfl rfl), Q_BK232, Q_BK233, Q_HB, Q_HO236, Q_HO239, fun _ => rfl, fun h0_ => absurd ((hoff 13 (by kernel_rfl)).symm.trans h0_) (by decide)⟩
    refine steps_cons ?_ ?_
    ·rintro b a w' ⟨v235, v238, m12_, m13_, ha, Q_BK232, Q_BK233, Q_HB, Q_HO236, Q_HO239, Q_X12_, Q_X13_⟩ hb_ hon hoff
     refine ⟨_, rfl, fun K hK => ?_⟩
     have e49 : a.tmps[49]? = some (v238) := by rw [ha]; exact putSel_on (e := (11, 49, v238)) 5 rfl rfl (hon 11 (by kernel_rfl)) rfl
     replace ha := Aside0.mk ha
     have BK232 := Aside0.mk Q_BK232
     have BK233 := Aside0.mk Q_BK233
     have HB := Aside0.mk Q_HB
     have HO236 := Aside0.mk (Q_HO236 (hon 5 (by kernel_rfl)))
     have HO239 := Aside0.mk (Q_HO239 (hon 11 (by kernel_rfl)))
     refine value_ (w1 := w') (v := v238) (by rfl) rfl ?_ ?_
     ·go_simp
      (try simp only [i64_w])
      try rfl
     refine hK.out _ _ ⟨v235, v238, m12_, (v238), (by rw [ha.out]; exact putSel_upk 7 hb_ rfl rfl rfl), Q_BK232, Q_BK233, Q_HB, Q_HO236, Q_HO239, Q_X12_, fun _ => rfl⟩
    exact steps_nil
   rintro b a w29 hall ⟨v235, v238, m12_, m13_, ha, Q_BK232, Q_BK233, Q_HB, Q_HO236, Q_HO239, Q_X12_, Q_X13_⟩
   clear BK232 BK233 HB
   have hb3_ := hall 3 (by kernel_rfl)
   have hb4_ := hall 4 (by kernel_rfl)
   have hb5_ := hall 5 (by kernel_rfl)
   have hb9_ := hall 9 (by kernel_rfl)
   have hb10_ := hall 10 (by kernel_rfl)
   have hb11_ := hall 11 (by kernel_rfl)
   have hb12_ := hall 12 (by kernel_rfl)
   have hb13_ := hall 13 (by kernel_rfl)
   subst ha
   obtain rfl := Q_X12_ hb12_
   obtain rfl := Q_X13_ hb13_
   simp only [putSel, hb3_, hb4_, hb5_, hb9_, hb10_, hb11_, hb12_, hb13_, if_true, Act.put, List.setIfInBounds_toArray, List.set_cons_zero, List.set_cons_succ]
   have BK232 := Aside0.mk Q_BK232
   clear Q_BK232
   have BK233 := Aside0.mk Q_BK233
   clear Q_BK233
   have HB := Aside0.mk Q_HB
   clear Q_HB
   have HO236 := Aside0.mk (Q_HO236 hb5_)
   clear Q_HO236
   have HO239 := Aside0.mk (Q_HO239 hb11_)
   clear Q_HO239
   clear hall hb3_ hb4_ hb5_ hb9_ hb10_ hb11_ hb12_ hb13_
   obtain ⟨Ao30, co30, eo30⟩ := Kd.R_slice HO236.out
   subst eo30
   go_upto_region 13 with (first | ((with_reducible refine gate_callee (f := 14) rfl ?_); refine goesL_ (some 52) rfl rfl Try.func14 (by kernel_rfl) rfl #[.slice Ao30 y234.length co30] rfl (by (try simp only [List.map_toArray, List.map_cons, List.map_nil]); first | done | rfl | (simp only [List.length_drop, List.length_take]; rfl)) ?_; (with_reducible refine (marchlandlaw03_To.calls kj12 _ _ y234 t240 _ ?side1 ?side2 A20.out).mono ?_); (case side1 => repeat (first | exact (Kd.R_reads' HO236.out).2.2 | (with_reducible refine Kd.C_alloc ?_ _) | (with_reducible refine Kd.C_drewN ?_ _) | (with_reducible refine Kd.C_drew ?_))); (case side2 => exact (Kd.R_reads' HO236.out).2.1); rintro e w31 ⟨v241, rfl, ho0, hb⟩; refine ⟨_, rfl, ?_⟩; have n0_ := Aside0.mk (Kd.R_below (by (with_reducible repeat (first | apply Kd.R_alloc | apply Kd.R_drewN | apply Kd.R_drew)); exact HO236.out) hb); have n1_ := Aside0.mk (Kd.R_below (by (with_reducible repeat (first | apply Kd.R_alloc | apply Kd.R_drewN | apply Kd.R_drew)); exact HO239.out) hb); have n2_ := Aside0.mk (Kd.R_lower ho0 (below_size (by repeat (first | (with_reducible first | exact HB.out | apply below_alloc | apply pw_below_drewN | apply below_drew1 | refine below_set ?_ GE232.out | refine below_set ?_ GE233.out) | exact HB.out)))); have n3_ := Aside0.mk (blk_below (g := gb232) (o := .cells #[.int .i64 a2_0, .int .i64 a2_1] 42 (0, 0)) (by (with_reducible repeat (first | refine blk_drewN ?_ _ | refine blk_drew ?_ | refine blk_alloc ?_ _)); exact BK232.out) hb); have n4_ := Aside0.mk (blk_below (g := gb233) (o := .cells #[.int .i64 y0, .int .i64 y1] 42 (0, 0)) (by (with_reducible repeat (first | refine blk_drewN ?_ _ | refine blk_drew ?_ | refine blk_alloc ?_ _)); exact BK233.out) hb); have n5_ := Aside0.mk (below_step (by repeat (first | (with_reducible first | exact HB.out | apply below_alloc | apply pw_below_drewN | apply below_drew1 | refine below_set ?_ GE232.out | refine below_set ?_ GE233.out) | exact HB.out)) hb); clear HO236; clear HO239; clear BK232; clear BK233; clear HB; have HO236 := n0_; have HO239 := n1_; have HO242 := n2_; have BK232 := n3_; have BK233 := n4_; have HB := n5_; clear n0_ n1_ n2_ n3_ n4_ n5_; (try clear hb); (try clear hb2); (try clear hk); (try clear hi); (try clear ho0); obtain ⟨Ao32, co32, eo32⟩ := Kd.R_slice HO239.out; subst eo32) | ((with_reducible refine gate_callee (f := 14) rfl ?_); refine goesL_ (some 54) rfl rfl Try.func14 (by kernel_rfl) rfl #[.slice Ao32 y237.length co32] rfl (by (try simp only [List.map_toArray, List.map_cons, List.map_nil]); first | done | rfl | (simp only [List.length_drop, List.length_take]; rfl)) ?_; (with_reducible refine (marchlandlaw03_To.calls kj12 _ _ y237 t243 _ ?side1 ?side2 A21.out).mono ?_); (case side1 => repeat (first | exact (Kd.R_reads' HO239.out).2.2 | (with_reducible refine Kd.C_alloc ?_ _) | (with_reducible refine Kd.C_drewN ?_ _) | (with_reducible refine Kd.C_drew ?_))); (case side2 => exact (Kd.R_reads' HO239.out).2.1); rintro e w33 ⟨v244, rfl, ho0, hb⟩; refine ⟨_, rfl, ?_⟩; have n0_ := Aside0.mk (Kd.R_below (by (with_reducible repeat (first | apply Kd.R_alloc | apply Kd.R_drewN | apply Kd.R_drew)); exact HO236.out) hb); have n1_ := Aside0.mk (Kd.R_below (by (with_reducible repeat (first | apply Kd.R_alloc | apply Kd.R_drewN | apply Kd.R_drew)); exact HO239.out) hb); have n2_ := Aside0.mk (Kd.R_elder' (by (with_reducible repeat (first | apply Kd.R_alloc | apply Kd.R_drewN | apply Kd.R_drew)); exact HO242.out) (Kd.R_base ho0) hb); have n3_ := Aside0.mk (Kd.R_lower (Kd.R_new' ho0 (Kd.R_lt (by (with_reducible repeat (first | apply Kd.R_alloc | apply Kd.R_drewN | apply Kd.R_drew)); exact HO242.out))) (below_size (by repeat (first | (with_reducible first | exact HB.out | apply below_alloc | apply pw_below_drewN | apply below_drew1 | refine below_set ?_ GE232.out | refine below_set ?_ GE233.out) | exact HB.out)))); have n4_ := Aside0.mk (blk_below (g := gb232) (o := .cells #[.int .i64 a2_0, .int .i64 a2_1] 42 (0, 0)) (by (with_reducible repeat (first | refine blk_drewN ?_ _ | refine blk_drew ?_ | refine blk_alloc ?_ _)); exact BK232.out) hb); have n5_ := Aside0.mk (blk_below (g := gb233) (o := .cells #[.int .i64 y0, .int .i64 y1] 42 (0, 0)) (by (with_reducible repeat (first | refine blk_drewN ?_ _ | refine blk_drew ?_ | refine blk_alloc ?_ _)); exact BK233.out) hb); have n6_ := Aside0.mk (below_step (by repeat (first | (with_reducible first | exact HB.out | apply below_alloc | apply pw_below_drewN | apply below_drew1 | refine below_set ?_ GE232.out | refine below_set ?_ GE233.out) | exact HB.out)) hb); clear HO236; clear HO239; clear HO242; clear BK232; clear BK233; clear HB; have HO236 := n0_; have HO239 := n1_; have HO242 := n2_; have HO245 := n3_; have BK232 := n4_; have BK233 := n5_; have HB := n6_; clear n0_ n1_ n2_ n3_ n4_ n5_ n6_; (try clear hb); (try clear hb2); (try clear hk); (try clear hi); (try clear ho0); obtain ⟨Ao34, co34, eo34⟩ := Kd.R_slice HO242.out; subst eo34; obtain ⟨Ao35, co35, eo35⟩ := Kd.R_slice HO245.out; subst eo35) | ((with_reducible refine gate_callee (f := 25) rfl ?_); refine goesL_ (some 55) rfl rfl Try.func25 (by kernel_rfl) rfl #[.slice Ao34 t240.length co34, .slice Ao35 t243.length co35] rfl (by (try simp only [List.map_toArray, List.map_cons, List.map_nil]); first | done | rfl | (simp only [List.length_drop, List.length_take]; rfl)) ?_; (with_reducible refine (batch_Merge.calls kj12 (fun k_ => some k_ = (.slice Ao34 t240.length co34 : Value).ownBlock) _ _ t240 (fun k_ => some k_ = (.slice Ao35 t243.length co35 : Value).ownBlock) _ _ t243 t246 t249 _ ?side1 ?side2 A22.out).mono ?_); (case side1 => exact Kd.R_V (Kd.R_tight rfl (Kd.R_types (Kd.R_types (Kd.R_apart' (Kd.R_apart' (HO242.out) (Kd.R_typed HO236.out) (by decide)) (Kd.R_typed HO239.out) (by decide)) BK232.out (by decide)) BK233.out (by decide)))); (case side2 => exact Kd.R_V (Kd.R_tight rfl (Kd.R_types (Kd.R_types (Kd.R_apart' (Kd.R_apart' (HO245.out) (Kd.R_typed HO236.out) (by decide)) (Kd.R_typed HO239.out) (by decide)) BK232.out (by decide)) BK233.out (by decide)))); rintro e w36 ⟨v247, rfl, ho0, hb⟩; refine ⟨_, rfl, ?_⟩; have n0_ := Aside0.mk (Kd.R_below (by (with_reducible repeat (first | apply Kd.R_alloc | apply Kd.R_drewN | apply Kd.R_drew)); exact HO236.out) hb); have n1_ := Aside0.mk (Kd.R_below (by (with_reducible repeat (first | apply Kd.R_alloc | apply Kd.R_drewN | apply Kd.R_drew)); exact HO239.out) hb); have n2_ := Aside0.mk (Kd.R_elder' (by (with_reducible repeat (first | apply Kd.R_alloc | apply Kd.R_drewN | apply Kd.R_drew)); exact HO242.out) (Kd.R_base ho0) hb); have n3_ := Aside0.mk (Kd.R_elder' (by (with_reducible repeat (first | apply Kd.R_alloc | apply Kd.R_drewN | apply Kd.R_drew)); exact HO245.out) (Kd.R_base ho0) hb); have n4_ := Aside0.mk (Kd.R_lower (Kd.R_new' (Kd.R_new' (Kd.R_mono (ok' := fun k_ => True) ho0 (fun _ hk_ => trivial)) (Kd.R_lt (by (with_reducible repeat (first | apply Kd.R_alloc | apply Kd.R_drewN | apply Kd.R_drew)); exact HO242.out))) (Kd.R_lt (by (with_reducible repeat (first | apply Kd.R_alloc | apply Kd.R_drewN | apply Kd.R_drew)); exact HO245.out))) (below_size (by repeat (first | (with_reducible first | exact HB.out | apply below_alloc | apply pw_below_drewN | apply below_drew1 | refine below_set ?_ GE232.out | refine below_set ?_ GE233.out) | exact HB.out)))); have n5_ := Aside0.mk (blk_below (g := gb232) (o := .cells #[.int .i64 a2_0, .int .i64 a2_1] 42 (0, 0)) (by (with_reducible repeat (first | refine blk_drewN ?_ _ | refine blk_drew ?_ | refine blk_alloc ?_ _)); exact BK232.out) hb); have n6_ := Aside0.mk (blk_below (g := gb233) (o := .cells #[.int .i64 y0, .int .i64 y1] 42 (0, 0)) (by (with_reducible repeat (first | refine blk_drewN ?_ _ | refine blk_drew ?_ | refine blk_alloc ?_ _)); exact BK233.out) hb); have n7_ := Aside0.mk (below_step (by repeat (first | (with_reducible first | exact HB.out | apply below_alloc | apply pw_below_drewN | apply below_drew1 | refine below_set ?_ GE232.out | refine below_set ?_ GE233.out) | exact HB.out)) hb); clear HO236; clear HO239; clear HO242; clear HO245; clear BK232; clear BK233; clear HB; have HO236 := n0_; have HO239 := n1_; have HO242 := n2_; have HO245 := n3_; have HO248 := n4_; have BK232 := n5_; have BK233 := n6_; have HB := n7_; clear n0_ n1_ n2_ n3_ n4_ n5_ n6_ n7_; (try clear hb); (try clear hb2); (try clear hk); (try clear hi); (try clear ho0); have hnb37 := NB233_232.out; have hnc37 := NB232_233.out; have hcz38_0 : w36.cell? ⟨gb233, 0, none⟩ = some (.int .i64 y0) := (blk_cell BK233.out 0).trans rfl; have hcz38_1 : w36.cell? ⟨gb233, 1, none⟩ = some (.int .i64 y1) := (blk_cell BK233.out 1).trans rfl; have hfz38_0 := blk_frozen BK233.out 0; have hfz38_1 := blk_frozen BK233.out 1))
   (try simp only [Act.put, List.setIfInBounds_toArray, List.set_cons_zero, List.set_cons_succ])
   go_cut [68] (fun v68 wc => ∃ (kq : Nat) (x68_22 : Bool), v68 = .bool x68_22 ∧ Aside0 (marchlandlaw03_BatchGreat.j2 kq (wrap64 (Int.tmod (IntKind.u64.wrap (a0)) 64)) (Int.tmod a1 18446744073709551615) y234 t246 t249 (wrap64 (y0 + y1)) x68_22 y0 y1 = some r) ∧ Aside0 (kq ≤ kj12) ∧ Aside0 (Kd.R k40 40 wc w.heap.size (fun _ => True) (.slice Ao30 y234.length co30) y234) ∧ Aside0 (Kd.R k50 50 wc w.heap.size (fun _ => True) v247 t246) ∧ Aside0 (wc.heap[gb232]? = some (.cells #[.int .i64 a2_0, .int .i64 a2_1] 42 (0, 0))) ∧ Aside0 (wc.heap[gb233]? = some (.cells #[.int .i64 y0, .int .i64 y1] 42 (0, 0))) ∧ Aside0 (Below w.heap.size w wc))
   case first =>
    have H := HC23.out
    clear HC23
    by_cases c39 : (wrap64 (y0 + y1)) > 576460752303423488
    ·rw [if_pos c39] at H
     have c39b0 : decide (576460752303423488 < (wrap64 (y0 + y1))) = true := decide_eq_true c39
     clear c39
     (first | rw [c39b0] | (simp only [i64_w, i32_w]; rw [c39b0]) | skip)
     have H' := Aside0.mk H
     clear H
     go_wp2
     go_meet
     case rel => exact ⟨_, (true), (by first | rfl | (simp; done) | (simp [*]; done)), H', ⟨by have := HJ12.out; first | omega | exact Nat.le_refl _⟩, ⟨by (with_reducible repeat (first | apply Kd.R_alloc | apply Kd.R_drewN | apply Kd.R_drew)); exact Kd.R_mono HO236.out (fun _ hk => trivial)⟩, ⟨by (with_reducible repeat (first | apply Kd.R_alloc | apply Kd.R_drewN | apply Kd.R_drew)); exact Kd.R_mono HO248.out (fun _ hk => trivial)⟩, ⟨by (with_reducible repeat (first | refine blk_drewN ?_ _ | refine blk_drew ?_ | refine blk_alloc ?_ _)); exact BK232.out⟩, ⟨by (with_reducible repeat (first | refine blk_drewN ?_ _ | refine blk_drew ?_ | refine blk_alloc ?_ _)); exact BK233.out⟩, ⟨by repeat (first | (with_reducible first | exact HB.out | apply below_alloc | apply pw_below_drewN | apply below_drew1 | refine below_set ?_ GE232.out | refine below_set ?_ GE233.out) | exact HB.out)⟩⟩
    ·rw [if_neg c39] at H
     have c39b0 : decide (576460752303423488 < (wrap64 (y0 + y1))) = false := decide_eq_false c39
     clear c39
     (first | rw [c39b0] | (simp only [i64_w, i32_w]; rw [c39b0]) | skip)
     have H' := Aside0.mk H
     clear H
     go_wp2
     go_meet
     case rel => exact ⟨_, (decide ((wrap64 (y0 + y1)) < (-576460752303423488))), (by first | rfl | (simp; done) | (simp [*]; done)), H', ⟨by have := HJ12.out; first | omega | exact Nat.le_refl _⟩, ⟨by (with_reducible repeat (first | apply Kd.R_alloc | apply Kd.R_drewN | apply Kd.R_drew)); exact Kd.R_mono HO236.out (fun _ hk => trivial)⟩, ⟨by (with_reducible repeat (first | apply Kd.R_alloc | apply Kd.R_drewN | apply Kd.R_drew)); exact Kd.R_mono HO248.out (fun _ hk => trivial)⟩, ⟨by (with_reducible repeat (first | refine blk_drewN ?_ _ | refine blk_drew ?_ | refine blk_alloc ?_ _)); exact BK232.out⟩, ⟨by (with_reducible repeat (first | refine blk_drewN ?_ _ | refine blk_drew ?_ | refine blk_alloc ?_ _)); exact BK233.out⟩, ⟨by repeat (first | (with_reducible first | exact HB.out | apply below_alloc | apply pw_below_drewN | apply below_drew1 | refine below_set ?_ GE232.out | refine below_set ?_ GE233.out) | exact HB.out)⟩⟩
   case rest =>
    clear HC23
    try clear c1
    try clear c2
    try clear p2
    try clear c3
    try clear c5
    try clear p6
    try clear c7
    try clear c10
    try clear c10b0
    try clear c10b1
    try clear c11
    try clear c14
    try clear c17
    try clear c17b0
    try clear c17b1
    try clear c18
    try clear c25
    try clear c37
    try clear c39
    try clear c39b0
    try clear hcz12_0
    try clear hcz12_1
    try clear hcz15_0
    try clear hcz15_1
    try clear hcz16_0
    try clear hcz16_1
    try clear hcz19_0
    try clear hcz19_1
    try clear hcz38_0
    try clear hcz38_1
    try clear hcz8_0
    try clear hcz8_1
    try clear hcz9_0
    try clear hcz9_1
    try clear hfz12_0
    try clear hfz12_1
    try clear hfz15_0
    try clear hfz15_1
    try clear hfz16_0
    try clear hfz16_1
    try clear hfz19_0
    try clear hfz19_1
    try clear hfz38_0
    try clear hfz38_1
    try clear hfz8_0
    try clear hfz8_1
    try clear hfz9_0
    try clear hfz9_1
    try clear p2
    try clear p6
    obtain ⟨kq, x68_22, rfl, HA, HJ22, HO_11, HO_13, BK232, BK233, HB⟩ := hcut
    cases kq with
    | zero => exact absurd HA.out (by simp [marchlandlaw03_BatchGreat.j2])
    | succ kj22 =>
     have H := HA.out
     clear HA
     simp only [marchlandlaw03_BatchGreat.j2] at H
     by_cases c40 : x68_22 = true
     ·subst c40
      have H1 : ((marchlandlaw03_told.f kj22).bind fun t250 => (if t250 = true then (if t249 = 10 then (some ((t246.length : Int) == 0)) else (some false)) else (some false))) = some r := by rw [if_pos rfl] at H; exact H
      clear H
      have H := H1
      clear H1
      replace H := Option.bind_eq_some_iff.mp H
      obtain ⟨t250, A410, H⟩ := H
      replace H : (if t250 = true then (if t249 = 10 then (some ((t246.length : Int) == 0)) else (some false)) else (some false)) = some r := H
      have A41 := Aside0.mk A410
      clear A410
      by_cases c42 : t250 = true
      ·subst c42
       have H1 : (if t249 = 10 then (some ((t246.length : Int) == 0)) else (some false)) = some r := by rw [if_pos rfl] at H; exact H
       clear H
       have H := H1
       clear H1
       by_cases c43 : t249 = 10
       ·rw [if_pos c43] at H
        have c43b0 : (t249 == 10) = true := beq_iff_eq.mpr c43
        have c43b1 : (t249 != 10) = false := bne_eq_false_iff_eq.mpr c43
        clear c43
        obtain rfl := Option.some.inj H
        go_wp2_with (first | ((with_reducible refine gate_callee (f := 17) rfl ?_); refine goesL_ (some 69) rfl rfl Try.func17 (by kernel_rfl) rfl #[] rfl (by (try simp only [List.map_toArray, List.map_cons, List.map_nil]); first | done | rfl | (simp only [List.length_drop, List.length_take]; rfl)) ?_; (with_reducible refine (marchlandlaw03_told.calls kj22  true _ A41.out).mono ?_); rintro e w44 ⟨rfl, hb⟩; refine ⟨_, rfl, ?_⟩; have n0_ := Aside0.mk (Kd.R_below (by (with_reducible repeat (first | apply Kd.R_alloc | apply Kd.R_drewN | apply Kd.R_drew)); exact HO_11.out) hb); have n1_ := Aside0.mk (Kd.R_below (by (with_reducible repeat (first | apply Kd.R_alloc | apply Kd.R_drewN | apply Kd.R_drew)); exact HO_13.out) hb); have n2_ := Aside0.mk (blk_below (g := gb232) (o := .cells #[.int .i64 a2_0, .int .i64 a2_1] 42 (0, 0)) (by (with_reducible repeat (first | refine blk_drewN ?_ _ | refine blk_drew ?_ | refine blk_alloc ?_ _)); exact BK232.out) hb); have n3_ := Aside0.mk (blk_below (g := gb233) (o := .cells #[.int .i64 y0, .int .i64 y1] 42 (0, 0)) (by (with_reducible repeat (first | refine blk_drewN ?_ _ | refine blk_drew ?_ | refine blk_alloc ?_ _)); exact BK233.out) hb); have n4_ := Aside0.mk (below_step (by repeat (first | (with_reducible first | exact HB.out | apply below_alloc | apply pw_below_drewN | apply below_drew1 | refine below_set ?_ GE232.out | refine below_set ?_ GE233.out) | exact HB.out)) hb); clear HO_11; clear HO_13; clear BK232; clear BK233; clear HB; have HO_11 := n0_; have HO_13 := n1_; have BK232 := n2_; have BK233 := n3_; have HB := n4_; clear n0_ n1_ n2_ n3_ n4_; (try clear hb); (try clear hb2); (try clear hk); (try clear hi); obtain ⟨Ao45, co45, eo45⟩ := Kd.R_slice HO_13.out; subst eo45))
        go_ret
        exact ⟨by first | rfl | (simp [errW_none, errW_some] <;> rfl) | (simp [*, errW_none, errW_some] <;> rfl), by repeat (first | (with_reducible first | exact HB.out | apply below_alloc | apply pw_below_drewN | apply below_drew1 | refine below_set ?_ GE232.out | refine below_set ?_ GE233.out) | exact HB.out)⟩
       ·rw [if_neg c43] at H
        have c43b0 : (t249 == 10) = false := beq_eq_false_iff_ne.mpr c43
        have c43b1 : (t249 != 10) = true := bne_iff_ne.mpr c43
        obtain rfl := Option.some.inj H
        go_wp2_with (first | ((with_reducible refine gate_callee (f := 17) rfl ?_); refine goesL_ (some 69) rfl rfl Try.func17 (by kernel_rfl) rfl #[] rfl (by (try simp only [List.map_toArray, List.map_cons, List.map_nil]); first | done | rfl | (simp only [List.length_drop, List.length_take]; rfl)) ?_; (with_reducible refine (marchlandlaw03_told.calls kj22  true _ A41.out).mono ?_); rintro e w46 ⟨rfl, hb⟩; refine ⟨_, rfl, ?_⟩; have n0_ := Aside0.mk (Kd.R_below (by (with_reducible repeat (first | apply Kd.R_alloc | apply Kd.R_drewN | apply Kd.R_drew)); exact HO_11.out) hb); have n1_ := Aside0.mk (Kd.R_below (by (with_reducible repeat (first | apply Kd.R_alloc | apply Kd.R_drewN | apply Kd.R_drew)); exact HO_13.out) hb); have n2_ := Aside0.mk (blk_below (g := gb232) (o := .cells #[.int .i64 a2_0, .int .i64 a2_1] 42 (0, 0)) (by (with_reducible repeat (first | refine blk_drewN ?_ _ | refine blk_drew ?_ | refine blk_alloc ?_ _)); exact BK232.out) hb); have n3_ := Aside0.mk (blk_below (g := gb233) (o := .cells #[.int .i64 y0, .int .i64 y1] 42 (0, 0)) (by (with_reducible repeat (first | refine blk_drewN ?_ _ | refine blk_drew ?_ | refine blk_alloc ?_ _)); exact BK233.out) hb); have n4_ := Aside0.mk (below_step (by repeat (first | (with_reducible first | exact HB.out | apply below_alloc | apply pw_below_drewN | apply below_drew1 | refine below_set ?_ GE232.out | refine below_set ?_ GE233.out) | exact HB.out)) hb); clear HO_11; clear HO_13; clear BK232; clear BK233; clear HB; have HO_11 := n0_; have HO_13 := n1_; have BK232 := n2_; have BK233 := n3_; have HB := n4_; clear n0_ n1_ n2_ n3_ n4_; (try clear hb); (try clear hb2); (try clear hk); (try clear hi)))
        go_ret
        exact ⟨by first | rfl | (simp [errW_none, errW_some] <;> rfl) | (simp [*, errW_none, errW_some] <;> rfl), by repeat (first | (with_reducible first | exact HB.out | apply below_alloc | apply pw_below_drewN | apply below_drew1 | refine below_set ?_ GE232.out | refine below_set ?_ GE233.out) | exact HB.out)⟩
      ·replace c42 := Bool.eq_false_iff.mpr c42
       subst c42
       have H1 : (some false) = some r := by rw [if_neg (show ¬ (false = true) by decide)] at H; exact H
       clear H
       have H := H1
       clear H1
       obtain rfl := Option.some.inj H
       go_wp2_with (first | ((with_reducible refine gate_callee (f := 17) rfl ?_); refine goesL_ (some 69) rfl rfl Try.func17 (by kernel_rfl) rfl #[] rfl (by (try simp only [List.map_toArray, List.map_cons, List.map_nil]); first | done | rfl | (simp only [List.length_drop, List.length_take]; rfl)) ?_; (with_reducible refine (marchlandlaw03_told.calls kj22  false _ A41.out).mono ?_); rintro e w47 ⟨rfl, hb⟩; refine ⟨_, rfl, ?_⟩; have n0_ := Aside0.mk (Kd.R_below (by (with_reducible repeat (first | apply Kd.R_alloc | apply Kd.R_drewN | apply Kd.R_drew)); exact HO_11.out) hb); have n1_ := Aside0.mk (Kd.R_below (by (with_reducible repeat (first | apply Kd.R_alloc | apply Kd.R_drewN | apply Kd.R_drew)); exact HO_13.out) hb); have n2_ := Aside0.mk (blk_below (g := gb232) (o := .cells #[.int .i64 a2_0, .int .i64 a2_1] 42 (0, 0)) (by (with_reducible repeat (first | refine blk_drewN ?_ _ | refine blk_drew ?_ | refine blk_alloc ?_ _)); exact BK232.out) hb); have n3_ := Aside0.mk (blk_below (g := gb233) (o := .cells #[.int .i64 y0, .int .i64 y1] 42 (0, 0)) (by (with_reducible repeat (first | refine blk_drewN ?_ _ | refine blk_drew ?_ | refine blk_alloc ?_ _)); exact BK233.out) hb); have n4_ := Aside0.mk (below_step (by repeat (first | (with_reducible first | exact HB.out | apply below_alloc | apply pw_below_drewN | apply below_drew1 | refine below_set ?_ GE232.out | refine below_set ?_ GE233.out) | exact HB.out)) hb); clear HO_11; clear HO_13; clear BK232; clear BK233; clear HB; have HO_11 := n0_; have HO_13 := n1_; have BK232 := n2_; have BK233 := n3_; have HB := n4_; clear n0_ n1_ n2_ n3_ n4_; (try clear hb); (try clear hb2); (try clear hk); (try clear hi)))
       go_ret
       exact ⟨by first | rfl | (simp [errW_none, errW_some] <;> rfl) | (simp [*, errW_none, errW_some] <;> rfl), by repeat (first | (with_reducible first | exact HB.out | apply below_alloc | apply pw_below_drewN | apply below_drew1 | refine below_set ?_ GE232.out | refine below_set ?_ GE233.out) | exact HB.out)⟩
     ·replace c40 := Bool.eq_false_iff.mpr c40
      subst c40
      have H1 : ((marchlandlaw03_told.f kj22).bind fun t251 => (if t251 = true then (if t249 = 0 then ((batch_Of.f kj22 t246 (wrap64 (Int.tmod (IntKind.u64.wrap (a0)) 64)) (Int.tmod a1 18446744073709551615)).bind fun t252 => (if t252 = (wrap64 (y0 + y1)) then (if (((t246.length : Int) == 0) == ((wrap64 (y0 + y1)) == 0)) = true then ((marchlandlaw03_To.f kj22 y234).bind fun t253 => ((batch_Of.f kj22 t253 (wrap64 (Int.tmod (IntKind.u64.wrap (a0)) 64)) (Int.tmod a1 18446744073709551615)).bind fun t256 => (if t256 = y0 then ((marchlandlaw03_To.f kj22 y234).bind fun t257 => ((batch_Of.f kj22 t257 (wrap64 (Int.tmod (IntKind.u64.wrap (a0)) 64)) (IntKind.u64.wrap ((Int.tmod a1 18446744073709551615) + 1))).bind fun t260 => (some (t260 == 0)))) else (some false)))) else (some false)) else (some false))) else (some false)) else (some false))) = some r := by rw [if_neg (show ¬ (false = true) by decide)] at H; exact H
      clear H
      have H := H1
      clear H1
      replace H := Option.bind_eq_some_iff.mp H
      obtain ⟨t251, A480, H⟩ := H
      replace H : (if t251 = true then (if t249 = 0 then ((batch_Of.f kj22 t246 (wrap64 (Int.tmod (IntKind.u64.wrap (a0)) 64)) (Int.tmod a1 18446744073709551615)).bind fun t252 => (if t252 = (wrap64 (y0 + y1)) then (if (((t246.length : Int) == 0) == ((wrap64 (y0 + y1)) == 0)) = true then ((marchlandlaw03_To.f kj22 y234).bind fun t253 => ((batch_Of.f kj22 t253 (wrap64 (Int.tmod (IntKind.u64.wrap (a0)) 64)) (Int.tmod a1 18446744073709551615)).bind fun t256 => (if t256 = y0 then ((marchlandlaw03_To.f kj22 y234).bind fun t257 => ((batch_Of.f kj22 t257 (wrap64 (Int.tmod (IntKind.u64.wrap (a0)) 64)) (IntKind.u64.wrap ((Int.tmod a1 18446744073709551615) + 1))).bind fun t260 => (some (t260 == 0)))) else (some false)))) else (some false)) else (some false))) else (some false)) else (some false)) = some r := H
      have A48 := Aside0.mk A480
      clear A480
      by_cases c49 : t251 = true
      ·subst c49
       have H1 : (if t249 = 0 then ((batch_Of.f kj22 t246 (wrap64 (Int.tmod (IntKind.u64.wrap (a0)) 64)) (Int.tmod a1 18446744073709551615)).bind fun t252 => (if t252 = (wrap64 (y0 + y1)) then (if (((t246.length : Int) == 0) == ((wrap64 (y0 + y1)) == 0)) = true then ((marchlandlaw03_To.f kj22 y234).bind fun t253 => ((batch_Of.f kj22 t253 (wrap64 (Int.tmod (IntKind.u64.wrap (a0)) 64)) (Int.tmod a1 18446744073709551615)).bind fun t256 => (if t256 = y0 then ((marchlandlaw03_To.f kj22 y234).bind fun t257 => ((batch_Of.f kj22 t257 (wrap64 (Int.tmod (IntKind.u64.wrap (a0)) 64)) (IntKind.u64.wrap ((Int.tmod a1 18446744073709551615) + 1))).bind fun t260 => (some (t260 == 0)))) else (some false)))) else (some false)) else (some false))) else (some false)) = some r := by rw [if_pos rfl] at H; exact H
       clear H
       have H := H1
       clear H1
       by_cases c50 : t249 = 0
       ·rw [if_pos c50] at H
        have c50b0 : (t249 == 0) = true := beq_iff_eq.mpr c50
        have c50b1 : (t249 != 0) = false := bne_eq_false_iff_eq.mpr c50
        clear c50
        replace H := Option.bind_eq_some_iff.mp H
        obtain ⟨t252, A510, H⟩ := H
        replace H : (if t252 = (wrap64 (y0 + y1)) then (if (((t246.length : Int) == 0) == ((wrap64 (y0 + y1)) == 0)) = true then ((marchlandlaw03_To.f kj22 y234).bind fun t253 => ((batch_Of.f kj22 t253 (wrap64 (Int.tmod (IntKind.u64.wrap (a0)) 64)) (Int.tmod a1 18446744073709551615)).bind fun t256 => (if t256 = y0 then ((marchlandlaw03_To.f kj22 y234).bind fun t257 => ((batch_Of.f kj22 t257 (wrap64 (Int.tmod (IntKind.u64.wrap (a0)) 64)) (IntKind.u64.wrap ((Int.tmod a1 18446744073709551615) + 1))).bind fun t260 => (some (t260 == 0)))) else (some false)))) else (some false)) else (some false)) = some r := H
        have A51 := Aside0.mk A510
        clear A510
        by_cases c52 : t252 = (wrap64 (y0 + y1))
        ·rw [if_pos c52] at H
         have c52b0 : (t252 == (wrap64 (y0 + y1))) = true := beq_iff_eq.mpr c52
         have c52b1 : (t252 != (wrap64 (y0 + y1))) = false := bne_eq_false_iff_eq.mpr c52
         clear c52
         by_cases c53 : (((t246.length : Int) == 0) == ((wrap64 (y0 + y1)) == 0)) = true
         ·rw [if_pos c53] at H
          have c53b0 : (((t246.length : Int) == 0) == ((wrap64 (y0 + y1)) == 0)) = true := c53
          (try (have c53b1 : decide (((t246.length : Int) == 0) = ((wrap64 (y0 + y1)) == 0)) = true := by simpa using c53))
          (try (have c53b2 : (((t246.length : Int) == 0) == ((wrap64 (y0 + y1)) == 0)) = true := by simpa using c53))
          clear c53
          replace H := Option.bind_eq_some_iff.mp H
          obtain ⟨t253, A540, H⟩ := H
          replace H : ((batch_Of.f kj22 t253 (wrap64 (Int.tmod (IntKind.u64.wrap (a0)) 64)) (Int.tmod a1 18446744073709551615)).bind fun t256 => (if t256 = y0 then ((marchlandlaw03_To.f kj22 y234).bind fun t257 => ((batch_Of.f kj22 t257 (wrap64 (Int.tmod (IntKind.u64.wrap (a0)) 64)) (IntKind.u64.wrap ((Int.tmod a1 18446744073709551615) + 1))).bind fun t260 => (some (t260 == 0)))) else (some false))) = some r := H
          have A54 := Aside0.mk A540
          clear A540
          replace H := Option.bind_eq_some_iff.mp H
          obtain ⟨t256, A550, H⟩ := H
          replace H : (if t256 = y0 then ((marchlandlaw03_To.f kj22 y234).bind fun t257 => ((batch_Of.f kj22 t257 (wrap64 (Int.tmod (IntKind.u64.wrap (a0)) 64)) (IntKind.u64.wrap ((Int.tmod a1 18446744073709551615) + 1))).bind fun t260 => (some (t260 == 0)))) else (some false)) = some r := H
          have A55 := Aside0.mk A550
          clear A550
          by_cases c56 : t256 = y0
          ·rw [if_pos c56] at H
           have c56b0 : (t256 == y0) = true := beq_iff_eq.mpr c56
           have c56b1 : (t256 != y0) = false := bne_eq_false_iff_eq.mpr c56
           clear c56
           replace H := Option.bind_eq_some_iff.mp H
           obtain ⟨t257, A570, H⟩ := H
           replace H : ((batch_Of.f kj22 t257 (wrap64 (Int.tmod (IntKind.u64.wrap (a0)) 64)) (IntKind.u64.wrap ((Int.tmod a1 18446744073709551615) + 1))).bind fun t260 => (some (t260 == 0))) = some r := H
           have A57 := Aside0.mk A570
           clear A570
           replace H := Option.bind_eq_some_iff.mp H
           obtain ⟨t260, A580, H⟩ := H
           replace H : (some (t260 == 0)) = some r := H
           have A58 := Aside0.mk A580
           clear A580
           obtain rfl := Option.some.inj H
           try go_wp2
           have n0_ := Aside0.mk (Kd.R_drew HO_11.out)
           have n1_ := Aside0.mk (Kd.R_drew HO_13.out)
           have n2_ := Aside0.mk (blk_drew BK232.out)
           have n3_ := Aside0.mk (blk_drew BK233.out)
           have n4_ := Aside0.mk (below_drew1 HB.out)
           clear HO_11
           clear HO_13
           clear BK232
           clear BK233
           clear HB
           have HO_11 := n0_
           have HO_13 := n1_
           have BK232 := n2_
           have BK233 := n3_
           have HB := n4_
           clear n0_ n1_ n2_ n3_ n4_
           refine start_ (n := 41) (S := fun w' => w'.cell? ⟨gb233, 0, none⟩ = some (.int .i64 y0) ∧ w'.cell? ⟨gb233, 1, none⟩ = some (.int .i64 y1)) (ds := []) (mk_ 0 41) (by kernel_rfl) rfl rfl ⟨(blk_cell BK233.out 0).trans rfl, (blk_cell BK233.out 1).trans rfl⟩ (fun hHeld => ?_); refine with_tabW marchlandlaw03_BatchGreat.tab15 marchlandlaw03_BatchGreat.bits15 (fun HT_ HW_ => ?_)
           generalize wc.drew = w59 at HO_11 HO_13 BK232 BK233 HB hHeld ⊢
           refine one_ (i := 0) (N := some 79) (mk_ 1 40) rfl rfl (one_of HT_.out (by kernel_rfl)) (by decide) (fun K hK => ?_)
           refine goes_ Try.func17 (by kernel_rfl) rfl #[] (by rfl) rfl rfl (by (try simp only [List.map_toArray, List.map_cons, List.map_nil]); first | done | rfl | (simp only [List.length_drop, List.length_take]; rfl)) ?_
           with_reducible refine (marchlandlaw03_told.calls kj22  true _ A48.out).mono ?_
           rintro e w60 ⟨rfl, hb⟩
           refine ⟨_, rfl, ?_⟩
           have n0_ := Aside0.mk (Kd.R_below (by (with_reducible repeat (first | apply Kd.R_alloc | apply Kd.R_drewN | apply Kd.R_drew)); exact HO_11.out) hb)
           have n1_ := Aside0.mk (Kd.R_below (by (with_reducible repeat (first | apply Kd.R_alloc | apply Kd.R_drewN | apply Kd.R_drew)); exact HO_13.out) hb)
           have n2_ := Aside0.mk (blk_below (g := gb232) (o := .cells #[.int .i64 a2_0, .int .i64 a2_1] 42 (0, 0)) (by (with_reducible repeat (first | refine blk_drewN ?_ _ | refine blk_drew ?_ | refine blk_alloc ?_ _)); exact BK232.out) hb)
           have n3_ := Aside0.mk (blk_below (g := gb233) (o := .cells #[.int .i64 y0, .int .i64 y1] 42 (0, 0)) (by (with_reducible repeat (first | refine blk_drewN ?_ _ | refine blk_drew ?_ | refine blk_alloc ?_ _)); exact BK233.out) hb)
           have n4_ := Aside0.mk (below_step (by repeat (first | (with_reducible first | exact HB.out | apply below_alloc | apply pw_below_drewN | apply below_drew1 | refine below_set ?_ GE232.out | refine below_set ?_ GE233.out) | exact HB.out)) hb)
           clear HO_11
           clear HO_13
           clear BK232
           clear BK233
           clear HB
           have HO_11 := n0_
           have HO_13 := n1_
           have BK232 := n2_
           have BK233 := n3_
           have HB := n4_
           clear n0_ n1_ n2_ n3_ n4_
           (try clear hb)
           (try clear hb2)
           (try clear hk)
           (try clear hi)
           obtain ⟨Ao61, co61, eo61⟩ := Kd.R_slice HO_13.out
           (first | subst eo61 | (injection eo61 with f1_ f2_ f3_; have f4_ := f1_.symm; have f5_ := f3_.symm; clear f1_ f2_ f3_; subst f4_; subst f5_))
           refine hK.out _ _ ⟨(blk_cell BK233.out 0).trans rfl, (blk_cell BK233.out 1).trans rfl⟩ (fun hHeld => ?_)
           clear hK K
           refine norm_ (a' := ?_) ?_ ?_
           rotate_left
           ·show Act.put _ (some 79) _ = _
            simp only [Act.put, List.setIfInBounds_toArray, List.set_cons_zero, List.set_cons_succ, i64_w, i32_w]
            rfl
           refine pv_ 1 80 (mk_ 2 39) HT_ ?_
           refine pv_ 2 81 (mk_ 3 38) HT_ ?_
           refine pv_ 3 82 (mk_ 4 37) HT_ ?_
           refine pv_ 4 83 (mk_ 5 36) HT_ ?_
           refine pv_ 5 84 (mk_ 6 35) HT_ ?_
           refine pv_ 6 85 (mk_ 7 34) HT_ ?_
           refine pv_ 7 86 (mk_ 8 33) HT_ ?_
           refine pv_ 8 87 (mk_ 9 32) HT_ ?_
           refine pv_ 10 89 #[true, true, true, true, true, true, true, true, true, false, true, false, false, false, false, false, false, false, false, false, false, false, false, false, false, false, false, false, false, false, false, false, false, false, false, false, false, false, false, false, false] HT_ ?_
           refine one_ (i := 9) (N := some 88) (mk_ 11 30) rfl rfl (one_of HT_.out (by kernel_rfl)) (by decide) (fun K hK => ?_)
           refine goes_ Try.func23 (by kernel_rfl) rfl #[.slice Ao61 t246.length co61, .int .i64 (wrap64 (Int.tmod (IntKind.u64.wrap (a0)) 64)), .int .u64 (Int.tmod a1 18446744073709551615)] (by rfl) rfl rfl (by (try simp only [List.map_toArray, List.map_cons, List.map_nil]); first | done | rfl | (simp only [List.length_drop, List.length_take]; rfl)) ?_
           with_reducible refine (batch_Of.calls kj22 _ _ t246 (wrap64 (Int.tmod (IntKind.u64.wrap (a0)) 64)) (Int.tmod a1 18446744073709551615) t252 _ ?side1 ?side2 A51.out).mono ?_
           (case side1 => repeat (first | exact (Kd.R_reads' HO_13.out).2.2 | (with_reducible refine Kd.C_alloc ?_ _) | (with_reducible refine Kd.C_drewN ?_ _) | (with_reducible refine Kd.C_drew ?_)))
           (case side2 => exact (Kd.R_reads' HO_13.out).2.1)
           rintro e w62 ⟨rfl, hb⟩
           refine ⟨_, rfl, ?_⟩
           have n0_ := Aside0.mk (Kd.R_below (by (with_reducible repeat (first | apply Kd.R_alloc | apply Kd.R_drewN | apply Kd.R_drew)); exact HO_11.out) hb)
           have n1_ := Aside0.mk (Kd.R_below (by (with_reducible repeat (first | apply Kd.R_alloc | apply Kd.R_drewN | apply Kd.R_drew)); exact HO_13.out) hb)
           have n2_ := Aside0.mk (blk_below (g := gb232) (o := .cells #[.int .i64 a2_0, .int .i64 a2_1] 42 (0, 0)) (by (with_reducible repeat (first | refine blk_drewN ?_ _ | refine blk_drew ?_ | refine blk_alloc ?_ _)); exact BK232.out) hb)
           have n3_ := Aside0.mk (blk_below (g := gb233) (o := .cells #[.int .i64 y0, .int .i64 y1] 42 (0, 0)) (by (with_reducible repeat (first | refine blk_drewN ?_ _ | refine blk_drew ?_ | refine blk_alloc ?_ _)); exact BK233.out) hb)
           have n4_ := Aside0.mk (below_step (by repeat (first | (with_reducible first | exact HB.out | apply below_alloc | apply pw_below_drewN | apply below_drew1 | refine below_set ?_ GE232.out | refine below_set ?_ GE233.out) | exact HB.out)) hb)
           clear HO_11
           clear HO_13
           clear BK232
           clear BK233
           clear HB
           have HO_11 := n0_
           have HO_13 := n1_
           have BK232 := n2_
           have BK233 := n3_
           have HB := n4_
           clear n0_ n1_ n2_ n3_ n4_
           (try clear hb)
           (try clear hb2)
           (try clear hk)
           (try clear hi)
           refine hK.out _ _ ⟨(blk_cell BK233.out 0).trans rfl, (blk_cell BK233.out 1).trans rfl⟩ (fun hHeld => ?_)
           clear hK K
           refine norm_ (a' := ?_) ?_ ?_
           rotate_left
           ·show Act.put _ (some 88) _ = _
            simp only [Act.put, List.setIfInBounds_toArray, List.set_cons_zero, List.set_cons_succ, i64_w, i32_w]
            rfl
           refine pv_ 11 90 (mk_ 12 29) HT_ ?_
           refine pv_ 12 91 (mk_ 13 28) HT_ ?_
           refine pv_ 13 92 (mk_ 14 27) HT_ ?_
           refine pv_ 14 93 (mk_ 15 26) HT_ ?_
           refine pv_ 15 94 (mk_ 16 25) HT_ ?_
           refine pv_ 16 95 (mk_ 17 24) HT_ ?_
           refine pv_ 17 96 (mk_ 18 23) HT_ ?_
           refine pv_ 18 97 (mk_ 19 22) HT_ ?_
           refine pv_ 19 98 (mk_ 20 21) HT_ ?_
           refine pv_ 20 99 (mk_ 21 20) HT_ ?_
           refine pv_ 21 100 (mk_ 22 19) HT_ ?_
           refine pv_ 22 101 (mk_ 23 18) HT_ ?_
           refine pv_ 24 103 #[true, true, true, true, true, true, true, true, true, true, true, true, true, true, true, true, true, true, true, true, true, true, true, false, true, false, false, false, false, false, false, false, false, false, false, false, false, false, false, false, false] HT_ ?_
           refine pv_ 25 104 #[true, true, true, true, true, true, true, true, true, true, true, true, true, true, true, true, true, true, true, true, true, true, true, false, true, true, false, false, false, false, false, false, false, false, false, false, false, false, false, false, false] HT_ ?_
           refine pv_ 27 106 #[true, true, true, true, true, true, true, true, true, true, true, true, true, true, true, true, true, true, true, true, true, true, true, false, true, true, false, true, false, false, false, false, false, false, false, false, false, false, false, false, false] HT_ ?_
           refine tv_ 28 107 #[true, true, true, true, true, true, true, true, true, true, true, true, true, true, true, true, true, true, true, true, true, true, true, false, true, true, false, true, true, false, false, false, false, false, false, false, false, false, false, false, false] HT_ HW_ hHeld (hy := by rintro w' ⟨s0, s1⟩; go_simp; with_reducible rfl) (h := ?_)
           refine one_ (i := 23) (N := some 102) #[true, true, true, true, true, true, true, true, true, true, true, true, true, true, true, true, true, true, true, true, true, true, true, true, true, true, false, true, true, false, false, false, false, false, false, false, false, false, false, false, false] rfl rfl (one_of HT_.out (by kernel_rfl)) (by decide) (fun K hK => ?_)
           refine goes_ Try.func14 (by kernel_rfl) rfl #[.slice Ao30 y234.length co30] (by rfl) rfl rfl (by (try simp only [List.map_toArray, List.map_cons, List.map_nil]); first | done | rfl | (simp only [List.length_drop, List.length_take]; rfl)) ?_
           with_reducible refine (marchlandlaw03_To.calls kj22 _ _ y234 t253 _ ?side1 ?side2 A54.out).mono ?_
           (case side1 => repeat (first | exact (Kd.R_reads' HO_11.out).2.2 | (with_reducible refine Kd.C_alloc ?_ _) | (with_reducible refine Kd.C_drewN ?_ _) | (with_reducible refine Kd.C_drew ?_)))
           (case side2 => exact (Kd.R_reads' HO_11.out).2.1)
           rintro e w63 ⟨v254, rfl, ho0, hb⟩
           refine ⟨_, rfl, ?_⟩
           have n0_ := Aside0.mk (Kd.R_below (by (with_reducible repeat (first | apply Kd.R_alloc | apply Kd.R_drewN | apply Kd.R_drew)); exact HO_11.out) hb)
           have n1_ := Aside0.mk (Kd.R_elder' (by (with_reducible repeat (first | apply Kd.R_alloc | apply Kd.R_drewN | apply Kd.R_drew)); exact HO_13.out) (Kd.R_base ho0) hb)
           have n2_ := Aside0.mk (Kd.R_lower (Kd.R_new' ho0 (Kd.R_lt (by (with_reducible repeat (first | apply Kd.R_alloc | apply Kd.R_drewN | apply Kd.R_drew)); exact HO_13.out))) (below_size (by repeat (first | (with_reducible first | exact HB.out | apply below_alloc | apply pw_below_drewN | apply below_drew1 | refine below_set ?_ GE232.out | refine below_set ?_ GE233.out) | exact HB.out))))
           have n3_ := Aside0.mk (blk_below (g := gb232) (o := .cells #[.int .i64 a2_0, .int .i64 a2_1] 42 (0, 0)) (by (with_reducible repeat (first | refine blk_drewN ?_ _ | refine blk_drew ?_ | refine blk_alloc ?_ _)); exact BK232.out) hb)
           have n4_ := Aside0.mk (blk_below (g := gb233) (o := .cells #[.int .i64 y0, .int .i64 y1] 42 (0, 0)) (by (with_reducible repeat (first | refine blk_drewN ?_ _ | refine blk_drew ?_ | refine blk_alloc ?_ _)); exact BK233.out) hb)
           have n5_ := Aside0.mk (below_step (by repeat (first | (with_reducible first | exact HB.out | apply below_alloc | apply pw_below_drewN | apply below_drew1 | refine below_set ?_ GE232.out | refine below_set ?_ GE233.out) | exact HB.out)) hb)
           clear HO_11
           clear HO_13
           clear BK232
           clear BK233
           clear HB
           have HO_11 := n0_
           have HO_13 := n1_
           have HO255 := n2_
           have BK232 := n3_
           have BK233 := n4_
           have HB := n5_
           clear n0_ n1_ n2_ n3_ n4_ n5_
           (try clear hb)
           (try clear hb2)
           (try clear hk)
           (try clear hi)
           (try clear ho0)
           obtain ⟨Ao64, co64, eo64⟩ := Kd.R_slice HO255.out
           (first | subst eo64 | (injection eo64 with f1_ f2_ f3_; have f4_ := f1_.symm; have f5_ := f3_.symm; clear f1_ f2_ f3_; subst f4_; subst f5_))
           refine hK.out _ _ ⟨(blk_cell BK233.out 0).trans rfl, (blk_cell BK233.out 1).trans rfl⟩ (fun hHeld => ?_)
           clear hK K
           refine norm_ (a' := ?_) ?_ ?_
           rotate_left
           ·show Act.put _ (some 102) _ = _
            simp only [Act.put, List.setIfInBounds_toArray, List.set_cons_zero, List.set_cons_succ, i64_w, i32_w]
            rfl
           refine one_ (i := 26) (N := some 105) (mk_ 29 12) rfl rfl (one_of HT_.out (by kernel_rfl)) (by decide) (fun K hK => ?_)
           refine goes_ Try.func23 (by kernel_rfl) rfl #[.slice Ao64 t253.length co64, .int .i64 (wrap64 (Int.tmod (IntKind.u64.wrap (a0)) 64)), .int .u64 (Int.tmod a1 18446744073709551615)] (by rfl) rfl rfl (by (try simp only [List.map_toArray, List.map_cons, List.map_nil]); first | done | rfl | (simp only [List.length_drop, List.length_take]; rfl)) ?_
           with_reducible refine (batch_Of.calls kj22 _ _ t253 (wrap64 (Int.tmod (IntKind.u64.wrap (a0)) 64)) (Int.tmod a1 18446744073709551615) t256 _ ?side1 ?side2 A55.out).mono ?_
           (case side1 => repeat (first | exact (Kd.R_reads' HO255.out).2.2 | (with_reducible refine Kd.C_alloc ?_ _) | (with_reducible refine Kd.C_drewN ?_ _) | (with_reducible refine Kd.C_drew ?_)))
           (case side2 => exact (Kd.R_reads' HO255.out).2.1)
           rintro e w65 ⟨rfl, hb⟩
           refine ⟨_, rfl, ?_⟩
           have n0_ := Aside0.mk (Kd.R_below (by (with_reducible repeat (first | apply Kd.R_alloc | apply Kd.R_drewN | apply Kd.R_drew)); exact HO_11.out) hb)
           have n1_ := Aside0.mk (Kd.R_below (by (with_reducible repeat (first | apply Kd.R_alloc | apply Kd.R_drewN | apply Kd.R_drew)); exact HO_13.out) hb)
           have n2_ := Aside0.mk (Kd.R_below (by (with_reducible repeat (first | apply Kd.R_alloc | apply Kd.R_drewN | apply Kd.R_drew)); exact HO255.out) hb)
           have n3_ := Aside0.mk (blk_below (g := gb232) (o := .cells #[.int .i64 a2_0, .int .i64 a2_1] 42 (0, 0)) (by (with_reducible repeat (first | refine blk_drewN ?_ _ | refine blk_drew ?_ | refine blk_alloc ?_ _)); exact BK232.out) hb)
           have n4_ := Aside0.mk (blk_below (g := gb233) (o := .cells #[.int .i64 y0, .int .i64 y1] 42 (0, 0)) (by (with_reducible repeat (first | refine blk_drewN ?_ _ | refine blk_drew ?_ | refine blk_alloc ?_ _)); exact BK233.out) hb)
           have n5_ := Aside0.mk (below_step (by repeat (first | (with_reducible first | exact HB.out | apply below_alloc | apply pw_below_drewN | apply below_drew1 | refine below_set ?_ GE232.out | refine below_set ?_ GE233.out) | exact HB.out)) hb)
           clear HO_11
           clear HO_13
           clear HO255
           clear BK232
           clear BK233
           clear HB
           have HO_11 := n0_
           have HO_13 := n1_
           have HO255 := n2_
           have BK232 := n3_
           have BK233 := n4_
           have HB := n5_
           clear n0_ n1_ n2_ n3_ n4_ n5_
           (try clear hb)
           (try clear hb2)
           (try clear hk)
           (try clear hi)
           refine hK.out _ _ ⟨(blk_cell BK233.out 0).trans rfl, (blk_cell BK233.out 1).trans rfl⟩ (fun hHeld => ?_)
           clear hK K
           refine norm_ (a' := ?_) ?_ ?_
           rotate_left
           ·show Act.put _ (some 105) _ = _
            simp only [Act.put, List.setIfInBounds_toArray, List.set_cons_zero, List.set_cons_succ, i64_w, i32_w]
            rfl
           refine pv_ 29 108 (mk_ 30 11) HT_ ?_
           refine pv_ 30 109 (mk_ 31 10) HT_ ?_
           refine pv_ 31 110 (mk_ 32 9) HT_ ?_
           refine pv_ 32 111 (mk_ 33 8) HT_ ?_
           refine pv_ 34 113 #[true, true, true, true, true, true, true, true, true, true, true, true, true, true, true, true, true, true, true, true, true, true, true, true, true, true, true, true, true, true, true, true, true, false, true, false, false, false, false, false, false] HT_ ?_
           refine pv_ 35 114 #[true, true, true, true, true, true, true, true, true, true, true, true, true, true, true, true, true, true, true, true, true, true, true, true, true, true, true, true, true, true, true, true, true, false, true, true, false, false, false, false, false] HT_ ?_
           refine pv_ 36 115 #[true, true, true, true, true, true, true, true, true, true, true, true, true, true, true, true, true, true, true, true, true, true, true, true, true, true, true, true, true, true, true, true, true, false, true, true, true, false, false, false, false] HT_ ?_
           refine one_ (i := 33) (N := some 112) (mk_ 37 4) rfl rfl (one_of HT_.out (by kernel_rfl)) (by decide) (fun K hK => ?_)
           refine goes_ Try.func14 (by kernel_rfl) rfl #[.slice Ao30 y234.length co30] (by rfl) rfl rfl (by (try simp only [List.map_toArray, List.map_cons, List.map_nil]); first | done | rfl | (simp only [List.length_drop, List.length_take]; rfl)) ?_
           with_reducible refine (marchlandlaw03_To.calls kj22 _ _ y234 t257 _ ?side1 ?side2 A57.out).mono ?_
           (case side1 => repeat (first | exact (Kd.R_reads' HO_11.out).2.2 | (with_reducible refine Kd.C_alloc ?_ _) | (with_reducible refine Kd.C_drewN ?_ _) | (with_reducible refine Kd.C_drew ?_)))
           (case side2 => exact (Kd.R_reads' HO_11.out).2.1)
           rintro e w66 ⟨v258, rfl, ho0, hb⟩
           refine ⟨_, rfl, ?_⟩
           have n0_ := Aside0.mk (Kd.R_below (by (with_reducible repeat (first | apply Kd.R_alloc | apply Kd.R_drewN | apply Kd.R_drew)); exact HO_11.out) hb)
           have n1_ := Aside0.mk (Kd.R_elder' (by (with_reducible repeat (first | apply Kd.R_alloc | apply Kd.R_drewN | apply Kd.R_drew)); exact HO_13.out) (Kd.R_base ho0) hb)
           have n2_ := Aside0.mk (Kd.R_elder' (by (with_reducible repeat (first | apply Kd.R_alloc | apply Kd.R_drewN | apply Kd.R_drew)); exact HO255.out) (Kd.R_base ho0) hb)
           have n3_ := Aside0.mk (Kd.R_lower (Kd.R_new' (Kd.R_new' ho0 (Kd.R_lt (by (with_reducible repeat (first | apply Kd.R_alloc | apply Kd.R_drewN | apply Kd.R_drew)); exact HO_13.out))) (Kd.R_lt (by (with_reducible repeat (first | apply Kd.R_alloc | apply Kd.R_drewN | apply Kd.R_drew)); exact HO255.out))) (below_size (by repeat (first | (with_reducible first | exact HB.out | apply below_alloc | apply pw_below_drewN | apply below_drew1 | refine below_set ?_ GE232.out | refine below_set ?_ GE233.out) | exact HB.out))))
           have n4_ := Aside0.mk (blk_below (g := gb232) (o := .cells #[.int .i64 a2_0, .int .i64 a2_1] 42 (0, 0)) (by (with_reducible repeat (first | refine blk_drewN ?_ _ | refine blk_drew ?_ | refine blk_alloc ?_ _)); exact BK232.out) hb)
           have n5_ := Aside0.mk (blk_below (g := gb233) (o := .cells #[.int .i64 y0, .int .i64 y1] 42 (0, 0)) (by (with_reducible repeat (first | refine blk_drewN ?_ _ | refine blk_drew ?_ | refine blk_alloc ?_ _)); exact BK233.out) hb)
           have n6_ := Aside0.mk (below_step (by repeat (first | (with_reducible first | exact HB.out | apply below_alloc | apply pw_below_drewN | apply below_drew1 | refine below_set ?_ GE232.out | refine below_set ?_ GE233.out) | exact HB.out)) hb)
           clear HO_11
           clear HO_13
           clear HO255
           clear BK232
           clear BK233
           clear HB
           have HO_11 := n0_
           have HO_13 := n1_
           have HO255 := n2_
           have HO259 := n3_
           have BK232 := n4_
           have BK233 := n5_
           have HB := n6_
           clear n0_ n1_ n2_ n3_ n4_ n5_ n6_
           (try clear hb)
           (try clear hb2)
           (try clear hk)
           (try clear hi)
           (try clear ho0)
           obtain ⟨Ao67, co67, eo67⟩ := Kd.R_slice HO259.out
           (first | subst eo67 | (injection eo67 with f1_ f2_ f3_; have f4_ := f1_.symm; have f5_ := f3_.symm; clear f1_ f2_ f3_; subst f4_; subst f5_))
           refine hK.out _ _ ⟨(blk_cell BK233.out 0).trans rfl, (blk_cell BK233.out 1).trans rfl⟩ (fun hHeld => ?_)
           clear hK K
           refine norm_ (a' := ?_) ?_ ?_
           rotate_left
           ·show Act.put _ (some 112) _ = _
            simp only [Act.put, List.setIfInBounds_toArray, List.set_cons_zero, List.set_cons_succ, i64_w, i32_w]
            rfl
           refine one_ (i := 37) (N := some 116) (mk_ 38 3) rfl rfl (one_of HT_.out (by kernel_rfl)) (by decide) (fun K hK => ?_)
           refine goes_ Try.func23 (by kernel_rfl) rfl #[.slice Ao67 t257.length co67, .int .i64 (wrap64 (Int.tmod (IntKind.u64.wrap (a0)) 64)), .int .u64 (IntKind.u64.wrap ((Int.tmod a1 18446744073709551615) + 1))] (by rfl) rfl rfl (by (try simp only [List.map_toArray, List.map_cons, List.map_nil]); first | done | rfl | (simp only [List.length_drop, List.length_take]; rfl)) ?_
           with_reducible refine (batch_Of.calls kj22 _ _ t257 (wrap64 (Int.tmod (IntKind.u64.wrap (a0)) 64)) (IntKind.u64.wrap ((Int.tmod a1 18446744073709551615) + 1)) t260 _ ?side1 ?side2 A58.out).mono ?_
           (case side1 => repeat (first | exact (Kd.R_reads' HO259.out).2.2 | (with_reducible refine Kd.C_alloc ?_ _) | (with_reducible refine Kd.C_drewN ?_ _) | (with_reducible refine Kd.C_drew ?_)))
           (case side2 => exact (Kd.R_reads' HO259.out).2.1)
           rintro e w68 ⟨rfl, hb⟩
           refine ⟨_, rfl, ?_⟩
           have n0_ := Aside0.mk (Kd.R_below (by (with_reducible repeat (first | apply Kd.R_alloc | apply Kd.R_drewN | apply Kd.R_drew)); exact HO_11.out) hb)
           have n1_ := Aside0.mk (Kd.R_below (by (with_reducible repeat (first | apply Kd.R_alloc | apply Kd.R_drewN | apply Kd.R_drew)); exact HO_13.out) hb)
           have n2_ := Aside0.mk (Kd.R_below (by (with_reducible repeat (first | apply Kd.R_alloc | apply Kd.R_drewN | apply Kd.R_drew)); exact HO255.out) hb)
           have n3_ := Aside0.mk (Kd.R_below (by (with_reducible repeat (first | apply Kd.R_alloc | apply Kd.R_drewN | apply Kd.R_drew)); exact HO259.out) hb)
           have n4_ := Aside0.mk (blk_below (g := gb232) (o := .cells #[.int .i64 a2_0, .int .i64 a2_1] 42 (0, 0)) (by (with_reducible repeat (first | refine blk_drewN ?_ _ | refine blk_drew ?_ | refine blk_alloc ?_ _)); exact BK232.out) hb)
           have n5_ := Aside0.mk (blk_below (g := gb233) (o := .cells #[.int .i64 y0, .int .i64 y1] 42 (0, 0)) (by (with_reducible repeat (first | refine blk_drewN ?_ _ | refine blk_drew ?_ | refine blk_alloc ?_ _)); exact BK233.out) hb)
           have n6_ := Aside0.mk (below_step (by repeat (first | (with_reducible first | exact HB.out | apply below_alloc | apply pw_below_drewN | apply below_drew1 | refine below_set ?_ GE232.out | refine below_set ?_ GE233.out) | exact HB.out)) hb)
           clear HO_11
           clear HO_13
           clear HO255
           clear HO259
           clear BK232
           clear BK233
           clear HB
           have HO_11 := n0_
           have HO_13 := n1_
           have HO255 := n2_
           have HO259 := n3_
           have BK232 := n4_
           have BK233 := n5_
           have HB := n6_
           clear n0_ n1_ n2_ n3_ n4_ n5_ n6_
           (try clear hb)
           (try clear hb2)
           (try clear hk)
           (try clear hi)
           refine hK.out _ _ ⟨(blk_cell BK233.out 0).trans rfl, (blk_cell BK233.out 1).trans rfl⟩ (fun hHeld => ?_)
           clear hK K
           refine norm_ (a' := ?_) ?_ ?_
           rotate_left
           ·show Act.put _ (some 116) _ = _
            simp only [Act.put, List.setIfInBounds_toArray, List.set_cons_zero, List.set_cons_succ, i64_w, i32_w]
            rfl
           refine pv_ 38 117 (mk_ 39 2) HT_ ?_
           refine pv_ 39 118 (mk_ 40 1) HT_ ?_
           refine pv_ 40 6 (mk_ 41 0) HT_ ?_
           refine done_ (done_of HT_.out (by kernel_rfl)) ?_
           try go_wp2
           go_ret
           exact ⟨by first | rfl | (simp [errW_none, errW_some] <;> rfl) | (simp [*, errW_none, errW_some] <;> rfl), by repeat (first | (with_reducible first | exact HB.out | apply below_alloc | apply pw_below_drewN | apply below_drew1 | refine below_set ?_ GE232.out | refine below_set ?_ GE233.out) | exact HB.out)⟩
          ·rw [if_neg c56] at H
           have c56b0 : (t256 == y0) = false := beq_eq_false_iff_ne.mpr c56
           have c56b1 : (t256 != y0) = true := bne_iff_ne.mpr c56
           obtain rfl := Option.some.inj H
           try go_wp2
           have n0_ := Aside0.mk (Kd.R_drew HO_11.out)
           have n1_ := Aside0.mk (Kd.R_drew HO_13.out)
           have n2_ := Aside0.mk (blk_drew BK232.out)
           have n3_ := Aside0.mk (blk_drew BK233.out)
           have n4_ := Aside0.mk (below_drew1 HB.out)
           clear HO_11
           clear HO_13
           clear BK232
           clear BK233
           clear HB
           have HO_11 := n0_
           have HO_13 := n1_
           have BK232 := n2_
           have BK233 := n3_
           have HB := n4_
           clear n0_ n1_ n2_ n3_ n4_
           refine start_ (n := 41) (S := fun w' => w'.cell? ⟨gb233, 0, none⟩ = some (.int .i64 y0) ∧ w'.cell? ⟨gb233, 1, none⟩ = some (.int .i64 y1)) (ds := []) (mk_ 0 41) (by kernel_rfl) rfl rfl ⟨(blk_cell BK233.out 0).trans rfl, (blk_cell BK233.out 1).trans rfl⟩ (fun hHeld => ?_); refine with_tabW marchlandlaw03_BatchGreat.tab15 marchlandlaw03_BatchGreat.bits15 (fun HT_ HW_ => ?_)
           generalize wc.drew = w69 at HO_11 HO_13 BK232 BK233 HB hHeld ⊢
           refine one_ (i := 0) (N := some 79) (mk_ 1 40) rfl rfl (one_of HT_.out (by kernel_rfl)) (by decide) (fun K hK => ?_)
           refine goes_ Try.func17 (by kernel_rfl) rfl #[] (by rfl) rfl rfl (by (try simp only [List.map_toArray, List.map_cons, List.map_nil]); first | done | rfl | (simp only [List.length_drop, List.length_take]; rfl)) ?_
           with_reducible refine (marchlandlaw03_told.calls kj22  true _ A48.out).mono ?_
           rintro e w70 ⟨rfl, hb⟩
           refine ⟨_, rfl, ?_⟩
           have n0_ := Aside0.mk (Kd.R_below (by (with_reducible repeat (first | apply Kd.R_alloc | apply Kd.R_drewN | apply Kd.R_drew)); exact HO_11.out) hb)
           have n1_ := Aside0.mk (Kd.R_below (by (with_reducible repeat (first | apply Kd.R_alloc | apply Kd.R_drewN | apply Kd.R_drew)); exact HO_13.out) hb)
           have n2_ := Aside0.mk (blk_below (g := gb232) (o := .cells #[.int .i64 a2_0, .int .i64 a2_1] 42 (0, 0)) (by (with_reducible repeat (first | refine blk_drewN ?_ _ | refine blk_drew ?_ | refine blk_alloc ?_ _)); exact BK232.out) hb)
           have n3_ := Aside0.mk (blk_below (g := gb233) (o := .cells #[.int .i64 y0, .int .i64 y1] 42 (0, 0)) (by (with_reducible repeat (first | refine blk_drewN ?_ _ | refine blk_drew ?_ | refine blk_alloc ?_ _)); exact BK233.out) hb)
           have n4_ := Aside0.mk (below_step (by repeat (first | (with_reducible first | exact HB.out | apply below_alloc | apply pw_below_drewN | apply below_drew1 | refine below_set ?_ GE232.out | refine below_set ?_ GE233.out) | exact HB.out)) hb)
           clear HO_11
           clear HO_13
           clear BK232
           clear BK233
           clear HB
           have HO_11 := n0_
           have HO_13 := n1_
           have BK232 := n2_
           have BK233 := n3_
           have HB := n4_
           clear n0_ n1_ n2_ n3_ n4_
           (try clear hb)
           (try clear hb2)
           (try clear hk)
           (try clear hi)
           obtain ⟨Ao71, co71, eo71⟩ := Kd.R_slice HO_13.out
           (first | subst eo71 | (injection eo71 with f1_ f2_ f3_; have f4_ := f1_.symm; have f5_ := f3_.symm; clear f1_ f2_ f3_; subst f4_; subst f5_))
           refine hK.out _ _ ⟨(blk_cell BK233.out 0).trans rfl, (blk_cell BK233.out 1).trans rfl⟩ (fun hHeld => ?_)
           clear hK K
           refine norm_ (a' := ?_) ?_ ?_
           rotate_left
           ·show Act.put _ (some 79) _ = _
            simp only [Act.put, List.setIfInBounds_toArray, List.set_cons_zero, List.set_cons_succ, i64_w, i32_w]
            rfl
           refine pv_ 1 80 (mk_ 2 39) HT_ ?_
           refine pv_ 2 81 (mk_ 3 38) HT_ ?_
           refine pv_ 3 82 (mk_ 4 37) HT_ ?_
           refine pv_ 4 83 (mk_ 5 36) HT_ ?_
           refine pv_ 5 84 (mk_ 6 35) HT_ ?_
           refine pv_ 6 85 (mk_ 7 34) HT_ ?_
           refine pv_ 7 86 (mk_ 8 33) HT_ ?_
           refine pv_ 8 87 (mk_ 9 32) HT_ ?_
           refine pv_ 10 89 #[true, true, true, true, true, true, true, true, true, false, true, false, false, false, false, false, false, false, false, false, false, false, false, false, false, false, false, false, false, false, false, false, false, false, false, false, false, false, false, false, false] HT_ ?_
           refine one_ (i := 9) (N := some 88) (mk_ 11 30) rfl rfl (one_of HT_.out (by kernel_rfl)) (by decide) (fun K hK => ?_)
           refine goes_ Try.func23 (by kernel_rfl) rfl #[.slice Ao71 t246.length co71, .int .i64 (wrap64 (Int.tmod (IntKind.u64.wrap (a0)) 64)), .int .u64 (Int.tmod a1 18446744073709551615)] (by rfl) rfl rfl (by (try simp only [List.map_toArray, List.map_cons, List.map_nil]); first | done | rfl | (simp only [List.length_drop, List.length_take]; rfl)) ?_
           with_reducible refine (batch_Of.calls kj22 _ _ t246 (wrap64 (Int.tmod (IntKind.u64.wrap (a0)) 64)) (Int.tmod a1 18446744073709551615) t252 _ ?side1 ?side2 A51.out).mono ?_
           (case side1 => repeat (first | exact (Kd.R_reads' HO_13.out).2.2 | (with_reducible refine Kd.C_alloc ?_ _) | (with_reducible refine Kd.C_drewN ?_ _) | (with_reducible refine Kd.C_drew ?_)))
           (case side2 => exact (Kd.R_reads' HO_13.out).2.1)
           rintro e w72 ⟨rfl, hb⟩
           refine ⟨_, rfl, ?_⟩
           have n0_ := Aside0.mk (Kd.R_below (by (with_reducible repeat (first | apply Kd.R_alloc | apply Kd.R_drewN | apply Kd.R_drew)); exact HO_11.out) hb)
           have n1_ := Aside0.mk (Kd.R_below (by (with_reducible repeat (first | apply Kd.R_alloc | apply Kd.R_drewN | apply Kd.R_drew)); exact HO_13.out) hb)
           have n2_ := Aside0.mk (blk_below (g := gb232) (o := .cells #[.int .i64 a2_0, .int .i64 a2_1] 42 (0, 0)) (by (with_reducible repeat (first | refine blk_drewN ?_ _ | refine blk_drew ?_ | refine blk_alloc ?_ _)); exact BK232.out) hb)
           have n3_ := Aside0.mk (blk_below (g := gb233) (o := .cells #[.int .i64 y0, .int .i64 y1] 42 (0, 0)) (by (with_reducible repeat (first | refine blk_drewN ?_ _ | refine blk_drew ?_ | refine blk_alloc ?_ _)); exact BK233.out) hb)
           have n4_ := Aside0.mk (below_step (by repeat (first | (with_reducible first | exact HB.out | apply below_alloc | apply pw_below_drewN | apply below_drew1 | refine below_set ?_ GE232.out | refine below_set ?_ GE233.out) | exact HB.out)) hb)
           clear HO_11
           clear HO_13
           clear BK232
           clear BK233
           clear HB
           have HO_11 := n0_
           have HO_13 := n1_
           have BK232 := n2_
           have BK233 := n3_
           have HB := n4_
           clear n0_ n1_ n2_ n3_ n4_
           (try clear hb)
           (try clear hb2)
           (try clear hk)
           (try clear hi)
           refine hK.out _ _ ⟨(blk_cell BK233.out 0).trans rfl, (blk_cell BK233.out 1).trans rfl⟩ (fun hHeld => ?_)
           clear hK K
           refine norm_ (a' := ?_) ?_ ?_
           rotate_left
           ·show Act.put _ (some 88) _ = _
            simp only [Act.put, List.setIfInBounds_toArray, List.set_cons_zero, List.set_cons_succ, i64_w, i32_w]
            rfl
           refine pv_ 11 90 (mk_ 12 29) HT_ ?_
           refine pv_ 12 91 (mk_ 13 28) HT_ ?_
           refine pv_ 13 92 (mk_ 14 27) HT_ ?_
           refine pv_ 14 93 (mk_ 15 26) HT_ ?_
           refine pv_ 15 94 (mk_ 16 25) HT_ ?_
           refine pv_ 16 95 (mk_ 17 24) HT_ ?_
           refine pv_ 17 96 (mk_ 18 23) HT_ ?_
           refine pv_ 18 97 (mk_ 19 22) HT_ ?_
           refine pv_ 19 98 (mk_ 20 21) HT_ ?_
           refine pv_ 20 99 (mk_ 21 20) HT_ ?_
           refine pv_ 21 100 (mk_ 22 19) HT_ ?_
           refine pv_ 22 101 (mk_ 23 18) HT_ ?_
           refine pv_ 24 103 #[true, true, true, true, true, true, true, true, true, true, true, true, true, true, true, true, true, true, true, true, true, true, true, false, true, false, false, false, false, false, false, false, false, false, false, false, false, false, false, false, false] HT_ ?_
           refine pv_ 25 104 #[true, true, true, true, true, true, true, true, true, true, true, true, true, true, true, true, true, true, true, true, true, true, true, false, true, true, false, false, false, false, false, false, false, false, false, false, false, false, false, false, false] HT_ ?_
           refine pv_ 27 106 #[true, true, true, true, true, true, true, true, true, true, true, true, true, true, true, true, true, true, true, true, true, true, true, false, true, true, false, true, false, false, false, false, false, false, false, false, false, false, false, false, false] HT_ ?_
           refine tv_ 28 107 #[true, true, true, true, true, true, true, true, true, true, true, true, true, true, true, true, true, true, true, true, true, true, true, false, true, true, false, true, true, false, false, false, false, false, false, false, false, false, false, false, false] HT_ HW_ hHeld (hy := by rintro w' ⟨s0, s1⟩; go_simp; with_reducible rfl) (h := ?_)
           refine one_ (i := 23) (N := some 102) #[true, true, true, true, true, true, true, true, true, true, true, true, true, true, true, true, true, true, true, true, true, true, true, true, true, true, false, true, true, false, false, false, false, false, false, false, false, false, false, false, false] rfl rfl (one_of HT_.out (by kernel_rfl)) (by decide) (fun K hK => ?_)
           refine goes_ Try.func14 (by kernel_rfl) rfl #[.slice Ao30 y234.length co30] (by rfl) rfl rfl (by (try simp only [List.map_toArray, List.map_cons, List.map_nil]); first | done | rfl | (simp only [List.length_drop, List.length_take]; rfl)) ?_
           with_reducible refine (marchlandlaw03_To.calls kj22 _ _ y234 t253 _ ?side1 ?side2 A54.out).mono ?_
           (case side1 => repeat (first | exact (Kd.R_reads' HO_11.out).2.2 | (with_reducible refine Kd.C_alloc ?_ _) | (with_reducible refine Kd.C_drewN ?_ _) | (with_reducible refine Kd.C_drew ?_)))
           (case side2 => exact (Kd.R_reads' HO_11.out).2.1)
           rintro e w73 ⟨v254, rfl, ho0, hb⟩
           refine ⟨_, rfl, ?_⟩
           have n0_ := Aside0.mk (Kd.R_below (by (with_reducible repeat (first | apply Kd.R_alloc | apply Kd.R_drewN | apply Kd.R_drew)); exact HO_11.out) hb)
           have n1_ := Aside0.mk (Kd.R_elder' (by (with_reducible repeat (first | apply Kd.R_alloc | apply Kd.R_drewN | apply Kd.R_drew)); exact HO_13.out) (Kd.R_base ho0) hb)
           have n2_ := Aside0.mk (Kd.R_lower (Kd.R_new' ho0 (Kd.R_lt (by (with_reducible repeat (first | apply Kd.R_alloc | apply Kd.R_drewN | apply Kd.R_drew)); exact HO_13.out))) (below_size (by repeat (first | (with_reducible first | exact HB.out | apply below_alloc | apply pw_below_drewN | apply below_drew1 | refine below_set ?_ GE232.out | refine below_set ?_ GE233.out) | exact HB.out))))
           have n3_ := Aside0.mk (blk_below (g := gb232) (o := .cells #[.int .i64 a2_0, .int .i64 a2_1] 42 (0, 0)) (by (with_reducible repeat (first | refine blk_drewN ?_ _ | refine blk_drew ?_ | refine blk_alloc ?_ _)); exact BK232.out) hb)
           have n4_ := Aside0.mk (blk_below (g := gb233) (o := .cells #[.int .i64 y0, .int .i64 y1] 42 (0, 0)) (by (with_reducible repeat (first | refine blk_drewN ?_ _ | refine blk_drew ?_ | refine blk_alloc ?_ _)); exact BK233.out) hb)
           have n5_ := Aside0.mk (below_step (by repeat (first | (with_reducible first | exact HB.out | apply below_alloc | apply pw_below_drewN | apply below_drew1 | refine below_set ?_ GE232.out | refine below_set ?_ GE233.out) | exact HB.out)) hb)
           clear HO_11
           clear HO_13
           clear BK232
           clear BK233
           clear HB
           have HO_11 := n0_
           have HO_13 := n1_
           have HO255 := n2_
           have BK232 := n3_
           have BK233 := n4_
           have HB := n5_
           clear n0_ n1_ n2_ n3_ n4_ n5_
           (try clear hb)
           (try clear hb2)
           (try clear hk)
           (try clear hi)
           (try clear ho0)
           obtain ⟨Ao74, co74, eo74⟩ := Kd.R_slice HO255.out
           (first | subst eo74 | (injection eo74 with f1_ f2_ f3_; have f4_ := f1_.symm; have f5_ := f3_.symm; clear f1_ f2_ f3_; subst f4_; subst f5_))
           refine hK.out _ _ ⟨(blk_cell BK233.out 0).trans rfl, (blk_cell BK233.out 1).trans rfl⟩ (fun hHeld => ?_)
           clear hK K
           refine norm_ (a' := ?_) ?_ ?_
           rotate_left
           ·show Act.put _ (some 102) _ = _
            simp only [Act.put, List.setIfInBounds_toArray, List.set_cons_zero, List.set_cons_succ, i64_w, i32_w]
            rfl
           refine one_ (i := 26) (N := some 105) (mk_ 29 12) rfl rfl (one_of HT_.out (by kernel_rfl)) (by decide) (fun K hK => ?_)
           refine goes_ Try.func23 (by kernel_rfl) rfl #[.slice Ao74 t253.length co74, .int .i64 (wrap64 (Int.tmod (IntKind.u64.wrap (a0)) 64)), .int .u64 (Int.tmod a1 18446744073709551615)] (by rfl) rfl rfl (by (try simp only [List.map_toArray, List.map_cons, List.map_nil]); first | done | rfl | (simp only [List.length_drop, List.length_take]; rfl)) ?_
           with_reducible refine (batch_Of.calls kj22 _ _ t253 (wrap64 (Int.tmod (IntKind.u64.wrap (a0)) 64)) (Int.tmod a1 18446744073709551615) t256 _ ?side1 ?side2 A55.out).mono ?_
           (case side1 => repeat (first | exact (Kd.R_reads' HO255.out).2.2 | (with_reducible refine Kd.C_alloc ?_ _) | (with_reducible refine Kd.C_drewN ?_ _) | (with_reducible refine Kd.C_drew ?_)))
           (case side2 => exact (Kd.R_reads' HO255.out).2.1)
           rintro e w75 ⟨rfl, hb⟩
           refine ⟨_, rfl, ?_⟩
           have n0_ := Aside0.mk (Kd.R_below (by (with_reducible repeat (first | apply Kd.R_alloc | apply Kd.R_drewN | apply Kd.R_drew)); exact HO_11.out) hb)
           have n1_ := Aside0.mk (Kd.R_below (by (with_reducible repeat (first | apply Kd.R_alloc | apply Kd.R_drewN | apply Kd.R_drew)); exact HO_13.out) hb)
           have n2_ := Aside0.mk (Kd.R_below (by (with_reducible repeat (first | apply Kd.R_alloc | apply Kd.R_drewN | apply Kd.R_drew)); exact HO255.out) hb)
           have n3_ := Aside0.mk (blk_below (g := gb232) (o := .cells #[.int .i64 a2_0, .int .i64 a2_1] 42 (0, 0)) (by (with_reducible repeat (first | refine blk_drewN ?_ _ | refine blk_drew ?_ | refine blk_alloc ?_ _)); exact BK232.out) hb)
           have n4_ := Aside0.mk (blk_below (g := gb233) (o := .cells #[.int .i64 y0, .int .i64 y1] 42 (0, 0)) (by (with_reducible repeat (first | refine blk_drewN ?_ _ | refine blk_drew ?_ | refine blk_alloc ?_ _)); exact BK233.out) hb)
           have n5_ := Aside0.mk (below_step (by repeat (first | (with_reducible first | exact HB.out | apply below_alloc | apply pw_below_drewN | apply below_drew1 | refine below_set ?_ GE232.out | refine below_set ?_ GE233.out) | exact HB.out)) hb)
           clear HO_11
           clear HO_13
           clear HO255
           clear BK232
           clear BK233
           clear HB
           have HO_11 := n0_
           have HO_13 := n1_
           have HO255 := n2_
           have BK232 := n3_
           have BK233 := n4_
           have HB := n5_
           clear n0_ n1_ n2_ n3_ n4_ n5_
           (try clear hb)
           (try clear hb2)
           (try clear hk)
           (try clear hi)
           refine hK.out _ _ ⟨(blk_cell BK233.out 0).trans rfl, (blk_cell BK233.out 1).trans rfl⟩ (fun hHeld => ?_)
           clear hK K
           refine norm_ (a' := ?_) ?_ ?_
           rotate_left
           ·show Act.put _ (some 105) _ = _
            simp only [Act.put, List.setIfInBounds_toArray, List.set_cons_zero, List.set_cons_succ, i64_w, i32_w]
            rfl
           refine pv_ 29 108 (mk_ 30 11) HT_ ?_
           refine pv_ 30 109 (mk_ 31 10) HT_ ?_
           refine pv_ 31 110 (mk_ 32 9) HT_ ?_
           refine pu_ 32 111 (mk_ 33 8) HT_ ?_
           refine pu_ 33 112 (mk_ 34 7) HT_ ?_
           refine pu_ 34 113 (mk_ 35 6) HT_ ?_
           refine pu_ 35 114 (mk_ 36 5) HT_ ?_
           refine pu_ 36 115 (mk_ 37 4) HT_ ?_
           refine pu_ 37 116 (mk_ 38 3) HT_ ?_
           refine pu_ 38 117 (mk_ 39 2) HT_ ?_
           refine pv_ 39 118 (mk_ 40 1) HT_ ?_
           refine pv_ 40 6 (mk_ 41 0) HT_ ?_
           refine done_ (done_of HT_.out (by kernel_rfl)) ?_
           try go_wp2
           go_ret
           exact ⟨by first | rfl | (simp [errW_none, errW_some] <;> rfl) | (simp [*, errW_none, errW_some] <;> rfl), by repeat (first | (with_reducible first | exact HB.out | apply below_alloc | apply pw_below_drewN | apply below_drew1 | refine below_set ?_ GE232.out | refine below_set ?_ GE233.out) | exact HB.out)⟩
         ·rw [if_neg c53] at H
          have c53b0 : (((t246.length : Int) == 0) == ((wrap64 (y0 + y1)) == 0)) = false := by simpa using c53
          (try (have c53b1 : decide (((t246.length : Int) == 0) = ((wrap64 (y0 + y1)) == 0)) = false := by simpa using c53))
          (try (have c53b2 : (((t246.length : Int) == 0) == ((wrap64 (y0 + y1)) == 0)) = false := by simpa using c53))
          (try (have c53b3 : ¬ (((t246.length : Int) == 0) = ((wrap64 (y0 + y1)) == 0)) := by simpa using c53))
          clear c53
          obtain rfl := Option.some.inj H
          try go_wp2
          have n0_ := Aside0.mk (Kd.R_drew HO_11.out)
          have n1_ := Aside0.mk (Kd.R_drew HO_13.out)
          have n2_ := Aside0.mk (blk_drew BK232.out)
          have n3_ := Aside0.mk (blk_drew BK233.out)
          have n4_ := Aside0.mk (below_drew1 HB.out)
          clear HO_11
          clear HO_13
          clear BK232
          clear BK233
          clear HB
          have HO_11 := n0_
          have HO_13 := n1_
          have BK232 := n2_
          have BK233 := n3_
          have HB := n4_
          clear n0_ n1_ n2_ n3_ n4_
          refine start_ (n := 41) (S := fun w' => True) (ds := []) (mk_ 0 41) (by kernel_rfl) rfl rfl trivial (fun hHeld => ?_); refine with_tabW marchlandlaw03_BatchGreat.tab15 marchlandlaw03_BatchGreat.bits15 (fun HT_ HW_ => ?_)
          generalize wc.drew = w76 at HO_11 HO_13 BK232 BK233 HB hHeld ⊢
          refine one_ (i := 0) (N := some 79) (mk_ 1 40) rfl rfl (one_of HT_.out (by kernel_rfl)) (by decide) (fun K hK => ?_)
          refine goes_ Try.func17 (by kernel_rfl) rfl #[] (by rfl) rfl rfl (by (try simp only [List.map_toArray, List.map_cons, List.map_nil]); first | done | rfl | (simp only [List.length_drop, List.length_take]; rfl)) ?_
          with_reducible refine (marchlandlaw03_told.calls kj22  true _ A48.out).mono ?_
          rintro e w77 ⟨rfl, hb⟩
          refine ⟨_, rfl, ?_⟩
          have n0_ := Aside0.mk (Kd.R_below (by (with_reducible repeat (first | apply Kd.R_alloc | apply Kd.R_drewN | apply Kd.R_drew)); exact HO_11.out) hb)
          have n1_ := Aside0.mk (Kd.R_below (by (with_reducible repeat (first | apply Kd.R_alloc | apply Kd.R_drewN | apply Kd.R_drew)); exact HO_13.out) hb)
          have n2_ := Aside0.mk (blk_below (g := gb232) (o := .cells #[.int .i64 a2_0, .int .i64 a2_1] 42 (0, 0)) (by (with_reducible repeat (first | refine blk_drewN ?_ _ | refine blk_drew ?_ | refine blk_alloc ?_ _)); exact BK232.out) hb)
          have n3_ := Aside0.mk (blk_below (g := gb233) (o := .cells #[.int .i64 y0, .int .i64 y1] 42 (0, 0)) (by (with_reducible repeat (first | refine blk_drewN ?_ _ | refine blk_drew ?_ | refine blk_alloc ?_ _)); exact BK233.out) hb)
          have n4_ := Aside0.mk (below_step (by repeat (first | (with_reducible first | exact HB.out | apply below_alloc | apply pw_below_drewN | apply below_drew1 | refine below_set ?_ GE232.out | refine below_set ?_ GE233.out) | exact HB.out)) hb)
          clear HO_11
          clear HO_13
          clear BK232
          clear BK233
          clear HB
          have HO_11 := n0_
          have HO_13 := n1_
          have BK232 := n2_
          have BK233 := n3_
          have HB := n4_
          clear n0_ n1_ n2_ n3_ n4_
          (try clear hb)
          (try clear hb2)
          (try clear hk)
          (try clear hi)
          obtain ⟨Ao78, co78, eo78⟩ := Kd.R_slice HO_13.out
          (first | subst eo78 | (injection eo78 with f1_ f2_ f3_; have f4_ := f1_.symm; have f5_ := f3_.symm; clear f1_ f2_ f3_; subst f4_; subst f5_))
          refine hK.out _ _ trivial (fun hHeld => ?_)
          clear hK K
          refine norm_ (a' := ?_) ?_ ?_
          rotate_left
          ·show Act.put _ (some 79) _ = _
           simp only [Act.put, List.setIfInBounds_toArray, List.set_cons_zero, List.set_cons_succ, i64_w, i32_w]
           rfl
          refine pv_ 1 80 (mk_ 2 39) HT_ ?_
          refine pv_ 2 81 (mk_ 3 38) HT_ ?_
          refine pv_ 3 82 (mk_ 4 37) HT_ ?_
          refine pv_ 4 83 (mk_ 5 36) HT_ ?_
          refine pv_ 5 84 (mk_ 6 35) HT_ ?_
          refine pv_ 6 85 (mk_ 7 34) HT_ ?_
          refine pv_ 7 86 (mk_ 8 33) HT_ ?_
          refine pv_ 8 87 (mk_ 9 32) HT_ ?_
          refine pv_ 10 89 #[true, true, true, true, true, true, true, true, true, false, true, false, false, false, false, false, false, false, false, false, false, false, false, false, false, false, false, false, false, false, false, false, false, false, false, false, false, false, false, false, false] HT_ ?_
          refine one_ (i := 9) (N := some 88) (mk_ 11 30) rfl rfl (one_of HT_.out (by kernel_rfl)) (by decide) (fun K hK => ?_)
          refine goes_ Try.func23 (by kernel_rfl) rfl #[.slice Ao78 t246.length co78, .int .i64 (wrap64 (Int.tmod (IntKind.u64.wrap (a0)) 64)), .int .u64 (Int.tmod a1 18446744073709551615)] (by rfl) rfl rfl (by (try simp only [List.map_toArray, List.map_cons, List.map_nil]); first | done | rfl | (simp only [List.length_drop, List.length_take]; rfl)) ?_
          with_reducible refine (batch_Of.calls kj22 _ _ t246 (wrap64 (Int.tmod (IntKind.u64.wrap (a0)) 64)) (Int.tmod a1 18446744073709551615) t252 _ ?side1 ?side2 A51.out).mono ?_
          (case side1 => repeat (first | exact (Kd.R_reads' HO_13.out).2.2 | (with_reducible refine Kd.C_alloc ?_ _) | (with_reducible refine Kd.C_drewN ?_ _) | (with_reducible refine Kd.C_drew ?_)))
          (case side2 => exact (Kd.R_reads' HO_13.out).2.1)
          rintro e w79 ⟨rfl, hb⟩
          refine ⟨_, rfl, ?_⟩
          have n0_ := Aside0.mk (Kd.R_below (by (with_reducible repeat (first | apply Kd.R_alloc | apply Kd.R_drewN | apply Kd.R_drew)); exact HO_11.out) hb)
          have n1_ := Aside0.mk (Kd.R_below (by (with_reducible repeat (first | apply Kd.R_alloc | apply Kd.R_drewN | apply Kd.R_drew)); exact HO_13.out) hb)
          have n2_ := Aside0.mk (blk_below (g := gb232) (o := .cells #[.int .i64 a2_0, .int .i64 a2_1] 42 (0, 0)) (by (with_reducible repeat (first | refine blk_drewN ?_ _ | refine blk_drew ?_ | refine blk_alloc ?_ _)); exact BK232.out) hb)
          have n3_ := Aside0.mk (blk_below (g := gb233) (o := .cells #[.int .i64 y0, .int .i64 y1] 42 (0, 0)) (by (with_reducible repeat (first | refine blk_drewN ?_ _ | refine blk_drew ?_ | refine blk_alloc ?_ _)); exact BK233.out) hb)
          have n4_ := Aside0.mk (below_step (by repeat (first | (with_reducible first | exact HB.out | apply below_alloc | apply pw_below_drewN | apply below_drew1 | refine below_set ?_ GE232.out | refine below_set ?_ GE233.out) | exact HB.out)) hb)
          clear HO_11
          clear HO_13
          clear BK232
          clear BK233
          clear HB
          have HO_11 := n0_
          have HO_13 := n1_
          have BK232 := n2_
          have BK233 := n3_
          have HB := n4_
          clear n0_ n1_ n2_ n3_ n4_
          (try clear hb)
          (try clear hb2)
          (try clear hk)
          (try clear hi)
          refine hK.out _ _ trivial (fun hHeld => ?_)
          clear hK K
          refine norm_ (a' := ?_) ?_ ?_
          rotate_left
          ·show Act.put _ (some 88) _ = _
           simp only [Act.put, List.setIfInBounds_toArray, List.set_cons_zero, List.set_cons_succ, i64_w, i32_w]
           rfl
          refine pv_ 11 90 (mk_ 12 29) HT_ ?_
          refine pv_ 12 91 (mk_ 13 28) HT_ ?_
          refine pv_ 13 92 (mk_ 14 27) HT_ ?_
          refine pv_ 14 93 (mk_ 15 26) HT_ ?_
          refine pv_ 15 94 (mk_ 16 25) HT_ ?_
          refine pv_ 16 95 (mk_ 17 24) HT_ ?_
          refine pv_ 17 96 (mk_ 18 23) HT_ ?_
          refine pv_ 18 97 (mk_ 19 22) HT_ ?_
          refine pv_ 19 98 (mk_ 20 21) HT_ ?_
          refine pv_ 20 99 (mk_ 21 20) HT_ ?_
          refine pv_ 21 100 (mk_ 22 19) HT_ ?_
          refine pu_ 22 101 (mk_ 23 18) HT_ ?_
          refine pu_ 23 102 (mk_ 24 17) HT_ ?_
          refine pu_ 24 103 (mk_ 25 16) HT_ ?_
          refine pu_ 25 104 (mk_ 26 15) HT_ ?_
          refine pu_ 26 105 (mk_ 27 14) HT_ ?_
          refine pu_ 27 106 (mk_ 28 13) HT_ ?_
          refine pu_ 28 107 (mk_ 29 12) HT_ ?_
          refine pu_ 29 108 (mk_ 30 11) HT_ ?_
          refine pv_ 30 109 (mk_ 31 10) HT_ ?_
          refine pv_ 31 110 (mk_ 32 9) HT_ ?_
          refine pu_ 32 111 (mk_ 33 8) HT_ ?_
          refine pu_ 33 112 (mk_ 34 7) HT_ ?_
          refine pu_ 34 113 (mk_ 35 6) HT_ ?_
          refine pu_ 35 114 (mk_ 36 5) HT_ ?_
          refine pu_ 36 115 (mk_ 37 4) HT_ ?_
          refine pu_ 37 116 (mk_ 38 3) HT_ ?_
          refine pu_ 38 117 (mk_ 39 2) HT_ ?_
          refine pv_ 39 118 (mk_ 40 1) HT_ ?_
          refine pv_ 40 6 (mk_ 41 0) HT_ ?_
          refine done_ (done_of HT_.out (by kernel_rfl)) ?_
          try go_wp2
          go_ret
          exact ⟨by first | rfl | (simp [errW_none, errW_some] <;> rfl) | (simp [*, errW_none, errW_some] <;> rfl), by repeat (first | (with_reducible first | exact HB.out | apply below_alloc | apply pw_below_drewN | apply below_drew1 | refine below_set ?_ GE232.out | refine below_set ?_ GE233.out) | exact HB.out)⟩
        ·rw [if_neg c52] at H
         have c52b0 : (t252 == (wrap64 (y0 + y1))) = false := beq_eq_false_iff_ne.mpr c52
         have c52b1 : (t252 != (wrap64 (y0 + y1))) = true := bne_iff_ne.mpr c52
         obtain rfl := Option.some.inj H
         try go_wp2
         have n0_ := Aside0.mk (Kd.R_drew HO_11.out)
         have n1_ := Aside0.mk (Kd.R_drew HO_13.out)
         have n2_ := Aside0.mk (blk_drew BK232.out)
         have n3_ := Aside0.mk (blk_drew BK233.out)
         have n4_ := Aside0.mk (below_drew1 HB.out)
         clear HO_11
         clear HO_13
         clear BK232
         clear BK233
         clear HB
         have HO_11 := n0_
         have HO_13 := n1_
         have BK232 := n2_
         have BK233 := n3_
         have HB := n4_
         clear n0_ n1_ n2_ n3_ n4_
         refine start_ (n := 41) (S := fun w' => True) (ds := []) (mk_ 0 41) (by kernel_rfl) rfl rfl trivial (fun hHeld => ?_); refine with_tabW marchlandlaw03_BatchGreat.tab15 marchlandlaw03_BatchGreat.bits15 (fun HT_ HW_ => ?_)
         generalize wc.drew = w80 at HO_11 HO_13 BK232 BK233 HB hHeld ⊢
         refine one_ (i := 0) (N := some 79) (mk_ 1 40) rfl rfl (one_of HT_.out (by kernel_rfl)) (by decide) (fun K hK => ?_)
         refine goes_ Try.func17 (by kernel_rfl) rfl #[] (by rfl) rfl rfl (by (try simp only [List.map_toArray, List.map_cons, List.map_nil]); first | done | rfl | (simp only [List.length_drop, List.length_take]; rfl)) ?_
         with_reducible refine (marchlandlaw03_told.calls kj22  true _ A48.out).mono ?_
         rintro e w81 ⟨rfl, hb⟩
         refine ⟨_, rfl, ?_⟩
         have n0_ := Aside0.mk (Kd.R_below (by (with_reducible repeat (first | apply Kd.R_alloc | apply Kd.R_drewN | apply Kd.R_drew)); exact HO_11.out) hb)
         have n1_ := Aside0.mk (Kd.R_below (by (with_reducible repeat (first | apply Kd.R_alloc | apply Kd.R_drewN | apply Kd.R_drew)); exact HO_13.out) hb)
         have n2_ := Aside0.mk (blk_below (g := gb232) (o := .cells #[.int .i64 a2_0, .int .i64 a2_1] 42 (0, 0)) (by (with_reducible repeat (first | refine blk_drewN ?_ _ | refine blk_drew ?_ | refine blk_alloc ?_ _)); exact BK232.out) hb)
         have n3_ := Aside0.mk (blk_below (g := gb233) (o := .cells #[.int .i64 y0, .int .i64 y1] 42 (0, 0)) (by (with_reducible repeat (first | refine blk_drewN ?_ _ | refine blk_drew ?_ | refine blk_alloc ?_ _)); exact BK233.out) hb)
         have n4_ := Aside0.mk (below_step (by repeat (first | (with_reducible first | exact HB.out | apply below_alloc | apply pw_below_drewN | apply below_drew1 | refine below_set ?_ GE232.out | refine below_set ?_ GE233.out) | exact HB.out)) hb)
         clear HO_11
         clear HO_13
         clear BK232
         clear BK233
         clear HB
         have HO_11 := n0_
         have HO_13 := n1_
         have BK232 := n2_
         have BK233 := n3_
         have HB := n4_
         clear n0_ n1_ n2_ n3_ n4_
         (try clear hb)
         (try clear hb2)
         (try clear hk)
         (try clear hi)
         obtain ⟨Ao82, co82, eo82⟩ := Kd.R_slice HO_13.out
         (first | subst eo82 | (injection eo82 with f1_ f2_ f3_; have f4_ := f1_.symm; have f5_ := f3_.symm; clear f1_ f2_ f3_; subst f4_; subst f5_))
         refine hK.out _ _ trivial (fun hHeld => ?_)
         clear hK K
         refine norm_ (a' := ?_) ?_ ?_
         rotate_left
         ·show Act.put _ (some 79) _ = _
          simp only [Act.put, List.setIfInBounds_toArray, List.set_cons_zero, List.set_cons_succ, i64_w, i32_w]
          rfl
         refine pv_ 1 80 (mk_ 2 39) HT_ ?_
         refine pv_ 2 81 (mk_ 3 38) HT_ ?_
         refine pv_ 3 82 (mk_ 4 37) HT_ ?_
         refine pv_ 4 83 (mk_ 5 36) HT_ ?_
         refine pv_ 5 84 (mk_ 6 35) HT_ ?_
         refine pv_ 6 85 (mk_ 7 34) HT_ ?_
         refine pv_ 7 86 (mk_ 8 33) HT_ ?_
         refine pv_ 8 87 (mk_ 9 32) HT_ ?_
         refine pv_ 10 89 #[true, true, true, true, true, true, true, true, true, false, true, false, false, false, false, false, false, false, false, false, false, false, false, false, false, false, false, false, false, false, false, false, false, false, false, false, false, false, false, false, false] HT_ ?_
         refine one_ (i := 9) (N := some 88) (mk_ 11 30) rfl rfl (one_of HT_.out (by kernel_rfl)) (by decide) (fun K hK => ?_)
         refine goes_ Try.func23 (by kernel_rfl) rfl #[.slice Ao82 t246.length co82, .int .i64 (wrap64 (Int.tmod (IntKind.u64.wrap (a0)) 64)), .int .u64 (Int.tmod a1 18446744073709551615)] (by rfl) rfl rfl (by (try simp only [List.map_toArray, List.map_cons, List.map_nil]); first | done | rfl | (simp only [List.length_drop, List.length_take]; rfl)) ?_
         with_reducible refine (batch_Of.calls kj22 _ _ t246 (wrap64 (Int.tmod (IntKind.u64.wrap (a0)) 64)) (Int.tmod a1 18446744073709551615) t252 _ ?side1 ?side2 A51.out).mono ?_
         (case side1 => repeat (first | exact (Kd.R_reads' HO_13.out).2.2 | (with_reducible refine Kd.C_alloc ?_ _) | (with_reducible refine Kd.C_drewN ?_ _) | (with_reducible refine Kd.C_drew ?_)))
         (case side2 => exact (Kd.R_reads' HO_13.out).2.1)
         rintro e w83 ⟨rfl, hb⟩
         refine ⟨_, rfl, ?_⟩
         have n0_ := Aside0.mk (Kd.R_below (by (with_reducible repeat (first | apply Kd.R_alloc | apply Kd.R_drewN | apply Kd.R_drew)); exact HO_11.out) hb)
         have n1_ := Aside0.mk (Kd.R_below (by (with_reducible repeat (first | apply Kd.R_alloc | apply Kd.R_drewN | apply Kd.R_drew)); exact HO_13.out) hb)
         have n2_ := Aside0.mk (blk_below (g := gb232) (o := .cells #[.int .i64 a2_0, .int .i64 a2_1] 42 (0, 0)) (by (with_reducible repeat (first | refine blk_drewN ?_ _ | refine blk_drew ?_ | refine blk_alloc ?_ _)); exact BK232.out) hb)
         have n3_ := Aside0.mk (blk_below (g := gb233) (o := .cells #[.int .i64 y0, .int .i64 y1] 42 (0, 0)) (by (with_reducible repeat (first | refine blk_drewN ?_ _ | refine blk_drew ?_ | refine blk_alloc ?_ _)); exact BK233.out) hb)
         have n4_ := Aside0.mk (below_step (by repeat (first | (with_reducible first | exact HB.out | apply below_alloc | apply pw_below_drewN | apply below_drew1 | refine below_set ?_ GE232.out | refine below_set ?_ GE233.out) | exact HB.out)) hb)
         clear HO_11
         clear HO_13
         clear BK232
         clear BK233
         clear HB
         have HO_11 := n0_
         have HO_13 := n1_
         have BK232 := n2_
         have BK233 := n3_
         have HB := n4_
         clear n0_ n1_ n2_ n3_ n4_
         (try clear hb)
         (try clear hb2)
         (try clear hk)
         (try clear hi)
         refine hK.out _ _ trivial (fun hHeld => ?_)
         clear hK K
         refine norm_ (a' := ?_) ?_ ?_
         rotate_left
         ·show Act.put _ (some 88) _ = _
          simp only [Act.put, List.setIfInBounds_toArray, List.set_cons_zero, List.set_cons_succ, i64_w, i32_w]
          rfl
         refine pv_ 11 90 (mk_ 12 29) HT_ ?_
         refine pv_ 12 91 (mk_ 13 28) HT_ ?_
         refine pv_ 13 92 (mk_ 14 27) HT_ ?_
         refine pu_ 14 93 (mk_ 15 26) HT_ ?_
         refine pu_ 15 94 (mk_ 16 25) HT_ ?_
         refine pu_ 16 95 (mk_ 17 24) HT_ ?_
         refine pu_ 17 96 (mk_ 18 23) HT_ ?_
         refine pu_ 18 97 (mk_ 19 22) HT_ ?_
         refine pu_ 19 98 (mk_ 20 21) HT_ ?_
         refine pv_ 20 99 (mk_ 21 20) HT_ ?_
         refine pv_ 21 100 (mk_ 22 19) HT_ ?_
         refine pu_ 22 101 (mk_ 23 18) HT_ ?_
         refine pu_ 23 102 (mk_ 24 17) HT_ ?_
         refine pu_ 24 103 (mk_ 25 16) HT_ ?_
         refine pu_ 25 104 (mk_ 26 15) HT_ ?_
         refine pu_ 26 105 (mk_ 27 14) HT_ ?_
         refine pu_ 27 106 (mk_ 28 13) HT_ ?_
         refine pu_ 28 107 (mk_ 29 12) HT_ ?_
         refine pu_ 29 108 (mk_ 30 11) HT_ ?_
         refine pv_ 30 109 (mk_ 31 10) HT_ ?_
         refine pv_ 31 110 (mk_ 32 9) HT_ ?_
         refine pu_ 32 111 (mk_ 33 8) HT_ ?_
         refine pu_ 33 112 (mk_ 34 7) HT_ ?_
         refine pu_ 34 113 (mk_ 35 6) HT_ ?_
         refine pu_ 35 114 (mk_ 36 5) HT_ ?_
         refine pu_ 36 115 (mk_ 37 4) HT_ ?_
         refine pu_ 37 116 (mk_ 38 3) HT_ ?_
         refine pu_ 38 117 (mk_ 39 2) HT_ ?_
         refine pv_ 39 118 (mk_ 40 1) HT_ ?_
         refine pv_ 40 6 (mk_ 41 0) HT_ ?_
         refine done_ (done_of HT_.out (by kernel_rfl)) ?_
         try go_wp2
         go_ret
         exact ⟨by first | rfl | (simp [errW_none, errW_some] <;> rfl) | (simp [*, errW_none, errW_some] <;> rfl), by repeat (first | (with_reducible first | exact HB.out | apply below_alloc | apply pw_below_drewN | apply below_drew1 | refine below_set ?_ GE232.out | refine below_set ?_ GE233.out) | exact HB.out)⟩
       ·rw [if_neg c50] at H
        have c50b0 : (t249 == 0) = false := beq_eq_false_iff_ne.mpr c50
        have c50b1 : (t249 != 0) = true := bne_iff_ne.mpr c50
        obtain rfl := Option.some.inj H
        try go_wp2
        have n0_ := Aside0.mk (Kd.R_drew HO_11.out)
        have n1_ := Aside0.mk (Kd.R_drew HO_13.out)
        have n2_ := Aside0.mk (blk_drew BK232.out)
        have n3_ := Aside0.mk (blk_drew BK233.out)
        have n4_ := Aside0.mk (below_drew1 HB.out)
        clear HO_11
        clear HO_13
        clear BK232
        clear BK233
        clear HB
        have HO_11 := n0_
        have HO_13 := n1_
        have BK232 := n2_
        have BK233 := n3_
        have HB := n4_
        clear n0_ n1_ n2_ n3_ n4_
        refine start_ (n := 41) (S := fun w' => True) (ds := []) (mk_ 0 41) (by kernel_rfl) rfl rfl trivial (fun hHeld => ?_); refine with_tabW marchlandlaw03_BatchGreat.tab15 marchlandlaw03_BatchGreat.bits15 (fun HT_ HW_ => ?_)
        generalize wc.drew = w84 at HO_11 HO_13 BK232 BK233 HB hHeld ⊢
        refine one_ (i := 0) (N := some 79) (mk_ 1 40) rfl rfl (one_of HT_.out (by kernel_rfl)) (by decide) (fun K hK => ?_)
        refine goes_ Try.func17 (by kernel_rfl) rfl #[] (by rfl) rfl rfl (by (try simp only [List.map_toArray, List.map_cons, List.map_nil]); first | done | rfl | (simp only [List.length_drop, List.length_take]; rfl)) ?_
        with_reducible refine (marchlandlaw03_told.calls kj22  true _ A48.out).mono ?_
        rintro e w85 ⟨rfl, hb⟩
        refine ⟨_, rfl, ?_⟩
        have n0_ := Aside0.mk (Kd.R_below (by (with_reducible repeat (first | apply Kd.R_alloc | apply Kd.R_drewN | apply Kd.R_drew)); exact HO_11.out) hb)
        have n1_ := Aside0.mk (Kd.R_below (by (with_reducible repeat (first | apply Kd.R_alloc | apply Kd.R_drewN | apply Kd.R_drew)); exact HO_13.out) hb)
        have n2_ := Aside0.mk (blk_below (g := gb232) (o := .cells #[.int .i64 a2_0, .int .i64 a2_1] 42 (0, 0)) (by (with_reducible repeat (first | refine blk_drewN ?_ _ | refine blk_drew ?_ | refine blk_alloc ?_ _)); exact BK232.out) hb)
        have n3_ := Aside0.mk (blk_below (g := gb233) (o := .cells #[.int .i64 y0, .int .i64 y1] 42 (0, 0)) (by (with_reducible repeat (first | refine blk_drewN ?_ _ | refine blk_drew ?_ | refine blk_alloc ?_ _)); exact BK233.out) hb)
        have n4_ := Aside0.mk (below_step (by repeat (first | (with_reducible first | exact HB.out | apply below_alloc | apply pw_below_drewN | apply below_drew1 | refine below_set ?_ GE232.out | refine below_set ?_ GE233.out) | exact HB.out)) hb)
        clear HO_11
        clear HO_13
        clear BK232
        clear BK233
        clear HB
        have HO_11 := n0_
        have HO_13 := n1_
        have BK232 := n2_
        have BK233 := n3_
        have HB := n4_
        clear n0_ n1_ n2_ n3_ n4_
        (try clear hb)
        (try clear hb2)
        (try clear hk)
        (try clear hi)
        refine hK.out _ _ trivial (fun hHeld => ?_)
        clear hK K
        refine norm_ (a' := ?_) ?_ ?_
        rotate_left
        ·show Act.put _ (some 79) _ = _
         simp only [Act.put, List.setIfInBounds_toArray, List.set_cons_zero, List.set_cons_succ, i64_w, i32_w]
         rfl
        refine pv_ 1 80 (mk_ 2 39) HT_ ?_
        refine pv_ 2 81 (mk_ 3 38) HT_ ?_
        refine pv_ 3 82 (mk_ 4 37) HT_ ?_
        refine pv_ 4 83 (mk_ 5 36) HT_ ?_
        refine pv_ 5 84 (mk_ 6 35) HT_ ?_
        refine pu_ 6 85 (mk_ 7 34) HT_ ?_
        refine pu_ 7 86 (mk_ 8 33) HT_ ?_
        refine pu_ 8 87 (mk_ 9 32) HT_ ?_
        refine pu_ 9 88 (mk_ 10 31) HT_ ?_
        refine pu_ 10 89 (mk_ 11 30) HT_ ?_
        refine pu_ 11 90 (mk_ 12 29) HT_ ?_
        refine pv_ 12 91 (mk_ 13 28) HT_ ?_
        refine pv_ 13 92 (mk_ 14 27) HT_ ?_
        refine pu_ 14 93 (mk_ 15 26) HT_ ?_
        refine pu_ 15 94 (mk_ 16 25) HT_ ?_
        refine pu_ 16 95 (mk_ 17 24) HT_ ?_
        refine pu_ 17 96 (mk_ 18 23) HT_ ?_
        refine pu_ 18 97 (mk_ 19 22) HT_ ?_
        refine pu_ 19 98 (mk_ 20 21) HT_ ?_
        refine pv_ 20 99 (mk_ 21 20) HT_ ?_
        refine pv_ 21 100 (mk_ 22 19) HT_ ?_
        refine pu_ 22 101 (mk_ 23 18) HT_ ?_
        refine pu_ 23 102 (mk_ 24 17) HT_ ?_
        refine pu_ 24 103 (mk_ 25 16) HT_ ?_
        refine pu_ 25 104 (mk_ 26 15) HT_ ?_
        refine pu_ 26 105 (mk_ 27 14) HT_ ?_
        refine pu_ 27 106 (mk_ 28 13) HT_ ?_
        refine pu_ 28 107 (mk_ 29 12) HT_ ?_
        refine pu_ 29 108 (mk_ 30 11) HT_ ?_
        refine pv_ 30 109 (mk_ 31 10) HT_ ?_
        refine pv_ 31 110 (mk_ 32 9) HT_ ?_
        refine pu_ 32 111 (mk_ 33 8) HT_ ?_
        refine pu_ 33 112 (mk_ 34 7) HT_ ?_
        refine pu_ 34 113 (mk_ 35 6) HT_ ?_
        refine pu_ 35 114 (mk_ 36 5) HT_ ?_
        refine pu_ 36 115 (mk_ 37 4) HT_ ?_
        refine pu_ 37 116 (mk_ 38 3) HT_ ?_
        refine pu_ 38 117 (mk_ 39 2) HT_ ?_
        refine pv_ 39 118 (mk_ 40 1) HT_ ?_
        refine pv_ 40 6 (mk_ 41 0) HT_ ?_
        refine done_ (done_of HT_.out (by kernel_rfl)) ?_
        try go_wp2
        go_ret
        exact ⟨by first | rfl | (simp [errW_none, errW_some] <;> rfl) | (simp [*, errW_none, errW_some] <;> rfl), by repeat (first | (with_reducible first | exact HB.out | apply below_alloc | apply pw_below_drewN | apply below_drew1 | refine below_set ?_ GE232.out | refine below_set ?_ GE233.out) | exact HB.out)⟩
      ·replace c49 := Bool.eq_false_iff.mpr c49
       subst c49
       have H1 : (some false) = some r := by rw [if_neg (show ¬ (false = true) by decide)] at H; exact H
       clear H
       have H := H1
       clear H1
       obtain rfl := Option.some.inj H
       try go_wp2
       have n0_ := Aside0.mk (Kd.R_drew HO_11.out)
       have n1_ := Aside0.mk (Kd.R_drew HO_13.out)
       have n2_ := Aside0.mk (blk_drew BK232.out)
       have n3_ := Aside0.mk (blk_drew BK233.out)
       have n4_ := Aside0.mk (below_drew1 HB.out)
       clear HO_11
       clear HO_13
       clear BK232
       clear BK233
       clear HB
       have HO_11 := n0_
       have HO_13 := n1_
       have BK232 := n2_
       have BK233 := n3_
       have HB := n4_
       clear n0_ n1_ n2_ n3_ n4_
       refine start_ (n := 41) (S := fun w' => True) (ds := []) (mk_ 0 41) (by kernel_rfl) rfl rfl trivial (fun hHeld => ?_); refine with_tabW marchlandlaw03_BatchGreat.tab15 marchlandlaw03_BatchGreat.bits15 (fun HT_ HW_ => ?_)
       generalize wc.drew = w86 at HO_11 HO_13 BK232 BK233 HB hHeld ⊢
       refine one_ (i := 0) (N := some 79) (mk_ 1 40) rfl rfl (one_of HT_.out (by kernel_rfl)) (by decide) (fun K hK => ?_)
       refine goes_ Try.func17 (by kernel_rfl) rfl #[] (by rfl) rfl rfl (by (try simp only [List.map_toArray, List.map_cons, List.map_nil]); first | done | rfl | (simp only [List.length_drop, List.length_take]; rfl)) ?_
       with_reducible refine (marchlandlaw03_told.calls kj22  false _ A48.out).mono ?_
       rintro e w87 ⟨rfl, hb⟩
       refine ⟨_, rfl, ?_⟩
       have n0_ := Aside0.mk (Kd.R_below (by (with_reducible repeat (first | apply Kd.R_alloc | apply Kd.R_drewN | apply Kd.R_drew)); exact HO_11.out) hb)
       have n1_ := Aside0.mk (Kd.R_below (by (with_reducible repeat (first | apply Kd.R_alloc | apply Kd.R_drewN | apply Kd.R_drew)); exact HO_13.out) hb)
       have n2_ := Aside0.mk (blk_below (g := gb232) (o := .cells #[.int .i64 a2_0, .int .i64 a2_1] 42 (0, 0)) (by (with_reducible repeat (first | refine blk_drewN ?_ _ | refine blk_drew ?_ | refine blk_alloc ?_ _)); exact BK232.out) hb)
       have n3_ := Aside0.mk (blk_below (g := gb233) (o := .cells #[.int .i64 y0, .int .i64 y1] 42 (0, 0)) (by (with_reducible repeat (first | refine blk_drewN ?_ _ | refine blk_drew ?_ | refine blk_alloc ?_ _)); exact BK233.out) hb)
       have n4_ := Aside0.mk (below_step (by repeat (first | (with_reducible first | exact HB.out | apply below_alloc | apply pw_below_drewN | apply below_drew1 | refine below_set ?_ GE232.out | refine below_set ?_ GE233.out) | exact HB.out)) hb)
       clear HO_11
       clear HO_13
       clear BK232
       clear BK233
       clear HB
       have HO_11 := n0_
       have HO_13 := n1_
       have BK232 := n2_
       have BK233 := n3_
       have HB := n4_
       clear n0_ n1_ n2_ n3_ n4_
       (try clear hb)
       (try clear hb2)
       (try clear hk)
       (try clear hi)
       refine hK.out _ _ trivial (fun hHeld => ?_)
       clear hK K
       refine norm_ (a' := ?_) ?_ ?_
       rotate_left
       ·show Act.put _ (some 79) _ = _
        simp only [Act.put, List.setIfInBounds_toArray, List.set_cons_zero, List.set_cons_succ, i64_w, i32_w]
        rfl
       refine pv_ 1 80 (mk_ 2 39) HT_ ?_
       refine pu_ 2 81 (mk_ 3 38) HT_ ?_
       refine pu_ 3 82 (mk_ 4 37) HT_ ?_
       refine pv_ 4 83 (mk_ 5 36) HT_ ?_
       refine pv_ 5 84 (mk_ 6 35) HT_ ?_
       refine pu_ 6 85 (mk_ 7 34) HT_ ?_
       refine pu_ 7 86 (mk_ 8 33) HT_ ?_
       refine pu_ 8 87 (mk_ 9 32) HT_ ?_
       refine pu_ 9 88 (mk_ 10 31) HT_ ?_
       refine pu_ 10 89 (mk_ 11 30) HT_ ?_
       refine pu_ 11 90 (mk_ 12 29) HT_ ?_
       refine pv_ 12 91 (mk_ 13 28) HT_ ?_
       refine pv_ 13 92 (mk_ 14 27) HT_ ?_
       refine pu_ 14 93 (mk_ 15 26) HT_ ?_
       refine pu_ 15 94 (mk_ 16 25) HT_ ?_
       refine pu_ 16 95 (mk_ 17 24) HT_ ?_
       refine pu_ 17 96 (mk_ 18 23) HT_ ?_
       refine pu_ 18 97 (mk_ 19 22) HT_ ?_
       refine pu_ 19 98 (mk_ 20 21) HT_ ?_
       refine pv_ 20 99 (mk_ 21 20) HT_ ?_
       refine pv_ 21 100 (mk_ 22 19) HT_ ?_
       refine pu_ 22 101 (mk_ 23 18) HT_ ?_
       refine pu_ 23 102 (mk_ 24 17) HT_ ?_
       refine pu_ 24 103 (mk_ 25 16) HT_ ?_
       refine pu_ 25 104 (mk_ 26 15) HT_ ?_
       refine pu_ 26 105 (mk_ 27 14) HT_ ?_
       refine pu_ 27 106 (mk_ 28 13) HT_ ?_
       refine pu_ 28 107 (mk_ 29 12) HT_ ?_
       refine pu_ 29 108 (mk_ 30 11) HT_ ?_
       refine pv_ 30 109 (mk_ 31 10) HT_ ?_
       refine pv_ 31 110 (mk_ 32 9) HT_ ?_
       refine pu_ 32 111 (mk_ 33 8) HT_ ?_
       refine pu_ 33 112 (mk_ 34 7) HT_ ?_
       refine pu_ 34 113 (mk_ 35 6) HT_ ?_
       refine pu_ 35 114 (mk_ 36 5) HT_ ?_
       refine pu_ 36 115 (mk_ 37 4) HT_ ?_
       refine pu_ 37 116 (mk_ 38 3) HT_ ?_
       refine pu_ 38 117 (mk_ 39 2) HT_ ?_
       refine pv_ 39 118 (mk_ 40 1) HT_ ?_
       refine pv_ 40 6 (mk_ 41 0) HT_ ?_
       refine done_ (done_of HT_.out (by kernel_rfl)) ?_
       try go_wp2
       go_ret
       exact ⟨by first | rfl | (simp [errW_none, errW_some] <;> rfl) | (simp [*, errW_none, errW_some] <;> rfl), by repeat (first | (with_reducible first | exact HB.out | apply below_alloc | apply pw_below_drewN | apply below_drew1 | refine below_set ?_ GE232.out | refine below_set ?_ GE233.out) | exact HB.out)⟩
end Go.Proofs.Ytgeldmhgbnamcaa.P
end
section
namespace Go.Proofs.Ytgeldmhgbnamcaa.P
open Go.RowKit Go.Proofs.YtgeldmhgbnamcaaW.PrintWords Go.Proofs.YtgeldmhgbnamcaaW.PrintLast Go.Proofs.YtgeldmhgbnamcaaW.PrintMore
set_option linter.unusedVariables false
set_option linter.unusedSimpArgs false
open Go.ChangeShapes Go.WideShapes Go.Deep
/-- Whatever reads at type t is told by the kind d, and is so as q says. -/
def Opens (P : Program) (t : TypeId) {α : Type} (d : Kd α) (q : α → Prop) : Prop :=
 ∀ (H : Type) (enc : TypeId × Value → H) (w : World) (base : Nat) (spare : Nat → Bool) (held : Bool) (fuel : Nat) (cs : List Value) (x : DataW H × List MemPlace),
  DataW.trod enc P w base spare held fuel t cs = some x → ∃ y : α, d.K w y cs ∧ q y
theorem Opens.int {P : Program} {t : TypeId} {k : IntKind} (hu : P.underlying t = some (.int k)) : Opens P t (Kd.int k) (fun n => (Lit.int k n).wf = true) := by
 intro H enc w base spare held fuel cs x h
 obtain ⟨n, rfl, _, hw⟩ := DataW.trod_int hu h
 exact ⟨n, rfl, hw⟩
theorem Opens.bool {P : Program} {t : TypeId} (hu : P.underlying t = some .bool) : Opens P t Kd.bool (fun _ => True) := by
 intro H enc w base spare held fuel cs x h
 obtain ⟨b, rfl, _⟩ := DataW.trod_bool hu h
 exact ⟨b, rfl, trivial⟩
theorem Opens.string {P : Program} {t : TypeId} (hu : P.underlying t = some .string) : Opens P t Kd.string (fun s => s.size ≤ maxLen) := by
 intro H enc w base spare held fuel cs x h
 obtain ⟨s, rfl, _, hs⟩ := DataW.trod_string hu h
 exact ⟨s, rfl, hs⟩
theorem Opens.iso {P : Program} {t : TypeId} {α β : Type} {d : Kd α} {q : α → Prop} (h : Opens P t d q) (f : β → α) (g : α → β) (hfg : ∀ y, f (g y) = y) : Opens P t (Kd.iso d f) (fun x => q (f x)) := by
 intro H enc w base spare held fuel cs x hx
 obtain ⟨y, h1, h2⟩ := h H enc w base spare held fuel cs x hx
 refine ⟨g y, ?_, by show q (f (g y)); rw [hfg]; exact h2⟩
 show d.K w (f (g y)) cs
 rw [hfg]; exact h1
theorem Opens.slice {P : Program} {t e : TypeId} {α : Type} [Inhabited α] {d : Kd α} {q : α → Prop} (hu : P.underlying t = some (.slice e)) (hc : P.cellsOf e = d.sz) (h : Opens P e d q) : Opens P t (Kd.slice e d) (fun l => l.length ≤ maxLen ∧ ∀ y ∈ l, q y) := by
 intro H enc w base spare held fuel cs x hx
 rcases open_slice hu hx with ⟨rfl, _⟩ | ⟨a, len, cap, m, n, D, Pl, rfl, hb, hl, hm, hmm, _, hel⟩
 ·exact ⟨[], ⟨none, 0, rfl, Nat.le_refl _, rfl, Nat.zero_le _, fun h => absurd h (by simp)⟩, Nat.zero_le _, fun y hy => by simp at hy⟩
 ·have hlm : len ≤ m := by rw [hmm]; split <;> omega
  obtain ⟨Y, hY⟩ := choose_lt (α := α) (n := len) (p := fun i y => ∃ cs', w.cells? base (a.add (i * P.cellsOf e)) (P.cellsOf e) = some cs' ∧ d.K w y cs' ∧ q y) (fun i hi => by
   obtain ⟨cs', h1, h2⟩ := hel i (by omega)
   obtain ⟨y, h3, h4⟩ := h H enc w base spare held n cs' _ h2
   exact ⟨y, cs', h1, h3, h4⟩)
  have hlen : ((List.range len).map Y).length = len := by simp
  refine ⟨(List.range len).map Y, ⟨some a, cap, by rw [hlen], by rw [hlen]; exact hl, rfl, ?_, fun _ => ⟨a, rfl, fun j p hj => ?_⟩⟩, ?_, fun y hy => ?_⟩
  ·rw [hlen]; unfold maxLen at hm; omega
  ·obtain ⟨hjl, hje⟩ := List.getElem?_eq_some_iff.1 hj
   rw [hlen] at hjl
   have hpj : p = Y j := by rw [← hje]; simp
   obtain ⟨cs', h1, h3, _⟩ := hY j hjl
   obtain ⟨_, hcl, hcc⟩ := World.cells?_some h1
   refine ⟨cs', d.K_len h3, by rw [hpj]; exact h3, fun i u hu2 => ?_⟩
   have hi := (List.getElem?_eq_some_iff.1 hu2).1
   rw [d.K_len h3] at hi
   have h5 := hcc i (by rw [hc]; exact hi)
   rw [hc, Go.Deep.add_add] at h5
   rw [h5, ← hu2]
  ·rw [hlen]; omega
  ·obtain ⟨j, hj, rfl⟩ := List.mem_map.1 hy
   obtain ⟨_, _, _, h4⟩ := hY j (List.mem_range.1 hj)
   exact h4
/-- Fields, one behind the other, from a place on. -/
def OpensSeg (P : Program) (fs : List Field) (off : Nat) {α : Type} (d : Kd α) (q : α → Prop) : Prop :=
 ∀ (H : Type) (enc : TypeId × Value → H) (w : World) (base : Nat) (spare : Nat → Bool) (held : Bool) (fuel : Nat) (cs : List Value), cs.length = d.sz →
  (∀ f ∈ fs, ∃ x : DataW H × List MemPlace, DataW.trod enc P w base spare held fuel f.type ((cs.drop (f.offset - off)).take (P.cellsOf f.type)) = some x) → ∃ y : α, d.K w y cs ∧ q y
theorem OpensSeg.one {P : Program} {f : Field} {off : Nat} {α : Type} {d : Kd α} {q : α → Prop} (ho : f.offset = off) (hc : P.cellsOf f.type = d.sz) (h : Opens P f.type d q) : OpensSeg P [f] off d q := by
 intro H enc w base spare held fuel cs hl hf
 obtain ⟨x, hx⟩ := hf f List.mem_cons_self
 rw [ho, Nat.sub_self, List.drop_zero, hc, ← hl, List.take_length] at hx
 exact h H enc w base spare held fuel cs x hx
theorem OpensSeg.cons {P : Program} {f : Field} {fs : List Field} {off : Nat} {α β : Type} {d : Kd α} {d2 : Kd β} {q : α → Prop} {q2 : β → Prop} (ho : f.offset = off) (hc : P.cellsOf f.type = d.sz) (hm : ∀ g ∈ fs, off + d.sz ≤ g.offset) (h : Opens P f.type d q) (h2 : OpensSeg P fs (off + d.sz) d2 q2) :
  OpensSeg P (f :: fs) off (Kd.pair d d2) (fun y => q y.1 ∧ q2 y.2) := by
 intro H enc w base spare held fuel cs hl hf
 have hl' : cs.length = d.sz + d2.sz := hl
 obtain ⟨x, hx⟩ := hf f List.mem_cons_self
 rw [ho, Nat.sub_self, List.drop_zero, hc] at hx
 obtain ⟨y, h3, h4⟩ := h H enc w base spare held fuel _ x hx
 obtain ⟨y2, h5, h6⟩ := h2 H enc w base spare held fuel (cs.drop d.sz) (by rw [List.length_drop]; omega) (fun g hg => by
  obtain ⟨x2, hx2⟩ := hf g (List.mem_cons_of_mem _ hg)
  refine ⟨x2, ?_⟩
  have := hm g hg
  rw [List.drop_drop, show d.sz + (g.offset - (off + d.sz)) = g.offset - off by omega]
  exact hx2)
 exact ⟨(y, y2), ⟨cs.take d.sz, cs.drop d.sz, (List.take_append_drop _ _).symm, h3, h5⟩, h4, h6⟩
theorem Opens.struct {P : Program} {t : TypeId} {fs : Array Field} {α : Type} {d : Kd α} {q : α → Prop} (hu : P.underlying t = some (.struct fs)) (hc : P.cellsOf t = d.sz) (h : OpensSeg P fs.toList 0 d q) : Opens P t d q := by
 intro H enc w base spare held fuel cs x hx
 obtain ⟨xs, n, rfl, _, hl, hxs, hf⟩ := DataW.trod_struct hu hx
 refine h H enc w base spare held n cs (by rw [hl, hc]) (fun f hf2 => ?_)
 obtain ⟨i, hi, rfl⟩ := List.getElem_of_mem hf2
 have h1 := hf i fs.toList[i] (by rw [Array.getElem?_eq_getElem (by simpa using hi)]; simp)
 have hi2 : i < fs.size := by simpa using hi
 rw [List.getElem?_eq_getElem (by omega)] at h1
 exact ⟨_, by rw [Nat.sub_zero]; exact h1⟩
end Go.Proofs.Ytgeldmhgbnamcaa.P
end
section
/- Plain laws of batches, first part: numbers, reading, order, sums by insertion. No program's step in sight, only the printed functions. -/
namespace Go.Proofs.Ytgeldmhgbnamcaa.Pure
open Go.RowKit Go.Proofs.Ytgeldmhgbnamcaa.P Go.Proofs.YtgeldmhgbnamcaaW.PrintWords Go.Proofs.YtgeldmhgbnamcaaW.PrintLast
set_option linter.unusedVariables false
set_option linter.unusedSimpArgs false
/-- no list here is longer -/
abbrev Short (n : Nat) : Prop := n ≤ 5864062014634
theorem w64s {n : Nat} (h : n ≤ 9000000000000000000) : wrap64 ((n : Int) + 1) = ((n + 1 : Nat) : Int) := by unfold wrap64; omega
theorem rd4 (p : List S40) (x : S40) (q : List S40) {i : Int} (h : i = p.length) : rd_T40 (p ++ x :: q) i = x := by subst h; simp [rd_T40]
theorem rd5 (p : List S50) (x : S50) (q : List S50) {i : Int} (h : i = p.length) : rd_T50 (p ++ x :: q) i = x := by subst h; simp [rd_T50]
theorem Ev.id {α : Type} {g f : Nat → Option α} {r : α} (k : Ev f r) (h : ∀ k, f k = g k) : Ev g r := Ev.congr (fun k => (h k).symm) k
def u (x : S40) : S50 := ⟨x.f0, x.f1, x.f2⟩
def v (x : S50) : S40 := ⟨x.f0, x.f1, x.f2⟩
/-! ### the order -/
def kl (a b : S50) : Prop := a.f0 < b.f0 ∨ (a.f0 = b.f0 ∧ a.f1 < b.f1)
def ke (a b : S50) : Prop := a.f0 = b.f0 ∧ a.f1 = b.f1
instance (a b : S50) : Decidable (kl a b) := by unfold kl; exact inferInstance
instance (a b : S50) : Decidable (ke a b) := by unfold ke; exact inferInstance
def ordv (a b : S50) : Int := if kl a b then -1 else if ke a b then 0 else 1
theorem kl_trans {a b c : S50} (h : kl a b) (k : kl b c) : kl a c := by unfold kl at *; omega
theorem kl_tri (a b : S50) : kl a b ∨ ke a b ∨ kl b a := by unfold kl ke; omega
theorem cmp_i (a b : Int) : cmp_Compare_int.f a b = some (if a < b then -1 else if b < a then 1 else 0) := by
 simp only [cmp_Compare_int.f, cmp_isNaN_int.f, Option.bind_some, bne_self_eq_false, Bool.false_eq_true, if_false]
 split <;> (try split) <;> simp_all
theorem cmp_u (a b : Int) : cmp_Compare_uint64.f a b = some (if a < b then -1 else if b < a then 1 else 0) := by
 simp only [cmp_Compare_uint64.f, cmp_isNaN_uint64.f, Option.bind_some, bne_self_eq_false, Bool.false_eq_true, if_false]
 split <;> (try split) <;> simp_all
theorem order_ev (a0 a1 a2 b0 b1 b2 : Int) : Ev (fun k => batch_order.f k a0 a1 a2 b0 b1 b2) (ordv ⟨a0, a1, a2⟩ ⟨b0, b1, b2⟩) := by
 refine ⟨3, fun k hk => ?_⟩
 obtain ⟨k, rfl⟩ : ∃ m, k = m + 3 := ⟨k - 3, by omega⟩
 have w1 : wrap64 (0 + 1) = 1 := by unfold wrap64; omega
 have w2 : wrap64 (1 + 1) = 2 := by unfold wrap64; omega
 simp only [batch_order.f, cmp_i, cmp_u, Option.bind_some, ordv, kl, ke]
 have w3 : wrap64 1 = 1 := by unfold wrap64; omega
 have w4 : wrap64 2 = 2 := by unfold wrap64; omega
 by_cases h1 : a0 < b0
 ·simp [h1, cmp_Or_int.f, cmp_Or_int.l0, rd]
 by_cases h2 : b0 < a0
 ·have : ¬ a0 = b0 := by omega
  simp [h1, h2, this, cmp_Or_int.f, cmp_Or_int.l0, rd]
 obtain rfl : a0 = b0 := by omega
 by_cases h3 : a1 < b1
 ·simp [h1, h3, cmp_Or_int.f, cmp_Or_int.l0, rd, w1, w3, w4]
 by_cases h4 : b1 < a1
 ·have : ¬ a1 = b1 := by omega
  simp [h1, h3, h4, this, cmp_Or_int.f, cmp_Or_int.l0, rd, w1, w3, w4]
 obtain rfl : a1 = b1 := by omega
 simp [h1, h3, cmp_Or_int.f, cmp_Or_int.l0, rd, w1, w3, w4, w2]
def wi (n : Int) : Prop := -576460752303423488 ≤ n ∧ n ≤ 576460752303423488
instance (n : Int) : Decidable (wi n) := by unfold wi; exact inferInstance
theorem within_eq (n : Int) : batch_within.f n = some (decide (wi n)) := by
 unfold batch_within.f wi
 by_cases h : n ≥ -576460752303423488
 ·rw [if_pos h]; simp [h]
 ·rw [if_neg h]; simp [h]
/-! ### sums by insertion -/
def plus (y x : S50) : S50 := ⟨y.f0, y.f1, wrap64 (y.f2 + x.f2)⟩
def ins (x : S50) : List S50 → List S50
 | [] => [x]
 | y :: l => if ke y x then plus y x :: l else if kl x y then x :: y :: l else y :: ins x l
def tot (l : List S50) : List S50 := l.foldl (fun a x => ins x a) []
theorem wrap64_ass (a b c : Int) : wrap64 (wrap64 (a + b) + c) = wrap64 (a + b + c) := by unfold wrap64; omega
theorem ins_comm (x y : S50) : ∀ l, ins x (ins y l) = ins y (ins x l) := by
 have pc : ke y x → plus y x = plus x y := by intro h; unfold plus ke at *; simp [h.1, h.2, Int.add_comm]
 have pp : ∀ z, plus (plus z x) y = plus (plus z y) x := by intro z; unfold plus; simp only [wrap64_ass]; congr 2; omega
 intro l
 induction l with
 | nil =>
  simp only [ins]
  rcases kl_tri x y with h | h | h
  ·have a1 : ¬ ke y x := by unfold kl ke at *; omega
   have a2 : ¬ ke x y := by unfold kl ke at *; omega
   have a3 : ¬ kl y x := by unfold kl at *; omega
   simp [a1, a2, a3, h]
  ·have h' : ke y x := ⟨h.1.symm, h.2.symm⟩
   simp [h, h', pc h']
  ·have a1 : ¬ ke y x := by unfold kl ke at *; omega
   have a2 : ¬ ke x y := by unfold kl ke at *; omega
   have a3 : ¬ kl x y := by unfold kl at *; omega
   simp [a1, a2, a3, h]
 | cons z l ih =>
  have kp : ∀ w, ke (plus z x) w = ke z w := fun w => rfl
  have kq : ∀ w, ke (plus z y) w = ke z w := fun w => rfl
  have lp : ∀ w, kl w (plus z x) = kl w z := fun w => rfl
  have lq : ∀ w, kl w (plus z y) = kl w z := fun w => rfl
  by_cases e1 : ke z x
  ·by_cases e2 : ke z y
   ·simp [ins, e1, e2, kp, kq, pp]
   ·by_cases c2 : kl y z
    ·have a1 : ¬ ke y x := by unfold kl ke at *; omega
     have a2 : ¬ kl x y := by unfold kl ke at *; omega
     simp [ins, e1, e2, kp, kq, c2, a1, a2, lp]
    ·simp [ins, e1, e2, kp, kq, c2, lp]
  ·by_cases e2 : ke z y
   ·by_cases c2 : kl x z
    ·have a1 : ¬ ke x y := by unfold kl ke at *; omega
     have a2 : ¬ kl y x := by unfold kl ke at *; omega
     simp [ins, e1, e2, kp, kq, c2, a1, a2, lq]
    ·simp [ins, e1, e2, kp, kq, c2, lq]
   ·by_cases c1 : kl x z
    ·by_cases c2 : kl y z
     ·rcases kl_tri x y with h | h | h
      ·have a1 : ¬ ke y x := by unfold kl ke at *; omega
       have a2 : ¬ ke x y := by unfold kl ke at *; omega
       have a3 : ¬ kl y x := by unfold kl at *; omega
       simp [ins, e1, e2, c1, c2, a1, a2, a3, h]
      ·have h' : ke y x := ⟨h.1.symm, h.2.symm⟩
       simp [ins, e1, e2, c1, c2, h, h', pc h']
      ·have a1 : ¬ ke y x := by unfold kl ke at *; omega
       have a2 : ¬ ke x y := by unfold kl ke at *; omega
       have a3 : ¬ kl x y := by unfold kl at *; omega
       simp [ins, e1, e2, c1, c2, a1, a2, a3, h]
     ·have a1 : ¬ ke x y := by unfold kl ke at *; omega
      have a2 : ¬ kl y x := by unfold kl ke at *; omega
      simp [ins, e1, e2, c1, c2, a1, a2]
    ·by_cases c2 : kl y z
     ·have a1 : ¬ ke y x := by unfold kl ke at *; omega
      have a2 : ¬ kl x y := by unfold kl ke at *; omega
      simp [ins, e1, e2, c1, c2, a1, a2]
     ·simp [ins, e1, e2, c1, c2, ih]
theorem tot_perm {a b : List S50} (h : a.Perm b) : tot a = tot b := h.foldl_eq' (fun x _ y _ z => ins_comm y x z) []
theorem ins_app {x : S50} : ∀ {A : List S50} (B : List S50), (∀ a ∈ A, kl a x) → ins x (A ++ B) = A ++ ins x B := by
 intro A
 induction A with
 | nil => intro B _; rfl
 | cons a A ih =>
  intro B h
  have h1 : kl a x := h a (by simp)
  have a1 : ¬ ke a x := by unfold kl ke at *; omega
  have a2 : ¬ kl x a := by unfold kl at *; omega
  simp [ins, a1, a2, ih B (fun b hb => h b (by simp [hb]))]
/-- strictly in order -/
abbrev Str (l : List S50) : Prop := l.Pairwise kl
/-- in order -/
abbrev Srt (l : List S50) : Prop := l.Pairwise (fun a b => ¬ kl b a)
/-- the groups of a list in order, the open one first -/
def grp (c : S50) : List S50 → List S50
 | [] => [c]
 | y :: r => if ke c y then grp (plus c y) r else c :: grp y r
theorem foldl_grp : ∀ (r : List S50) (A : List S50) (c : S50), (∀ a ∈ A, kl a c) → Srt (c :: r) → r.foldl (fun a x => ins x a) (A ++ [c]) = A ++ grp c r := by
 intro r
 induction r with
 | nil => intro A c _ _; rfl
 | cons y r ih =>
  intro A c hA hs
  obtain ⟨h1, h2⟩ := List.pairwise_cons.1 hs
  have hcy : ¬ kl y c := h1 y (by simp)
  have hAy : ∀ a ∈ A, kl a y := fun a ha => by have := hA a ha; unfold kl at *; omega
  simp only [List.foldl_cons, ins_app [c] hAy, ins, grp]
  by_cases e : ke c y
  ·rw [if_pos e, if_pos e]
   refine ih A (plus c y) hA (List.pairwise_cons.2 ⟨fun z hz => h1 z (by simp [hz]), (List.pairwise_cons.1 h2).2⟩)
  ·have hcy' : kl c y := (kl_tri c y).elim id (fun h => h.elim (fun h => absurd h e) (fun h => absurd h hcy))
   rw [if_neg e, if_neg e, if_neg hcy]
   have := ih (A ++ [c]) y (fun a ha => (List.mem_append.1 ha).elim (fun h => hAy a h) (fun h => by simp at h; subst h; exact hcy')) h2
   simpa using this
theorem tot_grp {c : S50} {r : List S50} (h : Srt (c :: r)) : tot (c :: r) = grp c r := by
 have := foldl_grp r [] c (fun _ h => by cases h) h
 simpa [tot, ins] using this
/-- sums checked: what lies outside the bounds spoils all, what is nought falls away -/
def good (G : List S50) : Bool := G.all (fun x => decide (wi x.f2))
def fin (G : List S50) : List S50 := G.filter (fun x => decide (x.f2 ≠ 0))
end Go.Proofs.Ytgeldmhgbnamcaa.Pure
end
section
/- Plain laws of batches, second part: the insertion sort, and the sort of a short list. -/
namespace Go.Proofs.Ytgeldmhgbnamcaa.Pure
open Go.RowKit Go.Proofs.Ytgeldmhgbnamcaa.P Go.Proofs.YtgeldmhgbnamcaaW.PrintWords Go.Proofs.YtgeldmhgbnamcaaW.PrintLast
set_option linter.unusedVariables false
set_option linter.unusedSimpArgs false
theorem ordv_neg {a b : S50} : ordv a b < 0 ↔ kl a b := by unfold ordv; split <;> (try split) <;> simp_all
theorem ordv_zero {a b : S50} : ordv a b = 0 ↔ ke a b := by
 unfold ordv
 split
 ·rename_i h; simp; unfold kl ke at *; omega
 ·split <;> simp_all
theorem set5 (p : List S50) (x : S50) (q : List S50) (y : S50) {n : Nat} (h : n = p.length) : (p ++ x :: q).set n y = p ++ y :: q := by subst h; simp
theorem order_at (a b : S50) : Ev (fun k => batch_order.f k a.f0 a.f1 a.f2 b.f0 b.f1 b.f2) (ordv a b) := order_ev _ _ _ _ _ _
theorem l1_pos {p q : List S50} {y x : S50} {x1 x2 x8 : Int} {r : List S50} (hp : p.length ≤ 8000000000000000000) (hx : x1 ≤ p.length) {i : Int} (hi : i = p.length + 1)
  (h1 : kl x y → Ev (fun k => batch_Change_95.l1 k (p ++ x :: y :: q) x1 x2 x8 p.length) r)
  (h2 : ¬ kl x y → Ev (fun k => batch_Change_95.l0 k (p ++ y :: x :: q) x1 x2 (wrap64 (x8 + 1))) r) :
  Ev (fun k => batch_Change_95.l1 k (p ++ y :: x :: q) x1 x2 x8 i) r := by
 obtain ⟨K, h⟩ := order_at x y
 have hw : wrap64 (i - 1) = p.length := by unfold wrap64; omega
 have e1 : rd_T50 (p ++ y :: x :: q) i = x := by
  have := rd5 (p ++ [y]) x q (i := i) (by simp; omega)
  simpa using this
 have e2 : rd_T50 (p ++ y :: x :: q) (p.length : Int) = y := rd5 p y (x :: q) rfl
 have c1 : i > x1 := by omega
 have c2 : 0 ≤ i := by omega
 have c3 : i < ((p ++ y :: x :: q).length : Int) := by simp; omega
 have c4 : (0 : Int) ≤ p.length := by omega
 have c5 : (p.length : Int) < ((p ++ y :: x :: q).length : Int) := by simp; omega
 have s : ((p ++ y :: x :: q).set i.toNat ⟨y.f0, y.f1, y.f2⟩).set (p.length : Int).toNat ⟨x.f0, x.f1, x.f2⟩ = p ++ x :: y :: q := by
  have a := set5 (p ++ [y]) x q y (n := i.toNat) (by simp; omega)
  have b := set5 p y (y :: q) x (n := (p.length : Int).toNat) (by simp)
  have a' : (p ++ y :: x :: q).set i.toNat y = p ++ y :: y :: q := by simpa using a
  calc _ = ((p ++ y :: x :: q).set i.toNat y).set (p.length : Int).toNat x := rfl
   _ = _ := by rw [a', b]
 by_cases hc : kl x y
 ·obtain ⟨K', h'⟩ := h1 hc
  refine ⟨K + K' + 1, fun k hk => ?_⟩
  obtain ⟨k, rfl⟩ : ∃ m, k = m + 1 := ⟨k - 1, by omega⟩
  have o := h k (by omega)
  simp only [batch_Change_95.l1, hw, if_pos c1, if_pos c2, if_pos c3, if_pos c4, if_pos c5, e1, e2, o, Option.bind_some, if_pos (ordv_neg.2 hc), s]
  exact h' k (by omega)
 ·obtain ⟨K', h'⟩ := h2 hc
  refine ⟨K + K' + 1, fun k hk => ?_⟩
  obtain ⟨k, rfl⟩ : ∃ m, k = m + 1 := ⟨k - 1, by omega⟩
  have o := h k (by omega)
  simp only [batch_Change_95.l1, hw, if_pos c1, if_pos c2, if_pos c3, if_pos c4, if_pos c5, e1, e2, o, Option.bind_some, if_neg (mt ordv_neg.1 hc)]
  exact h' k (by omega)
theorem l1_end {X : List S50} {x1 x2 x8 i : Int} {r : List S50} (hx : i ≤ x1) (h : Ev (fun k => batch_Change_95.l0 k X x1 x2 (wrap64 (x8 + 1))) r) : Ev (fun k => batch_Change_95.l1 k X x1 x2 x8 i) r :=
 Ev.step (fun k => by show batch_Change_95.l1 (k + 1) X x1 x2 x8 i = _; rw [batch_Change_95.l1, if_neg (by omega)]) h
theorem ins95_l1 (P D : List S50) (x2 x8 : Int) : ∀ (n : Nat) (A B : List S50) (x : S50), A.length = n → Srt (A ++ B) → (∀ b ∈ B, kl x b) → P.length + n ≤ 8000000000000000000 →
  ∃ S' : List S50, S'.Perm (A ++ x :: B) ∧ Srt S' ∧ ∀ r, Ev (fun k => batch_Change_95.l0 k (P ++ (S' ++ D)) P.length x2 (wrap64 (x8 + 1))) r → Ev (fun k => batch_Change_95.l1 k (P ++ (A ++ x :: B ++ D)) P.length x2 x8 ((P.length + n : Nat) : Int)) r := by
 intro n
 induction n with
 | zero =>
  intro A B x hA hs hB hP
  obtain rfl : A = [] := List.eq_nil_of_length_eq_zero hA
  refine ⟨x :: B, List.Perm.refl _, List.pairwise_cons.2 ⟨fun b hb => ?_, hs⟩, fun r h => l1_end (by simp) h⟩
  have := hB b hb; unfold kl at *; omega
 | succ n ih =>
  intro A B x hA hs hB hP
  rcases List.eq_nil_or_concat A with rfl | ⟨A', y, rfl⟩
  ·simp at hA
  simp only [List.concat_eq_append] at hA hs ⊢
  have hA' : A'.length = n := by simpa using hA
  have e0 : P ++ (A' ++ [y] ++ x :: B ++ D) = (P ++ A') ++ y :: x :: (B ++ D) := by simp
  by_cases hc : kl x y
  ·obtain ⟨S', p, s, k⟩ := ih A' (y :: B) x hA' (by simpa using hs) (fun b hb => (List.mem_cons.1 hb).elim (fun e => e ▸ hc) (fun hb => hB b hb)) (by omega)
   refine ⟨S', p.trans (by simpa using (List.Perm.append_left A' (List.Perm.swap y x B))), s, fun r h => ?_⟩
   rw [e0]
   refine l1_pos (by simp; omega) (by simp only [List.length_append]; omega) (by simp only [List.length_append]; omega) (fun _ => ?_) (fun h => absurd hc h)
   have := k r h
   have e1 : (P ++ A') ++ x :: y :: (B ++ D) = P ++ (A' ++ x :: (y :: B) ++ D) := by simp
   have e2 : ((P ++ A').length : Int) = ((P.length + n : Nat) : Int) := by simp; omega
   rw [e1, e2]
   exact this
  ·refine ⟨A' ++ [y] ++ x :: B, List.Perm.refl _, ?_, fun r h => ?_⟩
   ·have hs1 := List.pairwise_append.1 hs
    refine List.pairwise_append.2 ⟨hs1.1, List.pairwise_cons.2 ⟨fun b hb => ?_, hs1.2.1⟩, fun a ha b hb => ?_⟩
    ·have := hB b hb; unfold kl at *; omega
    ·rcases List.mem_cons.1 hb with rfl | hb
     ·rcases List.mem_append.1 ha with ha | ha
      ·have := (List.pairwise_append.1 hs1.1).2.2 a ha y (by simp); unfold kl at *; omega
      ·simp at ha; subst ha; exact hc
     ·exact hs1.2.2 a ha b hb
   ·rw [e0]
    refine l1_pos (by simp; omega) (by simp only [List.length_append]; omega) (by simp only [List.length_append]; omega) (fun h => absurd h hc) (fun _ => ?_)
    have e1 : (P ++ A') ++ y :: x :: (B ++ D) = P ++ (A' ++ [y] ++ x :: B ++ D) := by simp
    rw [e1]
    exact h
theorem ins95_l0 (P D : List S50) : ∀ (R S : List S50), Srt S → P.length + S.length + R.length ≤ 8000000000000000000 →
  ∃ S' : List S50, S'.Perm (S ++ R) ∧ Srt S' ∧ Ev (fun k => batch_Change_95.l0 k (P ++ (S ++ R ++ D)) P.length ((P.length + S.length + R.length : Nat) : Int) ((P.length + S.length : Nat) : Int)) (P ++ (S' ++ D)) := by
 intro R
 induction R with
 | nil =>
  intro S hs hl
  refine ⟨S, by simp, hs, 1, fun k hk => ?_⟩
  obtain ⟨k, rfl⟩ : ∃ m, k = m + 1 := ⟨k - 1, by omega⟩
  show batch_Change_95.l0 (k + 1) _ _ _ _ = _
  rw [batch_Change_95.l0, if_neg (by simp)]
  simp
 | cons x R ih =>
  intro S hs hl
  simp only [List.length_cons] at hl
  obtain ⟨S1, p1, s1, k1⟩ := ins95_l1 P (R ++ D) ((P.length + S.length + (x :: R).length : Nat) : Int) ((P.length + S.length : Nat) : Int) S.length S [] x rfl (by simpa using hs) (fun _ h => by cases h) (by omega)
  have len : S1.length = S.length + 1 := by have := p1.length_eq; simpa using this
  obtain ⟨S2, p2, s2, k2⟩ := ih S1 s1 (by omega)
  refine ⟨S2, p2.trans ?_, s2, ?_⟩
  ·have := p1.append_right R
   simpa using this
  ·have e : ((P.length + S1.length + R.length : Nat) : Int) = ((P.length + S.length + (x :: R).length : Nat) : Int) := by simp only [List.length_cons]; omega
   have e2 : ((P.length + S1.length : Nat) : Int) = wrap64 (((P.length + S.length : Nat) : Int) + 1) := by rw [w64s (by omega), len]; rfl
   rw [e, e2] at k2
   have := k1 _ (by simpa using k2)
   refine Ev.step (fun k => ?_) this
   show batch_Change_95.l0 (k + 1) _ _ _ _ = _
   rw [batch_Change_95.l0, if_pos (by simp only [List.length_cons]; omega)]
   simp
/-- Insertion sort of a stretch. -/
theorem ins95 (P D S : List S50) (hl : P.length + S.length ≤ 8000000000000000000) {a b : Int} (ha : a = P.length) (hb : b = P.length + S.length) :
  ∃ S' : List S50, S'.Perm S ∧ Srt S' ∧ Ev (fun k => batch_Change_95.f k (P ++ (S ++ D)) a b) (P ++ (S' ++ D)) := by
 subst ha hb
 cases S with
 | nil =>
  refine ⟨[], List.Perm.refl _, List.Pairwise.nil, 1, fun k hk => ?_⟩
  obtain ⟨k, rfl⟩ : ∃ m, k = m + 1 := ⟨k - 1, by omega⟩
  show batch_Change_95.f (k + 1) _ _ _ = _
  rw [batch_Change_95.f, batch_Change_95.l0, if_neg]
  have : wrap64 ((P.length : Int) + 1) = P.length + 1 := by unfold wrap64; simp at hl; omega
  rw [this]; simp; omega
 | cons x S =>
  simp only [List.length_cons] at hl
  obtain ⟨S', p, s, h⟩ := ins95_l0 P D S [x] (by simp) (by simp; omega)
  refine ⟨S', p, s, Ev.congr (fun k => ?_) h⟩
  show batch_Change_95.f k _ _ _ = _
  rw [batch_Change_95.f, w64s (by omega)]
  have : ((P.length + [x].length + S.length : Nat) : Int) = (P.length : Int) + ((x :: S).length : Nat) := by simp; omega
  rw [this]; rfl
/-- The sort of a short list. -/
theorem sort_short (l : List S50) (hl : l.length ≤ 20) : ∃ l' : List S50, l'.Perm l ∧ Srt l' ∧ Ev (fun k => batch_Change_74.f k l) l' := by
 have w20 : wrap64 (20 + 20) = 40 := by unfold wrap64; omega
 suffices h : ∃ l' : List S50, l'.Perm l ∧ Srt l' ∧ Ev (fun k => batch_Change_88.l0 k l (l.length : Int) 20 0 20) l' by
  obtain ⟨l', p, s, K, h⟩ := h
  refine ⟨l', p, s, K, fun k hk => ?_⟩
  show batch_Change_74.f k l = _
  have := h k hk
  simp only [batch_Change_74.f, batch_Change_88.f, this, Option.bind_some]
 by_cases hc : l.length = 20
 ·obtain ⟨S, p, s, K, h⟩ := ins95 [] [] l (by simp; omega) (a := 0) (b := 20) rfl (by simp; omega)
  have len : S.length = 20 := by rw [p.length_eq, hc]
  obtain ⟨S2, p2, s2, K2, h2⟩ := ins95 S [] [] (by simp; omega) (a := 20) (b := (l.length : Int)) (by omega) (by simp; omega)
  obtain rfl : S2 = [] := List.eq_nil_of_length_eq_zero p2.length_eq
  refine ⟨S, p, s, K + K2 + 3, fun k hk => ?_⟩
  obtain ⟨k, rfl⟩ : ∃ m, k = m + 3 := ⟨k - 3, by omega⟩
  have a := h (k + 2) (by omega)
  have b := h2 (k + 1) (by omega)
  simp only [List.nil_append, List.append_nil] at a b
  simp only [batch_Change_88.l0, a, Option.bind_some, w20]
  rw [if_pos (by omega), if_neg (by omega)]
  simp only [b, Option.bind_some, batch_Change_88.l1]
  rw [if_neg (by omega)]
 ·obtain ⟨S, p, s, K, h⟩ := ins95 [] [] l (by simp; omega) (a := 0) (b := (l.length : Int)) rfl (by simp)
  refine ⟨S, p, s, K + 2, fun k hk => ?_⟩
  obtain ⟨k, rfl⟩ : ∃ m, k = m + 2 := ⟨k - 2, by omega⟩
  have a := h (k + 1) (by omega)
  simp only [List.nil_append, List.append_nil] at a
  simp only [batch_Change_88.l0]
  rw [if_neg (by omega)]
  simp only [a, Option.bind_some, batch_Change_88.l1]
  rw [if_neg (by omega)]
end Go.Proofs.Ytgeldmhgbnamcaa.Pure
end
