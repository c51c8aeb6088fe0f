/- Walks and laws of several statements of this seat, joined into one text; no condition. -/
import Derived.Test.YtgeldmhgbnamcaaProg
import Derived.Below
import Derived.Deep.Draws
import Derived.Deep.AppendLies
import Derived.Maps.AppendAt
import Derived.OwnWalk
import Derived.Laws.BytesArg
import Derived.Laws.MakeOwn
import Derived.Laws.OwnMore
import Derived.Deep.OwnRows
import Derived.Tactics
import Derived.Lib.ConvBytes
import Derived.Laws.Slices
import Derived.WalkKit
import Derived.KernelRfl
import Derived.RowKit3
import Derived.Deep.LoopGhost
import Derived.Deep.QuietTactic
import Derived.BigQuiet
import Derived.WideLaws
import Derived.Deep.DeepCutAuto
import Derived.Deep.CutBlock
import Derived.Deep.RegionHeld3
import Derived.Laws.Rows
import Derived.Lib.AppendStr
import Derived.ArgAppend
import Derived.Laws.IdiomCopy
import Derived.OrdersHeld
import Derived.Laws.BitsLemmas
import Derived.RowKit
import Derived.Laws.StructEq
import Derived.Lib.BufferMore
import Derived.Deep.Slices
import Derived.SizedLaws
import Derived.OpenShut
import Derived.IntWalk
import Derived.Outline
import Derived.Test.YtgeldmhgbnamcaaXa0
import Derived.Test.YtgeldmhgbnamcaaXa1
import Derived.Test.YtgeldmhgbnamcaaXa2
import Derived.Test.YtgeldmhgbnamcaaXa5
import Derived.Test.YtgeldmhgbnamcaaXa6
import Derived.Test.YtgeldmhgbnamcaaXc0
import Derived.Test.YtgeldmhgbnamcaaXa7
import Derived.Test.YtgeldmhgbnamcaaXb0
section
-- Printed by the session's own turn of the print (wip/tools/print2.sh): some callees are proved by hand.
namespace Go.Proofs.Ytgeldmhgbnamcaa.P
open Go.RowKit Go.Proofs.YtgeldmhgbnamcaaW.PrintWords Go.Proofs.YtgeldmhgbnamcaaW.PrintLast Go.Proofs.YtgeldmhgbnamcaaW.PrintMore
attribute [local go_sem] max2_int min2_int max_two min_two max_three min_three max_four min_four   -- for this text's walks alone
set_option linter.unusedVariables false
set_option linter.unusedSimpArgs false
/-! ### marchlandref03_Right: function 21 -/
def marchlandref03_Right.l0 : Nat → List (S40) → Int → Option (Bool)
 | 0, _, _ => none
 | k + 1, x0, x3 => if x3 < (x0.length : Int) then (if 0 ≤ x3 then (if ((rd_T40 x0 x3).f0) < 0 then (some false) else (if ((rd_T40 x0 x3).f0) > 63 then (some false) else (if ((rd_T40 x0 x3).f1) = 18446744073709551615 then (some false) else (if ((rd_T40 x0 x3).f2) = 0 then (some false) else ((marchlandref03_within.f ((rd_T40 x0 x3).f2)).bind fun t259 => (if t259 = true then (if x3 > 0 then (if 0 ≤ (wrap64 (x3 - 1)) then (if (wrap64 (x3 - 1)) < (x0.length : Int) then ((marchlandref03_before.f ((rd_T40 x0 (wrap64 (x3 - 1))).f0) ((rd_T40 x0 (wrap64 (x3 - 1))).f1) ((rd_T40 x0 (wrap64 (x3 - 1))).f2) ((rd_T40 x0 x3).f0) ((rd_T40 x0 x3).f1) ((rd_T40 x0 x3).f2)).bind fun t261 => (if t261 = true then (marchlandref03_Right.l0 k x0 (wrap64 (x3 + 1))) else (some false))) else (none)) else (none)) else (marchlandref03_Right.l0 k x0 (wrap64 (x3 + 1)))) else (some false))))))) else (none)) else (some true)
def marchlandref03_Right.f (k : Nat) (l0 : List (S40)) : Option (Bool) := marchlandref03_Right.l0 k l0 0
def marchlandref03_Right.T5 : Bool × List (List Nat × List Nat) := (true, [([], []), ([0], [0]), ([1], [1]), ([2], [2]), ([3], [3]), ([4, 3], [3, 4]), ([5, 3], [3, 5]), ([3, 6], [3, 6]), ([7, 3], [7]), ([8], [8]), ([9, 8], [8, 9]), ([10, 8], [8, 10]), ([8, 11], [8, 11]), ([12, 8], [12]), ([13], [13]), ([14, 13], [13, 14]), ([15, 13], [13, 15]), ([13, 16], [13, 16]), ([17, 13], [17]), ([18], [18]), ([19, 18], [18, 19]), ([20, 18, 18], [18, 20]), ([21, 18], [18, 21]), ([18, 22], [18, 22]), ([23, 21], [23]), ([24], [24]), ([25, 24], [24, 25]), ([26, 24, 24], [24, 26]), ([27], [27]), ([27], [27]), ([29, 27], [27, 29]), ([28, 30, 27], [27, 28, 30]), ([31, 27], [27, 31]), ([27], [27]), ([32, 33, 27, 27], [27, 32, 33]), ([34, 27], [27, 34]), ([27, 35, 24], [24, 27, 35]), ([24, 36], [24, 36])])
def marchlandref03_Right.B5 : List Nat := [0, 1, 3, 7, 15, 31, 63, 127, 255, 511, 1023, 2047, 4095, 8191, 16383, 32767, 65535, 131071, 262143, 524287, 1048575, 2097151, 4194303, 8388607, 16777215, 33554431, 67108863, 134217727, 268435455, 268435455, 805306367, 2147483647, 4294967295, 268435455, 17179869183, 34359738367, 68719476735, 137438953471]
theorem marchlandref03_Right.tab5 : rtab .any (opsOf Try.f21 5) = marchlandref03_Right.T5 := by kernel_rfl
theorem marchlandref03_Right.bits5 : waitsOk marchlandref03_Right.T5.2 marchlandref03_Right.B5 = true := by kernel_rfl
set_option maxHeartbeats 8000000 in
set_option maxRecDepth 100000 in
theorem marchlandref03_Right.calls (k : Nat) (A0 : Option Addr) (c0 : Nat) (l0 : List (S40)) (r : Bool) (w : World) (hr0 : Kd.C k40 w A0 l0.length l0) (hc0 : l0.length ≤ c0) (h : marchlandref03_Right.f k l0 = some r) :
  Calls Try.prog 21 #[.slice A0 l0.length c0] w fun e w' => e = .returned (.bool r) ∧ Below w.heap.size w w' := by
 have hu40 := Try.underlying40
 have HR0 := Aside0.mk hr0
 have HC0 := Aside0.mk hc0
 clear hr0 hc0
 have HB := Aside0.mk (Below.refl w.heap.size w)
 have H : (marchlandref03_Right.l0 k l0 0) = some r := h
 clear h
 have H' := Aside0.mk H
 clear H
 go_enter Try.func21, Try.ntmps21
 go_wp2
 go_loopg [3] k (fun kq v3 w' => ∃ (x3_1 : Int), v3 = .int .i64 x3_1 ∧ Aside0 (marchlandref03_Right.l0 kq l0 x3_1 = some r) ∧ Aside0 (kq ≤ k) ∧ Aside0 (Below w.heap.size w w'))
 case atStart => exact ⟨(0), (by first | rfl | (simp; done) | (simp [*]; done)), H', ⟨Nat.le_refl _⟩, ⟨by repeat (first | (with_reducible first | exact HB.out | apply below_alloc | apply pw_below_drewN | apply below_drew1) | exact HB.out)⟩⟩
 case round =>
  clear H'
  obtain ⟨x3_1, rfl, HA, HK1, HB⟩ := hrel
  cases gk with
  | zero => exact absurd HA.out (by simp [marchlandref03_Right.l0])
  | succ k1 =>
   have H := HA.out
   clear HA
   simp only [marchlandref03_Right.l0] at H
   by_cases c2 : x3_1 < (l0.length : Int)
   ·rw [if_pos c2] at H
    have c2b0 : decide (x3_1 < (l0.length : Int)) = true := decide_eq_true c2
    clear c2
    by_cases c3 : 0 ≤ x3_1
    ·rw [if_pos c3] at H
     have c3b0 : decide (0 ≤ x3_1) = true := decide_eq_true c3
     clear c3
     by_cases c4 : ((rd_T40 l0 x3_1).f0) < 0
     ·rw [if_pos c4] at H
      have c4b0 : decide (((rd_T40 l0 x3_1).f0) < 0) = true := decide_eq_true c4
      clear c4
      obtain rfl := Option.some.inj H
      have p257 : 0 ≤ (x3_1 : Int) := of_decide_eq_true (by assumption)
      have q257 : x3_1 < (l0.length : Int) := of_decide_eq_true (by assumption)
      obtain ⟨ad257, e257, hx257_0, hx257_1, hx257_2⟩ := at_T40 HR0.out x3_1 p257 q257
      cases e257
      replace hx257_0 := (HB.out.cell (World.block_lt_of_cell? w _ hx257_0)).trans hx257_0
      replace hx257_1 := (HB.out.cell (World.block_lt_of_cell? w _ hx257_1)).trans hx257_1
      replace hx257_2 := (HB.out.cell (World.block_lt_of_cell? w _ hx257_2)).trans hx257_2
      replace p257 := eq_true p257
      replace q257 := eq_true q257
      try go_wp2_with (first | ((with_reducible refine gate_dst (N := 4) rfl ?_); refine box_event ?hg (N := 4) ?hd (cs := #[.int .i64 0, .int .u64 0, .int .i64 0]) (t := 40) ?hr ?_; (case hd => rfl); (case hg => rfl); (case hr => first | (go_simp; done) | (go_simp; rfl)); intro gb258 hg w5 hbox hb; have n1_ := Aside0.mk (hbox); have n2_ := Aside0.mk ((by rw [hg]; exact (below_size (bn HB)) : w.heap.size ≤ gb258)); have n3_ := Aside0.mk ((by rw [hg]; exact (below_size (bn HB)) : w.heap.size ≤ gb258)); replace HB := bb HB hb; have BK258 := n1_; have GW258 := n2_; have GE258 := n3_; clear n1_ n2_ n3_; clear hb hbox hg; have hcz6_0 : w5.cell? ⟨gb258, 0, none⟩ = some (.int .i64 0) := (blk_cell BK258.out 0).trans rfl; have hcz6_1 : w5.cell? ⟨gb258, 1, none⟩ = some (.int .u64 0) := (blk_cell BK258.out 1).trans rfl; have hcz6_2 : w5.cell? ⟨gb258, 2, none⟩ = some (.int .i64 0) := (blk_cell BK258.out 2).trans rfl; have hfz6_0 := blk_frozen BK258.out 0; have hfz6_1 := blk_frozen BK258.out 1; have hfz6_2 := blk_frozen BK258.out 2))
      have n0_ : Aside0 ((((w5.setCell ⟨gb258, 0, none⟩ (.int .i64 ((rd_T40 l0 x3_1).f0))).setCell ⟨gb258, 1, none⟩ (.int .u64 ((rd_T40 l0 x3_1).f1))).setCell ⟨gb258, 2, none⟩ (.int .i64 ((rd_T40 l0 x3_1).f2))).heap[gb258]? = some (.cells #[.int .i64 ((rd_T40 l0 x3_1).f0), .int .u64 ((rd_T40 l0 x3_1).f1), .int .i64 ((rd_T40 l0 x3_1).f2)] 40 (0, 0))) := ⟨by (with_reducible repeat (first | refine blk_drewN ?_ _ | refine blk_drew ?_ | refine blk_alloc ?_ _)); refine blk_put (cs := #[.int .i64 ((rd_T40 l0 x3_1).f0), .int .u64 ((rd_T40 l0 x3_1).f1), .int .i64 0]) ?_ 2 _ rfl; (with_reducible repeat (first | refine blk_drewN ?_ _ | refine blk_drew ?_ | refine blk_alloc ?_ _)); refine blk_put (cs := #[.int .i64 ((rd_T40 l0 x3_1).f0), .int .u64 0, .int .i64 0]) ?_ 1 _ rfl; (with_reducible repeat (first | refine blk_drewN ?_ _ | refine blk_drew ?_ | refine blk_alloc ?_ _)); refine blk_put (cs := #[.int .i64 0, .int .u64 0, .int .i64 0]) ?_ 0 _ rfl; (with_reducible repeat (first | refine blk_drewN ?_ _ | refine blk_drew ?_ | refine blk_alloc ?_ _)); exact BK258.out⟩
      have n1_ : Aside0 (Below w.heap.size w (((w5.setCell ⟨gb258, 0, none⟩ (.int .i64 ((rd_T40 l0 x3_1).f0))).setCell ⟨gb258, 1, none⟩ (.int .u64 ((rd_T40 l0 x3_1).f1))).setCell ⟨gb258, 2, none⟩ (.int .i64 ((rd_T40 l0 x3_1).f2)))) := ⟨by repeat (first | (with_reducible first | exact HB.out | apply below_alloc | apply pw_below_drewN | apply below_drew1 | refine below_set ?_ GE258.out) | exact HB.out)⟩
      (try clear BK258)
      (try clear HB)
      generalize (((w5.setCell ⟨gb258, 0, none⟩ (.int .i64 ((rd_T40 l0 x3_1).f0))).setCell ⟨gb258, 1, none⟩ (.int .u64 ((rd_T40 l0 x3_1).f1))).setCell ⟨gb258, 2, none⟩ (.int .i64 ((rd_T40 l0 x3_1).f2))) = w7 at n0_ n1_ ⊢
      have BK258 := n0_
      have HB := n1_
      clear n0_ n1_
      have n0_ := Aside0.mk (blk_drew BK258.out)
      have n1_ := Aside0.mk (below_drew1 HB.out)
      clear BK258
      clear HB
      have BK258 := n0_
      have HB := n1_
      clear n0_ n1_
      refine start_ (n := 38) (S := fun w' => w'.cell? ⟨gb258, 0, none⟩ = some (.int .i64 ((rd_T40 l0 x3_1).f0)) ∧ w'.cell? ⟨gb258, 1, none⟩ = some (.int .u64 ((rd_T40 l0 x3_1).f1)) ∧ w'.cell? ⟨gb258, 2, none⟩ = some (.int .i64 ((rd_T40 l0 x3_1).f2))) (ds := []) (mk_ 0 38) (by kernel_rfl) rfl rfl ⟨(blk_cell BK258.out 0).trans rfl, (blk_cell BK258.out 1).trans rfl, (blk_cell BK258.out 2).trans rfl⟩ (fun hHeld => ?_); refine with_tabW marchlandref03_Right.tab5 marchlandref03_Right.bits5 (fun HT_ HW_ => ?_)
      generalize w7.drew = w8 at BK258 HB hHeld ⊢
      refine pv_ 0 15 (mk_ 1 37) HT_ ?_
      refine tv_ 1 16 (mk_ 2 36) HT_ HW_ hHeld (hy := by rintro w' ⟨s0, s1, s2⟩; go_simp; with_reducible rfl) (h := ?_)
      refine pv_ 2 17 (mk_ 3 35) HT_ ?_
      refine pv_ 3 18 (mk_ 4 34) HT_ ?_
      refine pu_ 4 19 (mk_ 5 33) HT_ ?_
      refine pu_ 5 20 (mk_ 6 32) HT_ ?_
      refine pu_ 6 21 (mk_ 7 31) HT_ ?_
      refine pv_ 7 22 (mk_ 8 30) HT_ ?_
      refine pv_ 8 23 (mk_ 9 29) HT_ ?_
      refine pu_ 9 24 (mk_ 10 28) HT_ ?_
      refine pu_ 10 25 (mk_ 11 27) HT_ ?_
      refine pu_ 11 26 (mk_ 12 26) HT_ ?_
      refine pv_ 12 27 (mk_ 13 25) HT_ ?_
      refine pv_ 13 28 (mk_ 14 24) HT_ ?_
      refine pu_ 14 29 (mk_ 15 23) HT_ ?_
      refine pu_ 15 30 (mk_ 16 22) HT_ ?_
      refine pu_ 16 31 (mk_ 17 21) HT_ ?_
      refine pv_ 17 32 (mk_ 18 20) HT_ ?_
      refine pv_ 18 33 (mk_ 19 19) HT_ ?_
      refine pu_ 19 34 (mk_ 20 18) HT_ ?_
      refine pu_ 20 35 (mk_ 21 17) HT_ ?_
      refine pu_ 21 36 (mk_ 22 16) HT_ ?_
      refine pu_ 22 37 (mk_ 23 15) HT_ ?_
      refine pv_ 23 38 (mk_ 24 14) HT_ ?_
      refine pv_ 24 39 (mk_ 25 13) HT_ ?_
      refine pu_ 25 40 (mk_ 26 12) HT_ ?_
      refine pu_ 26 41 (mk_ 27 11) HT_ ?_
      refine pu_ 27 42 (mk_ 28 10) HT_ ?_
      refine pu_ 28 43 (mk_ 29 9) HT_ ?_
      refine pu_ 29 44 (mk_ 30 8) HT_ ?_
      refine pu_ 30 45 (mk_ 31 7) HT_ ?_
      refine pu_ 31 46 (mk_ 32 6) HT_ ?_
      refine pu_ 32 47 (mk_ 33 5) HT_ ?_
      refine pu_ 33 48 (mk_ 34 4) HT_ ?_
      refine pu_ 34 49 (mk_ 35 3) HT_ ?_
      refine pu_ 35 50 (mk_ 36 2) HT_ ?_
      refine pu_ 36 51 (mk_ 37 1) HT_ ?_
      refine pv_ 37 52 (mk_ 38 0) HT_ ?_
      refine done_ (done_of HT_.out (by kernel_rfl)) ?_
      try go_wp2
      go_ret
      exact ⟨by first | rfl | (simp [errW_none, errW_some] <;> rfl) | (simp [*, errW_none, errW_some] <;> rfl), by repeat (first | (with_reducible first | exact HB.out | apply below_alloc | apply pw_below_drewN | apply below_drew1 | refine below_set ?_ GE258.out) | exact HB.out)⟩
     ·rw [if_neg c4] at H
      have c4b0 : decide (((rd_T40 l0 x3_1).f0) < 0) = false := decide_eq_false c4
      clear c4
      by_cases c9 : ((rd_T40 l0 x3_1).f0) > 63
      ·rw [if_pos c9] at H
       have c9b0 : decide (63 < ((rd_T40 l0 x3_1).f0)) = true := decide_eq_true c9
       clear c9
       obtain rfl := Option.some.inj H
       have p257 : 0 ≤ (x3_1 : Int) := of_decide_eq_true (by assumption)
       have q257 : x3_1 < (l0.length : Int) := of_decide_eq_true (by assumption)
       obtain ⟨ad257, e257, hx257_0, hx257_1, hx257_2⟩ := at_T40 HR0.out x3_1 p257 q257
       cases e257
       replace hx257_0 := (HB.out.cell (World.block_lt_of_cell? w _ hx257_0)).trans hx257_0
       replace hx257_1 := (HB.out.cell (World.block_lt_of_cell? w _ hx257_1)).trans hx257_1
       replace hx257_2 := (HB.out.cell (World.block_lt_of_cell? w _ hx257_2)).trans hx257_2
       replace p257 := eq_true p257
       replace q257 := eq_true q257
       try go_wp2_with (first | ((with_reducible refine gate_dst (N := 4) rfl ?_); refine box_event ?hg (N := 4) ?hd (cs := #[.int .i64 0, .int .u64 0, .int .i64 0]) (t := 40) ?hr ?_; (case hd => rfl); (case hg => rfl); (case hr => first | (go_simp; done) | (go_simp; rfl)); intro gb258 hg w10 hbox hb; have n1_ := Aside0.mk (hbox); have n2_ := Aside0.mk ((by rw [hg]; exact (below_size (bn HB)) : w.heap.size ≤ gb258)); have n3_ := Aside0.mk ((by rw [hg]; exact (below_size (bn HB)) : w.heap.size ≤ gb258)); replace HB := bb HB hb; have BK258 := n1_; have GW258 := n2_; have GE258 := n3_; clear n1_ n2_ n3_; clear hb hbox hg; have hcz11_0 : w10.cell? ⟨gb258, 0, none⟩ = some (.int .i64 0) := (blk_cell BK258.out 0).trans rfl; have hcz11_1 : w10.cell? ⟨gb258, 1, none⟩ = some (.int .u64 0) := (blk_cell BK258.out 1).trans rfl; have hcz11_2 : w10.cell? ⟨gb258, 2, none⟩ = some (.int .i64 0) := (blk_cell BK258.out 2).trans rfl; have hfz11_0 := blk_frozen BK258.out 0; have hfz11_1 := blk_frozen BK258.out 1; have hfz11_2 := blk_frozen BK258.out 2))
       have n0_ : Aside0 ((((w10.setCell ⟨gb258, 0, none⟩ (.int .i64 ((rd_T40 l0 x3_1).f0))).setCell ⟨gb258, 1, none⟩ (.int .u64 ((rd_T40 l0 x3_1).f1))).setCell ⟨gb258, 2, none⟩ (.int .i64 ((rd_T40 l0 x3_1).f2))).heap[gb258]? = some (.cells #[.int .i64 ((rd_T40 l0 x3_1).f0), .int .u64 ((rd_T40 l0 x3_1).f1), .int .i64 ((rd_T40 l0 x3_1).f2)] 40 (0, 0))) := ⟨by (with_reducible repeat (first | refine blk_drewN ?_ _ | refine blk_drew ?_ | refine blk_alloc ?_ _)); refine blk_put (cs := #[.int .i64 ((rd_T40 l0 x3_1).f0), .int .u64 ((rd_T40 l0 x3_1).f1), .int .i64 0]) ?_ 2 _ rfl; (with_reducible repeat (first | refine blk_drewN ?_ _ | refine blk_drew ?_ | refine blk_alloc ?_ _)); refine blk_put (cs := #[.int .i64 ((rd_T40 l0 x3_1).f0), .int .u64 0, .int .i64 0]) ?_ 1 _ rfl; (with_reducible repeat (first | refine blk_drewN ?_ _ | refine blk_drew ?_ | refine blk_alloc ?_ _)); refine blk_put (cs := #[.int .i64 0, .int .u64 0, .int .i64 0]) ?_ 0 _ rfl; (with_reducible repeat (first | refine blk_drewN ?_ _ | refine blk_drew ?_ | refine blk_alloc ?_ _)); exact BK258.out⟩
       have n1_ : Aside0 (Below w.heap.size w (((w10.setCell ⟨gb258, 0, none⟩ (.int .i64 ((rd_T40 l0 x3_1).f0))).setCell ⟨gb258, 1, none⟩ (.int .u64 ((rd_T40 l0 x3_1).f1))).setCell ⟨gb258, 2, none⟩ (.int .i64 ((rd_T40 l0 x3_1).f2)))) := ⟨by repeat (first | (with_reducible first | exact HB.out | apply below_alloc | apply pw_below_drewN | apply below_drew1 | refine below_set ?_ GE258.out) | exact HB.out)⟩
       (try clear BK258)
       (try clear HB)
       generalize (((w10.setCell ⟨gb258, 0, none⟩ (.int .i64 ((rd_T40 l0 x3_1).f0))).setCell ⟨gb258, 1, none⟩ (.int .u64 ((rd_T40 l0 x3_1).f1))).setCell ⟨gb258, 2, none⟩ (.int .i64 ((rd_T40 l0 x3_1).f2))) = w12 at n0_ n1_ ⊢
       have BK258 := n0_
       have HB := n1_
       clear n0_ n1_
       have n0_ := Aside0.mk (blk_drew BK258.out)
       have n1_ := Aside0.mk (below_drew1 HB.out)
       clear BK258
       clear HB
       have BK258 := n0_
       have HB := n1_
       clear n0_ n1_
       refine start_ (n := 38) (S := fun w' => w'.cell? ⟨gb258, 0, none⟩ = some (.int .i64 ((rd_T40 l0 x3_1).f0)) ∧ w'.cell? ⟨gb258, 1, none⟩ = some (.int .u64 ((rd_T40 l0 x3_1).f1)) ∧ w'.cell? ⟨gb258, 2, none⟩ = some (.int .i64 ((rd_T40 l0 x3_1).f2))) (ds := []) (mk_ 0 38) (by kernel_rfl) rfl rfl ⟨(blk_cell BK258.out 0).trans rfl, (blk_cell BK258.out 1).trans rfl, (blk_cell BK258.out 2).trans rfl⟩ (fun hHeld => ?_); refine with_tabW marchlandref03_Right.tab5 marchlandref03_Right.bits5 (fun HT_ HW_ => ?_)
       generalize w12.drew = w13 at BK258 HB hHeld ⊢
       refine pv_ 0 15 (mk_ 1 37) HT_ ?_
       refine tv_ 1 16 (mk_ 2 36) HT_ HW_ hHeld (hy := by rintro w' ⟨s0, s1, s2⟩; go_simp; with_reducible rfl) (h := ?_)
       refine pv_ 2 17 (mk_ 3 35) HT_ ?_
       refine pv_ 3 18 (mk_ 4 34) HT_ ?_
       refine pv_ 4 19 (mk_ 5 33) HT_ ?_
       refine tv_ 5 20 (mk_ 6 32) HT_ HW_ hHeld (hy := by rintro w' ⟨s0, s1, s2⟩; go_simp; with_reducible rfl) (h := ?_)
       refine pv_ 6 21 (mk_ 7 31) HT_ ?_
       refine pv_ 7 22 (mk_ 8 30) HT_ ?_
       refine pv_ 8 23 (mk_ 9 29) HT_ ?_
       refine pu_ 9 24 (mk_ 10 28) HT_ ?_
       refine pu_ 10 25 (mk_ 11 27) HT_ ?_
       refine pu_ 11 26 (mk_ 12 26) HT_ ?_
       refine pv_ 12 27 (mk_ 13 25) HT_ ?_
       refine pv_ 13 28 (mk_ 14 24) HT_ ?_
       refine pu_ 14 29 (mk_ 15 23) HT_ ?_
       refine pu_ 15 30 (mk_ 16 22) HT_ ?_
       refine pu_ 16 31 (mk_ 17 21) HT_ ?_
       refine pv_ 17 32 (mk_ 18 20) HT_ ?_
       refine pv_ 18 33 (mk_ 19 19) HT_ ?_
       refine pu_ 19 34 (mk_ 20 18) HT_ ?_
       refine pu_ 20 35 (mk_ 21 17) HT_ ?_
       refine pu_ 21 36 (mk_ 22 16) HT_ ?_
       refine pu_ 22 37 (mk_ 23 15) HT_ ?_
       refine pv_ 23 38 (mk_ 24 14) HT_ ?_
       refine pv_ 24 39 (mk_ 25 13) HT_ ?_
       refine pu_ 25 40 (mk_ 26 12) HT_ ?_
       refine pu_ 26 41 (mk_ 27 11) HT_ ?_
       refine pu_ 27 42 (mk_ 28 10) HT_ ?_
       refine pu_ 28 43 (mk_ 29 9) HT_ ?_
       refine pu_ 29 44 (mk_ 30 8) HT_ ?_
       refine pu_ 30 45 (mk_ 31 7) HT_ ?_
       refine pu_ 31 46 (mk_ 32 6) HT_ ?_
       refine pu_ 32 47 (mk_ 33 5) HT_ ?_
       refine pu_ 33 48 (mk_ 34 4) HT_ ?_
       refine pu_ 34 49 (mk_ 35 3) HT_ ?_
       refine pu_ 35 50 (mk_ 36 2) HT_ ?_
       refine pu_ 36 51 (mk_ 37 1) HT_ ?_
       refine pv_ 37 52 (mk_ 38 0) HT_ ?_
       refine done_ (done_of HT_.out (by kernel_rfl)) ?_
       try go_wp2
       go_ret
       exact ⟨by first | rfl | (simp [errW_none, errW_some] <;> rfl) | (simp [*, errW_none, errW_some] <;> rfl), by repeat (first | (with_reducible first | exact HB.out | apply below_alloc | apply pw_below_drewN | apply below_drew1 | refine below_set ?_ GE258.out) | exact HB.out)⟩
      ·rw [if_neg c9] at H
       have c9b0 : decide (63 < ((rd_T40 l0 x3_1).f0)) = false := decide_eq_false c9
       clear c9
       by_cases c14 : ((rd_T40 l0 x3_1).f1) = 18446744073709551615
       ·rw [if_pos c14] at H
        have c14b0 : (((rd_T40 l0 x3_1).f1) == 18446744073709551615) = true := beq_iff_eq.mpr c14
        have c14b1 : (((rd_T40 l0 x3_1).f1) != 18446744073709551615) = false := bne_eq_false_iff_eq.mpr c14
        clear c14
        obtain rfl := Option.some.inj H
        have p257 : 0 ≤ (x3_1 : Int) := of_decide_eq_true (by assumption)
        have q257 : x3_1 < (l0.length : Int) := of_decide_eq_true (by assumption)
        obtain ⟨ad257, e257, hx257_0, hx257_1, hx257_2⟩ := at_T40 HR0.out x3_1 p257 q257
        cases e257
        replace hx257_0 := (HB.out.cell (World.block_lt_of_cell? w _ hx257_0)).trans hx257_0
        replace hx257_1 := (HB.out.cell (World.block_lt_of_cell? w _ hx257_1)).trans hx257_1
        replace hx257_2 := (HB.out.cell (World.block_lt_of_cell? w _ hx257_2)).trans hx257_2
        replace p257 := eq_true p257
        replace q257 := eq_true q257
        try go_wp2_with (first | ((with_reducible refine gate_dst (N := 4) rfl ?_); refine box_event ?hg (N := 4) ?hd (cs := #[.int .i64 0, .int .u64 0, .int .i64 0]) (t := 40) ?hr ?_; (case hd => rfl); (case hg => rfl); (case hr => first | (go_simp; done) | (go_simp; rfl)); intro gb258 hg w15 hbox hb; have n1_ := Aside0.mk (hbox); have n2_ := Aside0.mk ((by rw [hg]; exact (below_size (bn HB)) : w.heap.size ≤ gb258)); have n3_ := Aside0.mk ((by rw [hg]; exact (below_size (bn HB)) : w.heap.size ≤ gb258)); replace HB := bb HB hb; have BK258 := n1_; have GW258 := n2_; have GE258 := n3_; clear n1_ n2_ n3_; clear hb hbox hg; have hcz16_0 : w15.cell? ⟨gb258, 0, none⟩ = some (.int .i64 0) := (blk_cell BK258.out 0).trans rfl; have hcz16_1 : w15.cell? ⟨gb258, 1, none⟩ = some (.int .u64 0) := (blk_cell BK258.out 1).trans rfl; have hcz16_2 : w15.cell? ⟨gb258, 2, none⟩ = some (.int .i64 0) := (blk_cell BK258.out 2).trans rfl; have hfz16_0 := blk_frozen BK258.out 0; have hfz16_1 := blk_frozen BK258.out 1; have hfz16_2 := blk_frozen BK258.out 2))
        have n0_ : Aside0 ((((w15.setCell ⟨gb258, 0, none⟩ (.int .i64 ((rd_T40 l0 x3_1).f0))).setCell ⟨gb258, 1, none⟩ (.int .u64 ((rd_T40 l0 x3_1).f1))).setCell ⟨gb258, 2, none⟩ (.int .i64 ((rd_T40 l0 x3_1).f2))).heap[gb258]? = some (.cells #[.int .i64 ((rd_T40 l0 x3_1).f0), .int .u64 ((rd_T40 l0 x3_1).f1), .int .i64 ((rd_T40 l0 x3_1).f2)] 40 (0, 0))) := ⟨by (with_reducible repeat (first | refine blk_drewN ?_ _ | refine blk_drew ?_ | refine blk_alloc ?_ _)); refine blk_put (cs := #[.int .i64 ((rd_T40 l0 x3_1).f0), .int .u64 ((rd_T40 l0 x3_1).f1), .int .i64 0]) ?_ 2 _ rfl; (with_reducible repeat (first | refine blk_drewN ?_ _ | refine blk_drew ?_ | refine blk_alloc ?_ _)); refine blk_put (cs := #[.int .i64 ((rd_T40 l0 x3_1).f0), .int .u64 0, .int .i64 0]) ?_ 1 _ rfl; (with_reducible repeat (first | refine blk_drewN ?_ _ | refine blk_drew ?_ | refine blk_alloc ?_ _)); refine blk_put (cs := #[.int .i64 0, .int .u64 0, .int .i64 0]) ?_ 0 _ rfl; (with_reducible repeat (first | refine blk_drewN ?_ _ | refine blk_drew ?_ | refine blk_alloc ?_ _)); exact BK258.out⟩
        have n1_ : Aside0 (Below w.heap.size w (((w15.setCell ⟨gb258, 0, none⟩ (.int .i64 ((rd_T40 l0 x3_1).f0))).setCell ⟨gb258, 1, none⟩ (.int .u64 ((rd_T40 l0 x3_1).f1))).setCell ⟨gb258, 2, none⟩ (.int .i64 ((rd_T40 l0 x3_1).f2)))) := ⟨by repeat (first | (with_reducible first | exact HB.out | apply below_alloc | apply pw_below_drewN | apply below_drew1 | refine below_set ?_ GE258.out) | exact HB.out)⟩
        (try clear BK258)
        (try clear HB)
        generalize (((w15.setCell ⟨gb258, 0, none⟩ (.int .i64 ((rd_T40 l0 x3_1).f0))).setCell ⟨gb258, 1, none⟩ (.int .u64 ((rd_T40 l0 x3_1).f1))).setCell ⟨gb258, 2, none⟩ (.int .i64 ((rd_T40 l0 x3_1).f2))) = w17 at n0_ n1_ ⊢
        have BK258 := n0_
        have HB := n1_
        clear n0_ n1_
        have n0_ := Aside0.mk (blk_drew BK258.out)
        have n1_ := Aside0.mk (below_drew1 HB.out)
        clear BK258
        clear HB
        have BK258 := n0_
        have HB := n1_
        clear n0_ n1_
        refine start_ (n := 38) (S := fun w' => w'.cell? ⟨gb258, 0, none⟩ = some (.int .i64 ((rd_T40 l0 x3_1).f0)) ∧ w'.cell? ⟨gb258, 1, none⟩ = some (.int .u64 ((rd_T40 l0 x3_1).f1)) ∧ w'.cell? ⟨gb258, 2, none⟩ = some (.int .i64 ((rd_T40 l0 x3_1).f2))) (ds := []) (mk_ 0 38) (by kernel_rfl) rfl rfl ⟨(blk_cell BK258.out 0).trans rfl, (blk_cell BK258.out 1).trans rfl, (blk_cell BK258.out 2).trans rfl⟩ (fun hHeld => ?_); refine with_tabW marchlandref03_Right.tab5 marchlandref03_Right.bits5 (fun HT_ HW_ => ?_)
        generalize w17.drew = w18 at BK258 HB hHeld ⊢
        refine pv_ 0 15 (mk_ 1 37) HT_ ?_
        refine tv_ 1 16 (mk_ 2 36) HT_ HW_ hHeld (hy := by rintro w' ⟨s0, s1, s2⟩; go_simp; with_reducible rfl) (h := ?_)
        refine pv_ 2 17 (mk_ 3 35) HT_ ?_
        refine pv_ 3 18 (mk_ 4 34) HT_ ?_
        refine pv_ 4 19 (mk_ 5 33) HT_ ?_
        refine tv_ 5 20 (mk_ 6 32) HT_ HW_ hHeld (hy := by rintro w' ⟨s0, s1, s2⟩; go_simp; with_reducible rfl) (h := ?_)
        refine pv_ 6 21 (mk_ 7 31) HT_ ?_
        refine pv_ 7 22 (mk_ 8 30) HT_ ?_
        refine pv_ 8 23 (mk_ 9 29) HT_ ?_
        refine pv_ 9 24 (mk_ 10 28) HT_ ?_
        refine tv_ 10 25 (mk_ 11 27) HT_ HW_ hHeld (hy := by rintro w' ⟨s0, s1, s2⟩; go_simp; with_reducible rfl) (h := ?_)
        refine pv_ 11 26 (mk_ 12 26) HT_ ?_
        refine pv_ 12 27 (mk_ 13 25) HT_ ?_
        refine pv_ 13 28 (mk_ 14 24) HT_ ?_
        refine pu_ 14 29 (mk_ 15 23) HT_ ?_
        refine pu_ 15 30 (mk_ 16 22) HT_ ?_
        refine pu_ 16 31 (mk_ 17 21) HT_ ?_
        refine pv_ 17 32 (mk_ 18 20) HT_ ?_
        refine pv_ 18 33 (mk_ 19 19) HT_ ?_
        refine pu_ 19 34 (mk_ 20 18) HT_ ?_
        refine pu_ 20 35 (mk_ 21 17) HT_ ?_
        refine pu_ 21 36 (mk_ 22 16) HT_ ?_
        refine pu_ 22 37 (mk_ 23 15) HT_ ?_
        refine pv_ 23 38 (mk_ 24 14) HT_ ?_
        refine pv_ 24 39 (mk_ 25 13) HT_ ?_
        refine pu_ 25 40 (mk_ 26 12) HT_ ?_
        refine pu_ 26 41 (mk_ 27 11) HT_ ?_
        refine pu_ 27 42 (mk_ 28 10) HT_ ?_
        refine pu_ 28 43 (mk_ 29 9) HT_ ?_
        refine pu_ 29 44 (mk_ 30 8) HT_ ?_
        refine pu_ 30 45 (mk_ 31 7) HT_ ?_
        refine pu_ 31 46 (mk_ 32 6) HT_ ?_
        refine pu_ 32 47 (mk_ 33 5) HT_ ?_
        refine pu_ 33 48 (mk_ 34 4) HT_ ?_
        refine pu_ 34 49 (mk_ 35 3) HT_ ?_
        refine pu_ 35 50 (mk_ 36 2) HT_ ?_
        refine pu_ 36 51 (mk_ 37 1) HT_ ?_
        refine pv_ 37 52 (mk_ 38 0) HT_ ?_
        refine done_ (done_of HT_.out (by kernel_rfl)) ?_
        try go_wp2
        go_ret
        exact ⟨by first | rfl | (simp [errW_none, errW_some] <;> rfl) | (simp [*, errW_none, errW_some] <;> rfl), by repeat (first | (with_reducible first | exact HB.out | apply below_alloc | apply pw_below_drewN | apply below_drew1 | refine below_set ?_ GE258.out) | exact HB.out)⟩
       ·rw [if_neg c14] at H
        have c14b0 : (((rd_T40 l0 x3_1).f1) == 18446744073709551615) = false := beq_eq_false_iff_ne.mpr c14
        have c14b1 : (((rd_T40 l0 x3_1).f1) != 18446744073709551615) = true := bne_iff_ne.mpr c14
        by_cases c19 : ((rd_T40 l0 x3_1).f2) = 0
        ·rw [if_pos c19] at H
         have c19b0 : (((rd_T40 l0 x3_1).f2) == 0) = true := beq_iff_eq.mpr c19
         have c19b1 : (((rd_T40 l0 x3_1).f2) != 0) = false := bne_eq_false_iff_eq.mpr c19
         clear c19
         obtain rfl := Option.some.inj H
         have p257 : 0 ≤ (x3_1 : Int) := of_decide_eq_true (by assumption)
         have q257 : x3_1 < (l0.length : Int) := of_decide_eq_true (by assumption)
         obtain ⟨ad257, e257, hx257_0, hx257_1, hx257_2⟩ := at_T40 HR0.out x3_1 p257 q257
         cases e257
         replace hx257_0 := (HB.out.cell (World.block_lt_of_cell? w _ hx257_0)).trans hx257_0
         replace hx257_1 := (HB.out.cell (World.block_lt_of_cell? w _ hx257_1)).trans hx257_1
         replace hx257_2 := (HB.out.cell (World.block_lt_of_cell? w _ hx257_2)).trans hx257_2
         replace p257 := eq_true p257
         replace q257 := eq_true q257
         try go_wp2_with (first | ((with_reducible refine gate_dst (N := 4) rfl ?_); refine box_event ?hg (N := 4) ?hd (cs := #[.int .i64 0, .int .u64 0, .int .i64 0]) (t := 40) ?hr ?_; (case hd => rfl); (case hg => rfl); (case hr => first | (go_simp; done) | (go_simp; rfl)); intro gb258 hg w20 hbox hb; have n1_ := Aside0.mk (hbox); have n2_ := Aside0.mk ((by rw [hg]; exact (below_size (bn HB)) : w.heap.size ≤ gb258)); have n3_ := Aside0.mk ((by rw [hg]; exact (below_size (bn HB)) : w.heap.size ≤ gb258)); replace HB := bb HB hb; have BK258 := n1_; have GW258 := n2_; have GE258 := n3_; clear n1_ n2_ n3_; clear hb hbox hg; have hcz21_0 : w20.cell? ⟨gb258, 0, none⟩ = some (.int .i64 0) := (blk_cell BK258.out 0).trans rfl; have hcz21_1 : w20.cell? ⟨gb258, 1, none⟩ = some (.int .u64 0) := (blk_cell BK258.out 1).trans rfl; have hcz21_2 : w20.cell? ⟨gb258, 2, none⟩ = some (.int .i64 0) := (blk_cell BK258.out 2).trans rfl; have hfz21_0 := blk_frozen BK258.out 0; have hfz21_1 := blk_frozen BK258.out 1; have hfz21_2 := blk_frozen BK258.out 2))
         have n0_ : Aside0 ((((w20.setCell ⟨gb258, 0, none⟩ (.int .i64 ((rd_T40 l0 x3_1).f0))).setCell ⟨gb258, 1, none⟩ (.int .u64 ((rd_T40 l0 x3_1).f1))).setCell ⟨gb258, 2, none⟩ (.int .i64 ((rd_T40 l0 x3_1).f2))).heap[gb258]? = some (.cells #[.int .i64 ((rd_T40 l0 x3_1).f0), .int .u64 ((rd_T40 l0 x3_1).f1), .int .i64 ((rd_T40 l0 x3_1).f2)] 40 (0, 0))) := ⟨by (with_reducible repeat (first | refine blk_drewN ?_ _ | refine blk_drew ?_ | refine blk_alloc ?_ _)); refine blk_put (cs := #[.int .i64 ((rd_T40 l0 x3_1).f0), .int .u64 ((rd_T40 l0 x3_1).f1), .int .i64 0]) ?_ 2 _ rfl; (with_reducible repeat (first | refine blk_drewN ?_ _ | refine blk_drew ?_ | refine blk_alloc ?_ _)); refine blk_put (cs := #[.int .i64 ((rd_T40 l0 x3_1).f0), .int .u64 0, .int .i64 0]) ?_ 1 _ rfl; (with_reducible repeat (first | refine blk_drewN ?_ _ | refine blk_drew ?_ | refine blk_alloc ?_ _)); refine blk_put (cs := #[.int .i64 0, .int .u64 0, .int .i64 0]) ?_ 0 _ rfl; (with_reducible repeat (first | refine blk_drewN ?_ _ | refine blk_drew ?_ | refine blk_alloc ?_ _)); exact BK258.out⟩
         have n1_ : Aside0 (Below w.heap.size w (((w20.setCell ⟨gb258, 0, none⟩ (.int .i64 ((rd_T40 l0 x3_1).f0))).setCell ⟨gb258, 1, none⟩ (.int .u64 ((rd_T40 l0 x3_1).f1))).setCell ⟨gb258, 2, none⟩ (.int .i64 ((rd_T40 l0 x3_1).f2)))) := ⟨by repeat (first | (with_reducible first | exact HB.out | apply below_alloc | apply pw_below_drewN | apply below_drew1 | refine below_set ?_ GE258.out) | exact HB.out)⟩
         (try clear BK258)
         (try clear HB)
         generalize (((w20.setCell ⟨gb258, 0, none⟩ (.int .i64 ((rd_T40 l0 x3_1).f0))).setCell ⟨gb258, 1, none⟩ (.int .u64 ((rd_T40 l0 x3_1).f1))).setCell ⟨gb258, 2, none⟩ (.int .i64 ((rd_T40 l0 x3_1).f2))) = w22 at n0_ n1_ ⊢
         have BK258 := n0_
         have HB := n1_
         clear n0_ n1_
         have n0_ := Aside0.mk (blk_drew BK258.out)
         have n1_ := Aside0.mk (below_drew1 HB.out)
         clear BK258
         clear HB
         have BK258 := n0_
         have HB := n1_
         clear n0_ n1_
         refine start_ (n := 38) (S := fun w' => w'.cell? ⟨gb258, 0, none⟩ = some (.int .i64 ((rd_T40 l0 x3_1).f0)) ∧ w'.cell? ⟨gb258, 1, none⟩ = some (.int .u64 ((rd_T40 l0 x3_1).f1)) ∧ w'.cell? ⟨gb258, 2, none⟩ = some (.int .i64 ((rd_T40 l0 x3_1).f2))) (ds := []) (mk_ 0 38) (by kernel_rfl) rfl rfl ⟨(blk_cell BK258.out 0).trans rfl, (blk_cell BK258.out 1).trans rfl, (blk_cell BK258.out 2).trans rfl⟩ (fun hHeld => ?_); refine with_tabW marchlandref03_Right.tab5 marchlandref03_Right.bits5 (fun HT_ HW_ => ?_)
         generalize w22.drew = w23 at BK258 HB hHeld ⊢
         refine pv_ 0 15 (mk_ 1 37) HT_ ?_
         refine tv_ 1 16 (mk_ 2 36) HT_ HW_ hHeld (hy := by rintro w' ⟨s0, s1, s2⟩; go_simp; with_reducible rfl) (h := ?_)
         refine pv_ 2 17 (mk_ 3 35) HT_ ?_
         refine pv_ 3 18 (mk_ 4 34) HT_ ?_
         refine pv_ 4 19 (mk_ 5 33) HT_ ?_
         refine tv_ 5 20 (mk_ 6 32) HT_ HW_ hHeld (hy := by rintro w' ⟨s0, s1, s2⟩; go_simp; with_reducible rfl) (h := ?_)
         refine pv_ 6 21 (mk_ 7 31) HT_ ?_
         refine pv_ 7 22 (mk_ 8 30) HT_ ?_
         refine pv_ 8 23 (mk_ 9 29) HT_ ?_
         refine pv_ 9 24 (mk_ 10 28) HT_ ?_
         refine tv_ 10 25 (mk_ 11 27) HT_ HW_ hHeld (hy := by rintro w' ⟨s0, s1, s2⟩; go_simp; with_reducible rfl) (h := ?_)
         refine pv_ 11 26 (mk_ 12 26) HT_ ?_
         refine pv_ 12 27 (mk_ 13 25) HT_ ?_
         refine pv_ 13 28 (mk_ 14 24) HT_ ?_
         refine pv_ 14 29 (mk_ 15 23) HT_ ?_
         refine tv_ 15 30 (mk_ 16 22) HT_ HW_ hHeld (hy := by rintro w' ⟨s0, s1, s2⟩; go_simp; with_reducible rfl) (h := ?_)
         refine pv_ 16 31 (mk_ 17 21) HT_ ?_
         refine pv_ 17 32 (mk_ 18 20) HT_ ?_
         refine pv_ 18 33 (mk_ 19 19) HT_ ?_
         refine pu_ 19 34 (mk_ 20 18) HT_ ?_
         refine pu_ 20 35 (mk_ 21 17) HT_ ?_
         refine pu_ 21 36 (mk_ 22 16) HT_ ?_
         refine pu_ 22 37 (mk_ 23 15) HT_ ?_
         refine pv_ 23 38 (mk_ 24 14) HT_ ?_
         refine pv_ 24 39 (mk_ 25 13) HT_ ?_
         refine pu_ 25 40 (mk_ 26 12) HT_ ?_
         refine pu_ 26 41 (mk_ 27 11) HT_ ?_
         refine pu_ 27 42 (mk_ 28 10) HT_ ?_
         refine pu_ 28 43 (mk_ 29 9) HT_ ?_
         refine pu_ 29 44 (mk_ 30 8) HT_ ?_
         refine pu_ 30 45 (mk_ 31 7) HT_ ?_
         refine pu_ 31 46 (mk_ 32 6) HT_ ?_
         refine pu_ 32 47 (mk_ 33 5) HT_ ?_
         refine pu_ 33 48 (mk_ 34 4) HT_ ?_
         refine pu_ 34 49 (mk_ 35 3) HT_ ?_
         refine pu_ 35 50 (mk_ 36 2) HT_ ?_
         refine pu_ 36 51 (mk_ 37 1) HT_ ?_
         refine pv_ 37 52 (mk_ 38 0) HT_ ?_
         refine done_ (done_of HT_.out (by kernel_rfl)) ?_
         try go_wp2
         go_ret
         exact ⟨by first | rfl | (simp [errW_none, errW_some] <;> rfl) | (simp [*, errW_none, errW_some] <;> rfl), by repeat (first | (with_reducible first | exact HB.out | apply below_alloc | apply pw_below_drewN | apply below_drew1 | refine below_set ?_ GE258.out) | exact HB.out)⟩
        ·rw [if_neg c19] at H
         have c19b0 : (((rd_T40 l0 x3_1).f2) == 0) = false := beq_eq_false_iff_ne.mpr c19
         have c19b1 : (((rd_T40 l0 x3_1).f2) != 0) = true := bne_iff_ne.mpr c19
         replace H := Option.bind_eq_some_iff.mp H
         obtain ⟨t259, A240, H⟩ := H
         replace H : (if t259 = true then (if x3_1 > 0 then (if 0 ≤ (wrap64 (x3_1 - 1)) then (if (wrap64 (x3_1 - 1)) < (l0.length : Int) then ((marchlandref03_before.f ((rd_T40 l0 (wrap64 (x3_1 - 1))).f0) ((rd_T40 l0 (wrap64 (x3_1 - 1))).f1) ((rd_T40 l0 (wrap64 (x3_1 - 1))).f2) ((rd_T40 l0 x3_1).f0) ((rd_T40 l0 x3_1).f1) ((rd_T40 l0 x3_1).f2)).bind fun t261 => (if t261 = true then (marchlandref03_Right.l0 k1 l0 (wrap64 (x3_1 + 1))) else (some false))) else (none)) else (none)) else (marchlandref03_Right.l0 k1 l0 (wrap64 (x3_1 + 1)))) else (some false)) = some r := H
         have A24 := Aside0.mk A240
         clear A240
         by_cases c25 : t259 = true
         ·subst c25
          have H1 : (if x3_1 > 0 then (if 0 ≤ (wrap64 (x3_1 - 1)) then (if (wrap64 (x3_1 - 1)) < (l0.length : Int) then ((marchlandref03_before.f ((rd_T40 l0 (wrap64 (x3_1 - 1))).f0) ((rd_T40 l0 (wrap64 (x3_1 - 1))).f1) ((rd_T40 l0 (wrap64 (x3_1 - 1))).f2) ((rd_T40 l0 x3_1).f0) ((rd_T40 l0 x3_1).f1) ((rd_T40 l0 x3_1).f2)).bind fun t261 => (if t261 = true then (marchlandref03_Right.l0 k1 l0 (wrap64 (x3_1 + 1))) else (some false))) else (none)) else (none)) else (marchlandref03_Right.l0 k1 l0 (wrap64 (x3_1 + 1)))) = some r := by rw [if_pos rfl] at H; exact H
          clear H
          have H := H1
          clear H1
          by_cases c26 : x3_1 > 0
          ·rw [if_pos c26] at H
           have c26b0 : decide (0 < x3_1) = true := decide_eq_true c26
           clear c26
           obtain ⟨ji27, hji27⟩ : ∃ j_ : Int, (wrap64 (x3_1 - 1)) = j_ := ⟨_, rfl⟩
           replace H : (if 0 ≤ (ji27) then (if (ji27) < (l0.length : Int) then ((marchlandref03_before.f ((rd_T40 l0 (ji27)).f0) ((rd_T40 l0 (ji27)).f1) ((rd_T40 l0 (ji27)).f2) ((rd_T40 l0 x3_1).f0) ((rd_T40 l0 x3_1).f1) ((rd_T40 l0 x3_1).f2)).bind fun t261 => (if t261 = true then (marchlandref03_Right.l0 k1 l0 (wrap64 (x3_1 + 1))) else (some false))) else (none)) else (none)) = some r := by first | (rw [hji27] at H; exact H) | (simp only [hji27] at H ⊢; exact H)
           (try rw [hji27] at A24)
           have hji27w : (IntKind.i64.wrap (x3_1 - 1)) = ji27 := (i64_w _).trans hji27
           by_cases c28 : 0 ≤ (ji27)
           ·rw [if_pos c28] at H
            have c28b0 : decide (0 ≤ (ji27)) = true := decide_eq_true c28
            clear c28
            by_cases c29 : (ji27) < (l0.length : Int)
            ·rw [if_pos c29] at H
             have c29b0 : decide ((ji27) < (l0.length : Int)) = true := decide_eq_true c29
             clear c29
             replace H := Option.bind_eq_some_iff.mp H
             obtain ⟨t261, A300, H⟩ := H
             replace H : (if t261 = true then (marchlandref03_Right.l0 k1 l0 (wrap64 (x3_1 + 1))) else (some false)) = some r := H
             have A30 := Aside0.mk A300
             clear A300
             by_cases c31 : t261 = true
             ·subst c31
              have H1 : (marchlandref03_Right.l0 k1 l0 (wrap64 (x3_1 + 1))) = some r := by rw [if_pos rfl] at H; exact H
              clear H
              have H := H1
              clear H1
              have H' := Aside0.mk H
              clear H
              have p257 : 0 ≤ (x3_1 : Int) := of_decide_eq_true (by assumption)
              have q257 : x3_1 < (l0.length : Int) := of_decide_eq_true (by assumption)
              obtain ⟨ad257, e257, hx257_0, hx257_1, hx257_2⟩ := at_T40 HR0.out x3_1 p257 q257
              cases e257
              replace hx257_0 := (HB.out.cell (World.block_lt_of_cell? w _ hx257_0)).trans hx257_0
              replace hx257_1 := (HB.out.cell (World.block_lt_of_cell? w _ hx257_1)).trans hx257_1
              replace hx257_2 := (HB.out.cell (World.block_lt_of_cell? w _ hx257_2)).trans hx257_2
              replace p257 := eq_true p257
              replace q257 := eq_true q257
              try go_wp2_with (first | ((with_reducible refine gate_dst (N := 4) rfl ?_); refine box_event ?hg (N := 4) ?hd (cs := #[.int .i64 0, .int .u64 0, .int .i64 0]) (t := 40) ?hr ?_; (case hd => rfl); (case hg => rfl); (case hr => first | (go_simp; done) | (go_simp; rfl)); intro gb258 hg w32 hbox hb; have n1_ := Aside0.mk (hbox); have n2_ := Aside0.mk ((by rw [hg]; exact (below_size (bn HB)) : w.heap.size ≤ gb258)); have n3_ := Aside0.mk ((by rw [hg]; exact (below_size (bn HB)) : w.heap.size ≤ gb258)); replace HB := bb HB hb; have BK258 := n1_; have GW258 := n2_; have GE258 := n3_; clear n1_ n2_ n3_; clear hb hbox hg; have hcz33_0 : w32.cell? ⟨gb258, 0, none⟩ = some (.int .i64 0) := (blk_cell BK258.out 0).trans rfl; have hcz33_1 : w32.cell? ⟨gb258, 1, none⟩ = some (.int .u64 0) := (blk_cell BK258.out 1).trans rfl; have hcz33_2 : w32.cell? ⟨gb258, 2, none⟩ = some (.int .i64 0) := (blk_cell BK258.out 2).trans rfl; have hfz33_0 := blk_frozen BK258.out 0; have hfz33_1 := blk_frozen BK258.out 1; have hfz33_2 := blk_frozen BK258.out 2))
              have n0_ : Aside0 ((((w32.setCell ⟨gb258, 0, none⟩ (.int .i64 ((rd_T40 l0 x3_1).f0))).setCell ⟨gb258, 1, none⟩ (.int .u64 ((rd_T40 l0 x3_1).f1))).setCell ⟨gb258, 2, none⟩ (.int .i64 ((rd_T40 l0 x3_1).f2))).heap[gb258]? = some (.cells #[.int .i64 ((rd_T40 l0 x3_1).f0), .int .u64 ((rd_T40 l0 x3_1).f1), .int .i64 ((rd_T40 l0 x3_1).f2)] 40 (0, 0))) := ⟨by (with_reducible repeat (first | refine blk_drewN ?_ _ | refine blk_drew ?_ | refine blk_alloc ?_ _)); refine blk_put (cs := #[.int .i64 ((rd_T40 l0 x3_1).f0), .int .u64 ((rd_T40 l0 x3_1).f1), .int .i64 0]) ?_ 2 _ rfl; (with_reducible repeat (first | refine blk_drewN ?_ _ | refine blk_drew ?_ | refine blk_alloc ?_ _)); refine blk_put (cs := #[.int .i64 ((rd_T40 l0 x3_1).f0), .int .u64 0, .int .i64 0]) ?_ 1 _ rfl; (with_reducible repeat (first | refine blk_drewN ?_ _ | refine blk_drew ?_ | refine blk_alloc ?_ _)); refine blk_put (cs := #[.int .i64 0, .int .u64 0, .int .i64 0]) ?_ 0 _ rfl; (with_reducible repeat (first | refine blk_drewN ?_ _ | refine blk_drew ?_ | refine blk_alloc ?_ _)); exact BK258.out⟩
              have n1_ : Aside0 (Below w.heap.size w (((w32.setCell ⟨gb258, 0, none⟩ (.int .i64 ((rd_T40 l0 x3_1).f0))).setCell ⟨gb258, 1, none⟩ (.int .u64 ((rd_T40 l0 x3_1).f1))).setCell ⟨gb258, 2, none⟩ (.int .i64 ((rd_T40 l0 x3_1).f2)))) := ⟨by repeat (first | (with_reducible first | exact HB.out | apply below_alloc | apply pw_below_drewN | apply below_drew1 | refine below_set ?_ GE258.out) | exact HB.out)⟩
              (try clear BK258)
              (try clear HB)
              generalize (((w32.setCell ⟨gb258, 0, none⟩ (.int .i64 ((rd_T40 l0 x3_1).f0))).setCell ⟨gb258, 1, none⟩ (.int .u64 ((rd_T40 l0 x3_1).f1))).setCell ⟨gb258, 2, none⟩ (.int .i64 ((rd_T40 l0 x3_1).f2))) = w34 at n0_ n1_ ⊢
              have BK258 := n0_
              have HB := n1_
              clear n0_ n1_
              have n0_ := Aside0.mk (blk_drew BK258.out)
              have n1_ := Aside0.mk (below_drew1 HB.out)
              clear BK258
              clear HB
              have BK258 := n0_
              have HB := n1_
              clear n0_ n1_
              have p260 : 0 ≤ ((ji27) : Int) := of_decide_eq_true (by assumption)
              have q260 : (ji27) < (l0.length : Int) := of_decide_eq_true (by assumption)
              obtain ⟨ad260, e260, hx260_0, hx260_1, hx260_2⟩ := at_T40 HR0.out (ji27) p260 q260
              have hw260_2 := hx260_2
              have hw260_1 := hx260_1
              have hw260_0 := hx260_0
              obtain rfl : ad257 = ad260 := (by injection e260)
              replace hx260_0 := (HB.out.cell (World.block_lt_of_cell? w _ hx260_0)).trans hx260_0
              replace hx260_1 := (HB.out.cell (World.block_lt_of_cell? w _ hx260_1)).trans hx260_1
              replace hx260_2 := (HB.out.cell (World.block_lt_of_cell? w _ hx260_2)).trans hx260_2
              replace p260 := eq_true p260
              replace q260 := eq_true q260
              refine start_ (n := 38) (S := fun w' => w'.cell? ⟨gb258, 0, none⟩ = some (.int .i64 ((rd_T40 l0 x3_1).f0)) ∧ w'.cell? ⟨gb258, 1, none⟩ = some (.int .u64 ((rd_T40 l0 x3_1).f1)) ∧ w'.cell? ⟨gb258, 2, none⟩ = some (.int .i64 ((rd_T40 l0 x3_1).f2)) ∧ w'.cell? (ad257.add (((ji27)).toNat * 3)) = some (.int .i64 ((rd_T40 l0 (ji27)).f0)) ∧ w'.cell? ⟨(ad257.add (((ji27)).toNat * 3)).block, (ad257.add (((ji27)).toNat * 3)).off + 1, none⟩ = some (.int .u64 ((rd_T40 l0 (ji27)).f1)) ∧ w'.cell? ⟨(ad257.add (((ji27)).toNat * 3)).block, (ad257.add (((ji27)).toNat * 3)).off + 2, none⟩ = some (.int .i64 ((rd_T40 l0 (ji27)).f2))) (ds := []) (mk_ 0 38) (by kernel_rfl) rfl rfl ⟨(blk_cell BK258.out 0).trans rfl, (blk_cell BK258.out 1).trans rfl, (blk_cell BK258.out 2).trans rfl, ((HB.out.cell (World.block_lt_of_cell? w _ hw260_0)).trans hw260_0), ((HB.out.cell (World.block_lt_of_cell? w _ hw260_1)).trans hw260_1), ((HB.out.cell (World.block_lt_of_cell? w _ hw260_2)).trans hw260_2)⟩ (fun hHeld => ?_); refine with_tabW marchlandref03_Right.tab5 marchlandref03_Right.bits5 (fun HT_ HW_ => ?_)
              generalize w34.drew = w35 at BK258 HB hx260_0 hx260_1 hx260_2 hHeld ⊢
              refine pv_ 0 15 (mk_ 1 37) HT_ ?_
              refine tv_ 1 16 (mk_ 2 36) HT_ HW_ hHeld (hy := by rintro w' ⟨s0, s1, s2, s3, s4, s5⟩; go_simp; with_reducible rfl) (h := ?_)
              refine pv_ 2 17 (mk_ 3 35) HT_ ?_
              refine pv_ 3 18 (mk_ 4 34) HT_ ?_
              refine pv_ 4 19 (mk_ 5 33) HT_ ?_
              refine tv_ 5 20 (mk_ 6 32) HT_ HW_ hHeld (hy := by rintro w' ⟨s0, s1, s2, s3, s4, s5⟩; go_simp; with_reducible rfl) (h := ?_)
              refine pv_ 6 21 (mk_ 7 31) HT_ ?_
              refine pv_ 7 22 (mk_ 8 30) HT_ ?_
              refine pv_ 8 23 (mk_ 9 29) HT_ ?_
              refine pv_ 9 24 (mk_ 10 28) HT_ ?_
              refine tv_ 10 25 (mk_ 11 27) HT_ HW_ hHeld (hy := by rintro w' ⟨s0, s1, s2, s3, s4, s5⟩; go_simp; with_reducible rfl) (h := ?_)
              refine pv_ 11 26 (mk_ 12 26) HT_ ?_
              refine pv_ 12 27 (mk_ 13 25) HT_ ?_
              refine pv_ 13 28 (mk_ 14 24) HT_ ?_
              refine pv_ 14 29 (mk_ 15 23) HT_ ?_
              refine tv_ 15 30 (mk_ 16 22) HT_ HW_ hHeld (hy := by rintro w' ⟨s0, s1, s2, s3, s4, s5⟩; go_simp; with_reducible rfl) (h := ?_)
              refine pv_ 16 31 (mk_ 17 21) HT_ ?_
              refine pv_ 17 32 (mk_ 18 20) HT_ ?_
              refine pv_ 18 33 (mk_ 19 19) HT_ ?_
              refine pv_ 19 34 (mk_ 20 18) HT_ ?_
              refine tv_ 20 35 (mk_ 21 17) HT_ HW_ hHeld (hy := by rintro w' ⟨s0, s1, s2, s3, s4, s5⟩; go_simp; with_reducible rfl) (h := ?_)
              refine one_ (i := 21) (N := some 36) (mk_ 22 16) rfl rfl (one_of HT_.out (by kernel_rfl)) (by decide) (fun K hK => ?_)
              refine goes_ Try.func51 (by kernel_rfl) rfl #[.int .i64 ((rd_T40 l0 x3_1).f2)] (by rfl) rfl rfl (by (try simp only [List.map_toArray, List.map_cons, List.map_nil]); first | done | rfl | (simp only [List.length_drop, List.length_take]; rfl)) ?_
              with_reducible refine (marchlandref03_within.calls ((rd_T40 l0 x3_1).f2) true _ A24.out).mono ?_
              rintro e w' ⟨rfl, ⟨nd, rfl⟩⟩
              refine ⟨_, rfl, ?_⟩
              refine hK.out _ _ ⟨(blk_cell BK258.out 0).trans rfl, (blk_cell BK258.out 1).trans rfl, (blk_cell BK258.out 2).trans rfl, ((HB.out.cell (World.block_lt_of_cell? w _ hw260_0)).trans hw260_0), ((HB.out.cell (World.block_lt_of_cell? w _ hw260_1)).trans hw260_1), ((HB.out.cell (World.block_lt_of_cell? w _ hw260_2)).trans hw260_2)⟩ (fun hHeld => ?_)
              clear hK K
              refine norm_ (a' := ?_) ?_ ?_
              rotate_left
              ·show Act.put _ (some 36) _ = _
               simp only [Act.put, List.setIfInBounds_toArray, List.set_cons_zero, List.set_cons_succ, i64_w, i32_w]
               rfl
              refine pv_ 22 37 (mk_ 23 15) HT_ ?_
              refine pv_ 23 38 (mk_ 24 14) HT_ ?_
              refine pv_ 24 39 (mk_ 25 13) HT_ ?_
              refine pv_ 25 40 (mk_ 26 12) HT_ ?_
              refine pv_ 26 41 (mk_ 27 11) HT_ ?_
              refine pv_ 27 42 (mk_ 28 10) HT_ ?_
              refine pv_ 28 43 (mk_ 29 9) HT_ ?_
              refine pv_ 29 44 (mk_ 30 8) HT_ ?_
              refine pv_ 30 45 (mk_ 31 7) HT_ ?_
              refine pv_ 31 46 (mk_ 32 6) HT_ ?_
              refine tv_ 32 47 (mk_ 33 5) HT_ HW_ hHeld (hy := by rintro w' ⟨s0, s1, s2, s3, s4, s5⟩; go_simp; with_reducible rfl) (h := ?_)
              refine tv_ 33 48 (mk_ 34 4) HT_ HW_ hHeld (hy := by rintro w' ⟨s0, s1, s2, s3, s4, s5⟩; go_simp; with_reducible rfl) (h := ?_)
              refine one_ (i := 34) (N := some 49) (mk_ 35 3) rfl rfl (one_of HT_.out (by kernel_rfl)) (by decide) (fun K hK => ?_)
              refine goes_ Try.func54 (by kernel_rfl) rfl #[.agg #[.int .i64 ((rd_T40 l0 (ji27)).f0), .int .u64 ((rd_T40 l0 (ji27)).f1), .int .i64 ((rd_T40 l0 (ji27)).f2)], .agg #[.int .i64 ((rd_T40 l0 x3_1).f0), .int .u64 ((rd_T40 l0 x3_1).f1), .int .i64 ((rd_T40 l0 x3_1).f2)]] (by rfl) rfl rfl (by (try simp only [List.map_toArray, List.map_cons, List.map_nil]); first | done | (simp only [hji27]; rfl) | rfl | (simp only [List.length_drop, List.length_take]; rfl)) ?_
              with_reducible refine (marchlandref03_before.calls ((rd_T40 l0 (ji27)).f0) ((rd_T40 l0 (ji27)).f1) ((rd_T40 l0 (ji27)).f2) ((rd_T40 l0 x3_1).f0) ((rd_T40 l0 x3_1).f1) ((rd_T40 l0 x3_1).f2) true _ A30.out).mono ?_
              rintro e w36 ⟨rfl, hb⟩
              refine ⟨_, rfl, ?_⟩
              have n0_ := Aside0.mk (blk_below (g := gb258) (o := .cells #[.int .i64 ((rd_T40 l0 x3_1).f0), .int .u64 ((rd_T40 l0 x3_1).f1), .int .i64 ((rd_T40 l0 x3_1).f2)] 40 (0, 0)) (by (with_reducible repeat (first | refine blk_drewN ?_ _ | refine blk_drew ?_ | refine blk_alloc ?_ _)); exact BK258.out) hb)
              have n1_ := Aside0.mk (below_step (by repeat (first | (with_reducible first | exact HB.out | apply below_alloc | apply pw_below_drewN | apply below_drew1 | refine below_set ?_ GE258.out) | exact HB.out)) hb)
              clear BK258
              clear HB
              have BK258 := n0_
              have HB := n1_
              clear n0_ n1_
              (try clear hb)
              (try clear hb2)
              (try clear hk)
              (try clear hi)
              refine hK.out _ _ ⟨(blk_cell BK258.out 0).trans rfl, (blk_cell BK258.out 1).trans rfl, (blk_cell BK258.out 2).trans rfl, ((HB.out.cell (World.block_lt_of_cell? w _ hw260_0)).trans hw260_0), ((HB.out.cell (World.block_lt_of_cell? w _ hw260_1)).trans hw260_1), ((HB.out.cell (World.block_lt_of_cell? w _ hw260_2)).trans hw260_2)⟩ (fun hHeld => ?_)
              clear hK K
              refine norm_ (a' := ?_) ?_ ?_
              rotate_left
              ·show Act.put _ (some 49) _ = _
               simp only [Act.put, List.setIfInBounds_toArray, List.set_cons_zero, List.set_cons_succ, i64_w, i32_w]
               rfl
              refine pv_ 35 50 (mk_ 36 2) HT_ ?_
              refine pv_ 36 51 (mk_ 37 1) HT_ ?_
              refine pv_ 37 52 (mk_ 38 0) HT_ ?_
              refine done_ (done_of HT_.out (by kernel_rfl)) ?_
              try go_wp2
              go_roundg k1
              case measure => have := HK1.out; omega
              case rel => exact ⟨(wrap64 (x3_1 + 1)), (by first | rfl | (simp; done) | (simp [*]; done)), H', ⟨by have := HK1.out; omega⟩, ⟨by repeat (first | (with_reducible first | exact HB.out | apply below_alloc | apply pw_below_drewN | apply below_drew1 | refine below_set ?_ GE258.out) | exact HB.out)⟩⟩
             ·replace c31 := Bool.eq_false_iff.mpr c31
              subst c31
              have H1 : (some false) = some r := by rw [if_neg (show ¬ (false = true) by decide)] at H; exact H
              clear H
              have H := H1
              clear H1
              obtain rfl := Option.some.inj H
              have p257 : 0 ≤ (x3_1 : Int) := of_decide_eq_true (by assumption)
              have q257 : x3_1 < (l0.length : Int) := of_decide_eq_true (by assumption)
              obtain ⟨ad257, e257, hx257_0, hx257_1, hx257_2⟩ := at_T40 HR0.out x3_1 p257 q257
              cases e257
              replace hx257_0 := (HB.out.cell (World.block_lt_of_cell? w _ hx257_0)).trans hx257_0
              replace hx257_1 := (HB.out.cell (World.block_lt_of_cell? w _ hx257_1)).trans hx257_1
              replace hx257_2 := (HB.out.cell (World.block_lt_of_cell? w _ hx257_2)).trans hx257_2
              replace p257 := eq_true p257
              replace q257 := eq_true q257
              try go_wp2_with (first | ((with_reducible refine gate_dst (N := 4) rfl ?_); refine box_event ?hg (N := 4) ?hd (cs := #[.int .i64 0, .int .u64 0, .int .i64 0]) (t := 40) ?hr ?_; (case hd => rfl); (case hg => rfl); (case hr => first | (go_simp; done) | (go_simp; rfl)); intro gb258 hg w37 hbox hb; have n1_ := Aside0.mk (hbox); have n2_ := Aside0.mk ((by rw [hg]; exact (below_size (bn HB)) : w.heap.size ≤ gb258)); have n3_ := Aside0.mk ((by rw [hg]; exact (below_size (bn HB)) : w.heap.size ≤ gb258)); replace HB := bb HB hb; have BK258 := n1_; have GW258 := n2_; have GE258 := n3_; clear n1_ n2_ n3_; clear hb hbox hg; have hcz38_0 : w37.cell? ⟨gb258, 0, none⟩ = some (.int .i64 0) := (blk_cell BK258.out 0).trans rfl; have hcz38_1 : w37.cell? ⟨gb258, 1, none⟩ = some (.int .u64 0) := (blk_cell BK258.out 1).trans rfl; have hcz38_2 : w37.cell? ⟨gb258, 2, none⟩ = some (.int .i64 0) := (blk_cell BK258.out 2).trans rfl; have hfz38_0 := blk_frozen BK258.out 0; have hfz38_1 := blk_frozen BK258.out 1; have hfz38_2 := blk_frozen BK258.out 2))
              have n0_ : Aside0 ((((w37.setCell ⟨gb258, 0, none⟩ (.int .i64 ((rd_T40 l0 x3_1).f0))).setCell ⟨gb258, 1, none⟩ (.int .u64 ((rd_T40 l0 x3_1).f1))).setCell ⟨gb258, 2, none⟩ (.int .i64 ((rd_T40 l0 x3_1).f2))).heap[gb258]? = some (.cells #[.int .i64 ((rd_T40 l0 x3_1).f0), .int .u64 ((rd_T40 l0 x3_1).f1), .int .i64 ((rd_T40 l0 x3_1).f2)] 40 (0, 0))) := ⟨by (with_reducible repeat (first | refine blk_drewN ?_ _ | refine blk_drew ?_ | refine blk_alloc ?_ _)); refine blk_put (cs := #[.int .i64 ((rd_T40 l0 x3_1).f0), .int .u64 ((rd_T40 l0 x3_1).f1), .int .i64 0]) ?_ 2 _ rfl; (with_reducible repeat (first | refine blk_drewN ?_ _ | refine blk_drew ?_ | refine blk_alloc ?_ _)); refine blk_put (cs := #[.int .i64 ((rd_T40 l0 x3_1).f0), .int .u64 0, .int .i64 0]) ?_ 1 _ rfl; (with_reducible repeat (first | refine blk_drewN ?_ _ | refine blk_drew ?_ | refine blk_alloc ?_ _)); refine blk_put (cs := #[.int .i64 0, .int .u64 0, .int .i64 0]) ?_ 0 _ rfl; (with_reducible repeat (first | refine blk_drewN ?_ _ | refine blk_drew ?_ | refine blk_alloc ?_ _)); exact BK258.out⟩
              have n1_ : Aside0 (Below w.heap.size w (((w37.setCell ⟨gb258, 0, none⟩ (.int .i64 ((rd_T40 l0 x3_1).f0))).setCell ⟨gb258, 1, none⟩ (.int .u64 ((rd_T40 l0 x3_1).f1))).setCell ⟨gb258, 2, none⟩ (.int .i64 ((rd_T40 l0 x3_1).f2)))) := ⟨by repeat (first | (with_reducible first | exact HB.out | apply below_alloc | apply pw_below_drewN | apply below_drew1 | refine below_set ?_ GE258.out) | exact HB.out)⟩
              (try clear BK258)
              (try clear HB)
              generalize (((w37.setCell ⟨gb258, 0, none⟩ (.int .i64 ((rd_T40 l0 x3_1).f0))).setCell ⟨gb258, 1, none⟩ (.int .u64 ((rd_T40 l0 x3_1).f1))).setCell ⟨gb258, 2, none⟩ (.int .i64 ((rd_T40 l0 x3_1).f2))) = w39 at n0_ n1_ ⊢
              have BK258 := n0_
              have HB := n1_
              clear n0_ n1_
              have n0_ := Aside0.mk (blk_drew BK258.out)
              have n1_ := Aside0.mk (below_drew1 HB.out)
              clear BK258
              clear HB
              have BK258 := n0_
              have HB := n1_
              clear n0_ n1_
              have p260 : 0 ≤ ((ji27) : Int) := of_decide_eq_true (by assumption)
              have q260 : (ji27) < (l0.length : Int) := of_decide_eq_true (by assumption)
              obtain ⟨ad260, e260, hx260_0, hx260_1, hx260_2⟩ := at_T40 HR0.out (ji27) p260 q260
              have hw260_2 := hx260_2
              have hw260_1 := hx260_1
              have hw260_0 := hx260_0
              obtain rfl : ad257 = ad260 := (by injection e260)
              replace hx260_0 := (HB.out.cell (World.block_lt_of_cell? w _ hx260_0)).trans hx260_0
              replace hx260_1 := (HB.out.cell (World.block_lt_of_cell? w _ hx260_1)).trans hx260_1
              replace hx260_2 := (HB.out.cell (World.block_lt_of_cell? w _ hx260_2)).trans hx260_2
              replace p260 := eq_true p260
              replace q260 := eq_true q260
              refine start_ (n := 38) (S := fun w' => w'.cell? ⟨gb258, 0, none⟩ = some (.int .i64 ((rd_T40 l0 x3_1).f0)) ∧ w'.cell? ⟨gb258, 1, none⟩ = some (.int .u64 ((rd_T40 l0 x3_1).f1)) ∧ w'.cell? ⟨gb258, 2, none⟩ = some (.int .i64 ((rd_T40 l0 x3_1).f2)) ∧ w'.cell? (ad257.add (((ji27)).toNat * 3)) = some (.int .i64 ((rd_T40 l0 (ji27)).f0)) ∧ w'.cell? ⟨(ad257.add (((ji27)).toNat * 3)).block, (ad257.add (((ji27)).toNat * 3)).off + 1, none⟩ = some (.int .u64 ((rd_T40 l0 (ji27)).f1)) ∧ w'.cell? ⟨(ad257.add (((ji27)).toNat * 3)).block, (ad257.add (((ji27)).toNat * 3)).off + 2, none⟩ = some (.int .i64 ((rd_T40 l0 (ji27)).f2))) (ds := []) (mk_ 0 38) (by kernel_rfl) rfl rfl ⟨(blk_cell BK258.out 0).trans rfl, (blk_cell BK258.out 1).trans rfl, (blk_cell BK258.out 2).trans rfl, ((HB.out.cell (World.block_lt_of_cell? w _ hw260_0)).trans hw260_0), ((HB.out.cell (World.block_lt_of_cell? w _ hw260_1)).trans hw260_1), ((HB.out.cell (World.block_lt_of_cell? w _ hw260_2)).trans hw260_2)⟩ (fun hHeld => ?_); refine with_tabW marchlandref03_Right.tab5 marchlandref03_Right.bits5 (fun HT_ HW_ => ?_)
              generalize w39.drew = w40 at BK258 HB hx260_0 hx260_1 hx260_2 hHeld ⊢
              refine pv_ 0 15 (mk_ 1 37) HT_ ?_
              refine tv_ 1 16 (mk_ 2 36) HT_ HW_ hHeld (hy := by rintro w' ⟨s0, s1, s2, s3, s4, s5⟩; go_simp; with_reducible rfl) (h := ?_)
              refine pv_ 2 17 (mk_ 3 35) HT_ ?_
              refine pv_ 3 18 (mk_ 4 34) HT_ ?_
              refine pv_ 4 19 (mk_ 5 33) HT_ ?_
              refine tv_ 5 20 (mk_ 6 32) HT_ HW_ hHeld (hy := by rintro w' ⟨s0, s1, s2, s3, s4, s5⟩; go_simp; with_reducible rfl) (h := ?_)
              refine pv_ 6 21 (mk_ 7 31) HT_ ?_
              refine pv_ 7 22 (mk_ 8 30) HT_ ?_
              refine pv_ 8 23 (mk_ 9 29) HT_ ?_
              refine pv_ 9 24 (mk_ 10 28) HT_ ?_
              refine tv_ 10 25 (mk_ 11 27) HT_ HW_ hHeld (hy := by rintro w' ⟨s0, s1, s2, s3, s4, s5⟩; go_simp; with_reducible rfl) (h := ?_)
              refine pv_ 11 26 (mk_ 12 26) HT_ ?_
              refine pv_ 12 27 (mk_ 13 25) HT_ ?_
              refine pv_ 13 28 (mk_ 14 24) HT_ ?_
              refine pv_ 14 29 (mk_ 15 23) HT_ ?_
              refine tv_ 15 30 (mk_ 16 22) HT_ HW_ hHeld (hy := by rintro w' ⟨s0, s1, s2, s3, s4, s5⟩; go_simp; with_reducible rfl) (h := ?_)
              refine pv_ 16 31 (mk_ 17 21) HT_ ?_
              refine pv_ 17 32 (mk_ 18 20) HT_ ?_
              refine pv_ 18 33 (mk_ 19 19) HT_ ?_
              refine pv_ 19 34 (mk_ 20 18) HT_ ?_
              refine tv_ 20 35 (mk_ 21 17) HT_ HW_ hHeld (hy := by rintro w' ⟨s0, s1, s2, s3, s4, s5⟩; go_simp; with_reducible rfl) (h := ?_)
              refine one_ (i := 21) (N := some 36) (mk_ 22 16) rfl rfl (one_of HT_.out (by kernel_rfl)) (by decide) (fun K hK => ?_)
              refine goes_ Try.func51 (by kernel_rfl) rfl #[.int .i64 ((rd_T40 l0 x3_1).f2)] (by rfl) rfl rfl (by (try simp only [List.map_toArray, List.map_cons, List.map_nil]); first | done | rfl | (simp only [List.length_drop, List.length_take]; rfl)) ?_
              with_reducible refine (marchlandref03_within.calls ((rd_T40 l0 x3_1).f2) true _ A24.out).mono ?_
              rintro e w' ⟨rfl, ⟨nd, rfl⟩⟩
              refine ⟨_, rfl, ?_⟩
              refine hK.out _ _ ⟨(blk_cell BK258.out 0).trans rfl, (blk_cell BK258.out 1).trans rfl, (blk_cell BK258.out 2).trans rfl, ((HB.out.cell (World.block_lt_of_cell? w _ hw260_0)).trans hw260_0), ((HB.out.cell (World.block_lt_of_cell? w _ hw260_1)).trans hw260_1), ((HB.out.cell (World.block_lt_of_cell? w _ hw260_2)).trans hw260_2)⟩ (fun hHeld => ?_)
              clear hK K
              refine norm_ (a' := ?_) ?_ ?_
              rotate_left
              ·show Act.put _ (some 36) _ = _
               simp only [Act.put, List.setIfInBounds_toArray, List.set_cons_zero, List.set_cons_succ, i64_w, i32_w]
               rfl
              refine pv_ 22 37 (mk_ 23 15) HT_ ?_
              refine pv_ 23 38 (mk_ 24 14) HT_ ?_
              refine pv_ 24 39 (mk_ 25 13) HT_ ?_
              refine pv_ 25 40 (mk_ 26 12) HT_ ?_
              refine pv_ 26 41 (mk_ 27 11) HT_ ?_
              refine pv_ 27 42 (mk_ 28 10) HT_ ?_
              refine pv_ 28 43 (mk_ 29 9) HT_ ?_
              refine pv_ 29 44 (mk_ 30 8) HT_ ?_
              refine pv_ 30 45 (mk_ 31 7) HT_ ?_
              refine pv_ 31 46 (mk_ 32 6) HT_ ?_
              refine tv_ 32 47 (mk_ 33 5) HT_ HW_ hHeld (hy := by rintro w' ⟨s0, s1, s2, s3, s4, s5⟩; go_simp; with_reducible rfl) (h := ?_)
              refine tv_ 33 48 (mk_ 34 4) HT_ HW_ hHeld (hy := by rintro w' ⟨s0, s1, s2, s3, s4, s5⟩; go_simp; with_reducible rfl) (h := ?_)
              refine one_ (i := 34) (N := some 49) (mk_ 35 3) rfl rfl (one_of HT_.out (by kernel_rfl)) (by decide) (fun K hK => ?_)
              refine goes_ Try.func54 (by kernel_rfl) rfl #[.agg #[.int .i64 ((rd_T40 l0 (ji27)).f0), .int .u64 ((rd_T40 l0 (ji27)).f1), .int .i64 ((rd_T40 l0 (ji27)).f2)], .agg #[.int .i64 ((rd_T40 l0 x3_1).f0), .int .u64 ((rd_T40 l0 x3_1).f1), .int .i64 ((rd_T40 l0 x3_1).f2)]] (by rfl) rfl rfl (by (try simp only [List.map_toArray, List.map_cons, List.map_nil]); first | done | (simp only [hji27]; rfl) | rfl | (simp only [List.length_drop, List.length_take]; rfl)) ?_
              with_reducible refine (marchlandref03_before.calls ((rd_T40 l0 (ji27)).f0) ((rd_T40 l0 (ji27)).f1) ((rd_T40 l0 (ji27)).f2) ((rd_T40 l0 x3_1).f0) ((rd_T40 l0 x3_1).f1) ((rd_T40 l0 x3_1).f2) false _ A30.out).mono ?_
              rintro e w41 ⟨rfl, hb⟩
              refine ⟨_, rfl, ?_⟩
              have n0_ := Aside0.mk (blk_below (g := gb258) (o := .cells #[.int .i64 ((rd_T40 l0 x3_1).f0), .int .u64 ((rd_T40 l0 x3_1).f1), .int .i64 ((rd_T40 l0 x3_1).f2)] 40 (0, 0)) (by (with_reducible repeat (first | refine blk_drewN ?_ _ | refine blk_drew ?_ | refine blk_alloc ?_ _)); exact BK258.out) hb)
              have n1_ := Aside0.mk (below_step (by repeat (first | (with_reducible first | exact HB.out | apply below_alloc | apply pw_below_drewN | apply below_drew1 | refine below_set ?_ GE258.out) | exact HB.out)) hb)
              clear BK258
              clear HB
              have BK258 := n0_
              have HB := n1_
              clear n0_ n1_
              (try clear hb)
              (try clear hb2)
              (try clear hk)
              (try clear hi)
              refine hK.out _ _ ⟨(blk_cell BK258.out 0).trans rfl, (blk_cell BK258.out 1).trans rfl, (blk_cell BK258.out 2).trans rfl, ((HB.out.cell (World.block_lt_of_cell? w _ hw260_0)).trans hw260_0), ((HB.out.cell (World.block_lt_of_cell? w _ hw260_1)).trans hw260_1), ((HB.out.cell (World.block_lt_of_cell? w _ hw260_2)).trans hw260_2)⟩ (fun hHeld => ?_)
              clear hK K
              refine norm_ (a' := ?_) ?_ ?_
              rotate_left
              ·show Act.put _ (some 49) _ = _
               simp only [Act.put, List.setIfInBounds_toArray, List.set_cons_zero, List.set_cons_succ, i64_w, i32_w]
               rfl
              refine pv_ 35 50 (mk_ 36 2) HT_ ?_
              refine pv_ 36 51 (mk_ 37 1) HT_ ?_
              refine pv_ 37 52 (mk_ 38 0) HT_ ?_
              refine done_ (done_of HT_.out (by kernel_rfl)) ?_
              try go_wp2
              go_ret
              exact ⟨by first | rfl | (simp [errW_none, errW_some] <;> rfl) | (simp only [← hji27]; first | rfl | (simp [errW_none, errW_some] <;> rfl)) | (simp [*, errW_none, errW_some] <;> rfl), by repeat (first | (with_reducible first | exact HB.out | apply below_alloc | apply pw_below_drewN | apply below_drew1 | refine below_set ?_ GE258.out) | exact HB.out)⟩
            ·rw [if_neg c29] at H
             exact absurd H (by simp)
           ·rw [if_neg c28] at H
            exact absurd H (by simp)
          ·rw [if_neg c26] at H
           have c26b0 : decide (0 < x3_1) = false := decide_eq_false c26
           clear c26
           have H' := Aside0.mk H
           clear H
           have p257 : 0 ≤ (x3_1 : Int) := of_decide_eq_true (by assumption)
           have q257 : x3_1 < (l0.length : Int) := of_decide_eq_true (by assumption)
           obtain ⟨ad257, e257, hx257_0, hx257_1, hx257_2⟩ := at_T40 HR0.out x3_1 p257 q257
           cases e257
           replace hx257_0 := (HB.out.cell (World.block_lt_of_cell? w _ hx257_0)).trans hx257_0
           replace hx257_1 := (HB.out.cell (World.block_lt_of_cell? w _ hx257_1)).trans hx257_1
           replace hx257_2 := (HB.out.cell (World.block_lt_of_cell? w _ hx257_2)).trans hx257_2
           replace p257 := eq_true p257
           replace q257 := eq_true q257
           try go_wp2_with (first | ((with_reducible refine gate_dst (N := 4) rfl ?_); refine box_event ?hg (N := 4) ?hd (cs := #[.int .i64 0, .int .u64 0, .int .i64 0]) (t := 40) ?hr ?_; (case hd => rfl); (case hg => rfl); (case hr => first | (go_simp; done) | (go_simp; rfl)); intro gb258 hg w42 hbox hb; have n1_ := Aside0.mk (hbox); have n2_ := Aside0.mk ((by rw [hg]; exact (below_size (bn HB)) : w.heap.size ≤ gb258)); have n3_ := Aside0.mk ((by rw [hg]; exact (below_size (bn HB)) : w.heap.size ≤ gb258)); replace HB := bb HB hb; have BK258 := n1_; have GW258 := n2_; have GE258 := n3_; clear n1_ n2_ n3_; clear hb hbox hg; have hcz43_0 : w42.cell? ⟨gb258, 0, none⟩ = some (.int .i64 0) := (blk_cell BK258.out 0).trans rfl; have hcz43_1 : w42.cell? ⟨gb258, 1, none⟩ = some (.int .u64 0) := (blk_cell BK258.out 1).trans rfl; have hcz43_2 : w42.cell? ⟨gb258, 2, none⟩ = some (.int .i64 0) := (blk_cell BK258.out 2).trans rfl; have hfz43_0 := blk_frozen BK258.out 0; have hfz43_1 := blk_frozen BK258.out 1; have hfz43_2 := blk_frozen BK258.out 2))
           have n0_ : Aside0 ((((w42.setCell ⟨gb258, 0, none⟩ (.int .i64 ((rd_T40 l0 x3_1).f0))).setCell ⟨gb258, 1, none⟩ (.int .u64 ((rd_T40 l0 x3_1).f1))).setCell ⟨gb258, 2, none⟩ (.int .i64 ((rd_T40 l0 x3_1).f2))).heap[gb258]? = some (.cells #[.int .i64 ((rd_T40 l0 x3_1).f0), .int .u64 ((rd_T40 l0 x3_1).f1), .int .i64 ((rd_T40 l0 x3_1).f2)] 40 (0, 0))) := ⟨by (with_reducible repeat (first | refine blk_drewN ?_ _ | refine blk_drew ?_ | refine blk_alloc ?_ _)); refine blk_put (cs := #[.int .i64 ((rd_T40 l0 x3_1).f0), .int .u64 ((rd_T40 l0 x3_1).f1), .int .i64 0]) ?_ 2 _ rfl; (with_reducible repeat (first | refine blk_drewN ?_ _ | refine blk_drew ?_ | refine blk_alloc ?_ _)); refine blk_put (cs := #[.int .i64 ((rd_T40 l0 x3_1).f0), .int .u64 0, .int .i64 0]) ?_ 1 _ rfl; (with_reducible repeat (first | refine blk_drewN ?_ _ | refine blk_drew ?_ | refine blk_alloc ?_ _)); refine blk_put (cs := #[.int .i64 0, .int .u64 0, .int .i64 0]) ?_ 0 _ rfl; (with_reducible repeat (first | refine blk_drewN ?_ _ | refine blk_drew ?_ | refine blk_alloc ?_ _)); exact BK258.out⟩
           have n1_ : Aside0 (Below w.heap.size w (((w42.setCell ⟨gb258, 0, none⟩ (.int .i64 ((rd_T40 l0 x3_1).f0))).setCell ⟨gb258, 1, none⟩ (.int .u64 ((rd_T40 l0 x3_1).f1))).setCell ⟨gb258, 2, none⟩ (.int .i64 ((rd_T40 l0 x3_1).f2)))) := ⟨by repeat (first | (with_reducible first | exact HB.out | apply below_alloc | apply pw_below_drewN | apply below_drew1 | refine below_set ?_ GE258.out) | exact HB.out)⟩
           (try clear BK258)
           (try clear HB)
           generalize (((w42.setCell ⟨gb258, 0, none⟩ (.int .i64 ((rd_T40 l0 x3_1).f0))).setCell ⟨gb258, 1, none⟩ (.int .u64 ((rd_T40 l0 x3_1).f1))).setCell ⟨gb258, 2, none⟩ (.int .i64 ((rd_T40 l0 x3_1).f2))) = w44 at n0_ n1_ ⊢
           have BK258 := n0_
           have HB := n1_
           clear n0_ n1_
           have n0_ := Aside0.mk (blk_drew BK258.out)
           have n1_ := Aside0.mk (below_drew1 HB.out)
           clear BK258
           clear HB
           have BK258 := n0_
           have HB := n1_
           clear n0_ n1_
           refine start_ (n := 38) (S := fun w' => w'.cell? ⟨gb258, 0, none⟩ = some (.int .i64 ((rd_T40 l0 x3_1).f0)) ∧ w'.cell? ⟨gb258, 1, none⟩ = some (.int .u64 ((rd_T40 l0 x3_1).f1)) ∧ w'.cell? ⟨gb258, 2, none⟩ = some (.int .i64 ((rd_T40 l0 x3_1).f2))) (ds := []) (mk_ 0 38) (by kernel_rfl) rfl rfl ⟨(blk_cell BK258.out 0).trans rfl, (blk_cell BK258.out 1).trans rfl, (blk_cell BK258.out 2).trans rfl⟩ (fun hHeld => ?_); refine with_tabW marchlandref03_Right.tab5 marchlandref03_Right.bits5 (fun HT_ HW_ => ?_)
           generalize w44.drew = w45 at BK258 HB hHeld ⊢
           refine pv_ 0 15 (mk_ 1 37) HT_ ?_
           refine tv_ 1 16 (mk_ 2 36) HT_ HW_ hHeld (hy := by rintro w' ⟨s0, s1, s2⟩; go_simp; with_reducible rfl) (h := ?_)
           refine pv_ 2 17 (mk_ 3 35) HT_ ?_
           refine pv_ 3 18 (mk_ 4 34) HT_ ?_
           refine pv_ 4 19 (mk_ 5 33) HT_ ?_
           refine tv_ 5 20 (mk_ 6 32) HT_ HW_ hHeld (hy := by rintro w' ⟨s0, s1, s2⟩; go_simp; with_reducible rfl) (h := ?_)
           refine pv_ 6 21 (mk_ 7 31) HT_ ?_
           refine pv_ 7 22 (mk_ 8 30) HT_ ?_
           refine pv_ 8 23 (mk_ 9 29) HT_ ?_
           refine pv_ 9 24 (mk_ 10 28) HT_ ?_
           refine tv_ 10 25 (mk_ 11 27) HT_ HW_ hHeld (hy := by rintro w' ⟨s0, s1, s2⟩; go_simp; with_reducible rfl) (h := ?_)
           refine pv_ 11 26 (mk_ 12 26) HT_ ?_
           refine pv_ 12 27 (mk_ 13 25) HT_ ?_
           refine pv_ 13 28 (mk_ 14 24) HT_ ?_
           refine pv_ 14 29 (mk_ 15 23) HT_ ?_
           refine tv_ 15 30 (mk_ 16 22) HT_ HW_ hHeld (hy := by rintro w' ⟨s0, s1, s2⟩; go_simp; with_reducible rfl) (h := ?_)
           refine pv_ 16 31 (mk_ 17 21) HT_ ?_
           refine pv_ 17 32 (mk_ 18 20) HT_ ?_
           refine pv_ 18 33 (mk_ 19 19) HT_ ?_
           refine pv_ 19 34 (mk_ 20 18) HT_ ?_
           refine tv_ 20 35 (mk_ 21 17) HT_ HW_ hHeld (hy := by rintro w' ⟨s0, s1, s2⟩; go_simp; with_reducible rfl) (h := ?_)
           refine one_ (i := 21) (N := some 36) (mk_ 22 16) rfl rfl (one_of HT_.out (by kernel_rfl)) (by decide) (fun K hK => ?_)
           refine goes_ Try.func51 (by kernel_rfl) rfl #[.int .i64 ((rd_T40 l0 x3_1).f2)] (by rfl) rfl rfl (by (try simp only [List.map_toArray, List.map_cons, List.map_nil]); first | done | rfl | (simp only [List.length_drop, List.length_take]; rfl)) ?_
           with_reducible refine (marchlandref03_within.calls ((rd_T40 l0 x3_1).f2) true _ A24.out).mono ?_
           rintro e w' ⟨rfl, ⟨nd, rfl⟩⟩
           refine ⟨_, rfl, ?_⟩
           refine hK.out _ _ ⟨(blk_cell BK258.out 0).trans rfl, (blk_cell BK258.out 1).trans rfl, (blk_cell BK258.out 2).trans rfl⟩ (fun hHeld => ?_)
           clear hK K
           refine norm_ (a' := ?_) ?_ ?_
           rotate_left
           ·show Act.put _ (some 36) _ = _
            simp only [Act.put, List.setIfInBounds_toArray, List.set_cons_zero, List.set_cons_succ, i64_w, i32_w]
            rfl
           refine pv_ 22 37 (mk_ 23 15) HT_ ?_
           refine pv_ 23 38 (mk_ 24 14) HT_ ?_
           refine pv_ 24 39 (mk_ 25 13) HT_ ?_
           refine pv_ 25 40 (mk_ 26 12) HT_ ?_
           refine pv_ 26 41 (mk_ 27 11) HT_ ?_
           refine pv_ 27 42 (mk_ 28 10) HT_ ?_
           refine pu_ 28 43 (mk_ 29 9) HT_ ?_
           refine pu_ 29 44 (mk_ 30 8) HT_ ?_
           refine pu_ 30 45 (mk_ 31 7) HT_ ?_
           refine pu_ 31 46 (mk_ 32 6) HT_ ?_
           refine pu_ 32 47 (mk_ 33 5) HT_ ?_
           refine pu_ 33 48 (mk_ 34 4) HT_ ?_
           refine pu_ 34 49 (mk_ 35 3) HT_ ?_
           refine pu_ 35 50 (mk_ 36 2) HT_ ?_
           refine pv_ 36 51 (mk_ 37 1) HT_ ?_
           refine pv_ 37 52 (mk_ 38 0) HT_ ?_
           refine done_ (done_of HT_.out (by kernel_rfl)) ?_
           try go_wp2
           go_roundg k1
           case measure => have := HK1.out; omega
           case rel => exact ⟨(wrap64 (x3_1 + 1)), (by first | rfl | (simp; done) | (simp [*]; done)), H', ⟨by have := HK1.out; omega⟩, ⟨by repeat (first | (with_reducible first | exact HB.out | apply below_alloc | apply pw_below_drewN | apply below_drew1 | refine below_set ?_ GE258.out) | exact HB.out)⟩⟩
         ·replace c25 := Bool.eq_false_iff.mpr c25
          subst c25
          have H1 : (some false) = some r := by rw [if_neg (show ¬ (false = true) by decide)] at H; exact H
          clear H
          have H := H1
          clear H1
          obtain rfl := Option.some.inj H
          have p257 : 0 ≤ (x3_1 : Int) := of_decide_eq_true (by assumption)
          have q257 : x3_1 < (l0.length : Int) := of_decide_eq_true (by assumption)
          obtain ⟨ad257, e257, hx257_0, hx257_1, hx257_2⟩ := at_T40 HR0.out x3_1 p257 q257
          cases e257
          replace hx257_0 := (HB.out.cell (World.block_lt_of_cell? w _ hx257_0)).trans hx257_0
          replace hx257_1 := (HB.out.cell (World.block_lt_of_cell? w _ hx257_1)).trans hx257_1
          replace hx257_2 := (HB.out.cell (World.block_lt_of_cell? w _ hx257_2)).trans hx257_2
          replace p257 := eq_true p257
          replace q257 := eq_true q257
          try go_wp2_with (first | ((with_reducible refine gate_dst (N := 4) rfl ?_); refine box_event ?hg (N := 4) ?hd (cs := #[.int .i64 0, .int .u64 0, .int .i64 0]) (t := 40) ?hr ?_; (case hd => rfl); (case hg => rfl); (case hr => first | (go_simp; done) | (go_simp; rfl)); intro gb258 hg w46 hbox hb; have n1_ := Aside0.mk (hbox); have n2_ := Aside0.mk ((by rw [hg]; exact (below_size (bn HB)) : w.heap.size ≤ gb258)); have n3_ := Aside0.mk ((by rw [hg]; exact (below_size (bn HB)) : w.heap.size ≤ gb258)); replace HB := bb HB hb; have BK258 := n1_; have GW258 := n2_; have GE258 := n3_; clear n1_ n2_ n3_; clear hb hbox hg; have hcz47_0 : w46.cell? ⟨gb258, 0, none⟩ = some (.int .i64 0) := (blk_cell BK258.out 0).trans rfl; have hcz47_1 : w46.cell? ⟨gb258, 1, none⟩ = some (.int .u64 0) := (blk_cell BK258.out 1).trans rfl; have hcz47_2 : w46.cell? ⟨gb258, 2, none⟩ = some (.int .i64 0) := (blk_cell BK258.out 2).trans rfl; have hfz47_0 := blk_frozen BK258.out 0; have hfz47_1 := blk_frozen BK258.out 1; have hfz47_2 := blk_frozen BK258.out 2))
          have n0_ : Aside0 ((((w46.setCell ⟨gb258, 0, none⟩ (.int .i64 ((rd_T40 l0 x3_1).f0))).setCell ⟨gb258, 1, none⟩ (.int .u64 ((rd_T40 l0 x3_1).f1))).setCell ⟨gb258, 2, none⟩ (.int .i64 ((rd_T40 l0 x3_1).f2))).heap[gb258]? = some (.cells #[.int .i64 ((rd_T40 l0 x3_1).f0), .int .u64 ((rd_T40 l0 x3_1).f1), .int .i64 ((rd_T40 l0 x3_1).f2)] 40 (0, 0))) := ⟨by (with_reducible repeat (first | refine blk_drewN ?_ _ | refine blk_drew ?_ | refine blk_alloc ?_ _)); refine blk_put (cs := #[.int .i64 ((rd_T40 l0 x3_1).f0), .int .u64 ((rd_T40 l0 x3_1).f1), .int .i64 0]) ?_ 2 _ rfl; (with_reducible repeat (first | refine blk_drewN ?_ _ | refine blk_drew ?_ | refine blk_alloc ?_ _)); refine blk_put (cs := #[.int .i64 ((rd_T40 l0 x3_1).f0), .int .u64 0, .int .i64 0]) ?_ 1 _ rfl; (with_reducible repeat (first | refine blk_drewN ?_ _ | refine blk_drew ?_ | refine blk_alloc ?_ _)); refine blk_put (cs := #[.int .i64 0, .int .u64 0, .int .i64 0]) ?_ 0 _ rfl; (with_reducible repeat (first | refine blk_drewN ?_ _ | refine blk_drew ?_ | refine blk_alloc ?_ _)); exact BK258.out⟩
          have n1_ : Aside0 (Below w.heap.size w (((w46.setCell ⟨gb258, 0, none⟩ (.int .i64 ((rd_T40 l0 x3_1).f0))).setCell ⟨gb258, 1, none⟩ (.int .u64 ((rd_T40 l0 x3_1).f1))).setCell ⟨gb258, 2, none⟩ (.int .i64 ((rd_T40 l0 x3_1).f2)))) := ⟨by repeat (first | (with_reducible first | exact HB.out | apply below_alloc | apply pw_below_drewN | apply below_drew1 | refine below_set ?_ GE258.out) | exact HB.out)⟩
          (try clear BK258)
          (try clear HB)
          generalize (((w46.setCell ⟨gb258, 0, none⟩ (.int .i64 ((rd_T40 l0 x3_1).f0))).setCell ⟨gb258, 1, none⟩ (.int .u64 ((rd_T40 l0 x3_1).f1))).setCell ⟨gb258, 2, none⟩ (.int .i64 ((rd_T40 l0 x3_1).f2))) = w48 at n0_ n1_ ⊢
          have BK258 := n0_
          have HB := n1_
          clear n0_ n1_
          have n0_ := Aside0.mk (blk_drew BK258.out)
          have n1_ := Aside0.mk (below_drew1 HB.out)
          clear BK258
          clear HB
          have BK258 := n0_
          have HB := n1_
          clear n0_ n1_
          refine start_ (n := 38) (S := fun w' => w'.cell? ⟨gb258, 0, none⟩ = some (.int .i64 ((rd_T40 l0 x3_1).f0)) ∧ w'.cell? ⟨gb258, 1, none⟩ = some (.int .u64 ((rd_T40 l0 x3_1).f1)) ∧ w'.cell? ⟨gb258, 2, none⟩ = some (.int .i64 ((rd_T40 l0 x3_1).f2))) (ds := []) (mk_ 0 38) (by kernel_rfl) rfl rfl ⟨(blk_cell BK258.out 0).trans rfl, (blk_cell BK258.out 1).trans rfl, (blk_cell BK258.out 2).trans rfl⟩ (fun hHeld => ?_); refine with_tabW marchlandref03_Right.tab5 marchlandref03_Right.bits5 (fun HT_ HW_ => ?_)
          generalize w48.drew = w49 at BK258 HB hHeld ⊢
          refine pv_ 0 15 (mk_ 1 37) HT_ ?_
          refine tv_ 1 16 (mk_ 2 36) HT_ HW_ hHeld (hy := by rintro w' ⟨s0, s1, s2⟩; go_simp; with_reducible rfl) (h := ?_)
          refine pv_ 2 17 (mk_ 3 35) HT_ ?_
          refine pv_ 3 18 (mk_ 4 34) HT_ ?_
          refine pv_ 4 19 (mk_ 5 33) HT_ ?_
          refine tv_ 5 20 (mk_ 6 32) HT_ HW_ hHeld (hy := by rintro w' ⟨s0, s1, s2⟩; go_simp; with_reducible rfl) (h := ?_)
          refine pv_ 6 21 (mk_ 7 31) HT_ ?_
          refine pv_ 7 22 (mk_ 8 30) HT_ ?_
          refine pv_ 8 23 (mk_ 9 29) HT_ ?_
          refine pv_ 9 24 (mk_ 10 28) HT_ ?_
          refine tv_ 10 25 (mk_ 11 27) HT_ HW_ hHeld (hy := by rintro w' ⟨s0, s1, s2⟩; go_simp; with_reducible rfl) (h := ?_)
          refine pv_ 11 26 (mk_ 12 26) HT_ ?_
          refine pv_ 12 27 (mk_ 13 25) HT_ ?_
          refine pv_ 13 28 (mk_ 14 24) HT_ ?_
          refine pv_ 14 29 (mk_ 15 23) HT_ ?_
          refine tv_ 15 30 (mk_ 16 22) HT_ HW_ hHeld (hy := by rintro w' ⟨s0, s1, s2⟩; go_simp; with_reducible rfl) (h := ?_)
          refine pv_ 16 31 (mk_ 17 21) HT_ ?_
          refine pv_ 17 32 (mk_ 18 20) HT_ ?_
          refine pv_ 18 33 (mk_ 19 19) HT_ ?_
          refine pv_ 19 34 (mk_ 20 18) HT_ ?_
          refine tv_ 20 35 (mk_ 21 17) HT_ HW_ hHeld (hy := by rintro w' ⟨s0, s1, s2⟩; go_simp; with_reducible rfl) (h := ?_)
          refine one_ (i := 21) (N := some 36) (mk_ 22 16) rfl rfl (one_of HT_.out (by kernel_rfl)) (by decide) (fun K hK => ?_)
          refine goes_ Try.func51 (by kernel_rfl) rfl #[.int .i64 ((rd_T40 l0 x3_1).f2)] (by rfl) rfl rfl (by (try simp only [List.map_toArray, List.map_cons, List.map_nil]); first | done | rfl | (simp only [List.length_drop, List.length_take]; rfl)) ?_
          with_reducible refine (marchlandref03_within.calls ((rd_T40 l0 x3_1).f2) false _ A24.out).mono ?_
          rintro e w' ⟨rfl, ⟨nd, rfl⟩⟩
          refine ⟨_, rfl, ?_⟩
          refine hK.out _ _ ⟨(blk_cell BK258.out 0).trans rfl, (blk_cell BK258.out 1).trans rfl, (blk_cell BK258.out 2).trans rfl⟩ (fun hHeld => ?_)
          clear hK K
          refine norm_ (a' := ?_) ?_ ?_
          rotate_left
          ·show Act.put _ (some 36) _ = _
           simp only [Act.put, List.setIfInBounds_toArray, List.set_cons_zero, List.set_cons_succ, i64_w, i32_w]
           rfl
          refine pv_ 22 37 (mk_ 23 15) HT_ ?_
          refine pv_ 23 38 (mk_ 24 14) HT_ ?_
          refine pv_ 24 39 (mk_ 25 13) HT_ ?_
          refine pu_ 25 40 (mk_ 26 12) HT_ ?_
          refine pu_ 26 41 (mk_ 27 11) HT_ ?_
          refine pu_ 27 42 (mk_ 28 10) HT_ ?_
          refine pu_ 28 43 (mk_ 29 9) HT_ ?_
          refine pu_ 29 44 (mk_ 30 8) HT_ ?_
          refine pu_ 30 45 (mk_ 31 7) HT_ ?_
          refine pu_ 31 46 (mk_ 32 6) HT_ ?_
          refine pu_ 32 47 (mk_ 33 5) HT_ ?_
          refine pu_ 33 48 (mk_ 34 4) HT_ ?_
          refine pu_ 34 49 (mk_ 35 3) HT_ ?_
          refine pu_ 35 50 (mk_ 36 2) HT_ ?_
          refine pu_ 36 51 (mk_ 37 1) HT_ ?_
          refine pv_ 37 52 (mk_ 38 0) HT_ ?_
          refine done_ (done_of HT_.out (by kernel_rfl)) ?_
          try go_wp2
          go_ret
          exact ⟨by first | rfl | (simp [errW_none, errW_some] <;> rfl) | (simp [*, errW_none, errW_some] <;> rfl), by repeat (first | (with_reducible first | exact HB.out | apply below_alloc | apply pw_below_drewN | apply below_drew1 | refine below_set ?_ GE258.out) | exact HB.out)⟩
    ·rw [if_neg c3] at H
     exact absurd H (by simp)
   ·rw [if_neg c2] at H
    have c2b0 : decide (x3_1 < (l0.length : Int)) = false := decide_eq_false c2
    clear c2
    obtain rfl := Option.some.inj H
    go_wp2
    go_ret
    exact ⟨by first | rfl | (simp [errW_none, errW_some] <;> rfl) | (simp [*, errW_none, errW_some] <;> rfl), by repeat (first | (with_reducible first | exact HB.out | apply below_alloc | apply pw_below_drewN | apply below_drew1) | exact HB.out)⟩
end Go.Proofs.Ytgeldmhgbnamcaa.P
end
section
/- Plain laws of batches, fourth part: the reference's sums, Pack, Right, Same; To and From. Lists of the law are written as 'X.map v'. -/
namespace Go.Proofs.Ytgeldmhgbnamcaa.Pure
open Go.RowKit Go.Proofs.Ytgeldmhgbnamcaa.P Go.Proofs.YtgeldmhgbnamcaaW.PrintWords Go.Proofs.YtgeldmhgbnamcaaW.PrintLast
set_option linter.unusedVariables false
set_option linter.unusedSimpArgs false
/-! ### the reference's sums -/
/-! ### the reference's Pack and Right -/
theorem wrongv_val (x : S50) : wrongv x = if x.f0 < 0 ∨ x.f0 ≥ 64 then 2 else if x.f1 = 18446744073709551615 then 1 else if wi x.f2 then 0 else 10 := rfl
theorem rright_l0 (X : List S50) (hl : X.length ≤ 8000000000000000000) : ∀ (r pre : List S50), X = pre ++ r →
  Ev (fun k => marchlandref03_Right.l0 k (X.map v) (pre.length : Int)) (rightL pre.getLast? r) := by
 intro r
 induction r with
 | nil =>
  intro pre e
  refine ⟨1, fun k hk => ?_⟩
  obtain ⟨k, rfl⟩ : ∃ m, k = m + 1 := ⟨k - 1, by omega⟩
  show marchlandref03_Right.l0 (k + 1) _ _ = _
  rw [marchlandref03_Right.l0, if_neg (by subst e; simp)]
  rfl
 | cons x r ih =>
  intro pre e
  obtain ⟨K1, h1⟩ := ih (pre ++ [x]) (by simp [e])
  have e1 : rd_T40 (X.map v) (pre.length : Int) = v x := by rw [e]; exact rd4m _ _ _ rfl
  have ll : X.length = pre.length + (r.length + 1) := by rw [e]; simp
  have lm : (X.map v).length = X.length := by simp
  have ew : wrap64 ((pre.length : Int) + 1) = ((pre ++ [x]).length : Int) := by rw [w64s (by omega)]; simp
  refine ⟨K1 + 1, fun k hk => ?_⟩
  obtain ⟨k, rfl⟩ : ∃ m, k = m + 1 := ⟨k - 1, by omega⟩
  have h1 := h1 k (by omega); dsimp only at h1
  show marchlandref03_Right.l0 (k + 1) _ _ = _
  rw [marchlandref03_Right.l0, if_pos (by omega), if_pos (by omega), e1, show marchlandref03_within.f (v x).f2 = some (decide (wi x.f2)) from within3_eq _, Option.bind_some, ew, h1]
  simp only [show (v x).f0 = x.f0 from rfl, show (v x).f1 = x.f1 from rfl, show (v x).f2 = x.f2 from rfl]
  simp only [rightL, wrongv_val]
  by_cases p0 : x.f0 < 0
  ·rw [if_pos p0]; simp [p0]
  rw [if_neg p0]
  by_cases p1 : x.f0 > 63
  ·have : x.f0 < 0 ∨ x.f0 ≥ 64 := by omega
   rw [if_pos p1]; simp [this]
  rw [if_neg p1]
  have p2 : ¬ (x.f0 < 0 ∨ x.f0 ≥ 64) := by omega
  simp only [if_neg p2]
  by_cases p3 : x.f1 = 18446744073709551615
  ·rw [if_pos p3]; simp [p3]
  rw [if_neg p3]
  simp only [if_neg p3]
  by_cases p4 : x.f2 = 0
  ·rw [if_pos p4]; simp [p4]
  rw [if_neg p4]
  by_cases p5 : wi x.f2
  ·rw [if_pos (decide_eq_true p5)]
   simp only [if_pos p5, decide_true, Bool.true_and, p4, not_false_eq_true, ne_eq]
   rcases List.eq_nil_or_concat pre with rfl | ⟨pre', y, rfl⟩
   ·rw [if_neg (by simp)]; simp
   ·simp only [List.concat_eq_append] at *
    have lp : (pre' ++ [y]).length = pre'.length + 1 := by simp
    have ep : wrap64 (((pre' ++ [y]).length : Int) - 1) = (pre'.length : Int) := by rw [lp]; exact w64p (by omega)
    have e2 : rd_T40 (X.map v) (pre'.length : Int) = v y := by rw [e, List.append_assoc]; exact rd4m _ _ _ rfl
    rw [if_pos (by omega), ep, if_pos (by omega), if_pos (by omega), e2, show marchlandref03_before.f (v y).f0 (v y).f1 (v y).f2 x.f0 x.f1 x.f2 = some (decide (kl y x)) from before_eq y x, Option.bind_some]
    simp only [List.getLast?_append, List.getLast?_singleton, Option.some_or]
    by_cases hk : kl y x
    ·rw [if_pos (decide_eq_true hk)]; simp [hk]
    ·rw [if_neg (fun h => hk (of_decide_eq_true h))]; simp [hk]
  ·rw [if_neg (fun h => p5 (of_decide_eq_true h))]; simp [p5]
theorem rright_ev (X : List S50) (hl : X.length ≤ 8000000000000000000) : Ev (fun k => marchlandref03_Right.f k (X.map v)) (rightv X) := rright_l0 X hl X [] rfl
end Go.Proofs.Ytgeldmhgbnamcaa.Pure
end
section
/- Plain laws of bags, first part: Concat, Merge, Apply, Least, Right; the reference's Fix of bags. -/
namespace Go.Proofs.Ytgeldmhgbnamcaa.Pure
open Go.RowKit Go.Proofs.Ytgeldmhgbnamcaa.P Go.Proofs.YtgeldmhgbnamcaaW.PrintWords Go.Proofs.YtgeldmhgbnamcaaW.PrintLast
set_option linter.unusedVariables false
set_option linter.unusedSimpArgs false
/-! ### Least -/
def leastv (p : Int) : List S50 → Int
 | [] => 18446744073709551615
 | x :: r => if x.f0 = p then x.f1 else leastv p r
theorem least_l0 (p : Int) (X : List S50) (hl : X.length ≤ 8000000000000000000) : ∀ (r pre : List S50), X = pre ++ r → Ev (fun k => bag_Least.l0 k p X (X.length : Int) (pre.length : Int)) (leastv p r) := by
 intro r
 induction r with
 | nil =>
  intro pre e
  refine ⟨1, fun k hk => ?_⟩
  obtain ⟨k, rfl⟩ : ∃ m, k = m + 1 := ⟨k - 1, by omega⟩
  show bag_Least.l0 (k + 1) _ _ _ _ = _
  rw [bag_Least.l0, if_neg (by subst e; simp)]
  rfl
 | cons x r ih =>
  intro pre e
  obtain ⟨K, h⟩ := ih (pre ++ [x]) (by simp [e])
  have ll : X.length = pre.length + (r.length + 1) := by rw [e]; simp
  have e1 : rd_T50 X (pre.length : Int) = x := by rw [e]; exact rd5 _ _ _ rfl
  have ew : wrap64 ((pre.length : Int) + 1) = ((pre ++ [x]).length : Int) := by rw [w64s (by omega)]; simp
  refine ⟨K + 1, fun k hk => ?_⟩
  obtain ⟨k, rfl⟩ : ∃ m, k = m + 1 := ⟨k - 1, by omega⟩
  have h := h k (by omega); dsimp only at h
  show bag_Least.l0 (k + 1) _ _ _ _ = _
  rw [bag_Least.l0, if_pos (by omega), if_pos (by omega), if_pos (by omega), e1, ew, h]
  simp only [leastv]
  split <;> rfl
theorem least_ev (X : List S50) (hl : X.length ≤ 8000000000000000000) (p : Int) : Ev (fun k => bag_Least.f k X p) (leastv p X) := least_l0 p X hl X [] rfl
/-! ### the reference's Fix of bags -/
end Go.Proofs.Ytgeldmhgbnamcaa.Pure
end
section
-- Printed by the session's own turn of the print (wip/tools/print2.sh): some callees are proved by hand.
namespace Go.Proofs.Ytgeldmhgbnamcaa.P
open Go.RowKit Go.Proofs.YtgeldmhgbnamcaaW.PrintWords Go.Proofs.YtgeldmhgbnamcaaW.PrintLast Go.Proofs.YtgeldmhgbnamcaaW.PrintMore
attribute [local go_sem] max2_int min2_int max_two min_two max_three min_three max_four min_four   -- for this text's walks alone
set_option linter.unusedVariables false
set_option linter.unusedSimpArgs false
/-! ### marchlandref03_Of: function 60 -/
def marchlandref03_Of.l0 : Nat → List (S40) → Int → Int → Int → Option (Int)
 | 0, _, _, _, _ => none
 | k + 1, x0, x1, x2, x7 => if x7 < (x0.length : Int) then (if 0 ≤ x7 then (if ((rd_T40 x0 x7).f0) = x1 then (if ((rd_T40 x0 x7).f1) = x2 then (some ((rd_T40 x0 x7).f2)) else (marchlandref03_Of.l0 k x0 x1 x2 (wrap64 (x7 + 1)))) else (marchlandref03_Of.l0 k x0 x1 x2 (wrap64 (x7 + 1)))) else (none)) else (some 0)
def marchlandref03_Of.f (k : Nat) (l0 : List (S40)) (a1 : Int) (a2 : Int) : Option (Int) := marchlandref03_Of.l0 k l0 a1 a2 0
set_option maxHeartbeats 8000000 in
set_option maxRecDepth 100000 in
theorem marchlandref03_Of.calls (k : Nat) (A0 : Option Addr) (c0 : Nat) (l0 : List (S40)) (a1 : Int) (a2 : Int) (r : Int) (w : World) (hr0 : Kd.C k40 w A0 l0.length l0) (hc0 : l0.length ≤ c0) (h : marchlandref03_Of.f k l0 a1 a2 = some r) :
  Calls Try.prog 60 #[.slice A0 l0.length c0, .int .i64 a1, .int .u64 a2] w fun e w' => e = .returned (.int .i64 r) ∧ Drawn0 w w' := by
 have HR0 := Aside0.mk hr0
 have HC0 := Aside0.mk hc0
 clear hr0 hc0
 have H : (marchlandref03_Of.l0 k l0 a1 a2 0) = some r := h
 clear h
 have H' := Aside0.mk H
 clear H
 go_enter Try.func60, Try.ntmps60
 go_wp2
 go_loopg [7] k (fun kq v7 w' => ∃ (x7_1 : Int), v7 = .int .i64 x7_1 ∧ Aside0 (marchlandref03_Of.l0 kq l0 a1 a2 x7_1 = some r) ∧ Aside0 (kq ≤ k) ∧ Drawn0 w w')
 case atStart => exact ⟨(0), (by first | rfl | (simp; done) | (simp [*]; done)), H', ⟨Nat.le_refl _⟩, by repeat (first | exact Drawn0.refl _ | apply Drawn0.step)⟩
 case round =>
  clear H'
  (try clear p2)
  obtain ⟨x7_1, rfl, HA, HK1, ⟨m1, rfl⟩⟩ := hrel
  cases gk with
  | zero => exact absurd HA.out (by simp [marchlandref03_Of.l0])
  | succ k1 =>
   have H := HA.out
   clear HA
   simp only [marchlandref03_Of.l0] at H
   by_cases c4 : x7_1 < (l0.length : Int)
   ·rw [if_pos c4] at H
    have c4b0 : decide (x7_1 < (l0.length : Int)) = true := decide_eq_true c4
    clear c4
    by_cases c5 : 0 ≤ x7_1
    ·rw [if_pos c5] at H
     have c5b0 : decide (0 ≤ x7_1) = true := decide_eq_true c5
     clear c5
     by_cases c6 : ((rd_T40 l0 x7_1).f0) = a1
     ·rw [if_pos c6] at H
      have c6b0 : (((rd_T40 l0 x7_1).f0) == a1) = true := beq_iff_eq.mpr c6
      have c6b1 : (((rd_T40 l0 x7_1).f0) != a1) = false := bne_eq_false_iff_eq.mpr c6
      clear c6
      by_cases c7 : ((rd_T40 l0 x7_1).f1) = a2
      ·rw [if_pos c7] at H
       have c7b0 : (((rd_T40 l0 x7_1).f1) == a2) = true := beq_iff_eq.mpr c7
       have c7b1 : (((rd_T40 l0 x7_1).f1) != a2) = false := bne_eq_false_iff_eq.mpr c7
       clear c7
       obtain rfl := Option.some.inj H
       have p381 : 0 ≤ (x7_1 : Int) := of_decide_eq_true (by assumption)
       have q381 : x7_1 < (l0.length : Int) := of_decide_eq_true (by assumption)
       obtain ⟨ad381, e381, hx381_0, hx381_1, hx381_2⟩ := at_T40 HR0.out x7_1 p381 q381
       cases e381
       replace p381 := eq_true p381
       replace q381 := eq_true q381
       have p382 : 0 ≤ (x7_1 : Int) := of_decide_eq_true (by assumption)
       have q382 : x7_1 < (l0.length : Int) := of_decide_eq_true (by assumption)
       obtain ⟨ad382, e382, hx382_0, hx382_1, hx382_2⟩ := at_T40 HR0.out x7_1 p382 q382
       obtain rfl : ad381 = ad382 := (by injection e382)
       replace p382 := eq_true p382
       replace q382 := eq_true q382
       have p383 : 0 ≤ (x7_1 : Int) := of_decide_eq_true (by assumption)
       have q383 : x7_1 < (l0.length : Int) := of_decide_eq_true (by assumption)
       obtain ⟨ad383, e383, hx383_0, hx383_1, hx383_2⟩ := at_T40 HR0.out x7_1 p383 q383
       obtain rfl : ad381 = ad383 := (by injection e383)
       replace p383 := eq_true p383
       replace q383 := eq_true q383
       go_wp2
       go_ret
       exact ⟨by first | rfl | (simp; done) | (simp [*]; done), by repeat (first | exact Drawn0.refl _ | apply Drawn0.step)⟩
      ·rw [if_neg c7] at H
       have c7b0 : (((rd_T40 l0 x7_1).f1) == a2) = false := beq_eq_false_iff_ne.mpr c7
       have c7b1 : (((rd_T40 l0 x7_1).f1) != a2) = true := bne_iff_ne.mpr c7
       have H' := Aside0.mk H
       clear H
       have p381 : 0 ≤ (x7_1 : Int) := of_decide_eq_true (by assumption)
       have q381 : x7_1 < (l0.length : Int) := of_decide_eq_true (by assumption)
       obtain ⟨ad381, e381, hx381_0, hx381_1, hx381_2⟩ := at_T40 HR0.out x7_1 p381 q381
       cases e381
       replace p381 := eq_true p381
       replace q381 := eq_true q381
       have p382 : 0 ≤ (x7_1 : Int) := of_decide_eq_true (by assumption)
       have q382 : x7_1 < (l0.length : Int) := of_decide_eq_true (by assumption)
       obtain ⟨ad382, e382, hx382_0, hx382_1, hx382_2⟩ := at_T40 HR0.out x7_1 p382 q382
       obtain rfl : ad381 = ad382 := (by injection e382)
       replace p382 := eq_true p382
       replace q382 := eq_true q382
       go_wp2
       go_roundg k1
       case measure => have := HK1.out; omega
       case rel => exact ⟨(wrap64 (x7_1 + 1)), (by first | rfl | (simp; done) | (simp [*]; done)), H', ⟨by have := HK1.out; omega⟩, by repeat (first | exact Drawn0.refl _ | apply Drawn0.step)⟩
     ·rw [if_neg c6] at H
      have c6b0 : (((rd_T40 l0 x7_1).f0) == a1) = false := beq_eq_false_iff_ne.mpr c6
      have c6b1 : (((rd_T40 l0 x7_1).f0) != a1) = true := bne_iff_ne.mpr c6
      have H' := Aside0.mk H
      clear H
      have p381 : 0 ≤ (x7_1 : Int) := of_decide_eq_true (by assumption)
      have q381 : x7_1 < (l0.length : Int) := of_decide_eq_true (by assumption)
      obtain ⟨ad381, e381, hx381_0, hx381_1, hx381_2⟩ := at_T40 HR0.out x7_1 p381 q381
      cases e381
      replace p381 := eq_true p381
      replace q381 := eq_true q381
      go_wp2
      go_roundg k1
      case measure => have := HK1.out; omega
      case rel => exact ⟨(wrap64 (x7_1 + 1)), (by first | rfl | (simp; done) | (simp [*]; done)), H', ⟨by have := HK1.out; omega⟩, by repeat (first | exact Drawn0.refl _ | apply Drawn0.step)⟩
    ·rw [if_neg c5] at H
     exact absurd H (by simp)
   ·rw [if_neg c4] at H
    have c4b0 : decide (x7_1 < (l0.length : Int)) = false := decide_eq_false c4
    clear c4
    obtain rfl := Option.some.inj H
    go_wp2
    go_ret
    exact ⟨by first | rfl | (simp; done) | (simp [*]; done), by repeat (first | exact Drawn0.refl _ | apply Drawn0.step)⟩
end Go.Proofs.Ytgeldmhgbnamcaa.P
end
section
-- Printed by the session's own turn of the print (wip/tools/print2.sh): some callees are proved by hand.
namespace Go.Proofs.Ytgeldmhgbnamcaa.P
open Go.RowKit Go.Proofs.YtgeldmhgbnamcaaW.PrintWords Go.Proofs.YtgeldmhgbnamcaaW.PrintLast Go.Proofs.YtgeldmhgbnamcaaW.PrintMore
attribute [local go_sem] max2_int min2_int max_two min_two max_three min_three max_four min_four   -- for this text's walks alone
set_option linter.unusedVariables false
set_option linter.unusedSimpArgs false
/-! ### marchlandref04_Apply: function 28 -/
def marchlandref04_Apply.l0 : Nat → List (S40) → List (S40) → Bool → Int → Option ((List (S40)) × Int)
 | 0, _, _, _, _ => none
 | k + 1, x0, x1, x6, x7 => if x7 < (x1.length : Int) then (if 0 ≤ x7 then ((marchlandref03_Of.f k x0 ((rd_T40 x1 x7).f0) ((rd_T40 x1 x7).f1)).bind fun t386 => (if (wrap64 (t386 + ((rd_T40 x1 x7).f2))) < 0 then (some (([] : List (S40)), 11)) else (if x6 = true then (marchlandref04_Apply.l0 k x0 x1 true (wrap64 (x7 + 1))) else (marchlandref04_Apply.l0 k x0 x1 (decide ((wrap64 (t386 + ((rd_T40 x1 x7).f2))) > 576460752303423488)) (wrap64 (x7 + 1)))))) else (none)) else (if x6 = true then (some (([] : List (S40)), 10)) else ((marchlandref03_Merge.f k x0 x1).bind fun bt388 => (some (bt388.1, 0))))
def marchlandref04_Apply.f (k : Nat) (l0 : List (S40)) (l1 : List (S40)) : Option ((List (S40)) × Int) := marchlandref04_Apply.l0 k l0 l1 false 0
set_option maxHeartbeats 8000000 in
set_option maxRecDepth 100000 in
theorem marchlandref04_Apply.calls (k : Nat) (A0 : Option Addr) (c0 : Nat) (l0 : List (S40)) (A1 : Option Addr) (c1 : Nat) (l1 : List (S40)) (r1 : List (S40)) (r2 : Int) (w : World) (hr0 : Kd.C k40 w A0 l0.length l0) (hc0 : l0.length ≤ c0) (hr1 : Kd.C k40 w A1 l1.length l1) (hc1 : l1.length ≤ c1) (h : marchlandref04_Apply.f k l0 l1 = some (r1, r2)) :
  Calls Try.prog 28 #[.slice A0 l0.length c0, .slice A1 l1.length c1] w fun e w' => ∃ v0_ : Value, e = .returned (.tuple #[v0_, .int .i64 r2]) ∧ Kd.R k40 40 w' w.heap.size (fun _ => True) v0_ r1 ∧ Below w.heap.size w w' := by
 have HR0 := Aside0.mk hr0
 have HC0 := Aside0.mk hc0
 clear hr0 hc0
 have HR1 := Aside0.mk hr1
 have HC1 := Aside0.mk hc1
 clear hr1 hc1
 have HB := Aside0.mk (Below.refl w.heap.size w)
 have H : (marchlandref04_Apply.l0 k l0 l1 false 0) = some (r1, r2) := h
 clear h
 have H' := Aside0.mk H
 clear H
 go_enter Try.func28, Try.ntmps28
 go_wp2
 repeat (go_quiet (fail); try go_wp2)
 go_loopg [6, 7] k (fun kq v6 v7 w' => ∃ (x6_1 : Bool) (x7_1 : Int), v6 = .bool x6_1 ∧ v7 = .int .i64 x7_1 ∧ Aside0 (marchlandref04_Apply.l0 kq l0 l1 x6_1 x7_1 = some (r1, r2)) ∧ Aside0 (kq ≤ k) ∧ Aside0 (Below w.heap.size w w'))
 case atStart => exact ⟨(false), (0), (by first | rfl | (simp; done) | (simp [*]; done)), (by first | rfl | (simp; done) | (simp [*]; done)), H', ⟨Nat.le_refl _⟩, ⟨by repeat (first | (with_reducible first | exact HB.out | apply below_alloc | apply pw_below_drewN | apply below_drew1) | exact HB.out)⟩⟩
 case round =>
  clear H'
  (try clear c1); (try clear c2); (try clear p2)
  obtain ⟨x6_1, x7_1, rfl, rfl, HA, HK1, HB⟩ := hrel
  cases gk with
  | zero => exact absurd HA.out (by simp [marchlandref04_Apply.l0])
  | succ k1 =>
   have H := HA.out
   clear HA
   simp only [marchlandref04_Apply.l0] at H
   by_cases c3 : x7_1 < (l1.length : Int)
   ·rw [if_pos c3] at H
    have c3b0 : decide (x7_1 < (l1.length : Int)) = true := decide_eq_true c3
    clear c3
    by_cases c4 : 0 ≤ x7_1
    ·rw [if_pos c4] at H
     have c4b0 : decide (0 ≤ x7_1) = true := decide_eq_true c4
     clear c4
     replace H := Option.bind_eq_some_iff.mp H
     obtain ⟨t386, A50, H⟩ := H
     replace H : (if (wrap64 (t386 + ((rd_T40 l1 x7_1).f2))) < 0 then (some (([] : List (S40)), 11)) else (if x6_1 = true then (marchlandref04_Apply.l0 k1 l0 l1 true (wrap64 (x7_1 + 1))) else (marchlandref04_Apply.l0 k1 l0 l1 (decide ((wrap64 (t386 + ((rd_T40 l1 x7_1).f2))) > 576460752303423488)) (wrap64 (x7_1 + 1))))) = some (r1, r2) := H
     have A5 := Aside0.mk A50
     clear A50
     have hiw_ := i64_w (t386 + ((rd_T40 l1 x7_1).f2))
     by_cases c6 : (wrap64 (t386 + ((rd_T40 l1 x7_1).f2))) < 0
     ·rw [if_pos c6] at H
      have c6b0 : decide ((wrap64 (t386 + ((rd_T40 l1 x7_1).f2))) < 0) = true := decide_eq_true c6
      clear c6
      simp only [Option.some.injEq, Prod.mk.injEq] at H
      obtain ⟨rfl, rfl⟩ := H
      have p384 : 0 ≤ (x7_1 : Int) := of_decide_eq_true (by assumption)
      have q384 : x7_1 < (l1.length : Int) := of_decide_eq_true (by assumption)
      obtain ⟨ad384, e384, hx384_0, hx384_1, hx384_2⟩ := at_T40 HR1.out x7_1 p384 q384
      cases e384
      replace hx384_0 := (HB.out.cell (World.block_lt_of_cell? w _ hx384_0)).trans hx384_0
      replace hx384_1 := (HB.out.cell (World.block_lt_of_cell? w _ hx384_1)).trans hx384_1
      replace hx384_2 := (HB.out.cell (World.block_lt_of_cell? w _ hx384_2)).trans hx384_2
      replace p384 := eq_true p384
      replace q384 := eq_true q384
      have p385 : 0 ≤ (x7_1 : Int) := of_decide_eq_true (by assumption)
      have q385 : x7_1 < (l1.length : Int) := of_decide_eq_true (by assumption)
      obtain ⟨ad385, e385, hx385_0, hx385_1, hx385_2⟩ := at_T40 HR1.out x7_1 p385 q385
      obtain rfl : ad384 = ad385 := (by injection e385)
      replace hx385_0 := (HB.out.cell (World.block_lt_of_cell? w _ hx385_0)).trans hx385_0
      replace hx385_1 := (HB.out.cell (World.block_lt_of_cell? w _ hx385_1)).trans hx385_1
      replace hx385_2 := (HB.out.cell (World.block_lt_of_cell? w _ hx385_2)).trans hx385_2
      replace p385 := eq_true p385
      replace q385 := eq_true q385
      go_wp2_with (first | (go_at_call 60; (with_reducible refine (marchlandref03_Of.calls k1 _ _ l0 ((rd_T40 l1 x7_1).f0) ((rd_T40 l1 x7_1).f1) t386 _ ?side1 ?side2 A5.out).mono ?_); (case side1 => repeat (first | exact (Kd.C_below HR0.out HB.out) | (with_reducible refine Kd.C_alloc ?_ _) | (with_reducible refine Kd.C_drewN ?_ _) | (with_reducible refine Kd.C_drew ?_))); (case side2 => exact HC0.out); rintro e w' ⟨rfl, ⟨nd, rfl⟩⟩; (try first | exact ⟨rfl, _, World.drewN_drewN _ _ _⟩ | exact ⟨rfl, _, Eq.trans (World.drewN_drewN _ _ _) (congrArg (World.drewN _) (Nat.add_assoc _ _ _))⟩); have p387 : 0 ≤ (x7_1 : Int) := of_decide_eq_true (by assumption); have q387 : x7_1 < (l1.length : Int) := of_decide_eq_true (by assumption); obtain ⟨ad387, e387, hx387_0, hx387_1, hx387_2⟩ := at_T40 HR1.out x7_1 p387 q387; obtain rfl : ad384 = ad387 := (by injection e387); replace hx387_0 := (HB.out.cell (World.block_lt_of_cell? w _ hx387_0)).trans hx387_0; replace hx387_1 := (HB.out.cell (World.block_lt_of_cell? w _ hx387_1)).trans hx387_1; replace hx387_2 := (HB.out.cell (World.block_lt_of_cell? w _ hx387_2)).trans hx387_2; replace p387 := eq_true p387; replace q387 := eq_true q387))
      repeat (go_quiet (first | (go_at_call 60; (with_reducible refine (marchlandref03_Of.calls k1 _ _ l0 ((rd_T40 l1 x7_1).f0) ((rd_T40 l1 x7_1).f1) t386 _ ?side1 ?side2 A5.out).mono ?_); (case side1 => repeat (first | exact (Kd.C_below HR0.out HB.out) | (with_reducible refine Kd.C_alloc ?_ _) | (with_reducible refine Kd.C_drewN ?_ _) | (with_reducible refine Kd.C_drew ?_))); (case side2 => exact HC0.out); rintro e w' ⟨rfl, ⟨nd, rfl⟩⟩; (try first | exact ⟨rfl, _, World.drewN_drewN _ _ _⟩ | exact ⟨rfl, _, Eq.trans (World.drewN_drewN _ _ _) (congrArg (World.drewN _) (Nat.add_assoc _ _ _))⟩); have p387 : 0 ≤ (x7_1 : Int) := of_decide_eq_true (by assumption); have q387 : x7_1 < (l1.length : Int) := of_decide_eq_true (by assumption); obtain ⟨ad387, e387, hx387_0, hx387_1, hx387_2⟩ := at_T40 HR1.out x7_1 p387 q387; obtain rfl : ad384 = ad387 := (by injection e387); replace hx387_0 := (HB.out.cell (World.block_lt_of_cell? w _ hx387_0)).trans hx387_0; replace hx387_1 := (HB.out.cell (World.block_lt_of_cell? w _ hx387_1)).trans hx387_1; replace hx387_2 := (HB.out.cell (World.block_lt_of_cell? w _ hx387_2)).trans hx387_2; replace p387 := eq_true p387; replace q387 := eq_true q387)); try go_wp2_with (first | (go_at_call 60; (with_reducible refine (marchlandref03_Of.calls k1 _ _ l0 ((rd_T40 l1 x7_1).f0) ((rd_T40 l1 x7_1).f1) t386 _ ?side1 ?side2 A5.out).mono ?_); (case side1 => repeat (first | exact (Kd.C_below HR0.out HB.out) | (with_reducible refine Kd.C_alloc ?_ _) | (with_reducible refine Kd.C_drewN ?_ _) | (with_reducible refine Kd.C_drew ?_))); (case side2 => exact HC0.out); rintro e w' ⟨rfl, ⟨nd, rfl⟩⟩; (try first | exact ⟨rfl, _, World.drewN_drewN _ _ _⟩ | exact ⟨rfl, _, Eq.trans (World.drewN_drewN _ _ _) (congrArg (World.drewN _) (Nat.add_assoc _ _ _))⟩); have p387 : 0 ≤ (x7_1 : Int) := of_decide_eq_true (by assumption); have q387 : x7_1 < (l1.length : Int) := of_decide_eq_true (by assumption); obtain ⟨ad387, e387, hx387_0, hx387_1, hx387_2⟩ := at_T40 HR1.out x7_1 p387 q387; obtain rfl : ad384 = ad387 := (by injection e387); replace hx387_0 := (HB.out.cell (World.block_lt_of_cell? w _ hx387_0)).trans hx387_0; replace hx387_1 := (HB.out.cell (World.block_lt_of_cell? w _ hx387_1)).trans hx387_1; replace hx387_2 := (HB.out.cell (World.block_lt_of_cell? w _ hx387_2)).trans hx387_2; replace p387 := eq_true p387; replace q387 := eq_true q387)))
      go_ret2
      exact ⟨_, by first | rfl | (simp [errW_none, errW_some] <;> rfl) | (simp [*, errW_none, errW_some] <;> rfl), by first | exact Kd.R_nil _ _ _ _ _ | exact Kd.N_nil _ _ _ _ _ | exact Kd.V_nil _ _ _ _ _ | exact Kd.Q_nil _ _ _ _ _ | exact Kd.S_nil _ _ _ _ _, by repeat (first | (with_reducible first | exact HB.out | apply below_alloc | apply pw_below_drewN | apply below_drew1) | exact HB.out)⟩
     ·rw [if_neg c6] at H
      have c6b0 : decide ((wrap64 (t386 + ((rd_T40 l1 x7_1).f2))) < 0) = false := decide_eq_false c6
      clear c6
      by_cases c7 : x6_1 = true
      ·subst c7
       have H1 : (marchlandref04_Apply.l0 k1 l0 l1 true (wrap64 (x7_1 + 1))) = some (r1, r2) := by rw [if_pos rfl] at H; exact H
       clear H
       have H := H1
       clear H1
       have H' := Aside0.mk H
       clear H
       have p384 : 0 ≤ (x7_1 : Int) := of_decide_eq_true (by assumption)
       have q384 : x7_1 < (l1.length : Int) := of_decide_eq_true (by assumption)
       obtain ⟨ad384, e384, hx384_0, hx384_1, hx384_2⟩ := at_T40 HR1.out x7_1 p384 q384
       cases e384
       replace hx384_0 := (HB.out.cell (World.block_lt_of_cell? w _ hx384_0)).trans hx384_0
       replace hx384_1 := (HB.out.cell (World.block_lt_of_cell? w _ hx384_1)).trans hx384_1
       replace hx384_2 := (HB.out.cell (World.block_lt_of_cell? w _ hx384_2)).trans hx384_2
       replace p384 := eq_true p384
       replace q384 := eq_true q384
       have p385 : 0 ≤ (x7_1 : Int) := of_decide_eq_true (by assumption)
       have q385 : x7_1 < (l1.length : Int) := of_decide_eq_true (by assumption)
       obtain ⟨ad385, e385, hx385_0, hx385_1, hx385_2⟩ := at_T40 HR1.out x7_1 p385 q385
       obtain rfl : ad384 = ad385 := (by injection e385)
       replace hx385_0 := (HB.out.cell (World.block_lt_of_cell? w _ hx385_0)).trans hx385_0
       replace hx385_1 := (HB.out.cell (World.block_lt_of_cell? w _ hx385_1)).trans hx385_1
       replace hx385_2 := (HB.out.cell (World.block_lt_of_cell? w _ hx385_2)).trans hx385_2
       replace p385 := eq_true p385
       replace q385 := eq_true q385
       go_wp2_with (first | (go_at_call 60; (with_reducible refine (marchlandref03_Of.calls k1 _ _ l0 ((rd_T40 l1 x7_1).f0) ((rd_T40 l1 x7_1).f1) t386 _ ?side1 ?side2 A5.out).mono ?_); (case side1 => repeat (first | exact (Kd.C_below HR0.out HB.out) | (with_reducible refine Kd.C_alloc ?_ _) | (with_reducible refine Kd.C_drewN ?_ _) | (with_reducible refine Kd.C_drew ?_))); (case side2 => exact HC0.out); rintro e w' ⟨rfl, ⟨nd, rfl⟩⟩; (try first | exact ⟨rfl, _, World.drewN_drewN _ _ _⟩ | exact ⟨rfl, _, Eq.trans (World.drewN_drewN _ _ _) (congrArg (World.drewN _) (Nat.add_assoc _ _ _))⟩); have p387 : 0 ≤ (x7_1 : Int) := of_decide_eq_true (by assumption); have q387 : x7_1 < (l1.length : Int) := of_decide_eq_true (by assumption); obtain ⟨ad387, e387, hx387_0, hx387_1, hx387_2⟩ := at_T40 HR1.out x7_1 p387 q387; obtain rfl : ad384 = ad387 := (by injection e387); replace hx387_0 := (HB.out.cell (World.block_lt_of_cell? w _ hx387_0)).trans hx387_0; replace hx387_1 := (HB.out.cell (World.block_lt_of_cell? w _ hx387_1)).trans hx387_1; replace hx387_2 := (HB.out.cell (World.block_lt_of_cell? w _ hx387_2)).trans hx387_2; replace p387 := eq_true p387; replace q387 := eq_true q387))
       repeat (go_quiet (first | (go_at_call 60; (with_reducible refine (marchlandref03_Of.calls k1 _ _ l0 ((rd_T40 l1 x7_1).f0) ((rd_T40 l1 x7_1).f1) t386 _ ?side1 ?side2 A5.out).mono ?_); (case side1 => repeat (first | exact (Kd.C_below HR0.out HB.out) | (with_reducible refine Kd.C_alloc ?_ _) | (with_reducible refine Kd.C_drewN ?_ _) | (with_reducible refine Kd.C_drew ?_))); (case side2 => exact HC0.out); rintro e w' ⟨rfl, ⟨nd, rfl⟩⟩; (try first | exact ⟨rfl, _, World.drewN_drewN _ _ _⟩ | exact ⟨rfl, _, Eq.trans (World.drewN_drewN _ _ _) (congrArg (World.drewN _) (Nat.add_assoc _ _ _))⟩); have p387 : 0 ≤ (x7_1 : Int) := of_decide_eq_true (by assumption); have q387 : x7_1 < (l1.length : Int) := of_decide_eq_true (by assumption); obtain ⟨ad387, e387, hx387_0, hx387_1, hx387_2⟩ := at_T40 HR1.out x7_1 p387 q387; obtain rfl : ad384 = ad387 := (by injection e387); replace hx387_0 := (HB.out.cell (World.block_lt_of_cell? w _ hx387_0)).trans hx387_0; replace hx387_1 := (HB.out.cell (World.block_lt_of_cell? w _ hx387_1)).trans hx387_1; replace hx387_2 := (HB.out.cell (World.block_lt_of_cell? w _ hx387_2)).trans hx387_2; replace p387 := eq_true p387; replace q387 := eq_true q387)); try go_wp2_with (first | (go_at_call 60; (with_reducible refine (marchlandref03_Of.calls k1 _ _ l0 ((rd_T40 l1 x7_1).f0) ((rd_T40 l1 x7_1).f1) t386 _ ?side1 ?side2 A5.out).mono ?_); (case side1 => repeat (first | exact (Kd.C_below HR0.out HB.out) | (with_reducible refine Kd.C_alloc ?_ _) | (with_reducible refine Kd.C_drewN ?_ _) | (with_reducible refine Kd.C_drew ?_))); (case side2 => exact HC0.out); rintro e w' ⟨rfl, ⟨nd, rfl⟩⟩; (try first | exact ⟨rfl, _, World.drewN_drewN _ _ _⟩ | exact ⟨rfl, _, Eq.trans (World.drewN_drewN _ _ _) (congrArg (World.drewN _) (Nat.add_assoc _ _ _))⟩); have p387 : 0 ≤ (x7_1 : Int) := of_decide_eq_true (by assumption); have q387 : x7_1 < (l1.length : Int) := of_decide_eq_true (by assumption); obtain ⟨ad387, e387, hx387_0, hx387_1, hx387_2⟩ := at_T40 HR1.out x7_1 p387 q387; obtain rfl : ad384 = ad387 := (by injection e387); replace hx387_0 := (HB.out.cell (World.block_lt_of_cell? w _ hx387_0)).trans hx387_0; replace hx387_1 := (HB.out.cell (World.block_lt_of_cell? w _ hx387_1)).trans hx387_1; replace hx387_2 := (HB.out.cell (World.block_lt_of_cell? w _ hx387_2)).trans hx387_2; replace p387 := eq_true p387; replace q387 := eq_true q387)))
       go_roundg k1
       case measure => have := HK1.out; omega
       case rel => exact ⟨(true), (wrap64 (x7_1 + 1)), (by first | rfl | (simp; done) | (simp [*]; done)), (by first | rfl | (simp; done) | (simp [*]; done)), H', ⟨by have := HK1.out; omega⟩, ⟨by repeat (first | (with_reducible first | exact HB.out | apply below_alloc | apply pw_below_drewN | apply below_drew1) | exact HB.out)⟩⟩
      ·replace c7 := Bool.eq_false_iff.mpr c7
       subst c7
       have H1 : (marchlandref04_Apply.l0 k1 l0 l1 (decide ((wrap64 (t386 + ((rd_T40 l1 x7_1).f2))) > 576460752303423488)) (wrap64 (x7_1 + 1))) = some (r1, r2) := by rw [if_neg (show ¬ (false = true) by decide)] at H; exact H
       clear H
       have H := H1
       clear H1
       have H' := Aside0.mk H
       clear H
       have p384 : 0 ≤ (x7_1 : Int) := of_decide_eq_true (by assumption)
       have q384 : x7_1 < (l1.length : Int) := of_decide_eq_true (by assumption)
       obtain ⟨ad384, e384, hx384_0, hx384_1, hx384_2⟩ := at_T40 HR1.out x7_1 p384 q384
       cases e384
       replace hx384_0 := (HB.out.cell (World.block_lt_of_cell? w _ hx384_0)).trans hx384_0
       replace hx384_1 := (HB.out.cell (World.block_lt_of_cell? w _ hx384_1)).trans hx384_1
       replace hx384_2 := (HB.out.cell (World.block_lt_of_cell? w _ hx384_2)).trans hx384_2
       replace p384 := eq_true p384
       replace q384 := eq_true q384
       have p385 : 0 ≤ (x7_1 : Int) := of_decide_eq_true (by assumption)
       have q385 : x7_1 < (l1.length : Int) := of_decide_eq_true (by assumption)
       obtain ⟨ad385, e385, hx385_0, hx385_1, hx385_2⟩ := at_T40 HR1.out x7_1 p385 q385
       obtain rfl : ad384 = ad385 := (by injection e385)
       replace hx385_0 := (HB.out.cell (World.block_lt_of_cell? w _ hx385_0)).trans hx385_0
       replace hx385_1 := (HB.out.cell (World.block_lt_of_cell? w _ hx385_1)).trans hx385_1
       replace hx385_2 := (HB.out.cell (World.block_lt_of_cell? w _ hx385_2)).trans hx385_2
       replace p385 := eq_true p385
       replace q385 := eq_true q385
       go_wp2_with (first | (go_at_call 60; (with_reducible refine (marchlandref03_Of.calls k1 _ _ l0 ((rd_T40 l1 x7_1).f0) ((rd_T40 l1 x7_1).f1) t386 _ ?side1 ?side2 A5.out).mono ?_); (case side1 => repeat (first | exact (Kd.C_below HR0.out HB.out) | (with_reducible refine Kd.C_alloc ?_ _) | (with_reducible refine Kd.C_drewN ?_ _) | (with_reducible refine Kd.C_drew ?_))); (case side2 => exact HC0.out); rintro e w' ⟨rfl, ⟨nd, rfl⟩⟩; (try first | exact ⟨rfl, _, World.drewN_drewN _ _ _⟩ | exact ⟨rfl, _, Eq.trans (World.drewN_drewN _ _ _) (congrArg (World.drewN _) (Nat.add_assoc _ _ _))⟩); have p387 : 0 ≤ (x7_1 : Int) := of_decide_eq_true (by assumption); have q387 : x7_1 < (l1.length : Int) := of_decide_eq_true (by assumption); obtain ⟨ad387, e387, hx387_0, hx387_1, hx387_2⟩ := at_T40 HR1.out x7_1 p387 q387; obtain rfl : ad384 = ad387 := (by injection e387); replace hx387_0 := (HB.out.cell (World.block_lt_of_cell? w _ hx387_0)).trans hx387_0; replace hx387_1 := (HB.out.cell (World.block_lt_of_cell? w _ hx387_1)).trans hx387_1; replace hx387_2 := (HB.out.cell (World.block_lt_of_cell? w _ hx387_2)).trans hx387_2; replace p387 := eq_true p387; replace q387 := eq_true q387))
       repeat (go_quiet (first | (go_at_call 60; (with_reducible refine (marchlandref03_Of.calls k1 _ _ l0 ((rd_T40 l1 x7_1).f0) ((rd_T40 l1 x7_1).f1) t386 _ ?side1 ?side2 A5.out).mono ?_); (case side1 => repeat (first | exact (Kd.C_below HR0.out HB.out) | (with_reducible refine Kd.C_alloc ?_ _) | (with_reducible refine Kd.C_drewN ?_ _) | (with_reducible refine Kd.C_drew ?_))); (case side2 => exact HC0.out); rintro e w' ⟨rfl, ⟨nd, rfl⟩⟩; (try first | exact ⟨rfl, _, World.drewN_drewN _ _ _⟩ | exact ⟨rfl, _, Eq.trans (World.drewN_drewN _ _ _) (congrArg (World.drewN _) (Nat.add_assoc _ _ _))⟩); have p387 : 0 ≤ (x7_1 : Int) := of_decide_eq_true (by assumption); have q387 : x7_1 < (l1.length : Int) := of_decide_eq_true (by assumption); obtain ⟨ad387, e387, hx387_0, hx387_1, hx387_2⟩ := at_T40 HR1.out x7_1 p387 q387; obtain rfl : ad384 = ad387 := (by injection e387); replace hx387_0 := (HB.out.cell (World.block_lt_of_cell? w _ hx387_0)).trans hx387_0; replace hx387_1 := (HB.out.cell (World.block_lt_of_cell? w _ hx387_1)).trans hx387_1; replace hx387_2 := (HB.out.cell (World.block_lt_of_cell? w _ hx387_2)).trans hx387_2; replace p387 := eq_true p387; replace q387 := eq_true q387)); try go_wp2_with (first | (go_at_call 60; (with_reducible refine (marchlandref03_Of.calls k1 _ _ l0 ((rd_T40 l1 x7_1).f0) ((rd_T40 l1 x7_1).f1) t386 _ ?side1 ?side2 A5.out).mono ?_); (case side1 => repeat (first | exact (Kd.C_below HR0.out HB.out) | (with_reducible refine Kd.C_alloc ?_ _) | (with_reducible refine Kd.C_drewN ?_ _) | (with_reducible refine Kd.C_drew ?_))); (case side2 => exact HC0.out); rintro e w' ⟨rfl, ⟨nd, rfl⟩⟩; (try first | exact ⟨rfl, _, World.drewN_drewN _ _ _⟩ | exact ⟨rfl, _, Eq.trans (World.drewN_drewN _ _ _) (congrArg (World.drewN _) (Nat.add_assoc _ _ _))⟩); have p387 : 0 ≤ (x7_1 : Int) := of_decide_eq_true (by assumption); have q387 : x7_1 < (l1.length : Int) := of_decide_eq_true (by assumption); obtain ⟨ad387, e387, hx387_0, hx387_1, hx387_2⟩ := at_T40 HR1.out x7_1 p387 q387; obtain rfl : ad384 = ad387 := (by injection e387); replace hx387_0 := (HB.out.cell (World.block_lt_of_cell? w _ hx387_0)).trans hx387_0; replace hx387_1 := (HB.out.cell (World.block_lt_of_cell? w _ hx387_1)).trans hx387_1; replace hx387_2 := (HB.out.cell (World.block_lt_of_cell? w _ hx387_2)).trans hx387_2; replace p387 := eq_true p387; replace q387 := eq_true q387)))
       go_roundg k1
       case measure => have := HK1.out; omega
       case rel => exact ⟨(decide ((wrap64 (t386 + ((rd_T40 l1 x7_1).f2))) > 576460752303423488)), (wrap64 (x7_1 + 1)), (by first | rfl | (simp; done) | (simp [*]; done)), (by first | rfl | (simp; done) | (simp [*]; done)), H', ⟨by have := HK1.out; omega⟩, ⟨by repeat (first | (with_reducible first | exact HB.out | apply below_alloc | apply pw_below_drewN | apply below_drew1) | exact HB.out)⟩⟩
    ·rw [if_neg c4] at H
     exact absurd H (by simp)
   ·rw [if_neg c3] at H
    have c3b0 : decide (x7_1 < (l1.length : Int)) = false := decide_eq_false c3
    clear c3
    by_cases c8 : x6_1 = true
    ·subst c8
     have H1 : (some (([] : List (S40)), 10)) = some (r1, r2) := by rw [if_pos rfl] at H; exact H
     clear H
     have H := H1
     clear H1
     simp only [Option.some.injEq, Prod.mk.injEq] at H
     obtain ⟨rfl, rfl⟩ := H
     go_wp2
     repeat (go_quiet (fail); try go_wp2)
     go_ret2
     exact ⟨_, by first | rfl | (simp [errW_none, errW_some] <;> rfl) | (simp [*, errW_none, errW_some] <;> rfl), by first | exact Kd.R_nil _ _ _ _ _ | exact Kd.N_nil _ _ _ _ _ | exact Kd.V_nil _ _ _ _ _ | exact Kd.Q_nil _ _ _ _ _ | exact Kd.S_nil _ _ _ _ _, by repeat (first | (with_reducible first | exact HB.out | apply below_alloc | apply pw_below_drewN | apply below_drew1) | exact HB.out)⟩
    ·replace c8 := Bool.eq_false_iff.mpr c8
     subst c8
     have H1 : ((marchlandref03_Merge.f k1 l0 l1).bind fun bt388 => (some (bt388.1, 0))) = some (r1, r2) := by rw [if_neg (show ¬ (false = true) by decide)] at H; exact H
     clear H
     have H := H1
     clear H1
     replace H := Option.bind_eq_some_iff.mp H
     obtain ⟨⟨t388, t389⟩, A90, H⟩ := H
     replace H : (some (t388, 0)) = some (r1, r2) := H
     have A9 := Aside0.mk A90
     clear A90
     simp only [Option.some.injEq, Prod.mk.injEq] at H
     obtain ⟨rfl, rfl⟩ := H
     go_wp2_with (first | (go_at_call 35; (with_reducible refine (marchlandref03_Merge.calls k1 _ _ l0 _ _ l1 t388 t389 _ ?side1 ?side2 ?side3 ?side4 A9.out).mono ?_); (case side1 => repeat (first | exact (Kd.C_below HR0.out HB.out) | (with_reducible refine Kd.C_alloc ?_ _) | (with_reducible refine Kd.C_drewN ?_ _) | (with_reducible refine Kd.C_drew ?_))); (case side2 => exact HC0.out); (case side3 => repeat (first | exact (Kd.C_below HR1.out HB.out) | (with_reducible refine Kd.C_alloc ?_ _) | (with_reducible refine Kd.C_drewN ?_ _) | (with_reducible refine Kd.C_drew ?_))); (case side4 => exact HC1.out); rintro e w10 ⟨v390, rfl, ho0, hb⟩; have n0_ := Aside0.mk (Kd.R_lower ho0 (below_size (bn HB))); have HO391 := n0_; replace HB := bb HB hb; clear n0_; (try clear hb); (try clear ho0)))
     repeat (go_quiet (first | (go_at_call 35; (with_reducible refine (marchlandref03_Merge.calls k1 _ _ l0 _ _ l1 t388 t389 _ ?side1 ?side2 ?side3 ?side4 A9.out).mono ?_); (case side1 => repeat (first | exact (Kd.C_below HR0.out HB.out) | (with_reducible refine Kd.C_alloc ?_ _) | (with_reducible refine Kd.C_drewN ?_ _) | (with_reducible refine Kd.C_drew ?_))); (case side2 => exact HC0.out); (case side3 => repeat (first | exact (Kd.C_below HR1.out HB.out) | (with_reducible refine Kd.C_alloc ?_ _) | (with_reducible refine Kd.C_drewN ?_ _) | (with_reducible refine Kd.C_drew ?_))); (case side4 => exact HC1.out); rintro e w10 ⟨v390, rfl, ho0, hb⟩; have n0_ := Aside0.mk (Kd.R_lower ho0 (below_size (bn HB))); have HO391 := n0_; replace HB := bb HB hb; clear n0_; (try clear hb); (try clear ho0))); try go_wp2_with (first | (go_at_call 35; (with_reducible refine (marchlandref03_Merge.calls k1 _ _ l0 _ _ l1 t388 t389 _ ?side1 ?side2 ?side3 ?side4 A9.out).mono ?_); (case side1 => repeat (first | exact (Kd.C_below HR0.out HB.out) | (with_reducible refine Kd.C_alloc ?_ _) | (with_reducible refine Kd.C_drewN ?_ _) | (with_reducible refine Kd.C_drew ?_))); (case side2 => exact HC0.out); (case side3 => repeat (first | exact (Kd.C_below HR1.out HB.out) | (with_reducible refine Kd.C_alloc ?_ _) | (with_reducible refine Kd.C_drewN ?_ _) | (with_reducible refine Kd.C_drew ?_))); (case side4 => exact HC1.out); rintro e w10 ⟨v390, rfl, ho0, hb⟩; have n0_ := Aside0.mk (Kd.R_lower ho0 (below_size (bn HB))); have HO391 := n0_; replace HB := bb HB hb; clear n0_; (try clear hb); (try clear ho0))))
     go_ret2
     exact ⟨_, by first | rfl | (simp [errW_none, errW_some] <;> rfl) | (simp [*, errW_none, errW_some] <;> rfl), by (with_reducible repeat (first | apply Kd.R_alloc | apply Kd.R_drewN | apply Kd.R_drew)); exact HO391.out, by repeat (first | (with_reducible first | exact HB.out | apply below_alloc | apply pw_below_drewN | apply below_drew1) | exact HB.out)⟩
end Go.Proofs.Ytgeldmhgbnamcaa.P
end
section
/- Plain laws of batches: how many there are of each key; what is small is told by that alone. -/
namespace Go.Proofs.Ytgeldmhgbnamcaa.Pure
open Go.RowKit Go.Proofs.Ytgeldmhgbnamcaa.P Go.Proofs.YtgeldmhgbnamcaaW.PrintWords Go.Proofs.YtgeldmhgbnamcaaW.PrintLast
set_option linter.unusedVariables false
set_option linter.unusedSimpArgs false
/-! ### what is computed -/
theorem rof_l0 (X : List S50) (hl : Short X.length) (a b : Int) : ∀ (r pre : List S50), X = pre ++ r → Ev (fun k => marchlandref03_Of.l0 k (X.map v) a b (pre.length : Int)) (ofv r ⟨a, b, 0⟩) := by
 unfold Short at hl
 intro r
 induction r with
 | nil =>
  intro pre e
  refine ⟨1, fun k hk => ?_⟩
  obtain ⟨k, rfl⟩ : ∃ m, k = m + 1 := ⟨k - 1, by omega⟩
  show marchlandref03_Of.l0 (k + 1) _ _ _ _ = _
  rw [marchlandref03_Of.l0, if_neg (by subst e; simp)]
  rfl
 | cons x r ih =>
  intro pre e
  obtain ⟨K1, h1⟩ := ih (pre ++ [x]) (by simp [e])
  refine ⟨K1 + 1, fun k hk => ?_⟩
  obtain ⟨k, rfl⟩ : ∃ m, k = m + 1 := ⟨k - 1, by omega⟩
  have h1 := h1 k (by omega); dsimp only at h1
  have ll : X.length = pre.length + (r.length + 1) := by rw [e]; simp
  have e1 : rd_T40 (X.map v) (pre.length : Int) = v x := by rw [e]; exact rd4m _ _ _ rfl
  have ew : wrap64 ((pre.length : Int) + 1) = ((pre ++ [x]).length : Int) := by rw [w64s (by omega)]; simp
  show marchlandref03_Of.l0 (k + 1) _ _ _ _ = _
  rw [marchlandref03_Of.l0, if_pos (by simp; omega), if_pos (by omega), e1, ew, h1, ofv_cons]
  by_cases c : x.f0 = a
  ·by_cases d : x.f1 = b
   ·rw [if_pos (show (v x).f0 = a from c), if_pos (show (v x).f1 = b from d), if_pos ⟨c, d⟩]; rfl
   ·rw [if_pos (show (v x).f0 = a from c), if_neg (show ¬ (v x).f1 = b from d), if_neg (fun k => d k.2)]
  ·rw [if_neg (show ¬ (v x).f0 = a from c), if_neg (fun k => c k.1)]
theorem rof_ev (X : List S50) (hl : Short X.length) (a b : Int) : Ev (fun k => marchlandref03_Of.f k (X.map v) a b) (ofv X ⟨a, b, 0⟩) := rof_l0 X hl a b X [] rfl
theorem rapply_l0 (A B : List S50) (hA : Short A.length) (hl : A.length + B.length ≤ 1000000) (hs : Str A) (hm : mass (A ++ B) ≤ 1000000000) : ∀ (r pre : List S50), B = pre ++ r →
  Ev (fun k => marchlandref04_Apply.l0 k (A.map v) (B.map v) false (pre.length : Int)) (if bel A r = true then ([], 11) else ((K (A ++ B)).map v, 0)) := by
 intro r
 induction r with
 | nil =>
  intro pre e
  obtain ⟨K1, h1⟩ := rmerge_ev A B hl hm
  refine ⟨K1 + 1, fun k hk => ?_⟩
  obtain ⟨k, rfl⟩ : ∃ m, k = m + 1 := ⟨k - 1, by omega⟩
  have h1 := h1 k (by omega); dsimp only at h1
  show marchlandref04_Apply.l0 (k + 1) _ _ _ _ = _
  rw [marchlandref04_Apply.l0, if_neg (by subst e; simp), if_neg (by decide), h1]
  rfl
 | cons x r ih =>
  intro pre e
  obtain ⟨K1, h1⟩ := ih (pre ++ [x]) (by simp [e])
  obtain ⟨K2, h2⟩ := rof_ev A hA x.f0 x.f1
  refine ⟨K1 + K2 + 1, fun k hk => ?_⟩
  obtain ⟨k, rfl⟩ : ∃ m, k = m + 1 := ⟨k - 1, by omega⟩
  have h1 := h1 k (by omega); have h2 := h2 k (by omega); dsimp only at h1 h2
  have ll : B.length = pre.length + (r.length + 1) := by rw [e]; simp
  have e1 : rd_T40 (B.map v) (pre.length : Int) = v x := by rw [e]; exact rd4m _ _ _ rfl
  have ew : wrap64 ((pre.length : Int) + 1) = ((pre ++ [x]).length : Int) := by rw [w64s (by omega)]; simp
  show marchlandref04_Apply.l0 (k + 1) _ _ _ _ = _
  rw [marchlandref04_Apply.l0, if_pos (by simp; omega), if_pos (by omega), e1]
  have h2' : marchlandref03_Of.f k (A.map v) (v x).f0 (v x).f1 = some (ofv A ⟨x.f0, x.f1, 0⟩) := h2
  rw [h2', Option.bind_some]
  have b : bel A (x :: r) = (decide (wrap64 (ofv A ⟨x.f0, x.f1, 0⟩ + x.f2) < 0) || bel A r) := rfl
  have vx : (v x).f2 = x.f2 := rfl
  rw [vx, b]
  by_cases c : wrap64 (ofv A ⟨x.f0, x.f1, 0⟩ + x.f2) < 0
  ·rw [if_pos c, decide_eq_true c]; rfl
  ·rw [if_neg c, decide_eq_false c, Bool.false_or, if_neg (by decide)]
   have m1 : x.f2.natAbs ≤ mass B := mass_mem (by rw [e]; simp)
   have m2 : (ofv A ⟨x.f0, x.f1, 0⟩).natAbs ≤ mass A := by rw [← cnt_str hs]; exact cnt_mass _ _
   rw [mass_append] at hm
   rw [decide_eq_false (by unfold wrap64; omega), ew]
   exact h1
theorem rapply_ev (A B : List S50) (hl : A.length + B.length ≤ 1000000) (hs : Str A) (hm : mass (A ++ B) ≤ 1000000000) : Ev (fun k => marchlandref04_Apply.f k (A.map v) (B.map v)) ((applyv A B).1.map v, (applyv A B).2) := by
 have h := rapply_l0 A B (by unfold Short; omega) hl hs hm B [] rfl
 rw [applyv_small hm]
 split at h
 ·rename_i c; rw [if_pos c]; exact h
 ·rename_i c; rw [if_neg c]; exact h
end Go.Proofs.Ytgeldmhgbnamcaa.Pure
end
section
-- Printed by the session's own turn of the print (wip/tools/print2.sh): some callees are proved by hand.
namespace Go.Proofs.Ytgeldmhgbnamcaa.P
open Go.RowKit Go.Proofs.YtgeldmhgbnamcaaW.PrintWords Go.Proofs.YtgeldmhgbnamcaaW.PrintLast Go.Proofs.YtgeldmhgbnamcaaW.PrintMore
attribute [local go_sem] max2_int min2_int max_two min_two max_three min_three max_four min_four   -- for this text's walks alone
set_option linter.unusedVariables false
set_option linter.unusedSimpArgs false
/-! ### marchlandref04_Least: function 31 -/
def marchlandref04_Least.l0 : Nat → List (S40) → Int → Int → Int → Option (Int)
 | 0, _, _, _, _ => none
 | k + 1, x0, x1, x5, x6 => if x6 < (x0.length : Int) then (if 0 ≤ x6 then (if ((rd_T40 x0 x6).f0) = x1 then (if ((rd_T40 x0 x6).f1) < x5 then (marchlandref04_Least.l0 k x0 x1 ((rd_T40 x0 x6).f1) (wrap64 (x6 + 1))) else (marchlandref04_Least.l0 k x0 x1 x5 (wrap64 (x6 + 1)))) else (marchlandref04_Least.l0 k x0 x1 x5 (wrap64 (x6 + 1)))) else (none)) else (some x5)
def marchlandref04_Least.f (k : Nat) (l0 : List (S40)) (a1 : Int) : Option (Int) := marchlandref04_Least.l0 k l0 a1 18446744073709551615 0
set_option maxHeartbeats 8000000 in
set_option maxRecDepth 100000 in
theorem marchlandref04_Least.calls (k : Nat) (A0 : Option Addr) (c0 : Nat) (l0 : List (S40)) (a1 : Int) (r : Int) (w : World) (hr0 : Kd.C k40 w A0 l0.length l0) (hc0 : l0.length ≤ c0) (h : marchlandref04_Least.f k l0 a1 = some r) :
  Calls Try.prog 31 #[.slice A0 l0.length c0, .int .i64 a1] w fun e w' => e = .returned (.int .u64 r) ∧ Drawn0 w w' := by
 have HR0 := Aside0.mk hr0
 have HC0 := Aside0.mk hc0
 clear hr0 hc0
 have H : (marchlandref04_Least.l0 k l0 a1 18446744073709551615 0) = some r := h
 clear h
 have H' := Aside0.mk H
 clear H
 go_enter Try.func31, Try.ntmps31
 go_wp2
 go_loopg [5, 6] k (fun kq v5 v6 w' => ∃ (x5_1 : Int) (x6_1 : Int), v5 = .int .u64 x5_1 ∧ v6 = .int .i64 x6_1 ∧ Aside0 (marchlandref04_Least.l0 kq l0 a1 x5_1 x6_1 = some r) ∧ Aside0 (kq ≤ k) ∧ Drawn0 w w')
 case atStart => exact ⟨(18446744073709551615), (0), (by first | rfl | (simp; done) | (simp [*]; done)), (by first | rfl | (simp; done) | (simp [*]; done)), H', ⟨Nat.le_refl _⟩, by repeat (first | exact Drawn0.refl _ | apply Drawn0.step)⟩
 case round =>
  clear H'
  (try clear p2)
  obtain ⟨x5_1, x6_1, rfl, rfl, HA, HK1, ⟨m1, rfl⟩⟩ := hrel
  cases gk with
  | zero => exact absurd HA.out (by simp [marchlandref04_Least.l0])
  | succ k1 =>
   have H := HA.out
   clear HA
   simp only [marchlandref04_Least.l0] at H
   by_cases c3 : x6_1 < (l0.length : Int)
   ·rw [if_pos c3] at H
    have c3b0 : decide (x6_1 < (l0.length : Int)) = true := decide_eq_true c3
    clear c3
    by_cases c4 : 0 ≤ x6_1
    ·rw [if_pos c4] at H
     have c4b0 : decide (0 ≤ x6_1) = true := decide_eq_true c4
     clear c4
     by_cases c5 : ((rd_T40 l0 x6_1).f0) = a1
     ·rw [if_pos c5] at H
      have c5b0 : (((rd_T40 l0 x6_1).f0) == a1) = true := beq_iff_eq.mpr c5
      have c5b1 : (((rd_T40 l0 x6_1).f0) != a1) = false := bne_eq_false_iff_eq.mpr c5
      clear c5
      by_cases c6 : ((rd_T40 l0 x6_1).f1) < x5_1
      ·rw [if_pos c6] at H
       have c6b0 : decide (((rd_T40 l0 x6_1).f1) < x5_1) = true := decide_eq_true c6
       clear c6
       have H' := Aside0.mk H
       clear H
       have p419 : 0 ≤ (x6_1 : Int) := of_decide_eq_true (by assumption)
       have q419 : x6_1 < (l0.length : Int) := of_decide_eq_true (by assumption)
       obtain ⟨ad419, e419, hx419_0, hx419_1, hx419_2⟩ := at_T40 HR0.out x6_1 p419 q419
       cases e419
       replace p419 := eq_true p419
       replace q419 := eq_true q419
       have p420 : 0 ≤ (x6_1 : Int) := of_decide_eq_true (by assumption)
       have q420 : x6_1 < (l0.length : Int) := of_decide_eq_true (by assumption)
       obtain ⟨ad420, e420, hx420_0, hx420_1, hx420_2⟩ := at_T40 HR0.out x6_1 p420 q420
       obtain rfl : ad419 = ad420 := (by injection e420)
       replace p420 := eq_true p420
       replace q420 := eq_true q420
       have p421 : 0 ≤ (x6_1 : Int) := of_decide_eq_true (by assumption)
       have q421 : x6_1 < (l0.length : Int) := of_decide_eq_true (by assumption)
       obtain ⟨ad421, e421, hx421_0, hx421_1, hx421_2⟩ := at_T40 HR0.out x6_1 p421 q421
       obtain rfl : ad419 = ad421 := (by injection e421)
       replace p421 := eq_true p421
       replace q421 := eq_true q421
       go_wp2
       go_roundg k1
       case measure => have := HK1.out; omega
       case rel => exact ⟨((rd_T40 l0 x6_1).f1), (wrap64 (x6_1 + 1)), (by first | rfl | (simp; done) | (simp [*]; done)), (by first | rfl | (simp; done) | (simp [*]; done)), H', ⟨by have := HK1.out; omega⟩, by repeat (first | exact Drawn0.refl _ | apply Drawn0.step)⟩
      ·rw [if_neg c6] at H
       have c6b0 : decide (((rd_T40 l0 x6_1).f1) < x5_1) = false := decide_eq_false c6
       clear c6
       have H' := Aside0.mk H
       clear H
       have p419 : 0 ≤ (x6_1 : Int) := of_decide_eq_true (by assumption)
       have q419 : x6_1 < (l0.length : Int) := of_decide_eq_true (by assumption)
       obtain ⟨ad419, e419, hx419_0, hx419_1, hx419_2⟩ := at_T40 HR0.out x6_1 p419 q419
       cases e419
       replace p419 := eq_true p419
       replace q419 := eq_true q419
       have p420 : 0 ≤ (x6_1 : Int) := of_decide_eq_true (by assumption)
       have q420 : x6_1 < (l0.length : Int) := of_decide_eq_true (by assumption)
       obtain ⟨ad420, e420, hx420_0, hx420_1, hx420_2⟩ := at_T40 HR0.out x6_1 p420 q420
       obtain rfl : ad419 = ad420 := (by injection e420)
       replace p420 := eq_true p420
       replace q420 := eq_true q420
       go_wp2
       go_roundg k1
       case measure => have := HK1.out; omega
       case rel => exact ⟨(x5_1), (wrap64 (x6_1 + 1)), (by first | rfl | (simp; done) | (simp [*]; done)), (by first | rfl | (simp; done) | (simp [*]; done)), H', ⟨by have := HK1.out; omega⟩, by repeat (first | exact Drawn0.refl _ | apply Drawn0.step)⟩
     ·rw [if_neg c5] at H
      have c5b0 : (((rd_T40 l0 x6_1).f0) == a1) = false := beq_eq_false_iff_ne.mpr c5
      have c5b1 : (((rd_T40 l0 x6_1).f0) != a1) = true := bne_iff_ne.mpr c5
      have H' := Aside0.mk H
      clear H
      have p419 : 0 ≤ (x6_1 : Int) := of_decide_eq_true (by assumption)
      have q419 : x6_1 < (l0.length : Int) := of_decide_eq_true (by assumption)
      obtain ⟨ad419, e419, hx419_0, hx419_1, hx419_2⟩ := at_T40 HR0.out x6_1 p419 q419
      cases e419
      replace p419 := eq_true p419
      replace q419 := eq_true q419
      go_wp2
      go_roundg k1
      case measure => have := HK1.out; omega
      case rel => exact ⟨(x5_1), (wrap64 (x6_1 + 1)), (by first | rfl | (simp; done) | (simp [*]; done)), (by first | rfl | (simp; done) | (simp [*]; done)), H', ⟨by have := HK1.out; omega⟩, by repeat (first | exact Drawn0.refl _ | apply Drawn0.step)⟩
    ·rw [if_neg c4] at H
     exact absurd H (by simp)
   ·rw [if_neg c3] at H
    have c3b0 : decide (x6_1 < (l0.length : Int)) = false := decide_eq_false c3
    clear c3
    obtain rfl := Option.some.inj H
    go_wp2
    go_ret
    exact ⟨by first | rfl | (simp; done) | (simp [*]; done), by repeat (first | exact Drawn0.refl _ | apply Drawn0.step)⟩
end Go.Proofs.Ytgeldmhgbnamcaa.P
end
section
-- Printed by the session's own turn of the print (wip/tools/print2.sh): some callees are proved by hand.
namespace Go.Proofs.Ytgeldmhgbnamcaa.P
open Go.RowKit Go.Proofs.YtgeldmhgbnamcaaW.PrintWords Go.Proofs.YtgeldmhgbnamcaaW.PrintLast Go.Proofs.YtgeldmhgbnamcaaW.PrintMore
attribute [local go_sem] max2_int min2_int max_two min_two max_three min_three max_four min_four   -- for this text's walks alone
set_option linter.unusedVariables false
set_option linter.unusedSimpArgs false
/-! ### marchlandref04_Right: function 34 -/
def marchlandref04_Right.l0 : Nat → List (S40) → Int → Option (Bool)
 | 0, _, _ => none
 | k + 1, x0, x3 => if x3 < (x0.length : Int) then (if 0 ≤ x3 then (if ((rd_T40 x0 x3).f2) < 1 then (some false) else (marchlandref04_Right.l0 k x0 (wrap64 (x3 + 1)))) else (none)) else ((marchlandref03_Right.f k x0).bind fun t423 => (some t423))
def marchlandref04_Right.f (k : Nat) (l0 : List (S40)) : Option (Bool) := marchlandref04_Right.l0 k l0 0
set_option maxHeartbeats 8000000 in
set_option maxRecDepth 100000 in
theorem marchlandref04_Right.calls (k : Nat) (A0 : Option Addr) (c0 : Nat) (l0 : List (S40)) (r : Bool) (w : World) (hr0 : Kd.C k40 w A0 l0.length l0) (hc0 : l0.length ≤ c0) (h : marchlandref04_Right.f k l0 = some r) :
  Calls Try.prog 34 #[.slice A0 l0.length c0] w fun e w' => e = .returned (.bool r) ∧ Below w.heap.size w w' := by
 have HR0 := Aside0.mk hr0
 have HC0 := Aside0.mk hc0
 clear hr0 hc0
 have HB := Aside0.mk (Below.refl w.heap.size w)
 have H : (marchlandref04_Right.l0 k l0 0) = some r := h
 clear h
 have H' := Aside0.mk H
 clear H
 go_enter Try.func34, Try.ntmps34
 go_wp2
 go_loopg [3] k (fun kq v3 w' => ∃ (x3_1 : Int), v3 = .int .i64 x3_1 ∧ Aside0 (marchlandref04_Right.l0 kq l0 x3_1 = some r) ∧ Aside0 (kq ≤ k) ∧ Aside0 (Below w.heap.size w w'))
 case atStart => exact ⟨(0), (by first | rfl | (simp; done) | (simp [*]; done)), H', ⟨Nat.le_refl _⟩, ⟨by repeat (first | (with_reducible first | exact HB.out | apply below_alloc | apply pw_below_drewN | apply below_drew1) | exact HB.out)⟩⟩
 case round =>
  clear H'
  obtain ⟨x3_1, rfl, HA, HK1, HB⟩ := hrel
  cases gk with
  | zero => exact absurd HA.out (by simp [marchlandref04_Right.l0])
  | succ k1 =>
   have H := HA.out
   clear HA
   simp only [marchlandref04_Right.l0] at H
   by_cases c2 : x3_1 < (l0.length : Int)
   ·rw [if_pos c2] at H
    have c2b0 : decide (x3_1 < (l0.length : Int)) = true := decide_eq_true c2
    clear c2
    by_cases c3 : 0 ≤ x3_1
    ·rw [if_pos c3] at H
     have c3b0 : decide (0 ≤ x3_1) = true := decide_eq_true c3
     clear c3
     by_cases c4 : ((rd_T40 l0 x3_1).f2) < 1
     ·rw [if_pos c4] at H
      have c4b0 : decide (((rd_T40 l0 x3_1).f2) < 1) = true := decide_eq_true c4
      clear c4
      obtain rfl := Option.some.inj H
      have p422 : 0 ≤ (x3_1 : Int) := of_decide_eq_true (by assumption)
      have q422 : x3_1 < (l0.length : Int) := of_decide_eq_true (by assumption)
      obtain ⟨ad422, e422, hx422_0, hx422_1, hx422_2⟩ := at_T40 HR0.out x3_1 p422 q422
      cases e422
      replace hx422_0 := (HB.out.cell (World.block_lt_of_cell? w _ hx422_0)).trans hx422_0
      replace hx422_1 := (HB.out.cell (World.block_lt_of_cell? w _ hx422_1)).trans hx422_1
      replace hx422_2 := (HB.out.cell (World.block_lt_of_cell? w _ hx422_2)).trans hx422_2
      replace p422 := eq_true p422
      replace q422 := eq_true q422
      go_wp2
      go_ret
      exact ⟨by first | rfl | (simp [errW_none, errW_some] <;> rfl) | (simp [*, errW_none, errW_some] <;> rfl), by repeat (first | (with_reducible first | exact HB.out | apply below_alloc | apply pw_below_drewN | apply below_drew1) | exact HB.out)⟩
     ·rw [if_neg c4] at H
      have c4b0 : decide (((rd_T40 l0 x3_1).f2) < 1) = false := decide_eq_false c4
      clear c4
      have H' := Aside0.mk H
      clear H
      have p422 : 0 ≤ (x3_1 : Int) := of_decide_eq_true (by assumption)
      have q422 : x3_1 < (l0.length : Int) := of_decide_eq_true (by assumption)
      obtain ⟨ad422, e422, hx422_0, hx422_1, hx422_2⟩ := at_T40 HR0.out x3_1 p422 q422
      cases e422
      replace hx422_0 := (HB.out.cell (World.block_lt_of_cell? w _ hx422_0)).trans hx422_0
      replace hx422_1 := (HB.out.cell (World.block_lt_of_cell? w _ hx422_1)).trans hx422_1
      replace hx422_2 := (HB.out.cell (World.block_lt_of_cell? w _ hx422_2)).trans hx422_2
      replace p422 := eq_true p422
      replace q422 := eq_true q422
      go_wp2
      go_roundg k1
      case measure => have := HK1.out; omega
      case rel => exact ⟨(wrap64 (x3_1 + 1)), (by first | rfl | (simp; done) | (simp [*]; done)), H', ⟨by have := HK1.out; omega⟩, ⟨by repeat (first | (with_reducible first | exact HB.out | apply below_alloc | apply pw_below_drewN | apply below_drew1) | exact HB.out)⟩⟩
    ·rw [if_neg c3] at H
     exact absurd H (by simp)
   ·rw [if_neg c2] at H
    have c2b0 : decide (x3_1 < (l0.length : Int)) = false := decide_eq_false c2
    clear c2
    replace H := Option.bind_eq_some_iff.mp H
    obtain ⟨t423, A50, H⟩ := H
    replace H : (some t423) = some r := H
    have A5 := Aside0.mk A50
    clear A50
    obtain rfl := Option.some.inj H
    go_wp2_with (first | ((with_reducible refine gate_callee (f := 21) rfl ?_); refine gl (some 17) Try.func21 #[.slice A0 l0.length c0] ?_; (with_reducible refine (marchlandref03_Right.calls k1 _ _ l0 t423 _ ?side1 ?side2 A5.out).mono ?_); (case side1 => repeat (first | exact (Kd.C_below HR0.out HB.out) | (with_reducible refine Kd.C_alloc ?_ _) | (with_reducible refine Kd.C_drewN ?_ _) | (with_reducible refine Kd.C_drew ?_))); (case side2 => exact HC0.out); rintro e w6 ⟨rfl, hb⟩; refine ⟨_, rfl, ?_⟩; replace HB := bb HB hb; (try clear hb)))
    go_ret
    exact ⟨by first | rfl | (simp [errW_none, errW_some] <;> rfl) | (simp [*, errW_none, errW_some] <;> rfl), by repeat (first | (with_reducible first | exact HB.out | apply below_alloc | apply pw_below_drewN | apply below_drew1) | exact HB.out)⟩
end Go.Proofs.Ytgeldmhgbnamcaa.P
end
