/- Walks and laws of several statements of this seat, joined into one text; no condition. -/
import Derived.Test.YtgeldmhgbnamcaaProg
import Derived.Below
import Derived.Deep.Draws
import Derived.Deep.AppendLies
import Derived.Maps.AppendAt
import Derived.OwnWalk
import Derived.Laws.BytesArg
import Derived.Laws.MakeOwn
import Derived.Laws.OwnMore
import Derived.Deep.OwnRows
import Derived.Tactics
import Derived.Lib.ConvBytes
import Derived.Laws.Slices
import Derived.WalkKit
import Derived.KernelRfl
import Derived.RowKit3
import Derived.Deep.LoopGhost
import Derived.Deep.QuietTactic
import Derived.BigQuiet
import Derived.WideLaws
import Derived.Deep.DeepCutAuto
import Derived.Deep.CutBlock
import Derived.Deep.RegionHeld3
import Derived.Laws.Rows
import Derived.Lib.AppendStr
import Derived.ArgAppend
import Derived.Laws.IdiomCopy
import Derived.OrdersHeld
import Derived.Laws.BitsLemmas
import Derived.RowKit
import Derived.Laws.StructEq
import Derived.Test.YtgeldmhgbnamcaaYa0
import Derived.Test.YtgeldmhgbnamcaaYa1
section
-- Printed by the session's own turn of the print (wip/tools/print2.sh): some callees are proved by hand.
namespace Go.Proofs.Ytgeldmhgbnamcaa.P
open Go.RowKit Go.Proofs.YtgeldmhgbnamcaaW.PrintWords Go.Proofs.YtgeldmhgbnamcaaW.PrintLast Go.Proofs.YtgeldmhgbnamcaaW.PrintMore
attribute [local go_sem] max2_int min2_int max_two min_two max_three min_three max_four min_four   -- for this text's walks alone
set_option linter.unusedVariables false
set_option linter.unusedSimpArgs false

/-! ### batch_Right: function 20 -/
def batch_Right.l0 : Nat → List (S50) → List (S50) → Int → Int → Option (Bool)
 | 0, _, _, _, _ => none
 | k + 1, x0, x5, x6, x7 => if x7 < x6 then (if 0 ≤ x7 then (if x7 < (x5.length : Int) then ((batch_wrong.f k ((rd_T50 x5 x7).f0) ((rd_T50 x5 x7).f1) ((rd_T50 x5 x7).f2)).bind fun t221 => (if t221 = 0 then (if ((rd_T50 x5 x7).f2) = 0 then (some false) else (if x7 > 0 then (if 0 ≤ (wrap64 (x7 - 1)) then (if (wrap64 (x7 - 1)) < (x0.length : Int) then ((batch_order.f k ((rd_T50 x0 (wrap64 (x7 - 1))).f0) ((rd_T50 x0 (wrap64 (x7 - 1))).f1) ((rd_T50 x0 (wrap64 (x7 - 1))).f2) ((rd_T50 x5 x7).f0) ((rd_T50 x5 x7).f1) ((rd_T50 x5 x7).f2)).bind fun t223 => (if t223 ≥ 0 then (some false) else (batch_Right.l0 k x0 x5 x6 (wrap64 (x7 + 1))))) else (none)) else (none)) else (batch_Right.l0 k x0 x5 x6 (wrap64 (x7 + 1))))) else (some false))) else (none)) else (none)) else (some true)
def batch_Right.f (k : Nat) (l0 : List (S50)) : Option (Bool) := batch_Right.l0 k l0 l0 (l0.length : Int) 0
theorem batch_Right.mono_l : ∀ k, (∀ y0 y1 y2 y3, LeO (batch_Right.l0 k y0 y1 y2 y3) (batch_Right.l0 (k + 1) y0 y1 y2 y3))
 | 0 => fun _ _ _ _ r h => by simp [batch_Right.l0] at h
 | k + 1 => by
  have ih0 := batch_Right.mono_l k
  ·intro y0 y1 y2 y3
   unfold batch_Right.l0
   repeat' first
   | (with_reducible exact ih0 _ _ _ _)
   | (with_reducible exact batch_order.mono _ _ _ _ _ _ _)
   | (with_reducible exact batch_wrong.mono _ _ _ _)
   | (with_reducible exact LeO.refl _)
   | (with_reducible exact LeO.none _)
   | (with_reducible refine LeO.ite ?_ ?_)
   | (with_reducible refine LeO.bind ?_ (fun _ => ?_))
   | exact ih0 _ _ _ _
   | exact batch_order.mono _ _ _ _ _ _ _
   | exact batch_wrong.mono _ _ _ _
   | exact LeO.none _
   | refine LeO.ite ?_ ?_
   | refine LeO.bind ?_ (fun _ => ?_)
theorem batch_Right.mono : ∀ a0 k, LeO (batch_Right.f k a0) (batch_Right.f (k + 1) a0) := by
 intro a0 k
 have ih0 := batch_Right.mono_l k
 unfold batch_Right.f
 repeat' first
   | (with_reducible exact ih0 _ _ _ _)
   | (with_reducible exact batch_order.mono _ _ _ _ _ _ _)
   | (with_reducible exact batch_wrong.mono _ _ _ _)
   | (with_reducible exact LeO.refl _)
   | (with_reducible exact LeO.none _)
   | (with_reducible refine LeO.ite ?_ ?_)
   | (with_reducible refine LeO.bind ?_ (fun _ => ?_))
   | exact ih0 _ _ _ _
   | exact batch_order.mono _ _ _ _ _ _ _
   | exact batch_wrong.mono _ _ _ _
   | exact LeO.none _
   | refine LeO.ite ?_ ?_
   | refine LeO.bind ?_ (fun _ => ?_)
def batch_Right.T4 : Bool × List (List Nat × List Nat) := (true, [([], []), ([0], [0]), ([1], [1]), ([2, 1], [2]), ([3], [3]), ([4, 3], [3, 4]), ([5, 3], [3, 5]), ([3, 6], [3, 6]), ([7, 3], [7]), ([8], [8]), ([9, 8], [8, 9]), ([10, 8, 8], [8, 10]), ([11], [11]), ([11], [11]), ([13, 11], [11, 13]), ([12, 14, 11], [11, 12, 14]), ([15, 11], [11, 15]), ([11], [11]), ([16, 17, 11, 11], [11, 16, 17]), ([18, 11], [11, 18]), ([11, 19, 8], [8, 11, 19]), ([8, 20], [8, 20])])
def batch_Right.B4 : List Nat := [0, 1, 3, 7, 15, 31, 63, 127, 255, 511, 1023, 2047, 4095, 4095, 12287, 32767, 65535, 4095, 262143, 524287, 1048575, 2097151]
theorem batch_Right.tab4 : rtab .any (opsOf Try.f20 4) = batch_Right.T4 := by kernel_rfl
theorem batch_Right.bits4 : waitsOk batch_Right.T4.2 batch_Right.B4 = true := by kernel_rfl
set_option maxHeartbeats 8000000 in
set_option maxRecDepth 100000 in
theorem batch_Right.calls (k : Nat) (A0 : Option Addr) (c0 : Nat) (l0 : List (S50)) (r : Bool) (w : World) (hr0 : Kd.C k50 w A0 l0.length l0) (hc0 : l0.length ≤ c0) (h : batch_Right.f k l0 = some r) :
  Calls Try.prog 20 #[.slice A0 l0.length c0] w fun e w' => e = .returned (.bool r) ∧ Below w.heap.size w w' := by
 have hu50 := Try.underlying50
 have HR0 := Aside0.mk hr0
 have HC0 := Aside0.mk hc0
 clear hr0 hc0
 have HB := Aside0.mk (Below.refl w.heap.size w)
 have H : (batch_Right.l0 k l0 l0 (l0.length : Int) 0) = some r := h
 clear h
 have H' := Aside0.mk H
 clear H
 go_enter Try.func20, Try.ntmps20
 go_wp2
 go_loopg [7] k (fun kq v7 w' => ∃ (x7_1 : Int), v7 = .int .i64 x7_1 ∧ Aside0 (batch_Right.l0 kq l0 l0 (l0.length : Int) x7_1 = some r) ∧ Aside0 (kq ≤ k) ∧ Aside0 (Below w.heap.size w w'))
 case atStart => exact ⟨(0), (by first | rfl | (simp; done) | (simp [*]; done)), H', ⟨Nat.le_refl _⟩, ⟨by repeat (first | (with_reducible first | exact HB.out | apply below_alloc | apply pw_below_drewN | apply below_drew1) | exact HB.out)⟩⟩
 case round =>
  clear H'
  obtain ⟨x7_1, rfl, HA, HK1, HB⟩ := hrel
  cases gk with
  | zero => exact absurd HA.out (by simp [batch_Right.l0])
  | succ k1 =>
   have H := HA.out
   clear HA
   simp only [batch_Right.l0] at H
   by_cases c2 : x7_1 < (l0.length : Int)
   ·rw [if_pos c2] at H
    have c2b0 : decide (x7_1 < (l0.length : Int)) = true := decide_eq_true c2
    clear c2
    by_cases c3 : 0 ≤ x7_1
    ·rw [if_pos c3] at H
     have c3b0 : decide (0 ≤ x7_1) = true := decide_eq_true c3
     clear c3
     by_cases c4 : x7_1 < (l0.length : Int)
     ·rw [if_pos c4] at H
      have c4b0 : decide (x7_1 < (l0.length : Int)) = true := decide_eq_true c4
      clear c4
      replace H := Option.bind_eq_some_iff.mp H
      obtain ⟨t221, A50, H⟩ := H
      replace H : (if t221 = 0 then (if ((rd_T50 l0 x7_1).f2) = 0 then (some false) else (if x7_1 > 0 then (if 0 ≤ (wrap64 (x7_1 - 1)) then (if (wrap64 (x7_1 - 1)) < (l0.length : Int) then ((batch_order.f k1 ((rd_T50 l0 (wrap64 (x7_1 - 1))).f0) ((rd_T50 l0 (wrap64 (x7_1 - 1))).f1) ((rd_T50 l0 (wrap64 (x7_1 - 1))).f2) ((rd_T50 l0 x7_1).f0) ((rd_T50 l0 x7_1).f1) ((rd_T50 l0 x7_1).f2)).bind fun t223 => (if t223 ≥ 0 then (some false) else (batch_Right.l0 k1 l0 l0 (l0.length : Int) (wrap64 (x7_1 + 1))))) else (none)) else (none)) else (batch_Right.l0 k1 l0 l0 (l0.length : Int) (wrap64 (x7_1 + 1))))) else (some false)) = some r := H
      have A5 := Aside0.mk A50
      clear A50
      by_cases c6 : t221 = 0
      ·rw [if_pos c6] at H
       have c6b0 : (t221 == 0) = true := beq_iff_eq.mpr c6
       have c6b1 : (t221 != 0) = false := bne_eq_false_iff_eq.mpr c6
       clear c6
       by_cases c7 : ((rd_T50 l0 x7_1).f2) = 0
       ·rw [if_pos c7] at H
        have c7b0 : (((rd_T50 l0 x7_1).f2) == 0) = true := beq_iff_eq.mpr c7
        have c7b1 : (((rd_T50 l0 x7_1).f2) != 0) = false := bne_eq_false_iff_eq.mpr c7
        clear c7
        obtain rfl := Option.some.inj H
        have p219 : 0 ≤ (x7_1 : Int) := of_decide_eq_true (by first | (with_reducible assumption) | assumption)
        have q219 : x7_1 < (l0.length : Int) := of_decide_eq_true (by first | (with_reducible assumption) | assumption)
        obtain ⟨ad219, e219, hx219_0, hx219_1, hx219_2⟩ := at_T50 HR0.out x7_1 p219 q219
        cases e219
        replace hx219_0 := (HB.out.cell (World.block_lt_of_cell? w _ hx219_0)).trans hx219_0
        replace hx219_1 := (HB.out.cell (World.block_lt_of_cell? w _ hx219_1)).trans hx219_1
        replace hx219_2 := (HB.out.cell (World.block_lt_of_cell? w _ hx219_2)).trans hx219_2
        replace p219 := eq_true p219
        replace q219 := eq_true q219
        try go_wp2_with (first | ((with_reducible refine gate_dst (N := 4) rfl ?_); refine box_event ?hg (N := 4) ?hd (cs := #[.int .i64 0, .int .u64 0, .int .i64 0]) (t := 50) ?hr ?_; (case hd => rfl); (case hg => rfl); (case hr => first | (go_simp; done) | (go_simp; rfl)); intro gb220 hg w8 hbox hb; have n0_ := Aside0.mk (below_step (by repeat (first | (with_reducible first | exact HB.out | apply below_alloc | apply pw_below_drewN | apply below_drew1) | exact HB.out)) hb); have n1_ := Aside0.mk (hbox); have n2_ := Aside0.mk ((by rw [hg]; exact (below_size (by repeat (first | (with_reducible first | exact HB.out | apply below_alloc | apply pw_below_drewN | apply below_drew1) | exact HB.out))) : w.heap.size ≤ gb220)); have n3_ := Aside0.mk ((by rw [hg]; exact (below_size (by repeat (first | (with_reducible first | exact HB.out | apply below_alloc | apply pw_below_drewN | apply below_drew1) | exact HB.out))) : w.heap.size ≤ gb220)); clear HB; have HB := n0_; have BK220 := n1_; have GW220 := n2_; have GE220 := n3_; clear n0_ n1_ n2_ n3_; clear hb hbox hg; have hcz9_0 : w8.cell? ⟨gb220, 0, none⟩ = some (.int .i64 0) := (blk_cell BK220.out 0).trans rfl; have hcz9_1 : w8.cell? ⟨gb220, 1, none⟩ = some (.int .u64 0) := (blk_cell BK220.out 1).trans rfl; have hcz9_2 : w8.cell? ⟨gb220, 2, none⟩ = some (.int .i64 0) := (blk_cell BK220.out 2).trans rfl; have hfz9_0 := blk_frozen BK220.out 0; have hfz9_1 := blk_frozen BK220.out 1; have hfz9_2 := blk_frozen BK220.out 2))
        have n0_ : Aside0 ((((w8.setCell ⟨gb220, 0, none⟩ (.int .i64 ((rd_T50 l0 x7_1).f0))).setCell ⟨gb220, 1, none⟩ (.int .u64 ((rd_T50 l0 x7_1).f1))).setCell ⟨gb220, 2, none⟩ (.int .i64 ((rd_T50 l0 x7_1).f2))).heap[gb220]? = some (.cells #[.int .i64 ((rd_T50 l0 x7_1).f0), .int .u64 ((rd_T50 l0 x7_1).f1), .int .i64 ((rd_T50 l0 x7_1).f2)] 50 (0, 0))) := ⟨by (with_reducible repeat (first | refine blk_drewN ?_ _ | refine blk_drew ?_ | refine blk_alloc ?_ _)); refine blk_put (cs := #[.int .i64 ((rd_T50 l0 x7_1).f0), .int .u64 ((rd_T50 l0 x7_1).f1), .int .i64 0]) ?_ 2 _ rfl; (with_reducible repeat (first | refine blk_drewN ?_ _ | refine blk_drew ?_ | refine blk_alloc ?_ _)); refine blk_put (cs := #[.int .i64 ((rd_T50 l0 x7_1).f0), .int .u64 0, .int .i64 0]) ?_ 1 _ rfl; (with_reducible repeat (first | refine blk_drewN ?_ _ | refine blk_drew ?_ | refine blk_alloc ?_ _)); refine blk_put (cs := #[.int .i64 0, .int .u64 0, .int .i64 0]) ?_ 0 _ rfl; (with_reducible repeat (first | refine blk_drewN ?_ _ | refine blk_drew ?_ | refine blk_alloc ?_ _)); exact BK220.out⟩
        have n1_ : Aside0 (Below w.heap.size w (((w8.setCell ⟨gb220, 0, none⟩ (.int .i64 ((rd_T50 l0 x7_1).f0))).setCell ⟨gb220, 1, none⟩ (.int .u64 ((rd_T50 l0 x7_1).f1))).setCell ⟨gb220, 2, none⟩ (.int .i64 ((rd_T50 l0 x7_1).f2)))) := ⟨by repeat (first | (with_reducible first | exact HB.out | apply below_alloc | apply pw_below_drewN | apply below_drew1 | refine below_set ?_ GE220.out) | exact HB.out)⟩
        (try clear BK220)
        (try clear HB)
        generalize (((w8.setCell ⟨gb220, 0, none⟩ (.int .i64 ((rd_T50 l0 x7_1).f0))).setCell ⟨gb220, 1, none⟩ (.int .u64 ((rd_T50 l0 x7_1).f1))).setCell ⟨gb220, 2, none⟩ (.int .i64 ((rd_T50 l0 x7_1).f2))) = w10 at n0_ n1_ ⊢
        have BK220 := n0_
        have HB := n1_
        clear n0_ n1_
        have n0_ := Aside0.mk (blk_drew BK220.out)
        have n1_ := Aside0.mk (below_drew1 HB.out)
        clear BK220
        clear HB
        have BK220 := n0_
        have HB := n1_
        clear n0_ n1_
        refine start_ (n := 22) (S := fun w' => w'.cell? ⟨gb220, 0, none⟩ = some (.int .i64 ((rd_T50 l0 x7_1).f0)) ∧ w'.cell? ⟨gb220, 1, none⟩ = some (.int .u64 ((rd_T50 l0 x7_1).f1)) ∧ w'.cell? ⟨gb220, 2, none⟩ = some (.int .i64 ((rd_T50 l0 x7_1).f2))) (ds := []) (mk_ 0 22) (by kernel_rfl) rfl rfl ⟨(blk_cell BK220.out 0).trans rfl, (blk_cell BK220.out 1).trans rfl, (blk_cell BK220.out 2).trans rfl⟩ (fun hHeld => ?_); refine with_tabW batch_Right.tab4 batch_Right.bits4 (fun HT_ HW_ => ?_)
        generalize w10.drew = w11 at BK220 HB hHeld ⊢
        refine tv_ 0 12 (mk_ 1 21) HT_ HW_ hHeld (hy := by rintro w' ⟨s0, s1, s2⟩; go_simp; with_reducible rfl) (h := ?_)
        refine one_ (i := 1) (N := some 13) (mk_ 2 20) rfl rfl (one_of HT_.out (by kernel_rfl)) (by decide) (fun K hK => ?_)
        refine goes_ Try.func48 (by kernel_rfl) rfl #[.agg #[.int .i64 ((rd_T50 l0 x7_1).f0), .int .u64 ((rd_T50 l0 x7_1).f1), .int .i64 ((rd_T50 l0 x7_1).f2)]] (by rfl) rfl rfl (by (try simp only [List.map_toArray, List.map_cons, List.map_nil]); first | done | rfl | (simp only [List.length_drop, List.length_take]; rfl)) ?_
        with_reducible refine (batch_wrong.calls k1 ((rd_T50 l0 x7_1).f0) ((rd_T50 l0 x7_1).f1) ((rd_T50 l0 x7_1).f2) t221 _ A5.out).mono ?_
        rintro e w12 ⟨rfl, hb⟩
        refine ⟨_, rfl, ?_⟩
        have n0_ := Aside0.mk (blk_below (g := gb220) (o := .cells #[.int .i64 ((rd_T50 l0 x7_1).f0), .int .u64 ((rd_T50 l0 x7_1).f1), .int .i64 ((rd_T50 l0 x7_1).f2)] 50 (0, 0)) (by (with_reducible repeat (first | refine blk_drewN ?_ _ | refine blk_drew ?_ | refine blk_alloc ?_ _)); exact BK220.out) hb)
        have n1_ := Aside0.mk (below_step (by repeat (first | (with_reducible first | exact HB.out | apply below_alloc | apply pw_below_drewN | apply below_drew1 | refine below_set ?_ GE220.out) | exact HB.out)) hb)
        clear BK220
        clear HB
        have BK220 := n0_
        have HB := n1_
        clear n0_ n1_
        (try clear hb)
        (try clear hb2)
        (try clear hk)
        (try clear hi)
        refine hK.out _ _ ⟨(blk_cell BK220.out 0).trans rfl, (blk_cell BK220.out 1).trans rfl, (blk_cell BK220.out 2).trans rfl⟩ (fun hHeld => ?_)
        clear hK K
        refine norm_ (a' := ?_) ?_ ?_
        rotate_left
        ·show Act.put _ (some 13) _ = _
         simp only [Act.put, List.setIfInBounds_toArray, List.set_cons_zero, List.set_cons_succ, i64_w, i32_w]
         rfl
        refine pv_ 2 14 (mk_ 3 19) HT_ ?_
        refine pv_ 3 15 (mk_ 4 18) HT_ ?_
        refine pv_ 4 16 (mk_ 5 17) HT_ ?_
        refine tv_ 5 17 (mk_ 6 16) HT_ HW_ hHeld (hy := by rintro w' ⟨s0, s1, s2⟩; go_simp; with_reducible rfl) (h := ?_)
        refine pv_ 6 18 (mk_ 7 15) HT_ ?_
        refine pv_ 7 19 (mk_ 8 14) HT_ ?_
        refine pv_ 8 20 (mk_ 9 13) HT_ ?_
        refine pu_ 9 21 (mk_ 10 12) HT_ ?_
        refine pu_ 10 22 (mk_ 11 11) HT_ ?_
        refine pu_ 11 23 (mk_ 12 10) HT_ ?_
        refine pu_ 12 24 (mk_ 13 9) HT_ ?_
        refine pu_ 13 25 (mk_ 14 8) HT_ ?_
        refine pu_ 14 26 (mk_ 15 7) HT_ ?_
        refine pu_ 15 27 (mk_ 16 6) HT_ ?_
        refine pu_ 16 28 (mk_ 17 5) HT_ ?_
        refine pu_ 17 29 (mk_ 18 4) HT_ ?_
        refine pu_ 18 30 (mk_ 19 3) HT_ ?_
        refine pu_ 19 31 (mk_ 20 2) HT_ ?_
        refine pu_ 20 32 (mk_ 21 1) HT_ ?_
        refine pv_ 21 33 (mk_ 22 0) HT_ ?_
        refine done_ (done_of HT_.out (by kernel_rfl)) ?_
        try go_wp2
        go_ret
        exact ⟨by first | rfl | (simp [errW_none, errW_some] <;> rfl) | (simp [*, errW_none, errW_some] <;> rfl), by repeat (first | (with_reducible first | exact HB.out | apply below_alloc | apply pw_below_drewN | apply below_drew1 | refine below_set ?_ GE220.out) | exact HB.out)⟩
       ·rw [if_neg c7] at H
        have c7b0 : (((rd_T50 l0 x7_1).f2) == 0) = false := beq_eq_false_iff_ne.mpr c7
        have c7b1 : (((rd_T50 l0 x7_1).f2) != 0) = true := bne_iff_ne.mpr c7
        by_cases c13 : x7_1 > 0
        ·rw [if_pos c13] at H
         have c13b0 : decide (0 < x7_1) = true := decide_eq_true c13
         clear c13
         obtain ⟨ji14, hji14⟩ : ∃ j_ : Int, (wrap64 (x7_1 - 1)) = j_ := ⟨_, rfl⟩
         replace H : (if 0 ≤ (ji14) then (if (ji14) < (l0.length : Int) then ((batch_order.f k1 ((rd_T50 l0 (ji14)).f0) ((rd_T50 l0 (ji14)).f1) ((rd_T50 l0 (ji14)).f2) ((rd_T50 l0 x7_1).f0) ((rd_T50 l0 x7_1).f1) ((rd_T50 l0 x7_1).f2)).bind fun t223 => (if t223 ≥ 0 then (some false) else (batch_Right.l0 k1 l0 l0 (l0.length : Int) (wrap64 (x7_1 + 1))))) else (none)) else (none)) = some r := by first | (rw [hji14] at H; exact H) | (simp only [hji14] at H ⊢; exact H)
         (try rw [hji14] at A5)
         have hji14w : (IntKind.i64.wrap (x7_1 - 1)) = ji14 := (i64_w _).trans hji14
         by_cases c15 : 0 ≤ (ji14)
         ·rw [if_pos c15] at H
          have c15b0 : decide (0 ≤ (ji14)) = true := decide_eq_true c15
          clear c15
          by_cases c16 : (ji14) < (l0.length : Int)
          ·rw [if_pos c16] at H
           have c16b0 : decide ((ji14) < (l0.length : Int)) = true := decide_eq_true c16
           clear c16
           replace H := Option.bind_eq_some_iff.mp H
           obtain ⟨t223, A170, H⟩ := H
           replace H : (if t223 ≥ 0 then (some false) else (batch_Right.l0 k1 l0 l0 (l0.length : Int) (wrap64 (x7_1 + 1)))) = some r := H
           have A17 := Aside0.mk A170
           clear A170
           by_cases c18 : t223 ≥ 0
           ·rw [if_pos c18] at H
            have c18b0 : decide (0 ≤ t223) = true := decide_eq_true c18
            clear c18
            obtain rfl := Option.some.inj H
            have p219 : 0 ≤ (x7_1 : Int) := of_decide_eq_true (by first | (with_reducible assumption) | assumption)
            have q219 : x7_1 < (l0.length : Int) := of_decide_eq_true (by first | (with_reducible assumption) | assumption)
            obtain ⟨ad219, e219, hx219_0, hx219_1, hx219_2⟩ := at_T50 HR0.out x7_1 p219 q219
            cases e219
            replace hx219_0 := (HB.out.cell (World.block_lt_of_cell? w _ hx219_0)).trans hx219_0
            replace hx219_1 := (HB.out.cell (World.block_lt_of_cell? w _ hx219_1)).trans hx219_1
            replace hx219_2 := (HB.out.cell (World.block_lt_of_cell? w _ hx219_2)).trans hx219_2
            replace p219 := eq_true p219
            replace q219 := eq_true q219
            try go_wp2_with (first | ((with_reducible refine gate_dst (N := 4) rfl ?_); refine box_event ?hg (N := 4) ?hd (cs := #[.int .i64 0, .int .u64 0, .int .i64 0]) (t := 50) ?hr ?_; (case hd => rfl); (case hg => rfl); (case hr => first | (go_simp; done) | (go_simp; rfl)); intro gb220 hg w19 hbox hb; have n0_ := Aside0.mk (below_step (by repeat (first | (with_reducible first | exact HB.out | apply below_alloc | apply pw_below_drewN | apply below_drew1) | exact HB.out)) hb); have n1_ := Aside0.mk (hbox); have n2_ := Aside0.mk ((by rw [hg]; exact (below_size (by repeat (first | (with_reducible first | exact HB.out | apply below_alloc | apply pw_below_drewN | apply below_drew1) | exact HB.out))) : w.heap.size ≤ gb220)); have n3_ := Aside0.mk ((by rw [hg]; exact (below_size (by repeat (first | (with_reducible first | exact HB.out | apply below_alloc | apply pw_below_drewN | apply below_drew1) | exact HB.out))) : w.heap.size ≤ gb220)); clear HB; have HB := n0_; have BK220 := n1_; have GW220 := n2_; have GE220 := n3_; clear n0_ n1_ n2_ n3_; clear hb hbox hg; have hcz20_0 : w19.cell? ⟨gb220, 0, none⟩ = some (.int .i64 0) := (blk_cell BK220.out 0).trans rfl; have hcz20_1 : w19.cell? ⟨gb220, 1, none⟩ = some (.int .u64 0) := (blk_cell BK220.out 1).trans rfl; have hcz20_2 : w19.cell? ⟨gb220, 2, none⟩ = some (.int .i64 0) := (blk_cell BK220.out 2).trans rfl; have hfz20_0 := blk_frozen BK220.out 0; have hfz20_1 := blk_frozen BK220.out 1; have hfz20_2 := blk_frozen BK220.out 2))
            have n0_ : Aside0 ((((w19.setCell ⟨gb220, 0, none⟩ (.int .i64 ((rd_T50 l0 x7_1).f0))).setCell ⟨gb220, 1, none⟩ (.int .u64 ((rd_T50 l0 x7_1).f1))).setCell ⟨gb220, 2, none⟩ (.int .i64 ((rd_T50 l0 x7_1).f2))).heap[gb220]? = some (.cells #[.int .i64 ((rd_T50 l0 x7_1).f0), .int .u64 ((rd_T50 l0 x7_1).f1), .int .i64 ((rd_T50 l0 x7_1).f2)] 50 (0, 0))) := ⟨by (with_reducible repeat (first | refine blk_drewN ?_ _ | refine blk_drew ?_ | refine blk_alloc ?_ _)); refine blk_put (cs := #[.int .i64 ((rd_T50 l0 x7_1).f0), .int .u64 ((rd_T50 l0 x7_1).f1), .int .i64 0]) ?_ 2 _ rfl; (with_reducible repeat (first | refine blk_drewN ?_ _ | refine blk_drew ?_ | refine blk_alloc ?_ _)); refine blk_put (cs := #[.int .i64 ((rd_T50 l0 x7_1).f0), .int .u64 0, .int .i64 0]) ?_ 1 _ rfl; (with_reducible repeat (first | refine blk_drewN ?_ _ | refine blk_drew ?_ | refine blk_alloc ?_ _)); refine blk_put (cs := #[.int .i64 0, .int .u64 0, .int .i64 0]) ?_ 0 _ rfl; (with_reducible repeat (first | refine blk_drewN ?_ _ | refine blk_drew ?_ | refine blk_alloc ?_ _)); exact BK220.out⟩
            have n1_ : Aside0 (Below w.heap.size w (((w19.setCell ⟨gb220, 0, none⟩ (.int .i64 ((rd_T50 l0 x7_1).f0))).setCell ⟨gb220, 1, none⟩ (.int .u64 ((rd_T50 l0 x7_1).f1))).setCell ⟨gb220, 2, none⟩ (.int .i64 ((rd_T50 l0 x7_1).f2)))) := ⟨by repeat (first | (with_reducible first | exact HB.out | apply below_alloc | apply pw_below_drewN | apply below_drew1 | refine below_set ?_ GE220.out) | exact HB.out)⟩
            (try clear BK220)
            (try clear HB)
            generalize (((w19.setCell ⟨gb220, 0, none⟩ (.int .i64 ((rd_T50 l0 x7_1).f0))).setCell ⟨gb220, 1, none⟩ (.int .u64 ((rd_T50 l0 x7_1).f1))).setCell ⟨gb220, 2, none⟩ (.int .i64 ((rd_T50 l0 x7_1).f2))) = w21 at n0_ n1_ ⊢
            have BK220 := n0_
            have HB := n1_
            clear n0_ n1_
            have n0_ := Aside0.mk (blk_drew BK220.out)
            have n1_ := Aside0.mk (below_drew1 HB.out)
            clear BK220
            clear HB
            have BK220 := n0_
            have HB := n1_
            clear n0_ n1_
            have p222 : 0 ≤ ((ji14) : Int) := of_decide_eq_true (by first | (with_reducible assumption) | assumption)
            have q222 : (ji14) < (l0.length : Int) := of_decide_eq_true (by first | (with_reducible assumption) | assumption)
            obtain ⟨ad222, e222, hx222_0, hx222_1, hx222_2⟩ := at_T50 HR0.out (ji14) p222 q222
            have hw222_2 := hx222_2
            have hw222_1 := hx222_1
            have hw222_0 := hx222_0
            obtain rfl : ad219 = ad222 := (by injection e222)
            replace hx222_0 := (HB.out.cell (World.block_lt_of_cell? w _ hx222_0)).trans hx222_0
            replace hx222_1 := (HB.out.cell (World.block_lt_of_cell? w _ hx222_1)).trans hx222_1
            replace hx222_2 := (HB.out.cell (World.block_lt_of_cell? w _ hx222_2)).trans hx222_2
            replace p222 := eq_true p222
            replace q222 := eq_true q222
            refine start_ (n := 22) (S := fun w' => w'.cell? ⟨gb220, 0, none⟩ = some (.int .i64 ((rd_T50 l0 x7_1).f0)) ∧ w'.cell? ⟨gb220, 1, none⟩ = some (.int .u64 ((rd_T50 l0 x7_1).f1)) ∧ w'.cell? ⟨gb220, 2, none⟩ = some (.int .i64 ((rd_T50 l0 x7_1).f2)) ∧ w'.cell? (ad219.add (((ji14)).toNat * 3)) = some (.int .i64 ((rd_T50 l0 (ji14)).f0)) ∧ w'.cell? ⟨(ad219.add (((ji14)).toNat * 3)).block, (ad219.add (((ji14)).toNat * 3)).off + 1, none⟩ = some (.int .u64 ((rd_T50 l0 (ji14)).f1)) ∧ w'.cell? ⟨(ad219.add (((ji14)).toNat * 3)).block, (ad219.add (((ji14)).toNat * 3)).off + 2, none⟩ = some (.int .i64 ((rd_T50 l0 (ji14)).f2))) (ds := []) (mk_ 0 22) (by kernel_rfl) rfl rfl ⟨(blk_cell BK220.out 0).trans rfl, (blk_cell BK220.out 1).trans rfl, (blk_cell BK220.out 2).trans rfl, ((HB.out.cell (World.block_lt_of_cell? w _ hw222_0)).trans hw222_0), ((HB.out.cell (World.block_lt_of_cell? w _ hw222_1)).trans hw222_1), ((HB.out.cell (World.block_lt_of_cell? w _ hw222_2)).trans hw222_2)⟩ (fun hHeld => ?_); refine with_tabW batch_Right.tab4 batch_Right.bits4 (fun HT_ HW_ => ?_)
            generalize w21.drew = w22 at BK220 HB hx222_0 hx222_1 hx222_2 hHeld ⊢
            refine tv_ 0 12 (mk_ 1 21) HT_ HW_ hHeld (hy := by rintro w' ⟨s0, s1, s2, s3, s4, s5⟩; go_simp; with_reducible rfl) (h := ?_)
            refine one_ (i := 1) (N := some 13) (mk_ 2 20) rfl rfl (one_of HT_.out (by kernel_rfl)) (by decide) (fun K hK => ?_)
            refine goes_ Try.func48 (by kernel_rfl) rfl #[.agg #[.int .i64 ((rd_T50 l0 x7_1).f0), .int .u64 ((rd_T50 l0 x7_1).f1), .int .i64 ((rd_T50 l0 x7_1).f2)]] (by rfl) rfl rfl (by (try simp only [List.map_toArray, List.map_cons, List.map_nil]); first | done | rfl | (simp only [List.length_drop, List.length_take]; rfl)) ?_
            with_reducible refine (batch_wrong.calls k1 ((rd_T50 l0 x7_1).f0) ((rd_T50 l0 x7_1).f1) ((rd_T50 l0 x7_1).f2) t221 _ A5.out).mono ?_
            rintro e w23 ⟨rfl, hb⟩
            refine ⟨_, rfl, ?_⟩
            have n0_ := Aside0.mk (blk_below (g := gb220) (o := .cells #[.int .i64 ((rd_T50 l0 x7_1).f0), .int .u64 ((rd_T50 l0 x7_1).f1), .int .i64 ((rd_T50 l0 x7_1).f2)] 50 (0, 0)) (by (with_reducible repeat (first | refine blk_drewN ?_ _ | refine blk_drew ?_ | refine blk_alloc ?_ _)); exact BK220.out) hb)
            have n1_ := Aside0.mk (below_step (by repeat (first | (with_reducible first | exact HB.out | apply below_alloc | apply pw_below_drewN | apply below_drew1 | refine below_set ?_ GE220.out) | exact HB.out)) hb)
            clear BK220
            clear HB
            have BK220 := n0_
            have HB := n1_
            clear n0_ n1_
            (try clear hb)
            (try clear hb2)
            (try clear hk)
            (try clear hi)
            refine hK.out _ _ ⟨(blk_cell BK220.out 0).trans rfl, (blk_cell BK220.out 1).trans rfl, (blk_cell BK220.out 2).trans rfl, ((HB.out.cell (World.block_lt_of_cell? w _ hw222_0)).trans hw222_0), ((HB.out.cell (World.block_lt_of_cell? w _ hw222_1)).trans hw222_1), ((HB.out.cell (World.block_lt_of_cell? w _ hw222_2)).trans hw222_2)⟩ (fun hHeld => ?_)
            clear hK K
            refine norm_ (a' := ?_) ?_ ?_
            rotate_left
            ·show Act.put _ (some 13) _ = _
             simp only [Act.put, List.setIfInBounds_toArray, List.set_cons_zero, List.set_cons_succ, i64_w, i32_w]
             rfl
            refine pv_ 2 14 (mk_ 3 19) HT_ ?_
            refine pv_ 3 15 (mk_ 4 18) HT_ ?_
            refine pv_ 4 16 (mk_ 5 17) HT_ ?_
            refine tv_ 5 17 (mk_ 6 16) HT_ HW_ hHeld (hy := by rintro w' ⟨s0, s1, s2, s3, s4, s5⟩; go_simp; with_reducible rfl) (h := ?_)
            refine pv_ 6 18 (mk_ 7 15) HT_ ?_
            refine pv_ 7 19 (mk_ 8 14) HT_ ?_
            refine pv_ 8 20 (mk_ 9 13) HT_ ?_
            refine pv_ 9 21 (mk_ 10 12) HT_ ?_
            refine pv_ 10 22 (mk_ 11 11) HT_ ?_
            refine pv_ 11 23 (mk_ 12 10) HT_ ?_
            refine pv_ 12 24 (mk_ 13 9) HT_ ?_
            refine pv_ 13 25 (mk_ 14 8) HT_ ?_
            refine pv_ 14 26 (mk_ 15 7) HT_ ?_
            refine pv_ 15 27 (mk_ 16 6) HT_ ?_
            refine tv_ 16 28 (mk_ 17 5) HT_ HW_ hHeld (hy := by rintro w' ⟨s0, s1, s2, s3, s4, s5⟩; go_simp; with_reducible rfl) (h := ?_)
            refine tv_ 17 29 (mk_ 18 4) HT_ HW_ hHeld (hy := by rintro w' ⟨s0, s1, s2, s3, s4, s5⟩; go_simp; with_reducible rfl) (h := ?_)
            refine one_ (i := 18) (N := some 30) (mk_ 19 3) rfl rfl (one_of HT_.out (by kernel_rfl)) (by decide) (fun K hK => ?_)
            refine goes_ Try.func53 (by kernel_rfl) rfl #[.agg #[.int .i64 ((rd_T50 l0 (ji14)).f0), .int .u64 ((rd_T50 l0 (ji14)).f1), .int .i64 ((rd_T50 l0 (ji14)).f2)], .agg #[.int .i64 ((rd_T50 l0 x7_1).f0), .int .u64 ((rd_T50 l0 x7_1).f1), .int .i64 ((rd_T50 l0 x7_1).f2)]] (by rfl) rfl rfl (by (try simp only [List.map_toArray, List.map_cons, List.map_nil]); first | done | (simp only [hji14]; rfl) | rfl | (simp only [List.length_drop, List.length_take]; rfl)) ?_
            with_reducible refine (batch_order.calls k1 ((rd_T50 l0 (ji14)).f0) ((rd_T50 l0 (ji14)).f1) ((rd_T50 l0 (ji14)).f2) ((rd_T50 l0 x7_1).f0) ((rd_T50 l0 x7_1).f1) ((rd_T50 l0 x7_1).f2) t223 _ A17.out).mono ?_
            rintro e w24 ⟨rfl, hb⟩
            refine ⟨_, rfl, ?_⟩
            have n0_ := Aside0.mk (blk_below (g := gb220) (o := .cells #[.int .i64 ((rd_T50 l0 x7_1).f0), .int .u64 ((rd_T50 l0 x7_1).f1), .int .i64 ((rd_T50 l0 x7_1).f2)] 50 (0, 0)) (by (with_reducible repeat (first | refine blk_drewN ?_ _ | refine blk_drew ?_ | refine blk_alloc ?_ _)); exact BK220.out) hb)
            have n1_ := Aside0.mk (below_step (by repeat (first | (with_reducible first | exact HB.out | apply below_alloc | apply pw_below_drewN | apply below_drew1 | refine below_set ?_ GE220.out) | exact HB.out)) hb)
            clear BK220
            clear HB
            have BK220 := n0_
            have HB := n1_
            clear n0_ n1_
            (try clear hb)
            (try clear hb2)
            (try clear hk)
            (try clear hi)
            refine hK.out _ _ ⟨(blk_cell BK220.out 0).trans rfl, (blk_cell BK220.out 1).trans rfl, (blk_cell BK220.out 2).trans rfl, ((HB.out.cell (World.block_lt_of_cell? w _ hw222_0)).trans hw222_0), ((HB.out.cell (World.block_lt_of_cell? w _ hw222_1)).trans hw222_1), ((HB.out.cell (World.block_lt_of_cell? w _ hw222_2)).trans hw222_2)⟩ (fun hHeld => ?_)
            clear hK K
            refine norm_ (a' := ?_) ?_ ?_
            rotate_left
            ·show Act.put _ (some 30) _ = _
             simp only [Act.put, List.setIfInBounds_toArray, List.set_cons_zero, List.set_cons_succ, i64_w, i32_w]
             rfl
            refine pv_ 19 31 (mk_ 20 2) HT_ ?_
            refine pv_ 20 32 (mk_ 21 1) HT_ ?_
            refine pv_ 21 33 (mk_ 22 0) HT_ ?_
            refine done_ (done_of HT_.out (by kernel_rfl)) ?_
            try go_wp2
            go_ret
            exact ⟨by first | rfl | (simp [errW_none, errW_some] <;> rfl) | (simp only [← hji14]; first | rfl | (simp [errW_none, errW_some] <;> rfl)) | (simp [*, errW_none, errW_some] <;> rfl), by repeat (first | (with_reducible first | exact HB.out | apply below_alloc | apply pw_below_drewN | apply below_drew1 | refine below_set ?_ GE220.out) | exact HB.out)⟩
           ·rw [if_neg c18] at H
            have c18b0 : decide (0 ≤ t223) = false := decide_eq_false c18
            clear c18
            have H' := Aside0.mk H
            clear H
            have p219 : 0 ≤ (x7_1 : Int) := of_decide_eq_true (by first | (with_reducible assumption) | assumption)
            have q219 : x7_1 < (l0.length : Int) := of_decide_eq_true (by first | (with_reducible assumption) | assumption)
            obtain ⟨ad219, e219, hx219_0, hx219_1, hx219_2⟩ := at_T50 HR0.out x7_1 p219 q219
            cases e219
            replace hx219_0 := (HB.out.cell (World.block_lt_of_cell? w _ hx219_0)).trans hx219_0
            replace hx219_1 := (HB.out.cell (World.block_lt_of_cell? w _ hx219_1)).trans hx219_1
            replace hx219_2 := (HB.out.cell (World.block_lt_of_cell? w _ hx219_2)).trans hx219_2
            replace p219 := eq_true p219
            replace q219 := eq_true q219
            try go_wp2_with (first | ((with_reducible refine gate_dst (N := 4) rfl ?_); refine box_event ?hg (N := 4) ?hd (cs := #[.int .i64 0, .int .u64 0, .int .i64 0]) (t := 50) ?hr ?_; (case hd => rfl); (case hg => rfl); (case hr => first | (go_simp; done) | (go_simp; rfl)); intro gb220 hg w25 hbox hb; have n0_ := Aside0.mk (below_step (by repeat (first | (with_reducible first | exact HB.out | apply below_alloc | apply pw_below_drewN | apply below_drew1) | exact HB.out)) hb); have n1_ := Aside0.mk (hbox); have n2_ := Aside0.mk ((by rw [hg]; exact (below_size (by repeat (first | (with_reducible first | exact HB.out | apply below_alloc | apply pw_below_drewN | apply below_drew1) | exact HB.out))) : w.heap.size ≤ gb220)); have n3_ := Aside0.mk ((by rw [hg]; exact (below_size (by repeat (first | (with_reducible first | exact HB.out | apply below_alloc | apply pw_below_drewN | apply below_drew1) | exact HB.out))) : w.heap.size ≤ gb220)); clear HB; have HB := n0_; have BK220 := n1_; have GW220 := n2_; have GE220 := n3_; clear n0_ n1_ n2_ n3_; clear hb hbox hg; have hcz26_0 : w25.cell? ⟨gb220, 0, none⟩ = some (.int .i64 0) := (blk_cell BK220.out 0).trans rfl; have hcz26_1 : w25.cell? ⟨gb220, 1, none⟩ = some (.int .u64 0) := (blk_cell BK220.out 1).trans rfl; have hcz26_2 : w25.cell? ⟨gb220, 2, none⟩ = some (.int .i64 0) := (blk_cell BK220.out 2).trans rfl; have hfz26_0 := blk_frozen BK220.out 0; have hfz26_1 := blk_frozen BK220.out 1; have hfz26_2 := blk_frozen BK220.out 2))
            have n0_ : Aside0 ((((w25.setCell ⟨gb220, 0, none⟩ (.int .i64 ((rd_T50 l0 x7_1).f0))).setCell ⟨gb220, 1, none⟩ (.int .u64 ((rd_T50 l0 x7_1).f1))).setCell ⟨gb220, 2, none⟩ (.int .i64 ((rd_T50 l0 x7_1).f2))).heap[gb220]? = some (.cells #[.int .i64 ((rd_T50 l0 x7_1).f0), .int .u64 ((rd_T50 l0 x7_1).f1), .int .i64 ((rd_T50 l0 x7_1).f2)] 50 (0, 0))) := ⟨by (with_reducible repeat (first | refine blk_drewN ?_ _ | refine blk_drew ?_ | refine blk_alloc ?_ _)); refine blk_put (cs := #[.int .i64 ((rd_T50 l0 x7_1).f0), .int .u64 ((rd_T50 l0 x7_1).f1), .int .i64 0]) ?_ 2 _ rfl; (with_reducible repeat (first | refine blk_drewN ?_ _ | refine blk_drew ?_ | refine blk_alloc ?_ _)); refine blk_put (cs := #[.int .i64 ((rd_T50 l0 x7_1).f0), .int .u64 0, .int .i64 0]) ?_ 1 _ rfl; (with_reducible repeat (first | refine blk_drewN ?_ _ | refine blk_drew ?_ | refine blk_alloc ?_ _)); refine blk_put (cs := #[.int .i64 0, .int .u64 0, .int .i64 0]) ?_ 0 _ rfl; (with_reducible repeat (first | refine blk_drewN ?_ _ | refine blk_drew ?_ | refine blk_alloc ?_ _)); exact BK220.out⟩
            have n1_ : Aside0 (Below w.heap.size w (((w25.setCell ⟨gb220, 0, none⟩ (.int .i64 ((rd_T50 l0 x7_1).f0))).setCell ⟨gb220, 1, none⟩ (.int .u64 ((rd_T50 l0 x7_1).f1))).setCell ⟨gb220, 2, none⟩ (.int .i64 ((rd_T50 l0 x7_1).f2)))) := ⟨by repeat (first | (with_reducible first | exact HB.out | apply below_alloc | apply pw_below_drewN | apply below_drew1 | refine below_set ?_ GE220.out) | exact HB.out)⟩
            (try clear BK220)
            (try clear HB)
            generalize (((w25.setCell ⟨gb220, 0, none⟩ (.int .i64 ((rd_T50 l0 x7_1).f0))).setCell ⟨gb220, 1, none⟩ (.int .u64 ((rd_T50 l0 x7_1).f1))).setCell ⟨gb220, 2, none⟩ (.int .i64 ((rd_T50 l0 x7_1).f2))) = w27 at n0_ n1_ ⊢
            have BK220 := n0_
            have HB := n1_
            clear n0_ n1_
            have n0_ := Aside0.mk (blk_drew BK220.out)
            have n1_ := Aside0.mk (below_drew1 HB.out)
            clear BK220
            clear HB
            have BK220 := n0_
            have HB := n1_
            clear n0_ n1_
            have p222 : 0 ≤ ((ji14) : Int) := of_decide_eq_true (by first | (with_reducible assumption) | assumption)
            have q222 : (ji14) < (l0.length : Int) := of_decide_eq_true (by first | (with_reducible assumption) | assumption)
            obtain ⟨ad222, e222, hx222_0, hx222_1, hx222_2⟩ := at_T50 HR0.out (ji14) p222 q222
            have hw222_2 := hx222_2
            have hw222_1 := hx222_1
            have hw222_0 := hx222_0
            obtain rfl : ad219 = ad222 := (by injection e222)
            replace hx222_0 := (HB.out.cell (World.block_lt_of_cell? w _ hx222_0)).trans hx222_0
            replace hx222_1 := (HB.out.cell (World.block_lt_of_cell? w _ hx222_1)).trans hx222_1
            replace hx222_2 := (HB.out.cell (World.block_lt_of_cell? w _ hx222_2)).trans hx222_2
            replace p222 := eq_true p222
            replace q222 := eq_true q222
            refine start_ (n := 22) (S := fun w' => w'.cell? ⟨gb220, 0, none⟩ = some (.int .i64 ((rd_T50 l0 x7_1).f0)) ∧ w'.cell? ⟨gb220, 1, none⟩ = some (.int .u64 ((rd_T50 l0 x7_1).f1)) ∧ w'.cell? ⟨gb220, 2, none⟩ = some (.int .i64 ((rd_T50 l0 x7_1).f2)) ∧ w'.cell? (ad219.add (((ji14)).toNat * 3)) = some (.int .i64 ((rd_T50 l0 (ji14)).f0)) ∧ w'.cell? ⟨(ad219.add (((ji14)).toNat * 3)).block, (ad219.add (((ji14)).toNat * 3)).off + 1, none⟩ = some (.int .u64 ((rd_T50 l0 (ji14)).f1)) ∧ w'.cell? ⟨(ad219.add (((ji14)).toNat * 3)).block, (ad219.add (((ji14)).toNat * 3)).off + 2, none⟩ = some (.int .i64 ((rd_T50 l0 (ji14)).f2))) (ds := []) (mk_ 0 22) (by kernel_rfl) rfl rfl ⟨(blk_cell BK220.out 0).trans rfl, (blk_cell BK220.out 1).trans rfl, (blk_cell BK220.out 2).trans rfl, ((HB.out.cell (World.block_lt_of_cell? w _ hw222_0)).trans hw222_0), ((HB.out.cell (World.block_lt_of_cell? w _ hw222_1)).trans hw222_1), ((HB.out.cell (World.block_lt_of_cell? w _ hw222_2)).trans hw222_2)⟩ (fun hHeld => ?_); refine with_tabW batch_Right.tab4 batch_Right.bits4 (fun HT_ HW_ => ?_)
            generalize w27.drew = w28 at BK220 HB hx222_0 hx222_1 hx222_2 hHeld ⊢
            refine tv_ 0 12 (mk_ 1 21) HT_ HW_ hHeld (hy := by rintro w' ⟨s0, s1, s2, s3, s4, s5⟩; go_simp; with_reducible rfl) (h := ?_)
            refine one_ (i := 1) (N := some 13) (mk_ 2 20) rfl rfl (one_of HT_.out (by kernel_rfl)) (by decide) (fun K hK => ?_)
            refine goes_ Try.func48 (by kernel_rfl) rfl #[.agg #[.int .i64 ((rd_T50 l0 x7_1).f0), .int .u64 ((rd_T50 l0 x7_1).f1), .int .i64 ((rd_T50 l0 x7_1).f2)]] (by rfl) rfl rfl (by (try simp only [List.map_toArray, List.map_cons, List.map_nil]); first | done | rfl | (simp only [List.length_drop, List.length_take]; rfl)) ?_
            with_reducible refine (batch_wrong.calls k1 ((rd_T50 l0 x7_1).f0) ((rd_T50 l0 x7_1).f1) ((rd_T50 l0 x7_1).f2) t221 _ A5.out).mono ?_
            rintro e w29 ⟨rfl, hb⟩
            refine ⟨_, rfl, ?_⟩
            have n0_ := Aside0.mk (blk_below (g := gb220) (o := .cells #[.int .i64 ((rd_T50 l0 x7_1).f0), .int .u64 ((rd_T50 l0 x7_1).f1), .int .i64 ((rd_T50 l0 x7_1).f2)] 50 (0, 0)) (by (with_reducible repeat (first | refine blk_drewN ?_ _ | refine blk_drew ?_ | refine blk_alloc ?_ _)); exact BK220.out) hb)
            have n1_ := Aside0.mk (below_step (by repeat (first | (with_reducible first | exact HB.out | apply below_alloc | apply pw_below_drewN | apply below_drew1 | refine below_set ?_ GE220.out) | exact HB.out)) hb)
            clear BK220
            clear HB
            have BK220 := n0_
            have HB := n1_
            clear n0_ n1_
            (try clear hb)
            (try clear hb2)
            (try clear hk)
            (try clear hi)
            refine hK.out _ _ ⟨(blk_cell BK220.out 0).trans rfl, (blk_cell BK220.out 1).trans rfl, (blk_cell BK220.out 2).trans rfl, ((HB.out.cell (World.block_lt_of_cell? w _ hw222_0)).trans hw222_0), ((HB.out.cell (World.block_lt_of_cell? w _ hw222_1)).trans hw222_1), ((HB.out.cell (World.block_lt_of_cell? w _ hw222_2)).trans hw222_2)⟩ (fun hHeld => ?_)
            clear hK K
            refine norm_ (a' := ?_) ?_ ?_
            rotate_left
            ·show Act.put _ (some 13) _ = _
             simp only [Act.put, List.setIfInBounds_toArray, List.set_cons_zero, List.set_cons_succ, i64_w, i32_w]
             rfl
            refine pv_ 2 14 (mk_ 3 19) HT_ ?_
            refine pv_ 3 15 (mk_ 4 18) HT_ ?_
            refine pv_ 4 16 (mk_ 5 17) HT_ ?_
            refine tv_ 5 17 (mk_ 6 16) HT_ HW_ hHeld (hy := by rintro w' ⟨s0, s1, s2, s3, s4, s5⟩; go_simp; with_reducible rfl) (h := ?_)
            refine pv_ 6 18 (mk_ 7 15) HT_ ?_
            refine pv_ 7 19 (mk_ 8 14) HT_ ?_
            refine pv_ 8 20 (mk_ 9 13) HT_ ?_
            refine pv_ 9 21 (mk_ 10 12) HT_ ?_
            refine pv_ 10 22 (mk_ 11 11) HT_ ?_
            refine pv_ 11 23 (mk_ 12 10) HT_ ?_
            refine pv_ 12 24 (mk_ 13 9) HT_ ?_
            refine pv_ 13 25 (mk_ 14 8) HT_ ?_
            refine pv_ 14 26 (mk_ 15 7) HT_ ?_
            refine pv_ 15 27 (mk_ 16 6) HT_ ?_
            refine tv_ 16 28 (mk_ 17 5) HT_ HW_ hHeld (hy := by rintro w' ⟨s0, s1, s2, s3, s4, s5⟩; go_simp; with_reducible rfl) (h := ?_)
            refine tv_ 17 29 (mk_ 18 4) HT_ HW_ hHeld (hy := by rintro w' ⟨s0, s1, s2, s3, s4, s5⟩; go_simp; with_reducible rfl) (h := ?_)
            refine one_ (i := 18) (N := some 30) (mk_ 19 3) rfl rfl (one_of HT_.out (by kernel_rfl)) (by decide) (fun K hK => ?_)
            refine goes_ Try.func53 (by kernel_rfl) rfl #[.agg #[.int .i64 ((rd_T50 l0 (ji14)).f0), .int .u64 ((rd_T50 l0 (ji14)).f1), .int .i64 ((rd_T50 l0 (ji14)).f2)], .agg #[.int .i64 ((rd_T50 l0 x7_1).f0), .int .u64 ((rd_T50 l0 x7_1).f1), .int .i64 ((rd_T50 l0 x7_1).f2)]] (by rfl) rfl rfl (by (try simp only [List.map_toArray, List.map_cons, List.map_nil]); first | done | (simp only [hji14]; rfl) | rfl | (simp only [List.length_drop, List.length_take]; rfl)) ?_
            with_reducible refine (batch_order.calls k1 ((rd_T50 l0 (ji14)).f0) ((rd_T50 l0 (ji14)).f1) ((rd_T50 l0 (ji14)).f2) ((rd_T50 l0 x7_1).f0) ((rd_T50 l0 x7_1).f1) ((rd_T50 l0 x7_1).f2) t223 _ A17.out).mono ?_
            rintro e w30 ⟨rfl, hb⟩
            refine ⟨_, rfl, ?_⟩
            have n0_ := Aside0.mk (blk_below (g := gb220) (o := .cells #[.int .i64 ((rd_T50 l0 x7_1).f0), .int .u64 ((rd_T50 l0 x7_1).f1), .int .i64 ((rd_T50 l0 x7_1).f2)] 50 (0, 0)) (by (with_reducible repeat (first | refine blk_drewN ?_ _ | refine blk_drew ?_ | refine blk_alloc ?_ _)); exact BK220.out) hb)
            have n1_ := Aside0.mk (below_step (by repeat (first | (with_reducible first | exact HB.out | apply below_alloc | apply pw_below_drewN | apply below_drew1 | refine below_set ?_ GE220.out) | exact HB.out)) hb)
            clear BK220
            clear HB
            have BK220 := n0_
            have HB := n1_
            clear n0_ n1_
            (try clear hb)
            (try clear hb2)
            (try clear hk)
            (try clear hi)
            refine hK.out _ _ ⟨(blk_cell BK220.out 0).trans rfl, (blk_cell BK220.out 1).trans rfl, (blk_cell BK220.out 2).trans rfl, ((HB.out.cell (World.block_lt_of_cell? w _ hw222_0)).trans hw222_0), ((HB.out.cell (World.block_lt_of_cell? w _ hw222_1)).trans hw222_1), ((HB.out.cell (World.block_lt_of_cell? w _ hw222_2)).trans hw222_2)⟩ (fun hHeld => ?_)
            clear hK K
            refine norm_ (a' := ?_) ?_ ?_
            rotate_left
            ·show Act.put _ (some 30) _ = _
             simp only [Act.put, List.setIfInBounds_toArray, List.set_cons_zero, List.set_cons_succ, i64_w, i32_w]
             rfl
            refine pv_ 19 31 (mk_ 20 2) HT_ ?_
            refine pv_ 20 32 (mk_ 21 1) HT_ ?_
            refine pv_ 21 33 (mk_ 22 0) HT_ ?_
            refine done_ (done_of HT_.out (by kernel_rfl)) ?_
            try go_wp2
            go_roundg k1
            case measure => have := HK1.out; omega
            case rel => exact ⟨(wrap64 (x7_1 + 1)), (by first | rfl | (simp; done) | (simp [*]; done)), H', ⟨by have := HK1.out; omega⟩, ⟨by repeat (first | (with_reducible first | exact HB.out | apply below_alloc | apply pw_below_drewN | apply below_drew1 | refine below_set ?_ GE220.out) | exact HB.out)⟩⟩
          ·rw [if_neg c16] at H
           exact absurd H (by simp)
         ·rw [if_neg c15] at H
          exact absurd H (by simp)
        ·rw [if_neg c13] at H
         have c13b0 : decide (0 < x7_1) = false := decide_eq_false c13
         clear c13
         have H' := Aside0.mk H
         clear H
         have p219 : 0 ≤ (x7_1 : Int) := of_decide_eq_true (by first | (with_reducible assumption) | assumption)
         have q219 : x7_1 < (l0.length : Int) := of_decide_eq_true (by first | (with_reducible assumption) | assumption)
         obtain ⟨ad219, e219, hx219_0, hx219_1, hx219_2⟩ := at_T50 HR0.out x7_1 p219 q219
         cases e219
         replace hx219_0 := (HB.out.cell (World.block_lt_of_cell? w _ hx219_0)).trans hx219_0
         replace hx219_1 := (HB.out.cell (World.block_lt_of_cell? w _ hx219_1)).trans hx219_1
         replace hx219_2 := (HB.out.cell (World.block_lt_of_cell? w _ hx219_2)).trans hx219_2
         replace p219 := eq_true p219
         replace q219 := eq_true q219
         try go_wp2_with (first | ((with_reducible refine gate_dst (N := 4) rfl ?_); refine box_event ?hg (N := 4) ?hd (cs := #[.int .i64 0, .int .u64 0, .int .i64 0]) (t := 50) ?hr ?_; (case hd => rfl); (case hg => rfl); (case hr => first | (go_simp; done) | (go_simp; rfl)); intro gb220 hg w31 hbox hb; have n0_ := Aside0.mk (below_step (by repeat (first | (with_reducible first | exact HB.out | apply below_alloc | apply pw_below_drewN | apply below_drew1) | exact HB.out)) hb); have n1_ := Aside0.mk (hbox); have n2_ := Aside0.mk ((by rw [hg]; exact (below_size (by repeat (first | (with_reducible first | exact HB.out | apply below_alloc | apply pw_below_drewN | apply below_drew1) | exact HB.out))) : w.heap.size ≤ gb220)); have n3_ := Aside0.mk ((by rw [hg]; exact (below_size (by repeat (first | (with_reducible first | exact HB.out | apply below_alloc | apply pw_below_drewN | apply below_drew1) | exact HB.out))) : w.heap.size ≤ gb220)); clear HB; have HB := n0_; have BK220 := n1_; have GW220 := n2_; have GE220 := n3_; clear n0_ n1_ n2_ n3_; clear hb hbox hg; have hcz32_0 : w31.cell? ⟨gb220, 0, none⟩ = some (.int .i64 0) := (blk_cell BK220.out 0).trans rfl; have hcz32_1 : w31.cell? ⟨gb220, 1, none⟩ = some (.int .u64 0) := (blk_cell BK220.out 1).trans rfl; have hcz32_2 : w31.cell? ⟨gb220, 2, none⟩ = some (.int .i64 0) := (blk_cell BK220.out 2).trans rfl; have hfz32_0 := blk_frozen BK220.out 0; have hfz32_1 := blk_frozen BK220.out 1; have hfz32_2 := blk_frozen BK220.out 2))
         have n0_ : Aside0 ((((w31.setCell ⟨gb220, 0, none⟩ (.int .i64 ((rd_T50 l0 x7_1).f0))).setCell ⟨gb220, 1, none⟩ (.int .u64 ((rd_T50 l0 x7_1).f1))).setCell ⟨gb220, 2, none⟩ (.int .i64 ((rd_T50 l0 x7_1).f2))).heap[gb220]? = some (.cells #[.int .i64 ((rd_T50 l0 x7_1).f0), .int .u64 ((rd_T50 l0 x7_1).f1), .int .i64 ((rd_T50 l0 x7_1).f2)] 50 (0, 0))) := ⟨by (with_reducible repeat (first | refine blk_drewN ?_ _ | refine blk_drew ?_ | refine blk_alloc ?_ _)); refine blk_put (cs := #[.int .i64 ((rd_T50 l0 x7_1).f0), .int .u64 ((rd_T50 l0 x7_1).f1), .int .i64 0]) ?_ 2 _ rfl; (with_reducible repeat (first | refine blk_drewN ?_ _ | refine blk_drew ?_ | refine blk_alloc ?_ _)); refine blk_put (cs := #[.int .i64 ((rd_T50 l0 x7_1).f0), .int .u64 0, .int .i64 0]) ?_ 1 _ rfl; (with_reducible repeat (first | refine blk_drewN ?_ _ | refine blk_drew ?_ | refine blk_alloc ?_ _)); refine blk_put (cs := #[.int .i64 0, .int .u64 0, .int .i64 0]) ?_ 0 _ rfl; (with_reducible repeat (first | refine blk_drewN ?_ _ | refine blk_drew ?_ | refine blk_alloc ?_ _)); exact BK220.out⟩
         have n1_ : Aside0 (Below w.heap.size w (((w31.setCell ⟨gb220, 0, none⟩ (.int .i64 ((rd_T50 l0 x7_1).f0))).setCell ⟨gb220, 1, none⟩ (.int .u64 ((rd_T50 l0 x7_1).f1))).setCell ⟨gb220, 2, none⟩ (.int .i64 ((rd_T50 l0 x7_1).f2)))) := ⟨by repeat (first | (with_reducible first | exact HB.out | apply below_alloc | apply pw_below_drewN | apply below_drew1 | refine below_set ?_ GE220.out) | exact HB.out)⟩
         (try clear BK220)
         (try clear HB)
         generalize (((w31.setCell ⟨gb220, 0, none⟩ (.int .i64 ((rd_T50 l0 x7_1).f0))).setCell ⟨gb220, 1, none⟩ (.int .u64 ((rd_T50 l0 x7_1).f1))).setCell ⟨gb220, 2, none⟩ (.int .i64 ((rd_T50 l0 x7_1).f2))) = w33 at n0_ n1_ ⊢
         have BK220 := n0_
         have HB := n1_
         clear n0_ n1_
         have n0_ := Aside0.mk (blk_drew BK220.out)
         have n1_ := Aside0.mk (below_drew1 HB.out)
         clear BK220
         clear HB
         have BK220 := n0_
         have HB := n1_
         clear n0_ n1_
         refine start_ (n := 22) (S := fun w' => w'.cell? ⟨gb220, 0, none⟩ = some (.int .i64 ((rd_T50 l0 x7_1).f0)) ∧ w'.cell? ⟨gb220, 1, none⟩ = some (.int .u64 ((rd_T50 l0 x7_1).f1)) ∧ w'.cell? ⟨gb220, 2, none⟩ = some (.int .i64 ((rd_T50 l0 x7_1).f2))) (ds := []) (mk_ 0 22) (by kernel_rfl) rfl rfl ⟨(blk_cell BK220.out 0).trans rfl, (blk_cell BK220.out 1).trans rfl, (blk_cell BK220.out 2).trans rfl⟩ (fun hHeld => ?_); refine with_tabW batch_Right.tab4 batch_Right.bits4 (fun HT_ HW_ => ?_)
         generalize w33.drew = w34 at BK220 HB hHeld ⊢
         refine tv_ 0 12 (mk_ 1 21) HT_ HW_ hHeld (hy := by rintro w' ⟨s0, s1, s2⟩; go_simp; with_reducible rfl) (h := ?_)
         refine one_ (i := 1) (N := some 13) (mk_ 2 20) rfl rfl (one_of HT_.out (by kernel_rfl)) (by decide) (fun K hK => ?_)
         refine goes_ Try.func48 (by kernel_rfl) rfl #[.agg #[.int .i64 ((rd_T50 l0 x7_1).f0), .int .u64 ((rd_T50 l0 x7_1).f1), .int .i64 ((rd_T50 l0 x7_1).f2)]] (by rfl) rfl rfl (by (try simp only [List.map_toArray, List.map_cons, List.map_nil]); first | done | rfl | (simp only [List.length_drop, List.length_take]; rfl)) ?_
         with_reducible refine (batch_wrong.calls k1 ((rd_T50 l0 x7_1).f0) ((rd_T50 l0 x7_1).f1) ((rd_T50 l0 x7_1).f2) t221 _ A5.out).mono ?_
         rintro e w35 ⟨rfl, hb⟩
         refine ⟨_, rfl, ?_⟩
         have n0_ := Aside0.mk (blk_below (g := gb220) (o := .cells #[.int .i64 ((rd_T50 l0 x7_1).f0), .int .u64 ((rd_T50 l0 x7_1).f1), .int .i64 ((rd_T50 l0 x7_1).f2)] 50 (0, 0)) (by (with_reducible repeat (first | refine blk_drewN ?_ _ | refine blk_drew ?_ | refine blk_alloc ?_ _)); exact BK220.out) hb)
         have n1_ := Aside0.mk (below_step (by repeat (first | (with_reducible first | exact HB.out | apply below_alloc | apply pw_below_drewN | apply below_drew1 | refine below_set ?_ GE220.out) | exact HB.out)) hb)
         clear BK220
         clear HB
         have BK220 := n0_
         have HB := n1_
         clear n0_ n1_
         (try clear hb)
         (try clear hb2)
         (try clear hk)
         (try clear hi)
         refine hK.out _ _ ⟨(blk_cell BK220.out 0).trans rfl, (blk_cell BK220.out 1).trans rfl, (blk_cell BK220.out 2).trans rfl⟩ (fun hHeld => ?_)
         clear hK K
         refine norm_ (a' := ?_) ?_ ?_
         rotate_left
         ·show Act.put _ (some 13) _ = _
          simp only [Act.put, List.setIfInBounds_toArray, List.set_cons_zero, List.set_cons_succ, i64_w, i32_w]
          rfl
         refine pv_ 2 14 (mk_ 3 19) HT_ ?_
         refine pv_ 3 15 (mk_ 4 18) HT_ ?_
         refine pv_ 4 16 (mk_ 5 17) HT_ ?_
         refine tv_ 5 17 (mk_ 6 16) HT_ HW_ hHeld (hy := by rintro w' ⟨s0, s1, s2⟩; go_simp; with_reducible rfl) (h := ?_)
         refine pv_ 6 18 (mk_ 7 15) HT_ ?_
         refine pv_ 7 19 (mk_ 8 14) HT_ ?_
         refine pv_ 8 20 (mk_ 9 13) HT_ ?_
         refine pv_ 9 21 (mk_ 10 12) HT_ ?_
         refine pv_ 10 22 (mk_ 11 11) HT_ ?_
         refine pv_ 11 23 (mk_ 12 10) HT_ ?_
         refine pu_ 12 24 (mk_ 13 9) HT_ ?_
         refine pu_ 13 25 (mk_ 14 8) HT_ ?_
         refine pu_ 14 26 (mk_ 15 7) HT_ ?_
         refine pu_ 15 27 (mk_ 16 6) HT_ ?_
         refine pu_ 16 28 (mk_ 17 5) HT_ ?_
         refine pu_ 17 29 (mk_ 18 4) HT_ ?_
         refine pu_ 18 30 (mk_ 19 3) HT_ ?_
         refine pu_ 19 31 (mk_ 20 2) HT_ ?_
         refine pv_ 20 32 (mk_ 21 1) HT_ ?_
         refine pv_ 21 33 (mk_ 22 0) HT_ ?_
         refine done_ (done_of HT_.out (by kernel_rfl)) ?_
         try go_wp2
         go_roundg k1
         case measure => have := HK1.out; omega
         case rel => exact ⟨(wrap64 (x7_1 + 1)), (by first | rfl | (simp; done) | (simp [*]; done)), H', ⟨by have := HK1.out; omega⟩, ⟨by repeat (first | (with_reducible first | exact HB.out | apply below_alloc | apply pw_below_drewN | apply below_drew1 | refine below_set ?_ GE220.out) | exact HB.out)⟩⟩
      ·rw [if_neg c6] at H
       have c6b0 : (t221 == 0) = false := beq_eq_false_iff_ne.mpr c6
       have c6b1 : (t221 != 0) = true := bne_iff_ne.mpr c6
       obtain rfl := Option.some.inj H
       have p219 : 0 ≤ (x7_1 : Int) := of_decide_eq_true (by first | (with_reducible assumption) | assumption)
       have q219 : x7_1 < (l0.length : Int) := of_decide_eq_true (by first | (with_reducible assumption) | assumption)
       obtain ⟨ad219, e219, hx219_0, hx219_1, hx219_2⟩ := at_T50 HR0.out x7_1 p219 q219
       cases e219
       replace hx219_0 := (HB.out.cell (World.block_lt_of_cell? w _ hx219_0)).trans hx219_0
       replace hx219_1 := (HB.out.cell (World.block_lt_of_cell? w _ hx219_1)).trans hx219_1
       replace hx219_2 := (HB.out.cell (World.block_lt_of_cell? w _ hx219_2)).trans hx219_2
       replace p219 := eq_true p219
       replace q219 := eq_true q219
       try go_wp2_with (first | ((with_reducible refine gate_dst (N := 4) rfl ?_); refine box_event ?hg (N := 4) ?hd (cs := #[.int .i64 0, .int .u64 0, .int .i64 0]) (t := 50) ?hr ?_; (case hd => rfl); (case hg => rfl); (case hr => first | (go_simp; done) | (go_simp; rfl)); intro gb220 hg w36 hbox hb; have n0_ := Aside0.mk (below_step (by repeat (first | (with_reducible first | exact HB.out | apply below_alloc | apply pw_below_drewN | apply below_drew1) | exact HB.out)) hb); have n1_ := Aside0.mk (hbox); have n2_ := Aside0.mk ((by rw [hg]; exact (below_size (by repeat (first | (with_reducible first | exact HB.out | apply below_alloc | apply pw_below_drewN | apply below_drew1) | exact HB.out))) : w.heap.size ≤ gb220)); have n3_ := Aside0.mk ((by rw [hg]; exact (below_size (by repeat (first | (with_reducible first | exact HB.out | apply below_alloc | apply pw_below_drewN | apply below_drew1) | exact HB.out))) : w.heap.size ≤ gb220)); clear HB; have HB := n0_; have BK220 := n1_; have GW220 := n2_; have GE220 := n3_; clear n0_ n1_ n2_ n3_; clear hb hbox hg; have hcz37_0 : w36.cell? ⟨gb220, 0, none⟩ = some (.int .i64 0) := (blk_cell BK220.out 0).trans rfl; have hcz37_1 : w36.cell? ⟨gb220, 1, none⟩ = some (.int .u64 0) := (blk_cell BK220.out 1).trans rfl; have hcz37_2 : w36.cell? ⟨gb220, 2, none⟩ = some (.int .i64 0) := (blk_cell BK220.out 2).trans rfl; have hfz37_0 := blk_frozen BK220.out 0; have hfz37_1 := blk_frozen BK220.out 1; have hfz37_2 := blk_frozen BK220.out 2))
       have n0_ : Aside0 ((((w36.setCell ⟨gb220, 0, none⟩ (.int .i64 ((rd_T50 l0 x7_1).f0))).setCell ⟨gb220, 1, none⟩ (.int .u64 ((rd_T50 l0 x7_1).f1))).setCell ⟨gb220, 2, none⟩ (.int .i64 ((rd_T50 l0 x7_1).f2))).heap[gb220]? = some (.cells #[.int .i64 ((rd_T50 l0 x7_1).f0), .int .u64 ((rd_T50 l0 x7_1).f1), .int .i64 ((rd_T50 l0 x7_1).f2)] 50 (0, 0))) := ⟨by (with_reducible repeat (first | refine blk_drewN ?_ _ | refine blk_drew ?_ | refine blk_alloc ?_ _)); refine blk_put (cs := #[.int .i64 ((rd_T50 l0 x7_1).f0), .int .u64 ((rd_T50 l0 x7_1).f1), .int .i64 0]) ?_ 2 _ rfl; (with_reducible repeat (first | refine blk_drewN ?_ _ | refine blk_drew ?_ | refine blk_alloc ?_ _)); refine blk_put (cs := #[.int .i64 ((rd_T50 l0 x7_1).f0), .int .u64 0, .int .i64 0]) ?_ 1 _ rfl; (with_reducible repeat (first | refine blk_drewN ?_ _ | refine blk_drew ?_ | refine blk_alloc ?_ _)); refine blk_put (cs := #[.int .i64 0, .int .u64 0, .int .i64 0]) ?_ 0 _ rfl; (with_reducible repeat (first | refine blk_drewN ?_ _ | refine blk_drew ?_ | refine blk_alloc ?_ _)); exact BK220.out⟩
       have n1_ : Aside0 (Below w.heap.size w (((w36.setCell ⟨gb220, 0, none⟩ (.int .i64 ((rd_T50 l0 x7_1).f0))).setCell ⟨gb220, 1, none⟩ (.int .u64 ((rd_T50 l0 x7_1).f1))).setCell ⟨gb220, 2, none⟩ (.int .i64 ((rd_T50 l0 x7_1).f2)))) := ⟨by repeat (first | (with_reducible first | exact HB.out | apply below_alloc | apply pw_below_drewN | apply below_drew1 | refine below_set ?_ GE220.out) | exact HB.out)⟩
       (try clear BK220)
       (try clear HB)
       generalize (((w36.setCell ⟨gb220, 0, none⟩ (.int .i64 ((rd_T50 l0 x7_1).f0))).setCell ⟨gb220, 1, none⟩ (.int .u64 ((rd_T50 l0 x7_1).f1))).setCell ⟨gb220, 2, none⟩ (.int .i64 ((rd_T50 l0 x7_1).f2))) = w38 at n0_ n1_ ⊢
       have BK220 := n0_
       have HB := n1_
       clear n0_ n1_
       have n0_ := Aside0.mk (blk_drew BK220.out)
       have n1_ := Aside0.mk (below_drew1 HB.out)
       clear BK220
       clear HB
       have BK220 := n0_
       have HB := n1_
       clear n0_ n1_
       refine start_ (n := 22) (S := fun w' => w'.cell? ⟨gb220, 0, none⟩ = some (.int .i64 ((rd_T50 l0 x7_1).f0)) ∧ w'.cell? ⟨gb220, 1, none⟩ = some (.int .u64 ((rd_T50 l0 x7_1).f1)) ∧ w'.cell? ⟨gb220, 2, none⟩ = some (.int .i64 ((rd_T50 l0 x7_1).f2))) (ds := []) (mk_ 0 22) (by kernel_rfl) rfl rfl ⟨(blk_cell BK220.out 0).trans rfl, (blk_cell BK220.out 1).trans rfl, (blk_cell BK220.out 2).trans rfl⟩ (fun hHeld => ?_); refine with_tabW batch_Right.tab4 batch_Right.bits4 (fun HT_ HW_ => ?_)
       generalize w38.drew = w39 at BK220 HB hHeld ⊢
       refine tv_ 0 12 (mk_ 1 21) HT_ HW_ hHeld (hy := by rintro w' ⟨s0, s1, s2⟩; go_simp; with_reducible rfl) (h := ?_)
       refine one_ (i := 1) (N := some 13) (mk_ 2 20) rfl rfl (one_of HT_.out (by kernel_rfl)) (by decide) (fun K hK => ?_)
       refine goes_ Try.func48 (by kernel_rfl) rfl #[.agg #[.int .i64 ((rd_T50 l0 x7_1).f0), .int .u64 ((rd_T50 l0 x7_1).f1), .int .i64 ((rd_T50 l0 x7_1).f2)]] (by rfl) rfl rfl (by (try simp only [List.map_toArray, List.map_cons, List.map_nil]); first | done | rfl | (simp only [List.length_drop, List.length_take]; rfl)) ?_
       with_reducible refine (batch_wrong.calls k1 ((rd_T50 l0 x7_1).f0) ((rd_T50 l0 x7_1).f1) ((rd_T50 l0 x7_1).f2) t221 _ A5.out).mono ?_
       rintro e w40 ⟨rfl, hb⟩
       refine ⟨_, rfl, ?_⟩
       have n0_ := Aside0.mk (blk_below (g := gb220) (o := .cells #[.int .i64 ((rd_T50 l0 x7_1).f0), .int .u64 ((rd_T50 l0 x7_1).f1), .int .i64 ((rd_T50 l0 x7_1).f2)] 50 (0, 0)) (by (with_reducible repeat (first | refine blk_drewN ?_ _ | refine blk_drew ?_ | refine blk_alloc ?_ _)); exact BK220.out) hb)
       have n1_ := Aside0.mk (below_step (by repeat (first | (with_reducible first | exact HB.out | apply below_alloc | apply pw_below_drewN | apply below_drew1 | refine below_set ?_ GE220.out) | exact HB.out)) hb)
       clear BK220
       clear HB
       have BK220 := n0_
       have HB := n1_
       clear n0_ n1_
       (try clear hb)
       (try clear hb2)
       (try clear hk)
       (try clear hi)
       refine hK.out _ _ ⟨(blk_cell BK220.out 0).trans rfl, (blk_cell BK220.out 1).trans rfl, (blk_cell BK220.out 2).trans rfl⟩ (fun hHeld => ?_)
       clear hK K
       refine norm_ (a' := ?_) ?_ ?_
       rotate_left
       ·show Act.put _ (some 13) _ = _
        simp only [Act.put, List.setIfInBounds_toArray, List.set_cons_zero, List.set_cons_succ, i64_w, i32_w]
        rfl
       refine pv_ 2 14 (mk_ 3 19) HT_ ?_
       refine pv_ 3 15 (mk_ 4 18) HT_ ?_
       refine pu_ 4 16 (mk_ 5 17) HT_ ?_
       refine pu_ 5 17 (mk_ 6 16) HT_ ?_
       refine pu_ 6 18 (mk_ 7 15) HT_ ?_
       refine pv_ 7 19 (mk_ 8 14) HT_ ?_
       refine pv_ 8 20 (mk_ 9 13) HT_ ?_
       refine pu_ 9 21 (mk_ 10 12) HT_ ?_
       refine pu_ 10 22 (mk_ 11 11) HT_ ?_
       refine pu_ 11 23 (mk_ 12 10) HT_ ?_
       refine pu_ 12 24 (mk_ 13 9) HT_ ?_
       refine pu_ 13 25 (mk_ 14 8) HT_ ?_
       refine pu_ 14 26 (mk_ 15 7) HT_ ?_
       refine pu_ 15 27 (mk_ 16 6) HT_ ?_
       refine pu_ 16 28 (mk_ 17 5) HT_ ?_
       refine pu_ 17 29 (mk_ 18 4) HT_ ?_
       refine pu_ 18 30 (mk_ 19 3) HT_ ?_
       refine pu_ 19 31 (mk_ 20 2) HT_ ?_
       refine pu_ 20 32 (mk_ 21 1) HT_ ?_
       refine pv_ 21 33 (mk_ 22 0) HT_ ?_
       refine done_ (done_of HT_.out (by kernel_rfl)) ?_
       try go_wp2
       go_ret
       exact ⟨by first | rfl | (simp [errW_none, errW_some] <;> rfl) | (simp [*, errW_none, errW_some] <;> rfl), by repeat (first | (with_reducible first | exact HB.out | apply below_alloc | apply pw_below_drewN | apply below_drew1 | refine below_set ?_ GE220.out) | exact HB.out)⟩
     ·rw [if_neg c4] at H
      exact absurd H (by simp)
    ·rw [if_neg c3] at H
     exact absurd H (by simp)
   ·rw [if_neg c2] at H
    have c2b0 : decide (x7_1 < (l0.length : Int)) = false := decide_eq_false c2
    clear c2
    obtain rfl := Option.some.inj H
    go_wp2
    go_ret
    exact ⟨by first | rfl | (simp [errW_none, errW_some] <;> rfl) | (simp [*, errW_none, errW_some] <;> rfl), by repeat (first | (with_reducible first | exact HB.out | apply below_alloc | apply pw_below_drewN | apply below_drew1) | exact HB.out)⟩

end Go.Proofs.Ytgeldmhgbnamcaa.P
end
section
namespace Go.Proofs.Ytgeldmhgbnamcaa.P
open Go.RowKit Go.Proofs.YtgeldmhgbnamcaaW.PrintWords Go.Proofs.YtgeldmhgbnamcaaW.PrintLast Go.Proofs.YtgeldmhgbnamcaaW.PrintMore
set_option linter.unusedVariables false
set_option linter.unusedSimpArgs false
/-- The first place at which p holds, or -1. -/
def idxOf {α : Type} (p : α → Bool) (l : List α) : Int := match l.findIdx? p with | some i => (i : Int) | none => -1
theorem idxOf_any {α : Type} (p : α → Bool) (l : List α) : decide (idxOf p l ≥ 0) = l.any p := by
 unfold idxOf
 cases h : l.findIdx? p with
 | none =>
  have h1 := List.findIdx?_eq_none_iff.1 h
  have : l.any p = false := by
   rw [List.any_eq_false]
   intro x hx
   simpa using h1 x hx
  rw [this]
  decide
 | some i =>
  obtain ⟨hi, h1⟩ := List.findIdx?_eq_some_iff_getElem.1 h
  have h2 : l.any p = true := List.any_eq_true.2 ⟨l[i], List.getElem_mem _, h1.1⟩
  rw [h2]
  show decide ((i : Int) ≥ 0) = true
  exact decide_eq_true (by omega)
theorem idxOf_at {α : Type} (p : α → Bool) (l : List α) (d : α) (i : Nat) (hi : i < l.length) (h : p (l.getD i d) = true) (hb : ∀ j, j < i → p (l.getD j d) = false) : idxOf p l = (i : Int) := by
 unfold idxOf
 have : l.findIdx? p = some i := by
  rw [List.findIdx?_eq_some_iff_getElem]
  refine ⟨hi, ⟨by simpa [List.getD, hi] using h, fun j hj => ?_⟩⟩
  have := hb j hj
  simp [List.getD, show j < l.length by omega] at this
  simp [this]
 rw [this]
theorem idxOf_no {α : Type} (p : α → Bool) (l : List α) (d : α) (hb : ∀ j, j < l.length → p (l.getD j d) = false) : idxOf p l = -1 := by
 unfold idxOf
 have : l.findIdx? p = none := by
  rw [List.findIdx?_eq_none_iff]
  intro x hx
  obtain ⟨j, hj, rfl⟩ := List.getElem_of_mem hx
  have := hb j hj
  simpa [List.getD, hj] using this
 rw [this]
set_option maxHeartbeats 1000000 in
set_option maxRecDepth 100000 in
theorem indexFunc_calls (g : FuncId) (lb : Array Value) (p : S50 → Bool) (he : ∀ (args : Array Value) (w : World), (callFunc g args).run Try.prog w = .ok (.enter g args) w) (A0 : Option Addr) (c0 : Nat) (l0 : List S50) (w : World) (hr0 : Kd.C k50 w A0 l0.length l0)
  (hp : ∀ W : World, Below w.heap.size w W → ∀ x : S50, x ∈ l0 → Calls Try.prog g (#[.agg #[.int .i64 x.f0, .int .u64 x.f1, .int .i64 x.f2]] ++ lb) W fun e w' => e = .returned (.bool (p x)) ∧ Below W.heap.size W w') :
  Calls Try.prog 79 #[.slice A0 l0.length c0, .func (.func g) #[] lb] w fun e w' => e = .returned (.int .i64 (idxOf p l0)) ∧ Below w.heap.size w w' := by
 have HR := Aside0.mk hr0
 have HP := Aside0.mk hp
 have hm := hr0.2.1
 clear hr0 hp
 go_enter Try.func79, Try.ntmps79
 go_wp2
 go_loopw [8] (fun v8 wr => ∃ i : Int, v8 = .int .i64 i ∧ Aside0 (0 ≤ i ∧ i ≤ l0.length ∧ ∀ j : Nat, (j : Int) < i → p (l0.getD j z50) = false) ∧ Aside0 (Below w.heap.size w wr)) (fun v8 _ => l0.length - (intOf v8).toNat)
 case atStart => exact ⟨0, rfl, ⟨by omega, by omega, fun j hj => by omega⟩, ⟨Below.refl _ _⟩⟩
 case round =>
  obtain ⟨i, rfl, HI, HB⟩ := hrel
  have h0 := HI.out.1
  have h1 := HI.out.2.1
  by_cases hlt : i < (l0.length : Int)
  ·obtain ⟨ad, rfl, hx0, hx1, hx2⟩ := at_T50 (Kd.C_below HR.out HB.out) i h0 hlt
   have hmem : (rd_T50 l0 i) ∈ l0 := by
    unfold rd_T50
    rw [List.getD_eq_getElem?_getD, List.getElem?_eq_getElem (by omega)]
    exact List.getElem_mem _
   have HC := Aside0.mk (HP.out wr HB.out (rd_T50 l0 i) hmem)
   clear hmem
   cases hpx : p (rd_T50 l0 i) with
   | true =>
    have HX := Aside0.mk hpx
    rw [hpx] at HC
    clear hpx
    go_wp2_with (first | ((with_reducible refine HC.out.mono ?_); rintro e w3 ⟨rfl, hb⟩; have HB3 := Aside0.mk (below_step HB.out hb); clear hb))
    go_ret
    have e1 : idxOf p l0 = i := by rw [idxOf_at p l0 z50 i.toNat (by omega) HX.out (fun j hj => HI.out.2.2 j (by omega))]; exact Int.toNat_of_nonneg h0
    exact ⟨by rw [e1]; rfl, HB3.out⟩
   | false =>
    have HX := Aside0.mk hpx
    rw [hpx] at HC
    clear hpx
    go_wp2_with (first | ((with_reducible refine HC.out.mono ?_); rintro e w3 ⟨rfl, hb⟩; have HB3 := Aside0.mk (below_step HB.out hb); clear hb))
    go_roundw
    case rel =>
     refine ⟨i + 1, by go_num, ⟨by omega, by omega, fun j hj => ?_⟩, ⟨HB3.out⟩⟩
     by_cases hj2 : (j : Int) < i
     ·exact HI.out.2.2 j hj2
     ·obtain rfl : j = i.toNat := by omega
      exact HX.out
    case measure => simp [intOf]; omega
  ·go_wp2
   go_ret
   exact ⟨by rw [idxOf_no p l0 z50 (fun j hj => HI.out.2.2 j (by omega))]; rfl, HB.out⟩
set_option maxHeartbeats 400000 in
theorem containsFunc_calls (g : FuncId) (lb : Array Value) (p : S50 → Bool) (he : ∀ (args : Array Value) (w : World), (callFunc g args).run Try.prog w = .ok (.enter g args) w) (A0 : Option Addr) (c0 : Nat) (l0 : List S50) (w : World) (hr0 : Kd.C k50 w A0 l0.length l0)
  (hp : ∀ W : World, Below w.heap.size w W → ∀ x : S50, x ∈ l0 → Calls Try.prog g (#[.agg #[.int .i64 x.f0, .int .u64 x.f1, .int .i64 x.f2]] ++ lb) W fun e w' => e = .returned (.bool (p x)) ∧ Below W.heap.size W w') :
  Calls Try.prog 59 #[.slice A0 l0.length c0, .func (.func g) #[] lb] w fun e w' => e = .returned (.bool (l0.any p)) ∧ Below w.heap.size w w' := by
 have HC := Aside0.mk (indexFunc_calls g lb p he A0 c0 l0 w hr0 hp)
 clear hr0 hp he
 have HA := Aside0.mk (idxOf_any p l0)
 generalize hq : idxOf p l0 = q at HC HA
 clear hq
 go_enter Try.func59, Try.ntmps59
 go_wp2_with (first | (go_at_call 79; refine HC.out.mono ?_; rintro e w3 ⟨rfl, hb⟩; have HB3 := Aside0.mk hb; clear hb))
 go_ret
 exact ⟨by rw [← HA.out]; rfl, HB3.out⟩
def slices_ContainsNone.f (l0 : List S50) : Option Bool := some (l0.any fun x => decide (x.f2 ≤ 0))
set_option maxHeartbeats 400000 in
theorem none_calls (x : S50) (W : World) : Calls Try.prog 61 (#[.agg #[.int .i64 x.f0, .int .u64 x.f1, .int .i64 x.f2]] ++ #[]) W fun e w' => e = .returned (.bool (decide (x.f2 ≤ 0))) ∧ Below W.heap.size W w' := by
 show Calls Try.prog 61 #[.agg #[.int .i64 x.f0, .int .u64 x.f1, .int .i64 x.f2]] W _
 go_enter Try.func61, Try.ntmps61
 go_wp2
 go_ret
 exact ⟨rfl, (Below.refl _ _).alloc (Nat.le_refl _) _⟩
theorem slices_ContainsNone.calls (A0 : Option Addr) (c0 : Nat) (l0 : List S50) (r : Bool) (w : World) (hr0 : Kd.C k50 w A0 l0.length l0) (hc0 : l0.length ≤ c0) (h : slices_ContainsNone.f l0 = some r) :
  Calls Try.prog 59 #[.slice A0 l0.length c0, .func (.func 61) #[] #[]] w fun e w' => e = .returned (.bool r) ∧ Below w.heap.size w w' := by
 obtain rfl := Option.some.inj h
 exact containsFunc_calls 61 #[] _ (fun args w => enters_ Try.func61 (by kernel_rfl) rfl args w) A0 c0 l0 w hr0 (fun W _ x _ => none_calls x W)
end Go.Proofs.Ytgeldmhgbnamcaa.P
end
section
-- Printed by the session's own turn of the print (wip/tools/print2.sh): some callees are proved by hand.
namespace Go.Proofs.Ytgeldmhgbnamcaa.P
open Go.RowKit Go.Proofs.YtgeldmhgbnamcaaW.PrintWords Go.Proofs.YtgeldmhgbnamcaaW.PrintLast Go.Proofs.YtgeldmhgbnamcaaW.PrintMore
attribute [local go_sem] max2_int min2_int max_two min_two max_three min_three max_four min_four   -- for this text's walks alone
set_option linter.unusedVariables false
set_option linter.unusedSimpArgs false

/-! ### bag_Right: function 33 -/
def bag_Right.f (k : Nat) (l0 : List (S50)) : Option (Bool) := (batch_Right.f k l0).bind fun t393 => (if t393 = true then ((slices_ContainsNone.f l0).bind fun t394 => (some (!t394))) else (some false))
theorem bag_Right.mono : ∀ a0 k, LeO (bag_Right.f k a0) (bag_Right.f (k + 1) a0) := by
 intro a0 k
 unfold bag_Right.f
 repeat' first
   | (with_reducible exact batch_Right.mono _ _)
   | (with_reducible exact LeO.refl _)
   | (with_reducible exact LeO.none _)
   | (with_reducible refine LeO.ite ?_ ?_)
   | (with_reducible refine LeO.bind ?_ (fun _ => ?_))
   | exact batch_Right.mono _ _
   | exact LeO.none _
   | refine LeO.ite ?_ ?_
   | refine LeO.bind ?_ (fun _ => ?_)
set_option maxHeartbeats 8000000 in
set_option maxRecDepth 100000 in
theorem bag_Right.calls (k : Nat) (A0 : Option Addr) (c0 : Nat) (l0 : List (S50)) (r : Bool) (w : World) (hr0 : Kd.C k50 w A0 l0.length l0) (hc0 : l0.length ≤ c0) (h : bag_Right.f k l0 = some r) :
  Calls Try.prog 33 #[.slice A0 l0.length c0] w fun e w' => e = .returned (.bool r) ∧ Below w.heap.size w w' := by
 have HR0 := Aside0.mk hr0
 have HC0 := Aside0.mk hc0
 clear hr0 hc0
 have HB := Aside0.mk (Below.refl w.heap.size w)
 have H : ((batch_Right.f k l0).bind fun t393 => (if t393 = true then ((slices_ContainsNone.f l0).bind fun t394 => (some (!t394))) else (some false))) = some r := h
 clear h
 replace H := Option.bind_eq_some_iff.mp H
 obtain ⟨t393, A20, H⟩ := H
 replace H : (if t393 = true then ((slices_ContainsNone.f l0).bind fun t394 => (some (!t394))) else (some false)) = some r := H
 have A2 := Aside0.mk A20
 clear A20
 by_cases c3 : t393 = true
 ·subst c3
  have H1 : ((slices_ContainsNone.f l0).bind fun t394 => (some (!t394))) = some r := by rw [if_pos rfl] at H; exact H
  clear H
  have H := H1
  clear H1
  replace H := Option.bind_eq_some_iff.mp H
  obtain ⟨t394, A40, H⟩ := H
  replace H : (some (!t394)) = some r := H
  have A4 := Aside0.mk A40
  clear A40
  obtain rfl := Option.some.inj H
  go_enter Try.func33, Try.ntmps33
  go_wp2_with (first | ((with_reducible refine gate_callee (f := 20) rfl ?_); refine goesL_ (some 4) rfl rfl Try.func20 (by kernel_rfl) rfl #[.slice A0 l0.length c0] rfl (by (try simp only [List.map_toArray, List.map_cons, List.map_nil]); first | done | rfl | (simp only [List.length_drop, List.length_take]; rfl)) ?_; (with_reducible refine (batch_Right.calls k _ _ l0 true _ ?side1 ?side2 A2.out).mono ?_); (case side1 => repeat (first | exact HR0.out | (with_reducible refine Kd.C_alloc ?_ _) | (with_reducible refine Kd.C_drewN ?_ _) | (with_reducible refine Kd.C_drew ?_))); (case side2 => exact HC0.out); rintro e w5 ⟨rfl, hb⟩; refine ⟨_, rfl, ?_⟩; have n0_ := Aside0.mk (below_step (by repeat (first | (with_reducible first | exact HB.out | apply below_alloc | apply pw_below_drewN | apply below_drew1) | exact HB.out)) hb); clear HB; have HB := n0_; clear n0_; (try clear hb); (try clear hb2); (try clear hk); (try clear hi)) | (go_at_call 59; (with_reducible refine (slices_ContainsNone.calls _ _ l0  t394 _ ?side1 ?side2 A4.out).mono ?_); (case side1 => repeat (first | exact (Kd.C_below HR0.out HB.out) | (with_reducible refine Kd.C_alloc ?_ _) | (with_reducible refine Kd.C_drewN ?_ _) | (with_reducible refine Kd.C_drew ?_))); (case side2 => exact HC0.out); rintro e w6 ⟨rfl, hb⟩; have n0_ := Aside0.mk (below_step (by repeat (first | (with_reducible first | exact HB.out | apply below_alloc | apply pw_below_drewN | apply below_drew1) | exact HB.out)) hb); clear HB; have HB := n0_; clear n0_; (try clear hb); (try clear hb2); (try clear hk); (try clear hi)))
  go_ret
  exact ⟨by first | rfl | (simp [errW_none, errW_some] <;> rfl) | (simp [*, errW_none, errW_some] <;> rfl), by repeat (first | (with_reducible first | exact HB.out | apply below_alloc | apply pw_below_drewN | apply below_drew1) | exact HB.out)⟩
 ·replace c3 := Bool.eq_false_iff.mpr c3
  subst c3
  have H1 : (some false) = some r := by rw [if_neg (show ¬ (false = true) by decide)] at H; exact H
  clear H
  have H := H1
  clear H1
  obtain rfl := Option.some.inj H
  go_enter Try.func33, Try.ntmps33
  go_wp2_with (first | ((with_reducible refine gate_callee (f := 20) rfl ?_); refine goesL_ (some 4) rfl rfl Try.func20 (by kernel_rfl) rfl #[.slice A0 l0.length c0] rfl (by (try simp only [List.map_toArray, List.map_cons, List.map_nil]); first | done | rfl | (simp only [List.length_drop, List.length_take]; rfl)) ?_; (with_reducible refine (batch_Right.calls k _ _ l0 false _ ?side1 ?side2 A2.out).mono ?_); (case side1 => repeat (first | exact HR0.out | (with_reducible refine Kd.C_alloc ?_ _) | (with_reducible refine Kd.C_drewN ?_ _) | (with_reducible refine Kd.C_drew ?_))); (case side2 => exact HC0.out); rintro e w7 ⟨rfl, hb⟩; refine ⟨_, rfl, ?_⟩; have n0_ := Aside0.mk (below_step (by repeat (first | (with_reducible first | exact HB.out | apply below_alloc | apply pw_below_drewN | apply below_drew1) | exact HB.out)) hb); clear HB; have HB := n0_; clear n0_; (try clear hb); (try clear hb2); (try clear hk); (try clear hi)))
  go_ret
  exact ⟨by first | rfl | (simp [errW_none, errW_some] <;> rfl) | (simp [*, errW_none, errW_some] <;> rfl), by repeat (first | (with_reducible first | exact HB.out | apply below_alloc | apply pw_below_drewN | apply below_drew1) | exact HB.out)⟩

end Go.Proofs.Ytgeldmhgbnamcaa.P
end
section
-- Printed by the session's own turn of the print (wip/tools/print2.sh): some callees are proved by hand.
namespace Go.Proofs.Ytgeldmhgbnamcaa.P
open Go.RowKit Go.Proofs.YtgeldmhgbnamcaaW.PrintWords Go.Proofs.YtgeldmhgbnamcaaW.PrintLast Go.Proofs.YtgeldmhgbnamcaaW.PrintMore
attribute [local go_sem] max2_int min2_int max_two min_two max_three min_three max_four min_four   -- for this text's walks alone
set_option linter.unusedVariables false
set_option linter.unusedSimpArgs false

/-! ### batch_Change_95: function 95 -/
mutual
def batch_Change_95.l0 : Nat → List (S50) → Int → Int → Int → Option ((List (S50)))
 | 0, _, _, _, _ => none
 | k + 1, x0, x1, x2, x8 => if x8 < x2 then (batch_Change_95.l1 k x0 x1 x2 x8 x8) else (some x0)
def batch_Change_95.l1 : Nat → List (S50) → Int → Int → Int → Int → Option ((List (S50)))
 | 0, _, _, _, _, _ => none
 | k + 1, x0, x1, x2, x8, x9 => if x9 > x1 then (if 0 ≤ x9 then (if x9 < (x0.length : Int) then (if 0 ≤ (wrap64 (x9 - 1)) then (if (wrap64 (x9 - 1)) < (x0.length : Int) then ((batch_order.f k ((rd_T50 x0 x9).f0) ((rd_T50 x0 x9).f1) ((rd_T50 x0 x9).f2) ((rd_T50 x0 (wrap64 (x9 - 1))).f0) ((rd_T50 x0 (wrap64 (x9 - 1))).f1) ((rd_T50 x0 (wrap64 (x9 - 1))).f2)).bind fun t124 => (if t124 < 0 then (batch_Change_95.l1 k ((x0.set (x9 : Int).toNat (⟨(rd_T50 x0 (wrap64 (x9 - 1))).f0, (rd_T50 x0 (wrap64 (x9 - 1))).f1, (rd_T50 x0 (wrap64 (x9 - 1))).f2⟩ : S50)).set ((wrap64 (x9 - 1)) : Int).toNat (⟨(rd_T50 x0 x9).f0, (rd_T50 x0 x9).f1, (rd_T50 x0 x9).f2⟩ : S50)) x1 x2 x8 (wrap64 (x9 - 1))) else (batch_Change_95.l0 k x0 x1 x2 (wrap64 (x8 + 1))))) else (none)) else (none)) else (none)) else (none)) else (batch_Change_95.l0 k x0 x1 x2 (wrap64 (x8 + 1)))
end
def batch_Change_95.f (k : Nat) (l0 : List (S50)) (a1 : Int) (a2 : Int)  : Option ((List (S50))) := batch_Change_95.l0 k l0 a1 a2 (wrap64 (a1 + 1))
theorem batch_Change_95.mono_l : ∀ k, (∀ y0 y1 y2 y3, LeO (batch_Change_95.l0 k y0 y1 y2 y3) (batch_Change_95.l0 (k + 1) y0 y1 y2 y3)) ∧ (∀ y0 y1 y2 y3 y4, LeO (batch_Change_95.l1 k y0 y1 y2 y3 y4) (batch_Change_95.l1 (k + 1) y0 y1 y2 y3 y4))
 | 0 => ⟨fun _ _ _ _ r h => by simp [batch_Change_95.l0] at h, fun _ _ _ _ _ r h => by simp [batch_Change_95.l1] at h⟩
 | k + 1 => by
  obtain ⟨ih0, ih1⟩ := batch_Change_95.mono_l k
  refine ⟨?_, ?_⟩
  ·intro y0 y1 y2 y3
   unfold batch_Change_95.l0
   repeat' first
   | (with_reducible exact ih0 _ _ _ _)
   | (with_reducible exact ih1 _ _ _ _ _)
   | (with_reducible exact batch_order.mono _ _ _ _ _ _ _)
   | (with_reducible exact LeO.refl _)
   | (with_reducible exact LeO.none _)
   | (with_reducible refine LeO.ite ?_ ?_)
   | (with_reducible refine LeO.bind ?_ (fun _ => ?_))
   | exact ih0 _ _ _ _
   | exact ih1 _ _ _ _ _
   | exact batch_order.mono _ _ _ _ _ _ _
   | exact LeO.none _
   | refine LeO.ite ?_ ?_
   | refine LeO.bind ?_ (fun _ => ?_)
  ·intro y0 y1 y2 y3 y4
   unfold batch_Change_95.l1
   repeat' first
   | (with_reducible exact ih0 _ _ _ _)
   | (with_reducible exact ih1 _ _ _ _ _)
   | (with_reducible exact batch_order.mono _ _ _ _ _ _ _)
   | (with_reducible exact LeO.refl _)
   | (with_reducible exact LeO.none _)
   | (with_reducible refine LeO.ite ?_ ?_)
   | (with_reducible refine LeO.bind ?_ (fun _ => ?_))
   | exact ih0 _ _ _ _
   | exact ih1 _ _ _ _ _
   | exact batch_order.mono _ _ _ _ _ _ _
   | exact LeO.none _
   | refine LeO.ite ?_ ?_
   | refine LeO.bind ?_ (fun _ => ?_)
theorem batch_Change_95.mono : ∀ a0 a1 a2 k, LeO (batch_Change_95.f k a0 a1 a2) (batch_Change_95.f (k + 1) a0 a1 a2) := by
 intro a0 a1 a2 k
 obtain ⟨ih0, ih1⟩ := batch_Change_95.mono_l k
 unfold batch_Change_95.f
 repeat' first
   | (with_reducible exact ih0 _ _ _ _)
   | (with_reducible exact ih1 _ _ _ _ _)
   | (with_reducible exact batch_order.mono _ _ _ _ _ _ _)
   | (with_reducible exact LeO.refl _)
   | (with_reducible exact LeO.none _)
   | (with_reducible refine LeO.ite ?_ ?_)
   | (with_reducible refine LeO.bind ?_ (fun _ => ?_))
   | exact ih0 _ _ _ _
   | exact ih1 _ _ _ _ _
   | exact batch_order.mono _ _ _ _ _ _ _
   | exact LeO.none _
   | refine LeO.ite ?_ ?_
   | refine LeO.bind ?_ (fun _ => ?_)
def batch_Change_95.T4 : Bool × List (List Nat × List Nat) := (true, [([], []), ([], []), ([0, 1], [0, 1]), ([2], [2]), ([3], [3]), ([3], [3]), ([3], [3]), ([5, 6, 3], [3, 5, 6]), ([7, 3], [3, 7]), ([3], [3]), ([3], [3]), ([10, 3], [3, 10]), ([9, 11, 3], [3, 9, 11]), ([12, 3], [3, 12]), ([4, 8, 13, 3, 3], [3, 4, 8, 13]), ([14, 3], [3, 14]), ([3, 15], [3, 15])])
def batch_Change_95.B4 : List Nat := [0, 0, 3, 7, 15, 15, 15, 111, 239, 15, 15, 1039, 3599, 7695, 16383, 32767, 65535]
theorem batch_Change_95.tab4 : rtab .any (opsOf Try.f95 4) = batch_Change_95.T4 := by kernel_rfl
theorem batch_Change_95.bits4 : waitsOk batch_Change_95.T4.2 batch_Change_95.B4 = true := by kernel_rfl
def batch_Change_95.T6 : Bool × List (List Nat × List Nat) := (true, [([], []), ([], []), ([], []), ([], []), ([3], [3]), ([], []), ([], []), ([6], [6]), ([5, 7], [5, 7]), ([8], [8]), ([], []), ([], []), ([10, 11], [10, 11]), ([12], [12]), ([0, 1, 0, 1, 5, 6, 7, 8, 9, 13], [0, 1]), ([14, 9, 0, 1, 5, 6, 7, 8, 9, 13], [9, 14]), ([2, 4, 0, 1, 2, 3, 4, 5, 6, 7, 8, 9, 10, 11, 12, 13, 14, 15], [2, 4]), ([16, 13, 15, 0, 1, 2, 3, 4, 5, 6, 7, 8, 9, 10, 11, 12, 13, 14, 15], [13, 16])])
def batch_Change_95.B6 : List Nat := [0, 0, 0, 0, 8, 0, 0, 64, 224, 480, 0, 0, 3072, 7168, 16355, 32739, 65535, 131071]
theorem batch_Change_95.tab6 : rtab .any (opsOf Try.f95 6) = batch_Change_95.T6 := by kernel_rfl
theorem batch_Change_95.bits6 : waitsOk batch_Change_95.T6.2 batch_Change_95.B6 = true := by kernel_rfl
set_option maxHeartbeats 8000000 in
set_option maxRecDepth 100000 in
theorem batch_Change_95.calls (k : Nat) (P0_ : Nat → Prop) (u9000_ : Value) (l0 : List (S50)) (a1 : Int) (a2 : Int)  (r : List (S50)) (w0 w : World) (hB : Below w0.heap.size w0 w) (ho0 : Kd.R k50 50 w w0.heap.size P0_ u9000_ l0) (h : batch_Change_95.f k l0 a1 a2 = some r) :
  Calls Try.prog 95 #[u9000_, .int .i64 a1, .int .i64 a2, .func (.func 53) #[] #[]] w fun e w' => e = .returned (.tuple #[]) ∧ Kd.R k50 50 w' w0.heap.size (fun k_ => (P0_ k_ ∨ w.heap.size ≤ k_)) u9000_ r ∧ Below w0.heap.size w0 w' ∧ Kept w w' (fun k_ => P0_ k_) := by
 have hu50 := Try.underlying50
 have HO0 := Aside0.mk (show Kd.R k50 50 w w0.heap.size (fun k_ => (P0_ k_ ∨ w.heap.size ≤ k_)) u9000_ l0 from Kd.R_mono ho0 (fun k_ hk => (.inl hk)))
 have HK := Aside0.mk (Kept.refl w (fun k_ => P0_ k_))
 have HW0 := Aside0.mk hB.size
 have HB := Aside0.mk hB
 clear hB
 have H : (batch_Change_95.l0 k l0 a1 a2 (wrap64 (a1 + 1))) = some r := h
 clear h
 have H' := Aside0.mk H
 clear H
 go_enter Try.func95, Try.ntmps95
 go_wp2
 go_loopg [8] k (fun kq v8 w' => ∃ (x0_1 : List (S50)) (x8_1 : Int), v8 = .int .i64 x8_1 ∧ Aside0 (batch_Change_95.l0 kq x0_1 a1 a2 x8_1 = some r) ∧ Aside0 (kq ≤ k) ∧ Aside0 (Kd.R k50 50 w' w0.heap.size (fun k_ => (P0_ k_ ∨ w.heap.size ≤ k_)) u9000_ x0_1) ∧ Aside0 (Kept w w' (fun k_ => P0_ k_)) ∧ Aside0 (Below w0.heap.size w0 w'))
 case atStart => exact ⟨(l0), (wrap64 (a1 + 1)), (by first | rfl | (simp; done) | (simp [*]; done)), H', ⟨Nat.le_refl _⟩, ⟨by (with_reducible repeat (first | apply Kd.R_alloc | apply Kd.R_drewN | apply Kd.R_drew)); exact HO0.out⟩, ⟨by repeat (first | (with_reducible first | exact HK.out | apply Kept.alloc | apply Kept.drewN | apply Kept.drew) | exact HK.out)⟩, ⟨by repeat (first | (with_reducible first | exact HB.out | apply below_alloc | apply pw_below_drewN | apply below_drew1) | exact HB.out)⟩⟩
 case round =>
  clear H'
  try clear p2
  obtain ⟨x0_1, x8_1, rfl, HA, HK1, HO_0, HK, HB⟩ := hrel
  cases gk with
  | zero => exact absurd HA.out (by simp [batch_Change_95.l0])
  | succ k1 =>
   have H := HA.out
   clear HA
   simp only [batch_Change_95.l0] at H
   by_cases c5 : x8_1 < a2
   ·rw [if_pos c5] at H
    have c5b0 : decide (x8_1 < a2) = true := decide_eq_true c5
    clear c5
    have H' := Aside0.mk H
    clear H
    go_wp2
    go_loopg [9] k1 (fun kq v9 w' => ∃ (x0_2 : List (S50)) (x9_2 : Int), v9 = .int .i64 x9_2 ∧ Aside0 (batch_Change_95.l1 kq x0_2 a1 a2 x8_1 x9_2 = some r) ∧ Aside0 (kq ≤ k1) ∧ Aside0 (Kd.R k50 50 w' w0.heap.size (fun k_ => (P0_ k_ ∨ w.heap.size ≤ k_)) u9000_ x0_2) ∧ Aside0 (Kept w w' (fun k_ => P0_ k_)) ∧ Aside0 (Below w0.heap.size w0 w'))
    case atStart => exact ⟨(x0_1), (x8_1), (by first | rfl | (simp; done) | (simp [*]; done)), H', ⟨Nat.le_refl _⟩, ⟨by (with_reducible repeat (first | apply Kd.R_alloc | apply Kd.R_drewN | apply Kd.R_drew)); exact HO_0.out⟩, ⟨by repeat (first | (with_reducible first | exact HK.out | apply Kept.alloc | apply Kept.drewN | apply Kept.drew) | exact HK.out)⟩, ⟨by repeat (first | (with_reducible first | exact HB.out | apply below_alloc | apply pw_below_drewN | apply below_drew1) | exact HB.out)⟩⟩
    case round =>
     clear H'
     try clear p2
     try clear c5
     try clear c5b0
     try clear p2
     obtain ⟨x0_2, x9_2, rfl, HA, HK2, HO_0, HK, HB⟩ := hrel
     cases gk with
     | zero => exact absurd HA.out (by simp [batch_Change_95.l1])
     | succ k2 =>
      have H := HA.out
      clear HA
      simp only [batch_Change_95.l1] at H
      by_cases c6 : x9_2 > a1
      ·rw [if_pos c6] at H
       have c6b0 : decide (a1 < x9_2) = true := decide_eq_true c6
       clear c6
       by_cases c7 : 0 ≤ x9_2
       ·rw [if_pos c7] at H
        have c7b0 : decide (0 ≤ x9_2) = true := decide_eq_true c7
        clear c7
        by_cases c8 : x9_2 < (x0_2.length : Int)
        ·rw [if_pos c8] at H
         have c8b0 : decide (x9_2 < (x0_2.length : Int)) = true := decide_eq_true c8
         clear c8
         obtain ⟨ji9, hji9⟩ : ∃ j_ : Int, (wrap64 (x9_2 - 1)) = j_ := ⟨_, rfl⟩
         replace H : (if 0 ≤ (ji9) then (if (ji9) < (x0_2.length : Int) then ((batch_order.f k2 ((rd_T50 x0_2 x9_2).f0) ((rd_T50 x0_2 x9_2).f1) ((rd_T50 x0_2 x9_2).f2) ((rd_T50 x0_2 (ji9)).f0) ((rd_T50 x0_2 (ji9)).f1) ((rd_T50 x0_2 (ji9)).f2)).bind fun t124 => (if t124 < 0 then (batch_Change_95.l1 k2 ((x0_2.set (x9_2 : Int).toNat (⟨(rd_T50 x0_2 (ji9)).f0, (rd_T50 x0_2 (ji9)).f1, (rd_T50 x0_2 (ji9)).f2⟩ : S50)).set ((ji9) : Int).toNat (⟨(rd_T50 x0_2 x9_2).f0, (rd_T50 x0_2 x9_2).f1, (rd_T50 x0_2 x9_2).f2⟩ : S50)) a1 a2 x8_1 ji9) else (batch_Change_95.l0 k2 x0_2 a1 a2 (wrap64 (x8_1 + 1))))) else (none)) else (none)) = some r := by first | (rw [hji9] at H; exact H) | (simp only [hji9] at H ⊢; exact H)
         have hji9w : (IntKind.i64.wrap (x9_2 - 1)) = ji9 := (i64_w _).trans hji9
         by_cases c10 : 0 ≤ (ji9)
         ·rw [if_pos c10] at H
          have c10b0 : decide (0 ≤ (ji9)) = true := decide_eq_true c10
          clear c10
          by_cases c11 : (ji9) < (x0_2.length : Int)
          ·rw [if_pos c11] at H
           have c11b0 : decide ((ji9) < (x0_2.length : Int)) = true := decide_eq_true c11
           clear c11
           replace H := Option.bind_eq_some_iff.mp H
           obtain ⟨t124, A120, H⟩ := H
           replace H : (if t124 < 0 then (batch_Change_95.l1 k2 ((x0_2.set (x9_2 : Int).toNat (⟨(rd_T50 x0_2 (ji9)).f0, (rd_T50 x0_2 (ji9)).f1, (rd_T50 x0_2 (ji9)).f2⟩ : S50)).set ((ji9) : Int).toNat (⟨(rd_T50 x0_2 x9_2).f0, (rd_T50 x0_2 x9_2).f1, (rd_T50 x0_2 x9_2).f2⟩ : S50)) a1 a2 x8_1 ji9) else (batch_Change_95.l0 k2 x0_2 a1 a2 (wrap64 (x8_1 + 1)))) = some r := H
           have A12 := Aside0.mk A120
           clear A120
           by_cases c13 : t124 < 0
           ·rw [if_pos c13] at H
            have c13b0 : decide (t124 < 0) = true := decide_eq_true c13
            clear c13
            obtain ⟨y127, hy127⟩ : ∃ y_ : List (S50), y_ = (x0_2.set (x9_2 : Int).toNat (⟨(rd_T50 x0_2 (ji9)).f0, (rd_T50 x0_2 (ji9)).f1, (rd_T50 x0_2 (ji9)).f2⟩ : S50)) := ⟨_, rfl⟩
            replace H : (batch_Change_95.l1 k2 (y127.set ((ji9) : Int).toNat (⟨(rd_T50 x0_2 x9_2).f0, (rd_T50 x0_2 x9_2).f1, (rd_T50 x0_2 x9_2).f2⟩ : S50)) a1 a2 x8_1 ji9) = some r := by first | (rw [hy127]; with_reducible exact H) | (have H2_ := (Option.bind_some _ _).symm.trans H; rw [hy127]; with_reducible exact H2_) | (have H2_ := (Option.bind_some _ _).symm.trans H; with_reducible exact H2_) | with_reducible exact H | (rw [hy127]; exact H) | exact H
            have Ny127 := Aside0.mk hy127
            clear hy127
            obtain ⟨y128, hy128⟩ : ∃ y_ : List (S50), y_ = (y127.set ((ji9) : Int).toNat (⟨(rd_T50 x0_2 x9_2).f0, (rd_T50 x0_2 x9_2).f1, (rd_T50 x0_2 x9_2).f2⟩ : S50)) := ⟨_, rfl⟩
            replace H : (batch_Change_95.l1 k2 y128 a1 a2 x8_1 ji9) = some r := by first | (rw [hy128]; with_reducible exact H) | (have H2_ := (Option.bind_some _ _).symm.trans H; rw [hy128]; with_reducible exact H2_) | (have H2_ := (Option.bind_some _ _).symm.trans H; with_reducible exact H2_) | with_reducible exact H | (rw [hy128]; exact H) | exact H
            have Ny128 := Aside0.mk hy128
            clear hy128
            have H' := Aside0.mk H
            clear H
            try go_wp2
            have n0_ := Aside0.mk (Kd.R_drew HO_0.out)
            have n1_ := Aside0.mk (Kept.drew HK.out)
            have n2_ := Aside0.mk (below_drew1 HB.out)
            clear HO_0
            clear HK
            clear HB
            have HO_0 := n0_
            have HK := n1_
            have HB := n2_
            clear n0_ n1_ n2_
            obtain ⟨Ao17, co17, eo17⟩ := Kd.R_slice HO_0.out
            (first | subst eo17 | (injection eo17 with f1_ f2_ f3_; have f4_ := f1_.symm; have f5_ := f3_.symm; clear f1_ f2_ f3_; subst f4_; subst f5_))
            have p122 : 0 ≤ (x9_2 : Int) := of_decide_eq_true (by first | (with_reducible assumption) | assumption)
            have q122 : x9_2 < (x0_2.length : Int) := of_decide_eq_true (by first | (with_reducible assumption) | assumption)
            obtain ⟨ad122, e122, hx122_0, hx122_1, hx122_2⟩ := at_T50 (Kd.R_reads' HO_0.out).2.2 x9_2 p122 q122
            cases e122
            replace p122 := eq_true p122
            replace q122 := eq_true q122
            have p123 : 0 ≤ ((ji9) : Int) := of_decide_eq_true (by first | (with_reducible assumption) | assumption)
            have q123 : (ji9) < (x0_2.length : Int) := of_decide_eq_true (by first | (with_reducible assumption) | assumption)
            obtain ⟨ad123, e123, hx123_0, hx123_1, hx123_2⟩ := at_T50 (Kd.R_reads' HO_0.out).2.2 (ji9) p123 q123
            obtain rfl : ad122 = ad123 := (by injection e123)
            replace p123 := eq_true p123
            replace q123 := eq_true q123
            refine start_ (n := 17) (S := fun w' => w'.cell? (ad122.add ((x9_2).toNat * 3)) = some (.int .i64 ((rd_T50 x0_2 x9_2).f0)) ∧ w'.cell? ⟨(ad122.add ((x9_2).toNat * 3)).block, (ad122.add ((x9_2).toNat * 3)).off + 1, none⟩ = some (.int .u64 ((rd_T50 x0_2 x9_2).f1)) ∧ w'.cell? ⟨(ad122.add ((x9_2).toNat * 3)).block, (ad122.add ((x9_2).toNat * 3)).off + 2, none⟩ = some (.int .i64 ((rd_T50 x0_2 x9_2).f2)) ∧ w'.cell? (ad122.add (((ji9)).toNat * 3)) = some (.int .i64 ((rd_T50 x0_2 (ji9)).f0)) ∧ w'.cell? ⟨(ad122.add (((ji9)).toNat * 3)).block, (ad122.add (((ji9)).toNat * 3)).off + 1, none⟩ = some (.int .u64 ((rd_T50 x0_2 (ji9)).f1)) ∧ w'.cell? ⟨(ad122.add (((ji9)).toNat * 3)).block, (ad122.add (((ji9)).toNat * 3)).off + 2, none⟩ = some (.int .i64 ((rd_T50 x0_2 (ji9)).f2))) (ds := []) (mk_ 0 17) (by kernel_rfl) rfl rfl ⟨hx122_0, hx122_1, hx122_2, hx123_0, hx123_1, hx123_2⟩ (fun hHeld => ?_); refine with_tabW batch_Change_95.tab4 batch_Change_95.bits4 (fun HT_ HW_ => ?_)
            generalize wr.drew = w16 at HO_0 HK HB hx122_0 hx122_1 hx122_2 hx123_0 hx123_1 hx123_2 hHeld ⊢
            refine pv_ 0 18 (mk_ 1 16) HT_ ?_
            refine pv_ 1 19 (mk_ 2 15) HT_ ?_
            refine pv_ 2 20 (mk_ 3 14) HT_ ?_
            refine pv_ 3 21 (mk_ 4 13) HT_ ?_
            refine pv_ 4 22 (mk_ 5 12) HT_ ?_
            refine pv_ 5 23 (mk_ 6 11) HT_ ?_
            refine pv_ 6 24 (mk_ 7 10) HT_ ?_
            refine pv_ 7 25 (mk_ 8 9) HT_ ?_
            refine pv_ 9 27 #[true, true, true, true, true, true, true, true, false, true, false, false, false, false, false, false, false] HT_ ?_
            refine pv_ 10 28 #[true, true, true, true, true, true, true, true, false, true, true, false, false, false, false, false, false] HT_ ?_
            refine pv_ 11 29 #[true, true, true, true, true, true, true, true, false, true, true, true, false, false, false, false, false] HT_ ?_
            refine pv_ 12 30 #[true, true, true, true, true, true, true, true, false, true, true, true, true, false, false, false, false] HT_ ?_
            refine tv_ 8 26 (mk_ 13 4) HT_ HW_ hHeld (hy := by rintro w' ⟨s0, s1, s2, s3, s4, s5⟩; go_simp; with_reducible rfl) (h := ?_)
            refine tv_ 13 31 (mk_ 14 3) HT_ HW_ hHeld (hy := by rintro w' ⟨s0, s1, s2, s3, s4, s5⟩; go_simp; with_reducible rfl) (h := ?_)
            refine one_ (i := 14) (N := some 32) (mk_ 15 2) rfl rfl (one_of HT_.out (by kernel_rfl)) (by decide) (fun K hK => ?_)
            refine goesTT_ Try.func53 (by kernel_rfl) rfl #[.agg #[.int .i64 ((rd_T50 x0_2 x9_2).f0), .int .u64 ((rd_T50 x0_2 x9_2).f1), .int .i64 ((rd_T50 x0_2 x9_2).f2)], .agg #[.int .i64 ((rd_T50 x0_2 (ji9)).f0), .int .u64 ((rd_T50 x0_2 (ji9)).f1), .int .i64 ((rd_T50 x0_2 (ji9)).f2)]] (by rfl) rfl rfl rfl (by (try simp only [List.map_toArray, List.map_cons, List.map_nil]); first | done | (simp only [hji9]; rfl) | rfl | (simp only [List.length_drop, List.length_take]; rfl)) ?_
            with_reducible refine (batch_order.calls k2 ((rd_T50 x0_2 x9_2).f0) ((rd_T50 x0_2 x9_2).f1) ((rd_T50 x0_2 x9_2).f2) ((rd_T50 x0_2 (ji9)).f0) ((rd_T50 x0_2 (ji9)).f1) ((rd_T50 x0_2 (ji9)).f2) t124 _ A12.out).mono ?_
            rintro e w18 ⟨rfl, hb⟩
            have HS0_ := (hb.cell (World.block_lt_of_cell? _ _ (hHeld.1))).trans (hHeld.1)
            have HS1_ := (hb.cell (World.block_lt_of_cell? _ _ (hHeld.2.1))).trans (hHeld.2.1)
            have HS2_ := (hb.cell (World.block_lt_of_cell? _ _ (hHeld.2.2.1))).trans (hHeld.2.2.1)
            have HS3_ := (hb.cell (World.block_lt_of_cell? _ _ (hHeld.2.2.2.1))).trans (hHeld.2.2.2.1)
            have HS4_ := (hb.cell (World.block_lt_of_cell? _ _ (hHeld.2.2.2.2.1))).trans (hHeld.2.2.2.2.1)
            have HS5_ := (hb.cell (World.block_lt_of_cell? _ _ (hHeld.2.2.2.2.2))).trans (hHeld.2.2.2.2.2)
            refine ⟨_, rfl, ?_⟩
            have n0_ := Aside0.mk (Kd.R_below (by (with_reducible repeat (first | apply Kd.R_alloc | apply Kd.R_drewN | apply Kd.R_drew)); exact HO_0.out) hb)
            have n1_ := Aside0.mk (Kept.below (S := (fun k_ => P0_ k_)) (by repeat (first | (with_reducible first | exact HK.out | apply Kept.alloc | apply Kept.drewN | apply Kept.drew) | exact HK.out)) hb)
            have n2_ := Aside0.mk (below_step (by repeat (first | (with_reducible first | exact HB.out | apply below_alloc | apply pw_below_drewN | apply below_drew1) | exact HB.out)) hb)
            clear HO_0
            clear HK
            clear HB
            have HO_0 := n0_
            have HK := n1_
            have HB := n2_
            clear n0_ n1_ n2_
            (try clear hb)
            (try clear hb2)
            (try clear hk)
            (try clear hi)
            refine hK.out _ _ ⟨HS0_, HS1_, HS2_, HS3_, HS4_, HS5_⟩ (fun hHeld => ?_)
            clear hK K
            refine norm_ (a' := ?_) ?_ ?_
            rotate_left
            ·show Act.put _ (some 32) _ = _
             simp only [Act.put, List.setIfInBounds_toArray, List.set_cons_zero, List.set_cons_succ, i64_w, i32_w]
             rfl
            refine pv_ 15 33 (mk_ 16 1) HT_ ?_
            refine pv_ 16 34 (mk_ 17 0) HT_ ?_
            refine done_ (done_of HT_.out (by kernel_rfl)) ?_
            try go_wp2
            have n0_ := Aside0.mk (Kd.R_drew HO_0.out)
            have n1_ := Aside0.mk (Kept.drew HK.out)
            have n2_ := Aside0.mk (below_drew1 HB.out)
            clear HO_0
            clear HK
            clear HB
            have HO_0 := n0_
            have HK := n1_
            have HB := n2_
            clear n0_ n1_ n2_
            have p125 : 0 ≤ ((ji9) : Int) := of_decide_eq_true (by first | (with_reducible assumption) | assumption)
            have q125 : (ji9) < (x0_2.length : Int) := of_decide_eq_true (by first | (with_reducible assumption) | assumption)
            obtain ⟨ad125, e125, hx125_0, hx125_1, hx125_2⟩ := at_T50 (Kd.R_reads' HO_0.out).2.2 (ji9) p125 q125
            obtain rfl : ad122 = ad125 := (by injection e125)
            replace p125 := eq_true p125
            replace q125 := eq_true q125
            have p126 : 0 ≤ (x9_2 : Int) := of_decide_eq_true (by first | (with_reducible assumption) | assumption)
            have q126 : x9_2 < (x0_2.length : Int) := of_decide_eq_true (by first | (with_reducible assumption) | assumption)
            obtain ⟨ad126, e126, hx126_0, hx126_1, hx126_2⟩ := at_T50 (Kd.R_reads' HO_0.out).2.2 x9_2 p126 q126
            obtain rfl : ad122 = ad126 := (by injection e126)
            replace p126 := eq_true p126
            replace q126 := eq_true q126
            have p14 : 0 ≤ (x9_2 : Int) := of_decide_eq_true (by first | (with_reducible assumption) | assumption)
            have q14 : (x9_2 : Int) < ((x0_2.length : Int) : Int) := of_decide_eq_true (by first | (with_reducible assumption) | assumption)
            obtain ⟨go14, co14, eo14, gb14, gl14, cl14, HG14⟩ := Kd.R_form HO_0.out (by omega)
            (first | cases eo14 | (injection eo14 with ea_ en_ ec_; (first | subst ea_ | (injection ea_ with ea_; subst ea_)); subst ec_; clear en_))
            have GB14 := Aside0.mk gb14
            have GG14 := Aside0.mk HG14
            clear gb14 gl14 HG14
            have HMgo14 := Aside0.mk (show (P0_ go14 ∨ w.heap.size ≤ go14) from (HO_0.out.1 _ rfl))
            (first | simp only [add_plain] at hx122_0 | skip)
            (first | simp only [add_plain] at hx122_1 | skip)
            (first | simp only [add_plain] at hx122_2 | skip)
            (first | simp only [add_plain] at hx123_0 | skip)
            (first | simp only [add_plain] at hx123_1 | skip)
            (first | simp only [add_plain] at hx123_2 | skip)
            (first | simp only [add_plain] at hx125_0 | skip)
            (first | simp only [add_plain] at hx125_1 | skip)
            (first | simp only [add_plain] at hx125_2 | skip)
            (first | simp only [add_plain] at hx126_0 | skip)
            (first | simp only [add_plain] at hx126_1 | skip)
            (first | simp only [add_plain] at hx126_2 | skip)
            obtain ⟨ce14, hcl14, hM14, hcc14, hfr14⟩ := Kd.R_elem HO_0.out z50 (x9_2 : Int) p14 q14
            obtain rfl := k50_openM hM14
            have hx14_0 : World.cell? _ ⟨go14, (x9_2 : Int).toNat * 3, none⟩ = some (.int .i64 ((rd_T50 x0_2 x9_2).f0)) := hcc14 0 _ rfl
            have hx14_1 : World.cell? _ ⟨go14, (x9_2 : Int).toNat * 3 + 1, none⟩ = some (.int .u64 ((rd_T50 x0_2 x9_2).f1)) := hcc14 1 _ rfl
            have hx14_2 : World.cell? _ ⟨go14, (x9_2 : Int).toNat * 3 + 2, none⟩ = some (.int .i64 ((rd_T50 x0_2 x9_2).f2)) := hcc14 2 _ rfl
            have hf14_0 : World.frozen? _ ⟨go14, (x9_2 : Int).toNat * 3, none⟩ = false := hfr14 0
            have hf14_1 : World.frozen? _ ⟨go14, (x9_2 : Int).toNat * 3 + 1, none⟩ = false := hfr14 1
            have hf14_2 : World.frozen? _ ⟨go14, (x9_2 : Int).toNat * 3 + 2, none⟩ = false := hfr14 2
            clear hcl14 hcc14 hfr14 hM14
            replace p14 := eq_true p14
            replace q14 := eq_true q14
            obtain ⟨ce20, hcl20, hM20, hcc20, hfr20⟩ := Kd.R_elem HO_0.out z50 (x9_2 : Int) (of_decide_eq_true (by first | (with_reducible assumption) | assumption)) (by have h_ : (x9_2 : Int) < ((x0_2.length : Int) : Int) := of_decide_eq_true (by first | (with_reducible assumption) | assumption); first | exact h_ | (have e_ := (Kd.R_reads' HO_0.out).1; omega) | simpa using h_)
            obtain rfl := k50_openM hM20
            have HP20 := (Kd.R_seg HO_0.out (x9_2 : Int) (of_decide_eq_true (by first | (with_reducible assumption) | assumption)) (by have h_ : (x9_2 : Int) < ((x0_2.length : Int) : Int) := of_decide_eq_true (by first | (with_reducible assumption) | assumption); first | exact h_ | (have e_ := (Kd.R_reads' HO_0.out).1; omega) | simpa using h_) (seg := [.int .i64 ((rd_T50 x0_2 (ji9)).f0), .int .u64 ((rd_T50 x0_2 (ji9)).f1), .int .i64 ((rd_T50 x0_2 (ji9)).f2)]) (j := 0) hcl20 hcc20 (show 3 ≤ 3 from by decide) (x' := (⟨(rd_T50 x0_2 (ji9)).f0, (rd_T50 x0_2 (ji9)).f1, (rd_T50 x0_2 (ji9)).f2⟩ : S50)) (k50_mkM _ _ _ (⟨(rd_T50 x0_2 (ji9)).f0, (rd_T50 x0_2 (ji9)).f1, (rd_T50 x0_2 (ji9)).f2⟩ : S50) ) (fun _ hk => hk)).1
            rw [← Ny127.out] at HP20
            have HQ20 := Aside0.mk HP20
            clear hcl20 hcc20 hfr20 hM20 HP20
            have p15 : 0 ≤ ((ji9) : Int) := of_decide_eq_true (by first | (with_reducible assumption) | assumption)
            have q15 : ((ji9) : Int) < ((x0_2.length : Int) : Int) := of_decide_eq_true (by first | (with_reducible assumption) | assumption)
            obtain ⟨ce15, hcl15, hM15, hcc15, hfr15⟩ := Kd.R_elem HQ20.out z50 ((ji9) : Int) p15 q15
            obtain rfl := k50_openM hM15
            have hx15_0 : World.cell? _ ⟨go14, ((ji9) : Int).toNat * 3, none⟩ = some (.int .i64 ((rd_T50 y127 (ji9)).f0)) := hcc15 0 _ rfl
            have hx15_1 : World.cell? _ ⟨go14, ((ji9) : Int).toNat * 3 + 1, none⟩ = some (.int .u64 ((rd_T50 y127 (ji9)).f1)) := hcc15 1 _ rfl
            have hx15_2 : World.cell? _ ⟨go14, ((ji9) : Int).toNat * 3 + 2, none⟩ = some (.int .i64 ((rd_T50 y127 (ji9)).f2)) := hcc15 2 _ rfl
            have hf15_0 : World.frozen? _ ⟨go14, ((ji9) : Int).toNat * 3, none⟩ = false := hfr15 0
            have hf15_1 : World.frozen? _ ⟨go14, ((ji9) : Int).toNat * 3 + 1, none⟩ = false := hfr15 1
            have hf15_2 : World.frozen? _ ⟨go14, ((ji9) : Int).toNat * 3 + 2, none⟩ = false := hfr15 2
            clear hcl15 hcc15 hfr15 hM15
            replace p15 := eq_true p15
            replace q15 := eq_true q15
            obtain ⟨ce21, hcl21, hM21, hcc21, hfr21⟩ := Kd.R_elem HQ20.out z50 ((ji9) : Int) (of_decide_eq_true (by first | (with_reducible assumption) | assumption)) (by have h_ : ((ji9) : Int) < ((x0_2.length : Int) : Int) := of_decide_eq_true (by first | (with_reducible assumption) | assumption); first | exact h_ | (have e_ := (Kd.R_reads' HO_0.out).1; omega) | simpa using h_)
            obtain rfl := k50_openM hM21
            have HP21 := (Kd.R_seg HQ20.out ((ji9) : Int) (of_decide_eq_true (by first | (with_reducible assumption) | assumption)) (by have h_ : ((ji9) : Int) < ((x0_2.length : Int) : Int) := of_decide_eq_true (by first | (with_reducible assumption) | assumption); first | exact h_ | (have e_ := (Kd.R_reads' HO_0.out).1; omega) | simpa using h_) (seg := [.int .i64 ((rd_T50 x0_2 x9_2).f0), .int .u64 ((rd_T50 x0_2 x9_2).f1), .int .i64 ((rd_T50 x0_2 x9_2).f2)]) (j := 0) hcl21 hcc21 (show 3 ≤ 3 from by decide) (x' := (⟨(rd_T50 x0_2 x9_2).f0, (rd_T50 x0_2 x9_2).f1, (rd_T50 x0_2 x9_2).f2⟩ : S50)) (k50_mkM _ _ _ (⟨(rd_T50 x0_2 x9_2).f0, (rd_T50 x0_2 x9_2).f1, (rd_T50 x0_2 x9_2).f2⟩ : S50) ) (fun _ hk => hk)).1
            rw [← Ny128.out] at HP21
            have HQ21 := Aside0.mk HP21
            clear hcl21 hcc21 hfr21 hM21 HP21
            refine start_ (n := 18) (S := fun w' => w'.cell? ⟨go14, (((ji9)).toNat * 3), none⟩ = some (.int .i64 ((rd_T50 x0_2 (ji9)).f0)) ∧ w'.cell? ⟨go14, (((ji9)).toNat * 3) + 1, none⟩ = some (.int .u64 ((rd_T50 x0_2 (ji9)).f1)) ∧ w'.cell? ⟨go14, (((ji9)).toNat * 3) + 2, none⟩ = some (.int .i64 ((rd_T50 x0_2 (ji9)).f2)) ∧ w'.cell? ⟨go14, ((x9_2).toNat * 3), none⟩ = some (.int .i64 ((rd_T50 x0_2 x9_2).f0)) ∧ w'.cell? ⟨go14, ((x9_2).toNat * 3) + 1, none⟩ = some (.int .u64 ((rd_T50 x0_2 x9_2).f1)) ∧ w'.cell? ⟨go14, ((x9_2).toNat * 3) + 2, none⟩ = some (.int .i64 ((rd_T50 x0_2 x9_2).f2))) (ds := [15, 17]) (mk_ 0 18) (by kernel_rfl) rfl rfl ⟨hx125_0, hx125_1, hx125_2, hx126_0, hx126_1, hx126_2⟩ (fun hHeld => ?_); refine with_tabW batch_Change_95.tab6 batch_Change_95.bits6 (fun HT_ HW_ => ?_)
            generalize w18.drew = w19 at HO_0 HK HB GG14 HQ20 HQ21 hf14_0 hf14_1 hf14_2 hf15_0 hf15_1 hf15_2 hx122_0 hx122_1 hx122_2 hx123_0 hx123_1 hx123_2 hx125_0 hx125_1 hx125_2 hx126_0 hx126_1 hx126_2 hx14_0 hx14_1 hx14_2 hx15_0 hx15_1 hx15_2 hHeld ⊢
            refine pv_ 0 37 (mk_ 1 17) HT_ ?_
            refine pv_ 1 38 (mk_ 2 16) HT_ ?_
            refine pv_ 2 39 (mk_ 3 15) HT_ ?_
            refine pv_ 3 40 (mk_ 4 14) HT_ ?_
            refine pv_ 4 41 (mk_ 5 13) HT_ ?_
            refine pv_ 5 42 (mk_ 6 12) HT_ ?_
            refine pv_ 6 43 (mk_ 7 11) HT_ ?_
            refine pv_ 7 44 (mk_ 8 10) HT_ ?_
            refine pv_ 8 45 (mk_ 9 9) HT_ ?_
            refine pv_ 10 47 #[true, true, true, true, true, true, true, true, true, false, true, false, false, false, false, false, false, false] HT_ ?_
            refine pv_ 11 48 #[true, true, true, true, true, true, true, true, true, false, true, true, false, false, false, false, false, false] HT_ ?_
            refine pv_ 12 49 #[true, true, true, true, true, true, true, true, true, false, true, true, true, false, false, false, false, false] HT_ ?_
            refine tv_ 9 46 (mk_ 13 5) HT_ HW_ hHeld (hy := by rintro w' ⟨s0, s1, s2, s3, s4, s5⟩; go_simp; with_reducible rfl) (h := ?_)
            refine tv_ 13 50 (mk_ 14 4) HT_ HW_ hHeld (hy := by rintro w' ⟨s0, s1, s2, s3, s4, s5⟩; go_simp; with_reducible rfl) (h := ?_)
            refine pv_ 14 51 (mk_ 15 3) HT_ ?_
            refine last_ (i := 15) (N := none) (mk_ 16 2) rfl rfl (one_of HT_.out (by kernel_rfl)) (by decide) (fun K hK => ?_)
            refine skip_ (w1 := ?_) (by rfl) rfl ?_ ?_
            rotate_left
            ·(try simp [go_sem, World.setCells, (show Kd.sz k50 = 3 from rfl), (show ∀ n : Nat, n + 1 + 1 = n + 2 from fun _ => rfl)] at hx15_0 hf15_0 hx15_1 hf15_1 hx15_2 hf15_2)
             go_simp
             rfl
            refine hK.out _ _ ?_
            clear hK K
            refine pv_ 16 52 (mk_ 17 1) HT_ ?_
            refine last_ (i := 17) (N := none) (mk_ 18 0) rfl rfl (one_of HT_.out (by kernel_rfl)) (by decide) (fun K hK => ?_)
            refine skip_ (w1 := ?_) (by rfl) rfl ?_ ?_
            rotate_left
            ·(try simp [go_sem, World.setCells, (show Kd.sz k50 = 3 from rfl), (show ∀ n : Nat, n + 1 + 1 = n + 2 from fun _ => rfl)] at hx15_0 hf15_0 hx15_1 hf15_1 hx15_2 hf15_2)
             go_simp
             rfl
            refine hK.out _ _ ?_
            clear hK K
            refine done_ (done_of HT_.out (by kernel_rfl)) ?_
            try go_wp2
            go_roundg k2
            case measure => have := HK1.out; have := HK2.out; omega
            case rel => exact ⟨(y128), (ji9), (by first | rfl | (simp; done) | (simp only [← hji9] <;> (first | rfl | simp)) | (simp [*]; done)), H', ⟨by have := HK1.out; have := HK2.out; omega⟩, ⟨by (with_reducible repeat (first | apply Kd.R_alloc | apply Kd.R_drewN | apply Kd.R_drew)); exact HQ21.out⟩, ⟨by repeat (first | (with_reducible first | exact HK.out | apply Kept.alloc | apply Kept.drewN | apply Kept.drew | refine Kept.setCell ?_ HMgo14.out _ | refine Kept.setCell ?_ HMgo14.out _ | refine Kept.setCell ?_ HMgo14.out _ | refine Kept.setCell ?_ HMgo14.out _ | refine Kept.setCell ?_ HMgo14.out _ | refine Kept.setCell ?_ HMgo14.out _) | exact HK.out)⟩, ⟨by repeat (first | (with_reducible first | exact HB.out | apply below_alloc | apply pw_below_drewN | apply below_drew1 | refine below_set ?_ GB14.out | refine below_set ?_ GB14.out | refine below_set ?_ GB14.out | refine below_set ?_ GB14.out | refine below_set ?_ GB14.out | refine below_set ?_ GB14.out) | exact HB.out)⟩⟩
           ·rw [if_neg c13] at H
            have c13b0 : decide (t124 < 0) = false := decide_eq_false c13
            clear c13
            have H' := Aside0.mk H
            clear H
            try go_wp2
            have n0_ := Aside0.mk (Kd.R_drew HO_0.out)
            have n1_ := Aside0.mk (Kept.drew HK.out)
            have n2_ := Aside0.mk (below_drew1 HB.out)
            clear HO_0
            clear HK
            clear HB
            have HO_0 := n0_
            have HK := n1_
            have HB := n2_
            clear n0_ n1_ n2_
            obtain ⟨Ao23, co23, eo23⟩ := Kd.R_slice HO_0.out
            (first | subst eo23 | (injection eo23 with f1_ f2_ f3_; have f4_ := f1_.symm; have f5_ := f3_.symm; clear f1_ f2_ f3_; subst f4_; subst f5_))
            have p122 : 0 ≤ (x9_2 : Int) := of_decide_eq_true (by first | (with_reducible assumption) | assumption)
            have q122 : x9_2 < (x0_2.length : Int) := of_decide_eq_true (by first | (with_reducible assumption) | assumption)
            obtain ⟨ad122, e122, hx122_0, hx122_1, hx122_2⟩ := at_T50 (Kd.R_reads' HO_0.out).2.2 x9_2 p122 q122
            cases e122
            replace p122 := eq_true p122
            replace q122 := eq_true q122
            have p123 : 0 ≤ ((ji9) : Int) := of_decide_eq_true (by first | (with_reducible assumption) | assumption)
            have q123 : (ji9) < (x0_2.length : Int) := of_decide_eq_true (by first | (with_reducible assumption) | assumption)
            obtain ⟨ad123, e123, hx123_0, hx123_1, hx123_2⟩ := at_T50 (Kd.R_reads' HO_0.out).2.2 (ji9) p123 q123
            obtain rfl : ad122 = ad123 := (by injection e123)
            replace p123 := eq_true p123
            replace q123 := eq_true q123
            refine start_ (n := 17) (S := fun w' => w'.cell? (ad122.add ((x9_2).toNat * 3)) = some (.int .i64 ((rd_T50 x0_2 x9_2).f0)) ∧ w'.cell? ⟨(ad122.add ((x9_2).toNat * 3)).block, (ad122.add ((x9_2).toNat * 3)).off + 1, none⟩ = some (.int .u64 ((rd_T50 x0_2 x9_2).f1)) ∧ w'.cell? ⟨(ad122.add ((x9_2).toNat * 3)).block, (ad122.add ((x9_2).toNat * 3)).off + 2, none⟩ = some (.int .i64 ((rd_T50 x0_2 x9_2).f2)) ∧ w'.cell? (ad122.add (((ji9)).toNat * 3)) = some (.int .i64 ((rd_T50 x0_2 (ji9)).f0)) ∧ w'.cell? ⟨(ad122.add (((ji9)).toNat * 3)).block, (ad122.add (((ji9)).toNat * 3)).off + 1, none⟩ = some (.int .u64 ((rd_T50 x0_2 (ji9)).f1)) ∧ w'.cell? ⟨(ad122.add (((ji9)).toNat * 3)).block, (ad122.add (((ji9)).toNat * 3)).off + 2, none⟩ = some (.int .i64 ((rd_T50 x0_2 (ji9)).f2))) (ds := []) (mk_ 0 17) (by kernel_rfl) rfl rfl ⟨hx122_0, hx122_1, hx122_2, hx123_0, hx123_1, hx123_2⟩ (fun hHeld => ?_); refine with_tabW batch_Change_95.tab4 batch_Change_95.bits4 (fun HT_ HW_ => ?_)
            generalize wr.drew = w22 at HO_0 HK HB hx122_0 hx122_1 hx122_2 hx123_0 hx123_1 hx123_2 hHeld ⊢
            refine pv_ 0 18 (mk_ 1 16) HT_ ?_
            refine pv_ 1 19 (mk_ 2 15) HT_ ?_
            refine pv_ 2 20 (mk_ 3 14) HT_ ?_
            refine pv_ 3 21 (mk_ 4 13) HT_ ?_
            refine pv_ 4 22 (mk_ 5 12) HT_ ?_
            refine pv_ 5 23 (mk_ 6 11) HT_ ?_
            refine pv_ 6 24 (mk_ 7 10) HT_ ?_
            refine pv_ 7 25 (mk_ 8 9) HT_ ?_
            refine pv_ 9 27 #[true, true, true, true, true, true, true, true, false, true, false, false, false, false, false, false, false] HT_ ?_
            refine pv_ 10 28 #[true, true, true, true, true, true, true, true, false, true, true, false, false, false, false, false, false] HT_ ?_
            refine pv_ 11 29 #[true, true, true, true, true, true, true, true, false, true, true, true, false, false, false, false, false] HT_ ?_
            refine pv_ 12 30 #[true, true, true, true, true, true, true, true, false, true, true, true, true, false, false, false, false] HT_ ?_
            refine tv_ 8 26 (mk_ 13 4) HT_ HW_ hHeld (hy := by rintro w' ⟨s0, s1, s2, s3, s4, s5⟩; go_simp; with_reducible rfl) (h := ?_)
            refine tv_ 13 31 (mk_ 14 3) HT_ HW_ hHeld (hy := by rintro w' ⟨s0, s1, s2, s3, s4, s5⟩; go_simp; with_reducible rfl) (h := ?_)
            refine one_ (i := 14) (N := some 32) (mk_ 15 2) rfl rfl (one_of HT_.out (by kernel_rfl)) (by decide) (fun K hK => ?_)
            refine goesTT_ Try.func53 (by kernel_rfl) rfl #[.agg #[.int .i64 ((rd_T50 x0_2 x9_2).f0), .int .u64 ((rd_T50 x0_2 x9_2).f1), .int .i64 ((rd_T50 x0_2 x9_2).f2)], .agg #[.int .i64 ((rd_T50 x0_2 (ji9)).f0), .int .u64 ((rd_T50 x0_2 (ji9)).f1), .int .i64 ((rd_T50 x0_2 (ji9)).f2)]] (by rfl) rfl rfl rfl (by (try simp only [List.map_toArray, List.map_cons, List.map_nil]); first | done | (simp only [hji9]; rfl) | rfl | (simp only [List.length_drop, List.length_take]; rfl)) ?_
            with_reducible refine (batch_order.calls k2 ((rd_T50 x0_2 x9_2).f0) ((rd_T50 x0_2 x9_2).f1) ((rd_T50 x0_2 x9_2).f2) ((rd_T50 x0_2 (ji9)).f0) ((rd_T50 x0_2 (ji9)).f1) ((rd_T50 x0_2 (ji9)).f2) t124 _ A12.out).mono ?_
            rintro e w24 ⟨rfl, hb⟩
            have HS0_ := (hb.cell (World.block_lt_of_cell? _ _ (hHeld.1))).trans (hHeld.1)
            have HS1_ := (hb.cell (World.block_lt_of_cell? _ _ (hHeld.2.1))).trans (hHeld.2.1)
            have HS2_ := (hb.cell (World.block_lt_of_cell? _ _ (hHeld.2.2.1))).trans (hHeld.2.2.1)
            have HS3_ := (hb.cell (World.block_lt_of_cell? _ _ (hHeld.2.2.2.1))).trans (hHeld.2.2.2.1)
            have HS4_ := (hb.cell (World.block_lt_of_cell? _ _ (hHeld.2.2.2.2.1))).trans (hHeld.2.2.2.2.1)
            have HS5_ := (hb.cell (World.block_lt_of_cell? _ _ (hHeld.2.2.2.2.2))).trans (hHeld.2.2.2.2.2)
            refine ⟨_, rfl, ?_⟩
            have n0_ := Aside0.mk (Kd.R_below (by (with_reducible repeat (first | apply Kd.R_alloc | apply Kd.R_drewN | apply Kd.R_drew)); exact HO_0.out) hb)
            have n1_ := Aside0.mk (Kept.below (S := (fun k_ => P0_ k_)) (by repeat (first | (with_reducible first | exact HK.out | apply Kept.alloc | apply Kept.drewN | apply Kept.drew) | exact HK.out)) hb)
            have n2_ := Aside0.mk (below_step (by repeat (first | (with_reducible first | exact HB.out | apply below_alloc | apply pw_below_drewN | apply below_drew1) | exact HB.out)) hb)
            clear HO_0
            clear HK
            clear HB
            have HO_0 := n0_
            have HK := n1_
            have HB := n2_
            clear n0_ n1_ n2_
            (try clear hb)
            (try clear hb2)
            (try clear hk)
            (try clear hi)
            refine hK.out _ _ ⟨HS0_, HS1_, HS2_, HS3_, HS4_, HS5_⟩ (fun hHeld => ?_)
            clear hK K
            refine norm_ (a' := ?_) ?_ ?_
            rotate_left
            ·show Act.put _ (some 32) _ = _
             simp only [Act.put, List.setIfInBounds_toArray, List.set_cons_zero, List.set_cons_succ, i64_w, i32_w]
             rfl
            refine pv_ 15 33 (mk_ 16 1) HT_ ?_
            refine pv_ 16 34 (mk_ 17 0) HT_ ?_
            refine done_ (done_of HT_.out (by kernel_rfl)) ?_
            try go_wp2
            go_roundg k2
            case measure => have := HK1.out; have := HK2.out; omega
            case rel => exact ⟨(x0_2), (wrap64 (x8_1 + 1)), (by first | rfl | (simp; done) | (simp [*]; done)), H', ⟨by have := HK1.out; have := HK2.out; omega⟩, ⟨by (with_reducible repeat (first | apply Kd.R_alloc | apply Kd.R_drewN | apply Kd.R_drew)); exact HO_0.out⟩, ⟨by repeat (first | (with_reducible first | exact HK.out | apply Kept.alloc | apply Kept.drewN | apply Kept.drew) | exact HK.out)⟩, ⟨by repeat (first | (with_reducible first | exact HB.out | apply below_alloc | apply pw_below_drewN | apply below_drew1) | exact HB.out)⟩⟩
          ·rw [if_neg c11] at H
           exact absurd H (by simp)
         ·rw [if_neg c10] at H
          exact absurd H (by simp)
        ·rw [if_neg c8] at H
         exact absurd H (by simp)
       ·rw [if_neg c7] at H
        exact absurd H (by simp)
      ·rw [if_neg c6] at H
       have c6b0 : decide (a1 < x9_2) = false := decide_eq_false c6
       clear c6
       have H' := Aside0.mk H
       clear H
       try go_wp2
       have n0_ := Aside0.mk (Kd.R_drew HO_0.out)
       have n1_ := Aside0.mk (Kept.drew HK.out)
       have n2_ := Aside0.mk (below_drew1 HB.out)
       clear HO_0
       clear HK
       clear HB
       have HO_0 := n0_
       have HK := n1_
       have HB := n2_
       clear n0_ n1_ n2_
       refine start_ (n := 17) (S := fun w' => True) (ds := []) (mk_ 0 17) (by kernel_rfl) rfl rfl trivial (fun hHeld => ?_); refine with_tabW batch_Change_95.tab4 batch_Change_95.bits4 (fun HT_ HW_ => ?_)
       generalize wr.drew = w25 at HO_0 HK HB hHeld ⊢
       refine pv_ 0 18 (mk_ 1 16) HT_ ?_
       refine pv_ 1 19 (mk_ 2 15) HT_ ?_
       refine pv_ 2 20 (mk_ 3 14) HT_ ?_
       refine pv_ 3 21 (mk_ 4 13) HT_ ?_
       refine pu_ 4 22 (mk_ 5 12) HT_ ?_
       refine pu_ 5 23 (mk_ 6 11) HT_ ?_
       refine pu_ 6 24 (mk_ 7 10) HT_ ?_
       refine pu_ 7 25 (mk_ 8 9) HT_ ?_
       refine pu_ 8 26 (mk_ 9 8) HT_ ?_
       refine pu_ 9 27 (mk_ 10 7) HT_ ?_
       refine pu_ 10 28 (mk_ 11 6) HT_ ?_
       refine pu_ 11 29 (mk_ 12 5) HT_ ?_
       refine pu_ 12 30 (mk_ 13 4) HT_ ?_
       refine pu_ 13 31 (mk_ 14 3) HT_ ?_
       refine pu_ 14 32 (mk_ 15 2) HT_ ?_
       refine pu_ 15 33 (mk_ 16 1) HT_ ?_
       refine pv_ 16 34 (mk_ 17 0) HT_ ?_
       refine done_ (done_of HT_.out (by kernel_rfl)) ?_
       try go_wp2
       go_roundg k2
       case measure => have := HK1.out; have := HK2.out; omega
       case rel => exact ⟨(x0_2), (wrap64 (x8_1 + 1)), (by first | rfl | (simp; done) | (simp [*]; done)), H', ⟨by have := HK1.out; have := HK2.out; omega⟩, ⟨by (with_reducible repeat (first | apply Kd.R_alloc | apply Kd.R_drewN | apply Kd.R_drew)); exact HO_0.out⟩, ⟨by repeat (first | (with_reducible first | exact HK.out | apply Kept.alloc | apply Kept.drewN | apply Kept.drew) | exact HK.out)⟩, ⟨by repeat (first | (with_reducible first | exact HB.out | apply below_alloc | apply pw_below_drewN | apply below_drew1) | exact HB.out)⟩⟩
   ·rw [if_neg c5] at H
    have c5b0 : decide (x8_1 < a2) = false := decide_eq_false c5
    clear c5
    obtain rfl := Option.some.inj H
    go_wp2
    first | go_end0 | ((try simp only [Exit.inBlock, Exit.then]); refine bodyPost_ret (results_none rfl _ _ _) rfl ?_)
    exact ⟨by first | rfl | (simp [errW_none, errW_some] <;> rfl) | (simp [*, errW_none, errW_some] <;> rfl), by (with_reducible repeat (first | apply Kd.R_alloc | apply Kd.R_drewN | apply Kd.R_drew)); exact HO_0.out, by repeat (first | (with_reducible first | exact HB.out | apply below_alloc | apply pw_below_drewN | apply below_drew1) | exact HB.out), by repeat (first | (with_reducible first | exact HK.out | apply Kept.alloc | apply Kept.drewN | apply Kept.drew) | exact HK.out)⟩

end Go.Proofs.Ytgeldmhgbnamcaa.P
end
section
-- Printed by the session's own turn of the print (wip/tools/print2.sh): some callees are proved by hand.
namespace Go.Proofs.Ytgeldmhgbnamcaa.P
open Go.RowKit Go.Proofs.YtgeldmhgbnamcaaW.PrintWords Go.Proofs.YtgeldmhgbnamcaaW.PrintLast Go.Proofs.YtgeldmhgbnamcaaW.PrintMore
attribute [local go_sem] max2_int min2_int max_two min_two max_three min_three max_four min_four   -- for this text's walks alone
set_option linter.unusedVariables false
set_option linter.unusedSimpArgs false

/-! ### batch_Change_99: function 99 -/
def batch_Change_99.l0 : Nat → List (S50) → Int → Int → Int → Int → Option ((List (S50)))
 | 0, _, _, _, _, _ => none
 | k + 1, x0, x1, x2, x3, x10 => if x10 < x3 then (if 0 ≤ (wrap64 (x2 + x10)) then (if (wrap64 (x2 + x10)) < (x0.length : Int) then (if 0 ≤ (wrap64 (x1 + x10)) then (if (wrap64 (x1 + x10)) < (x0.length : Int) then (batch_Change_99.l0 k ((x0.set ((wrap64 (x1 + x10)) : Int).toNat (⟨(rd_T50 x0 (wrap64 (x2 + x10))).f0, (rd_T50 x0 (wrap64 (x2 + x10))).f1, (rd_T50 x0 (wrap64 (x2 + x10))).f2⟩ : S50)).set ((wrap64 (x2 + x10)) : Int).toNat (⟨(rd_T50 x0 (wrap64 (x1 + x10))).f0, (rd_T50 x0 (wrap64 (x1 + x10))).f1, (rd_T50 x0 (wrap64 (x1 + x10))).f2⟩ : S50)) x1 x2 x3 (wrap64 (x10 + 1))) else (none)) else (none)) else (none)) else (none)) else (some x0)
def batch_Change_99.f (k : Nat) (l0 : List (S50)) (a1 : Int) (a2 : Int) (a3 : Int)  : Option ((List (S50))) := batch_Change_99.l0 k l0 a1 a2 a3 0
theorem batch_Change_99.mono_l : ∀ k, (∀ y0 y1 y2 y3 y4, LeO (batch_Change_99.l0 k y0 y1 y2 y3 y4) (batch_Change_99.l0 (k + 1) y0 y1 y2 y3 y4))
 | 0 => fun _ _ _ _ _ r h => by simp [batch_Change_99.l0] at h
 | k + 1 => by
  have ih0 := batch_Change_99.mono_l k
  ·intro y0 y1 y2 y3 y4
   unfold batch_Change_99.l0
   repeat' first
   | (with_reducible exact ih0 _ _ _ _ _)
   | (with_reducible exact LeO.refl _)
   | (with_reducible exact LeO.none _)
   | (with_reducible refine LeO.ite ?_ ?_)
   | (with_reducible refine LeO.bind ?_ (fun _ => ?_))
   | exact ih0 _ _ _ _ _
   | exact LeO.none _
   | refine LeO.ite ?_ ?_
   | refine LeO.bind ?_ (fun _ => ?_)
theorem batch_Change_99.mono : ∀ a0 a1 a2 a3 k, LeO (batch_Change_99.f k a0 a1 a2 a3) (batch_Change_99.f (k + 1) a0 a1 a2 a3) := by
 intro a0 a1 a2 a3 k
 have ih0 := batch_Change_99.mono_l k
 unfold batch_Change_99.f
 repeat' first
   | (with_reducible exact ih0 _ _ _ _ _)
   | (with_reducible exact LeO.refl _)
   | (with_reducible exact LeO.none _)
   | (with_reducible refine LeO.ite ?_ ?_)
   | (with_reducible refine LeO.bind ?_ (fun _ => ?_))
   | exact ih0 _ _ _ _ _
   | exact LeO.none _
   | refine LeO.ite ?_ ?_
   | refine LeO.bind ?_ (fun _ => ?_)
def batch_Change_99.T3 : Bool × List (List Nat × List Nat) := (true, [([], []), ([], []), ([], []), ([1, 2], [1, 2]), ([], []), ([], []), ([], []), ([5, 6], [5, 6]), ([], []), ([], []), ([], []), ([9, 10], [9, 10]), ([8, 11], [8, 11]), ([12], [12]), ([], []), ([], []), ([], []), ([15, 16], [15, 16]), ([14, 17], [14, 17]), ([18], [18]), ([0, 3, 0, 1, 2, 3, 8, 9, 10, 11, 12, 13, 19], [0, 3]), ([20, 13, 0, 1, 2, 3, 8, 9, 10, 11, 12, 13, 19], [13, 20]), ([4, 7, 0, 1, 2, 3, 4, 5, 6, 7, 8, 9, 10, 11, 12, 13, 14, 15, 16, 17, 18, 19, 20, 21], [4, 7]), ([22, 19, 21, 0, 1, 2, 3, 4, 5, 6, 7, 8, 9, 10, 11, 12, 13, 14, 15, 16, 17, 18, 19, 20, 21], [19, 22])])
def batch_Change_99.B3 : List Nat := [0, 0, 0, 6, 0, 0, 0, 96, 0, 0, 0, 1536, 3840, 7936, 0, 0, 0, 98304, 245760, 507904, 1048335, 2096911, 4194303, 8388607]
theorem batch_Change_99.tab3 : rtab .any (opsOf Try.f99 3) = batch_Change_99.T3 := by kernel_rfl
theorem batch_Change_99.bits3 : waitsOk batch_Change_99.T3.2 batch_Change_99.B3 = true := by kernel_rfl
set_option maxHeartbeats 8000000 in
set_option maxRecDepth 100000 in
theorem batch_Change_99.calls (k : Nat) (P0_ : Nat → Prop) (u9000_ : Value) (l0 : List (S50)) (a1 : Int) (a2 : Int) (a3 : Int)  (r : List (S50)) (w0 w : World) (hB : Below w0.heap.size w0 w) (ho0 : Kd.R k50 50 w w0.heap.size P0_ u9000_ l0) (h : batch_Change_99.f k l0 a1 a2 a3 = some r) :
  Calls Try.prog 99 #[u9000_, .int .i64 a1, .int .i64 a2, .int .i64 a3, .func (.func 53) #[] #[]] w fun e w' => e = .returned (.tuple #[]) ∧ Kd.R k50 50 w' w0.heap.size (fun k_ => (P0_ k_ ∨ w.heap.size ≤ k_)) u9000_ r ∧ Below w0.heap.size w0 w' ∧ Kept w w' (fun k_ => P0_ k_) := by
 have hu50 := Try.underlying50
 have HO0 := Aside0.mk (show Kd.R k50 50 w w0.heap.size (fun k_ => (P0_ k_ ∨ w.heap.size ≤ k_)) u9000_ l0 from Kd.R_mono ho0 (fun k_ hk => (.inl hk)))
 have HK := Aside0.mk (Kept.refl w (fun k_ => P0_ k_))
 have HW0 := Aside0.mk hB.size
 have HB := Aside0.mk hB
 clear hB
 have H : (batch_Change_99.l0 k l0 a1 a2 a3 0) = some r := h
 clear h
 have H' := Aside0.mk H
 clear H
 go_enter Try.func99, Try.ntmps99
 go_wp2
 go_loopg [10] k (fun kq v10 w' => ∃ (x0_1 : List (S50)) (x10_1 : Int), v10 = .int .i64 x10_1 ∧ Aside0 (batch_Change_99.l0 kq x0_1 a1 a2 a3 x10_1 = some r) ∧ Aside0 (kq ≤ k) ∧ Aside0 (Kd.R k50 50 w' w0.heap.size (fun k_ => (P0_ k_ ∨ w.heap.size ≤ k_)) u9000_ x0_1) ∧ Aside0 (Kept w w' (fun k_ => P0_ k_)) ∧ Aside0 (Below w0.heap.size w0 w'))
 case atStart => exact ⟨(l0), (0), (by first | rfl | (simp; done) | (simp [*]; done)), H', ⟨Nat.le_refl _⟩, ⟨by (with_reducible repeat (first | apply Kd.R_alloc | apply Kd.R_drewN | apply Kd.R_drew)); exact HO0.out⟩, ⟨by repeat (first | (with_reducible first | exact HK.out | apply Kept.alloc | apply Kept.drewN | apply Kept.drew) | exact HK.out)⟩, ⟨by repeat (first | (with_reducible first | exact HB.out | apply below_alloc | apply pw_below_drewN | apply below_drew1) | exact HB.out)⟩⟩
 case round =>
  clear H'
  try clear p2
  obtain ⟨x0_1, x10_1, rfl, HA, HK1, HO_0, HK, HB⟩ := hrel
  cases gk with
  | zero => exact absurd HA.out (by simp [batch_Change_99.l0])
  | succ k1 =>
   have H := HA.out
   clear HA
   simp only [batch_Change_99.l0] at H
   by_cases c6 : x10_1 < a3
   ·rw [if_pos c6] at H
    have c6b0 : decide (x10_1 < a3) = true := decide_eq_true c6
    clear c6
    obtain ⟨ji7, hji7⟩ : ∃ j_ : Int, (wrap64 (a2 + x10_1)) = j_ := ⟨_, rfl⟩
    replace H : (if 0 ≤ (ji7) then (if (ji7) < (x0_1.length : Int) then (if 0 ≤ (wrap64 (a1 + x10_1)) then (if (wrap64 (a1 + x10_1)) < (x0_1.length : Int) then (batch_Change_99.l0 k1 ((x0_1.set ((wrap64 (a1 + x10_1)) : Int).toNat (⟨(rd_T50 x0_1 (ji7)).f0, (rd_T50 x0_1 (ji7)).f1, (rd_T50 x0_1 (ji7)).f2⟩ : S50)).set ((ji7) : Int).toNat (⟨(rd_T50 x0_1 (wrap64 (a1 + x10_1))).f0, (rd_T50 x0_1 (wrap64 (a1 + x10_1))).f1, (rd_T50 x0_1 (wrap64 (a1 + x10_1))).f2⟩ : S50)) a1 a2 a3 (wrap64 (x10_1 + 1))) else (none)) else (none)) else (none)) else (none)) = some r := by first | (rw [hji7] at H; exact H) | (simp only [hji7] at H ⊢; exact H)
    have hji7w : (IntKind.i64.wrap (a2 + x10_1)) = ji7 := (i64_w _).trans hji7
    by_cases c8 : 0 ≤ (ji7)
    ·rw [if_pos c8] at H
     have c8b0 : decide (0 ≤ (ji7)) = true := decide_eq_true c8
     clear c8
     by_cases c9 : (ji7) < (x0_1.length : Int)
     ·rw [if_pos c9] at H
      have c9b0 : decide ((ji7) < (x0_1.length : Int)) = true := decide_eq_true c9
      clear c9
      obtain ⟨ji10, hji10⟩ : ∃ j_ : Int, (wrap64 (a1 + x10_1)) = j_ := ⟨_, rfl⟩
      replace H : (if 0 ≤ (ji10) then (if (ji10) < (x0_1.length : Int) then (batch_Change_99.l0 k1 ((x0_1.set ((ji10) : Int).toNat (⟨(rd_T50 x0_1 (ji7)).f0, (rd_T50 x0_1 (ji7)).f1, (rd_T50 x0_1 (ji7)).f2⟩ : S50)).set ((ji7) : Int).toNat (⟨(rd_T50 x0_1 (ji10)).f0, (rd_T50 x0_1 (ji10)).f1, (rd_T50 x0_1 (ji10)).f2⟩ : S50)) a1 a2 a3 (wrap64 (x10_1 + 1))) else (none)) else (none)) = some r := by first | (rw [hji10] at H; exact H) | (simp only [hji10] at H ⊢; exact H)
      have hji10w : (IntKind.i64.wrap (a1 + x10_1)) = ji10 := (i64_w _).trans hji10
      by_cases c11 : 0 ≤ (ji10)
      ·rw [if_pos c11] at H
       have c11b0 : decide (0 ≤ (ji10)) = true := decide_eq_true c11
       clear c11
       by_cases c12 : (ji10) < (x0_1.length : Int)
       ·rw [if_pos c12] at H
        have c12b0 : decide ((ji10) < (x0_1.length : Int)) = true := decide_eq_true c12
        clear c12
        obtain ⟨y131, hy131⟩ : ∃ y_ : List (S50), y_ = (x0_1.set ((ji10) : Int).toNat (⟨(rd_T50 x0_1 (ji7)).f0, (rd_T50 x0_1 (ji7)).f1, (rd_T50 x0_1 (ji7)).f2⟩ : S50)) := ⟨_, rfl⟩
        replace H : (batch_Change_99.l0 k1 (y131.set ((ji7) : Int).toNat (⟨(rd_T50 x0_1 (ji10)).f0, (rd_T50 x0_1 (ji10)).f1, (rd_T50 x0_1 (ji10)).f2⟩ : S50)) a1 a2 a3 (wrap64 (x10_1 + 1))) = some r := by first | (rw [hy131]; with_reducible exact H) | (have H2_ := (Option.bind_some _ _).symm.trans H; rw [hy131]; with_reducible exact H2_) | (have H2_ := (Option.bind_some _ _).symm.trans H; with_reducible exact H2_) | with_reducible exact H | (rw [hy131]; exact H) | exact H
        have Ny131 := Aside0.mk hy131
        clear hy131
        obtain ⟨y132, hy132⟩ : ∃ y_ : List (S50), y_ = (y131.set ((ji7) : Int).toNat (⟨(rd_T50 x0_1 (ji10)).f0, (rd_T50 x0_1 (ji10)).f1, (rd_T50 x0_1 (ji10)).f2⟩ : S50)) := ⟨_, rfl⟩
        replace H : (batch_Change_99.l0 k1 y132 a1 a2 a3 (wrap64 (x10_1 + 1))) = some r := by first | (rw [hy132]; with_reducible exact H) | (have H2_ := (Option.bind_some _ _).symm.trans H; rw [hy132]; with_reducible exact H2_) | (have H2_ := (Option.bind_some _ _).symm.trans H; with_reducible exact H2_) | with_reducible exact H | (rw [hy132]; exact H) | exact H
        have Ny132 := Aside0.mk hy132
        clear hy132
        have H' := Aside0.mk H
        clear H
        try go_wp2
        have n0_ := Aside0.mk (Kd.R_drew HO_0.out)
        have n1_ := Aside0.mk (Kept.drew HK.out)
        have n2_ := Aside0.mk (below_drew1 HB.out)
        clear HO_0
        clear HK
        clear HB
        have HO_0 := n0_
        have HK := n1_
        have HB := n2_
        clear n0_ n1_ n2_
        obtain ⟨Ao16, co16, eo16⟩ := Kd.R_slice HO_0.out
        (first | subst eo16 | (injection eo16 with f1_ f2_ f3_; have f4_ := f1_.symm; have f5_ := f3_.symm; clear f1_ f2_ f3_; subst f4_; subst f5_))
        have p129 : 0 ≤ ((ji7) : Int) := of_decide_eq_true (by first | (with_reducible assumption) | assumption)
        have q129 : (ji7) < (x0_1.length : Int) := of_decide_eq_true (by first | (with_reducible assumption) | assumption)
        obtain ⟨ad129, e129, hx129_0, hx129_1, hx129_2⟩ := at_T50 (Kd.R_reads' HO_0.out).2.2 (ji7) p129 q129
        cases e129
        replace p129 := eq_true p129
        replace q129 := eq_true q129
        have p130 : 0 ≤ ((ji10) : Int) := of_decide_eq_true (by first | (with_reducible assumption) | assumption)
        have q130 : (ji10) < (x0_1.length : Int) := of_decide_eq_true (by first | (with_reducible assumption) | assumption)
        obtain ⟨ad130, e130, hx130_0, hx130_1, hx130_2⟩ := at_T50 (Kd.R_reads' HO_0.out).2.2 (ji10) p130 q130
        obtain rfl : ad129 = ad130 := (by injection e130)
        replace p130 := eq_true p130
        replace q130 := eq_true q130
        have p13 : 0 ≤ ((ji10) : Int) := of_decide_eq_true (by first | (with_reducible assumption) | assumption)
        have q13 : ((ji10) : Int) < ((x0_1.length : Int) : Int) := of_decide_eq_true (by first | (with_reducible assumption) | assumption)
        obtain ⟨go13, co13, eo13, gb13, gl13, cl13, HG13⟩ := Kd.R_form HO_0.out (by omega)
        (first | cases eo13 | (injection eo13 with ea_ en_ ec_; (first | subst ea_ | (injection ea_ with ea_; subst ea_)); subst ec_; clear en_))
        have GB13 := Aside0.mk gb13
        have GG13 := Aside0.mk HG13
        clear gb13 gl13 HG13
        have HMgo13 := Aside0.mk (show (P0_ go13 ∨ w.heap.size ≤ go13) from (HO_0.out.1 _ rfl))
        (first | simp only [add_plain] at hx129_0 | skip)
        (first | simp only [add_plain] at hx129_1 | skip)
        (first | simp only [add_plain] at hx129_2 | skip)
        (first | simp only [add_plain] at hx130_0 | skip)
        (first | simp only [add_plain] at hx130_1 | skip)
        (first | simp only [add_plain] at hx130_2 | skip)
        obtain ⟨ce13, hcl13, hM13, hcc13, hfr13⟩ := Kd.R_elem HO_0.out z50 ((ji10) : Int) p13 q13
        obtain rfl := k50_openM hM13
        have hx13_0 : World.cell? _ ⟨go13, ((ji10) : Int).toNat * 3, none⟩ = some (.int .i64 ((rd_T50 x0_1 (ji10)).f0)) := hcc13 0 _ rfl
        have hx13_1 : World.cell? _ ⟨go13, ((ji10) : Int).toNat * 3 + 1, none⟩ = some (.int .u64 ((rd_T50 x0_1 (ji10)).f1)) := hcc13 1 _ rfl
        have hx13_2 : World.cell? _ ⟨go13, ((ji10) : Int).toNat * 3 + 2, none⟩ = some (.int .i64 ((rd_T50 x0_1 (ji10)).f2)) := hcc13 2 _ rfl
        have hf13_0 : World.frozen? _ ⟨go13, ((ji10) : Int).toNat * 3, none⟩ = false := hfr13 0
        have hf13_1 : World.frozen? _ ⟨go13, ((ji10) : Int).toNat * 3 + 1, none⟩ = false := hfr13 1
        have hf13_2 : World.frozen? _ ⟨go13, ((ji10) : Int).toNat * 3 + 2, none⟩ = false := hfr13 2
        clear hcl13 hcc13 hfr13 hM13
        replace p13 := eq_true p13
        replace q13 := eq_true q13
        obtain ⟨ce17, hcl17, hM17, hcc17, hfr17⟩ := Kd.R_elem HO_0.out z50 ((ji10) : Int) (of_decide_eq_true (by first | (with_reducible assumption) | assumption)) (by have h_ : ((ji10) : Int) < ((x0_1.length : Int) : Int) := of_decide_eq_true (by first | (with_reducible assumption) | assumption); first | exact h_ | (have e_ := (Kd.R_reads' HO_0.out).1; omega) | simpa using h_)
        obtain rfl := k50_openM hM17
        have HP17 := (Kd.R_seg HO_0.out ((ji10) : Int) (of_decide_eq_true (by first | (with_reducible assumption) | assumption)) (by have h_ : ((ji10) : Int) < ((x0_1.length : Int) : Int) := of_decide_eq_true (by first | (with_reducible assumption) | assumption); first | exact h_ | (have e_ := (Kd.R_reads' HO_0.out).1; omega) | simpa using h_) (seg := [.int .i64 ((rd_T50 x0_1 (ji7)).f0), .int .u64 ((rd_T50 x0_1 (ji7)).f1), .int .i64 ((rd_T50 x0_1 (ji7)).f2)]) (j := 0) hcl17 hcc17 (show 3 ≤ 3 from by decide) (x' := (⟨(rd_T50 x0_1 (ji7)).f0, (rd_T50 x0_1 (ji7)).f1, (rd_T50 x0_1 (ji7)).f2⟩ : S50)) (k50_mkM _ _ _ (⟨(rd_T50 x0_1 (ji7)).f0, (rd_T50 x0_1 (ji7)).f1, (rd_T50 x0_1 (ji7)).f2⟩ : S50) ) (fun _ hk => hk)).1
        rw [← Ny131.out] at HP17
        have HQ17 := Aside0.mk HP17
        clear hcl17 hcc17 hfr17 hM17 HP17
        have p14 : 0 ≤ ((ji7) : Int) := of_decide_eq_true (by first | (with_reducible assumption) | assumption)
        have q14 : ((ji7) : Int) < ((x0_1.length : Int) : Int) := of_decide_eq_true (by first | (with_reducible assumption) | assumption)
        obtain ⟨ce14, hcl14, hM14, hcc14, hfr14⟩ := Kd.R_elem HQ17.out z50 ((ji7) : Int) p14 q14
        obtain rfl := k50_openM hM14
        have hx14_0 : World.cell? _ ⟨go13, ((ji7) : Int).toNat * 3, none⟩ = some (.int .i64 ((rd_T50 y131 (ji7)).f0)) := hcc14 0 _ rfl
        have hx14_1 : World.cell? _ ⟨go13, ((ji7) : Int).toNat * 3 + 1, none⟩ = some (.int .u64 ((rd_T50 y131 (ji7)).f1)) := hcc14 1 _ rfl
        have hx14_2 : World.cell? _ ⟨go13, ((ji7) : Int).toNat * 3 + 2, none⟩ = some (.int .i64 ((rd_T50 y131 (ji7)).f2)) := hcc14 2 _ rfl
        have hf14_0 : World.frozen? _ ⟨go13, ((ji7) : Int).toNat * 3, none⟩ = false := hfr14 0
        have hf14_1 : World.frozen? _ ⟨go13, ((ji7) : Int).toNat * 3 + 1, none⟩ = false := hfr14 1
        have hf14_2 : World.frozen? _ ⟨go13, ((ji7) : Int).toNat * 3 + 2, none⟩ = false := hfr14 2
        clear hcl14 hcc14 hfr14 hM14
        replace p14 := eq_true p14
        replace q14 := eq_true q14
        obtain ⟨ce18, hcl18, hM18, hcc18, hfr18⟩ := Kd.R_elem HQ17.out z50 ((ji7) : Int) (of_decide_eq_true (by first | (with_reducible assumption) | assumption)) (by have h_ : ((ji7) : Int) < ((x0_1.length : Int) : Int) := of_decide_eq_true (by first | (with_reducible assumption) | assumption); first | exact h_ | (have e_ := (Kd.R_reads' HO_0.out).1; omega) | simpa using h_)
        obtain rfl := k50_openM hM18
        have HP18 := (Kd.R_seg HQ17.out ((ji7) : Int) (of_decide_eq_true (by first | (with_reducible assumption) | assumption)) (by have h_ : ((ji7) : Int) < ((x0_1.length : Int) : Int) := of_decide_eq_true (by first | (with_reducible assumption) | assumption); first | exact h_ | (have e_ := (Kd.R_reads' HO_0.out).1; omega) | simpa using h_) (seg := [.int .i64 ((rd_T50 x0_1 (ji10)).f0), .int .u64 ((rd_T50 x0_1 (ji10)).f1), .int .i64 ((rd_T50 x0_1 (ji10)).f2)]) (j := 0) hcl18 hcc18 (show 3 ≤ 3 from by decide) (x' := (⟨(rd_T50 x0_1 (ji10)).f0, (rd_T50 x0_1 (ji10)).f1, (rd_T50 x0_1 (ji10)).f2⟩ : S50)) (k50_mkM _ _ _ (⟨(rd_T50 x0_1 (ji10)).f0, (rd_T50 x0_1 (ji10)).f1, (rd_T50 x0_1 (ji10)).f2⟩ : S50) ) (fun _ hk => hk)).1
        rw [← Ny132.out] at HP18
        have HQ18 := Aside0.mk HP18
        clear hcl18 hcc18 hfr18 hM18 HP18
        refine start_ (n := 24) (S := fun w' => w'.cell? ⟨go13, (((ji7)).toNat * 3), none⟩ = some (.int .i64 ((rd_T50 x0_1 (ji7)).f0)) ∧ w'.cell? ⟨go13, (((ji7)).toNat * 3) + 1, none⟩ = some (.int .u64 ((rd_T50 x0_1 (ji7)).f1)) ∧ w'.cell? ⟨go13, (((ji7)).toNat * 3) + 2, none⟩ = some (.int .i64 ((rd_T50 x0_1 (ji7)).f2)) ∧ w'.cell? ⟨go13, (((ji10)).toNat * 3), none⟩ = some (.int .i64 ((rd_T50 x0_1 (ji10)).f0)) ∧ w'.cell? ⟨go13, (((ji10)).toNat * 3) + 1, none⟩ = some (.int .u64 ((rd_T50 x0_1 (ji10)).f1)) ∧ w'.cell? ⟨go13, (((ji10)).toNat * 3) + 2, none⟩ = some (.int .i64 ((rd_T50 x0_1 (ji10)).f2))) (ds := [21, 23]) (mk_ 0 24) (by kernel_rfl) rfl rfl ⟨hx129_0, hx129_1, hx129_2, hx130_0, hx130_1, hx130_2⟩ (fun hHeld => ?_); refine with_tabW batch_Change_99.tab3 batch_Change_99.bits3 (fun HT_ HW_ => ?_)
        generalize wr.drew = w15 at HO_0 HK HB GG13 HQ17 HQ18 hf13_0 hf13_1 hf13_2 hf14_0 hf14_1 hf14_2 hx129_0 hx129_1 hx129_2 hx130_0 hx130_1 hx130_2 hx13_0 hx13_1 hx13_2 hx14_0 hx14_1 hx14_2 hHeld ⊢
        refine pv_ 0 16 (mk_ 1 23) HT_ ?_
        refine pv_ 1 17 (mk_ 2 22) HT_ ?_
        refine pv_ 2 18 (mk_ 3 21) HT_ ?_
        refine pv_ 3 19 (mk_ 4 20) HT_ ?_
        refine pv_ 4 20 (mk_ 5 19) HT_ ?_
        refine pv_ 5 21 (mk_ 6 18) HT_ ?_
        refine pv_ 6 22 (mk_ 7 17) HT_ ?_
        refine pv_ 7 23 (mk_ 8 16) HT_ ?_
        refine pv_ 8 24 (mk_ 9 15) HT_ ?_
        refine pv_ 9 25 (mk_ 10 14) HT_ ?_
        refine pv_ 10 26 (mk_ 11 13) HT_ ?_
        refine pv_ 11 27 (mk_ 12 12) HT_ ?_
        refine pv_ 12 28 (mk_ 13 11) HT_ ?_
        refine pv_ 14 30 #[true, true, true, true, true, true, true, true, true, true, true, true, true, false, true, false, false, false, false, false, false, false, false, false] HT_ ?_
        refine pv_ 15 31 #[true, true, true, true, true, true, true, true, true, true, true, true, true, false, true, true, false, false, false, false, false, false, false, false] HT_ ?_
        refine pv_ 16 32 #[true, true, true, true, true, true, true, true, true, true, true, true, true, false, true, true, true, false, false, false, false, false, false, false] HT_ ?_
        refine pv_ 17 33 #[true, true, true, true, true, true, true, true, true, true, true, true, true, false, true, true, true, true, false, false, false, false, false, false] HT_ ?_
        refine pv_ 18 34 #[true, true, true, true, true, true, true, true, true, true, true, true, true, false, true, true, true, true, true, false, false, false, false, false] HT_ ?_
        refine tv_ 13 29 (mk_ 19 5) HT_ HW_ hHeld (hy := by rintro w' ⟨s0, s1, s2, s3, s4, s5⟩; go_simp; with_reducible rfl) (h := ?_)
        refine tv_ 19 35 (mk_ 20 4) HT_ HW_ hHeld (hy := by rintro w' ⟨s0, s1, s2, s3, s4, s5⟩; go_simp; with_reducible rfl) (h := ?_)
        refine pv_ 20 36 (mk_ 21 3) HT_ ?_
        refine last_ (i := 21) (N := none) (mk_ 22 2) rfl rfl (one_of HT_.out (by kernel_rfl)) (by decide) (fun K hK => ?_)
        refine skip_ (w1 := ?_) (by rfl) rfl ?_ ?_
        rotate_left
        ·(try simp [go_sem, World.setCells, (show Kd.sz k50 = 3 from rfl), (show ∀ n : Nat, n + 1 + 1 = n + 2 from fun _ => rfl)] at hx14_0 hf14_0 hx14_1 hf14_1 hx14_2 hf14_2)
         go_simp
         rfl
        refine hK.out _ _ ?_
        clear hK K
        refine pv_ 22 37 (mk_ 23 1) HT_ ?_
        refine last_ (i := 23) (N := none) (mk_ 24 0) rfl rfl (one_of HT_.out (by kernel_rfl)) (by decide) (fun K hK => ?_)
        refine skip_ (w1 := ?_) (by rfl) rfl ?_ ?_
        rotate_left
        ·(try simp [go_sem, World.setCells, (show Kd.sz k50 = 3 from rfl), (show ∀ n : Nat, n + 1 + 1 = n + 2 from fun _ => rfl)] at hx14_0 hf14_0 hx14_1 hf14_1 hx14_2 hf14_2)
         go_simp
         rfl
        refine hK.out _ _ ?_
        clear hK K
        refine done_ (done_of HT_.out (by kernel_rfl)) ?_
        try go_wp2
        go_roundg k1
        case measure => have := HK1.out; omega
        case rel => exact ⟨(y132), (wrap64 (x10_1 + 1)), (by first | rfl | (simp; done) | (simp [*]; done)), H', ⟨by have := HK1.out; omega⟩, ⟨by (with_reducible repeat (first | apply Kd.R_alloc | apply Kd.R_drewN | apply Kd.R_drew)); exact HQ18.out⟩, ⟨by repeat (first | (with_reducible first | exact HK.out | apply Kept.alloc | apply Kept.drewN | apply Kept.drew | refine Kept.setCell ?_ HMgo13.out _ | refine Kept.setCell ?_ HMgo13.out _ | refine Kept.setCell ?_ HMgo13.out _ | refine Kept.setCell ?_ HMgo13.out _ | refine Kept.setCell ?_ HMgo13.out _ | refine Kept.setCell ?_ HMgo13.out _) | exact HK.out)⟩, ⟨by repeat (first | (with_reducible first | exact HB.out | apply below_alloc | apply pw_below_drewN | apply below_drew1 | refine below_set ?_ GB13.out | refine below_set ?_ GB13.out | refine below_set ?_ GB13.out | refine below_set ?_ GB13.out | refine below_set ?_ GB13.out | refine below_set ?_ GB13.out) | exact HB.out)⟩⟩
       ·rw [if_neg c12] at H
        exact absurd H (by simp)
      ·rw [if_neg c11] at H
       exact absurd H (by simp)
     ·rw [if_neg c9] at H
      exact absurd H (by simp)
    ·rw [if_neg c8] at H
     exact absurd H (by simp)
   ·rw [if_neg c6] at H
    have c6b0 : decide (x10_1 < a3) = false := decide_eq_false c6
    clear c6
    obtain rfl := Option.some.inj H
    go_wp2
    first | go_end0 | ((try simp only [Exit.inBlock, Exit.then]); refine bodyPost_ret (results_none rfl _ _ _) rfl ?_)
    exact ⟨by first | rfl | (simp [errW_none, errW_some] <;> rfl) | (simp [*, errW_none, errW_some] <;> rfl), by (with_reducible repeat (first | apply Kd.R_alloc | apply Kd.R_drewN | apply Kd.R_drew)); exact HO_0.out, by repeat (first | (with_reducible first | exact HB.out | apply below_alloc | apply pw_below_drewN | apply below_drew1) | exact HB.out), by repeat (first | (with_reducible first | exact HK.out | apply Kept.alloc | apply Kept.drewN | apply Kept.drew) | exact HK.out)⟩

end Go.Proofs.Ytgeldmhgbnamcaa.P
end
section
-- Printed by the session's own turn of the print (wip/tools/print2.sh): some callees are proved by hand.
namespace Go.Proofs.Ytgeldmhgbnamcaa.P
open Go.RowKit Go.Proofs.YtgeldmhgbnamcaaW.PrintWords Go.Proofs.YtgeldmhgbnamcaaW.PrintLast Go.Proofs.YtgeldmhgbnamcaaW.PrintMore
attribute [local go_sem] max2_int min2_int max_two min_two max_three min_three max_four min_four   -- for this text's walks alone
set_option linter.unusedVariables false
set_option linter.unusedSimpArgs false

/-! ### batch_Change_98: function 98 -/
def batch_Change_98.l0 : Nat → List (S50) → Int → Int → Int → Option ((List (S50)))
 | 0, _, _, _, _ => none
 | k + 1, x0, x2, x10, x11 => if x10 = x11 then ((batch_Change_99.f k x0 (wrap64 (x2 - x10)) x2 x10).bind fun t133 => (some t133)) else (if x10 > x11 then ((batch_Change_99.f k x0 (wrap64 (x2 - x10)) x2 x11).bind fun t134 => (batch_Change_98.l0 k t134 x2 (wrap64 (x10 - x11)) x11)) else ((batch_Change_99.f k x0 (wrap64 (x2 - x10)) (wrap64 ((wrap64 (x2 + x11)) - x10)) x10).bind fun t135 => (batch_Change_98.l0 k t135 x2 x10 (wrap64 (x11 - x10)))))
def batch_Change_98.f (k : Nat) (l0 : List (S50)) (a1 : Int) (a2 : Int) (a3 : Int)  : Option ((List (S50))) := batch_Change_98.l0 k l0 a2 (wrap64 (a2 - a1)) (wrap64 (a3 - a2))
theorem batch_Change_98.mono_l : ∀ k, (∀ y0 y1 y2 y3, LeO (batch_Change_98.l0 k y0 y1 y2 y3) (batch_Change_98.l0 (k + 1) y0 y1 y2 y3))
 | 0 => fun _ _ _ _ r h => by simp [batch_Change_98.l0] at h
 | k + 1 => by
  have ih0 := batch_Change_98.mono_l k
  ·intro y0 y1 y2 y3
   unfold batch_Change_98.l0
   repeat' first
   | (with_reducible exact ih0 _ _ _ _)
   | (with_reducible exact batch_Change_99.mono _ _ _ _ _)
   | (with_reducible exact LeO.refl _)
   | (with_reducible exact LeO.none _)
   | (with_reducible refine LeO.ite ?_ ?_)
   | (with_reducible refine LeO.bind ?_ (fun _ => ?_))
   | exact ih0 _ _ _ _
   | exact batch_Change_99.mono _ _ _ _ _
   | exact LeO.none _
   | refine LeO.ite ?_ ?_
   | refine LeO.bind ?_ (fun _ => ?_)
theorem batch_Change_98.mono : ∀ a0 a1 a2 a3 k, LeO (batch_Change_98.f k a0 a1 a2 a3) (batch_Change_98.f (k + 1) a0 a1 a2 a3) := by
 intro a0 a1 a2 a3 k
 have ih0 := batch_Change_98.mono_l k
 unfold batch_Change_98.f
 repeat' first
   | (with_reducible exact ih0 _ _ _ _)
   | (with_reducible exact batch_Change_99.mono _ _ _ _ _)
   | (with_reducible exact LeO.refl _)
   | (with_reducible exact LeO.none _)
   | (with_reducible refine LeO.ite ?_ ?_)
   | (with_reducible refine LeO.bind ?_ (fun _ => ?_))
   | exact ih0 _ _ _ _
   | exact batch_Change_99.mono _ _ _ _ _
   | exact LeO.none _
   | refine LeO.ite ?_ ?_
   | refine LeO.bind ?_ (fun _ => ?_)
set_option maxHeartbeats 8000000 in
set_option maxRecDepth 100000 in
theorem batch_Change_98.calls (k : Nat) (P0_ : Nat → Prop) (u9000_ : Value) (l0 : List (S50)) (a1 : Int) (a2 : Int) (a3 : Int)  (r : List (S50)) (w0 w : World) (hB : Below w0.heap.size w0 w) (ho0 : Kd.R k50 50 w w0.heap.size P0_ u9000_ l0) (h : batch_Change_98.f k l0 a1 a2 a3 = some r) :
  Calls Try.prog 98 #[u9000_, .int .i64 a1, .int .i64 a2, .int .i64 a3, .func (.func 53) #[] #[]] w fun e w' => e = .returned (.tuple #[]) ∧ Kd.R k50 50 w' w0.heap.size (fun k_ => (P0_ k_ ∨ w.heap.size ≤ k_)) u9000_ r ∧ Below w0.heap.size w0 w' ∧ Kept w w' (fun k_ => P0_ k_) := by
 have HO0 := Aside0.mk (show Kd.R k50 50 w w0.heap.size (fun k_ => (P0_ k_ ∨ w.heap.size ≤ k_)) u9000_ l0 from Kd.R_mono ho0 (fun k_ hk => (.inl hk)))
 have HK := Aside0.mk (Kept.refl w (fun k_ => P0_ k_))
 have HW0 := Aside0.mk hB.size
 have HB := Aside0.mk hB
 clear hB
 have H : (batch_Change_98.l0 k l0 a2 (wrap64 (a2 - a1)) (wrap64 (a3 - a2))) = some r := h
 clear h
 have H' := Aside0.mk H
 clear H
 go_enter Try.func98, Try.ntmps98
 go_wp2
 go_loopg [10, 11] k (fun kq v10 v11 w' => ∃ (x0_1 : List (S50)) (x10_1 : Int) (x11_1 : Int), v10 = .int .i64 x10_1 ∧ v11 = .int .i64 x11_1 ∧ Aside0 (batch_Change_98.l0 kq x0_1 a2 x10_1 x11_1 = some r) ∧ Aside0 (kq ≤ k) ∧ Aside0 (Kd.R k50 50 w' w0.heap.size (fun k_ => (P0_ k_ ∨ w.heap.size ≤ k_)) u9000_ x0_1) ∧ Aside0 (Kept w w' (fun k_ => P0_ k_)) ∧ Aside0 (Below w0.heap.size w0 w'))
 case atStart => exact ⟨(l0), (wrap64 (a2 - a1)), (wrap64 (a3 - a2)), (by first | rfl | (simp; done) | (simp [*]; done)), (by first | rfl | (simp; done) | (simp [*]; done)), H', ⟨Nat.le_refl _⟩, ⟨by (with_reducible repeat (first | apply Kd.R_alloc | apply Kd.R_drewN | apply Kd.R_drew)); exact HO0.out⟩, ⟨by repeat (first | (with_reducible first | exact HK.out | apply Kept.alloc | apply Kept.drewN | apply Kept.drew) | exact HK.out)⟩, ⟨by repeat (first | (with_reducible first | exact HB.out | apply below_alloc | apply pw_below_drewN | apply below_drew1) | exact HB.out)⟩⟩
 case round =>
  clear H'
  try clear p2
  obtain ⟨x0_1, x10_1, x11_1, rfl, rfl, HA, HK1, HO_0, HK, HB⟩ := hrel
  cases gk with
  | zero => exact absurd HA.out (by simp [batch_Change_98.l0])
  | succ k1 =>
   have H := HA.out
   clear HA
   simp only [batch_Change_98.l0] at H
   by_cases c6 : x10_1 = x11_1
   ·rw [if_pos c6] at H
    have c6b0 : (x10_1 == x11_1) = true := beq_iff_eq.mpr c6
    have c6b1 : (x10_1 != x11_1) = false := bne_eq_false_iff_eq.mpr c6
    clear c6
    replace H := Option.bind_eq_some_iff.mp H
    obtain ⟨t133, A70, H⟩ := H
    replace H : (some t133) = some r := H
    have A7 := Aside0.mk A70
    clear A70
    obtain rfl := Option.some.inj H
    obtain ⟨Ao8, co8, eo8⟩ := Kd.R_slice HO_0.out
    subst eo8
    go_wp2_with (first | ((with_reducible refine gate_callee (f := 99) rfl ?_); refine goesL_ (some 57) rfl rfl Try.func99 (by kernel_rfl) rfl #[.slice Ao8 x0_1.length co8, .int .i64 (wrap64 (a2 - x10_1)), .int .i64 a2, .int .i64 x10_1, .func (.func 53) #[] #[]] rfl (by (try simp only [List.map_toArray, List.map_cons, List.map_nil]); first | done | rfl | (simp only [List.length_drop, List.length_take]; rfl)) ?_; (with_reducible refine (batch_Change_99.calls k1 (fun k_ => some k_ = (.slice Ao8 x0_1.length co8 : Value).ownBlock) (.slice Ao8 x0_1.length co8) x0_1 (wrap64 (a2 - x10_1)) a2 x10_1  t133 w0 _ ?side1 ?side2 A7.out).mono ?_); (case side1 => repeat (first | (with_reducible first | exact HB.out | apply below_alloc | apply pw_below_drewN | apply below_drew1) | exact HB.out)); (case side2 => exact Kd.R_tight rfl HO_0.out); rintro e w9 ⟨rfl, hy0, hb, hkp⟩; refine ⟨_, rfl, ?_⟩; have n0_ := Aside0.mk (Kd.R_reok rfl hy0 (fun k_ e_ => HO_0.out.1 k_ e_)); have n1_ := Aside0.mk (Kept.then_ (S := (fun k_ => P0_ k_)) (by repeat (first | (with_reducible first | exact HK.out | apply Kept.alloc | apply Kept.drewN | apply Kept.drew) | exact HK.out)) hkp (fun k_ hs_ => (fun e_ => (HO_0.out.1 k_ e_.symm)) hs_)); have n2_ := Aside0.mk (hb); clear HO_0; clear HK; clear HB; have HO_0 := n0_; have HK := n1_; have HB := n2_; clear n0_ n1_ n2_; (try clear hb); (try clear hkp); (try clear hy0)))
    first | go_end0 | ((try simp only [Exit.inBlock, Exit.then]); refine bodyPost_ret (results_none rfl _ _ _) rfl ?_)
    exact ⟨by first | rfl | (simp [errW_none, errW_some] <;> rfl) | (simp [*, errW_none, errW_some] <;> rfl), by (with_reducible repeat (first | apply Kd.R_alloc | apply Kd.R_drewN | apply Kd.R_drew)); exact HO_0.out, by repeat (first | (with_reducible first | exact HB.out | apply below_alloc | apply pw_below_drewN | apply below_drew1) | exact HB.out), by repeat (first | (with_reducible first | exact HK.out | apply Kept.alloc | apply Kept.drewN | apply Kept.drew) | exact HK.out)⟩
   ·rw [if_neg c6] at H
    have c6b0 : (x10_1 == x11_1) = false := beq_eq_false_iff_ne.mpr c6
    have c6b1 : (x10_1 != x11_1) = true := bne_iff_ne.mpr c6
    by_cases c10 : x10_1 > x11_1
    ·rw [if_pos c10] at H
     have c10b0 : decide (x11_1 < x10_1) = true := decide_eq_true c10
     clear c10
     replace H := Option.bind_eq_some_iff.mp H
     obtain ⟨t134, A110, H⟩ := H
     replace H : (batch_Change_98.l0 k1 t134 a2 (wrap64 (x10_1 - x11_1)) x11_1) = some r := H
     have A11 := Aside0.mk A110
     clear A110
     have H' := Aside0.mk H
     clear H
     obtain ⟨Ao12, co12, eo12⟩ := Kd.R_slice HO_0.out
     subst eo12
     go_wp2_with (first | ((with_reducible refine gate_callee (f := 99) rfl ?_); refine goesL_ (some 31) rfl rfl Try.func99 (by kernel_rfl) rfl #[.slice Ao12 x0_1.length co12, .int .i64 (wrap64 (a2 - x10_1)), .int .i64 a2, .int .i64 x11_1, .func (.func 53) #[] #[]] rfl (by (try simp only [List.map_toArray, List.map_cons, List.map_nil]); first | done | rfl | (simp only [List.length_drop, List.length_take]; rfl)) ?_; (with_reducible refine (batch_Change_99.calls k1 (fun k_ => some k_ = (.slice Ao12 x0_1.length co12 : Value).ownBlock) (.slice Ao12 x0_1.length co12) x0_1 (wrap64 (a2 - x10_1)) a2 x11_1  t134 w0 _ ?side1 ?side2 A11.out).mono ?_); (case side1 => repeat (first | (with_reducible first | exact HB.out | apply below_alloc | apply pw_below_drewN | apply below_drew1) | exact HB.out)); (case side2 => exact Kd.R_tight rfl HO_0.out); rintro e w13 ⟨rfl, hy0, hb, hkp⟩; refine ⟨_, rfl, ?_⟩; have n0_ := Aside0.mk (Kd.R_reok rfl hy0 (fun k_ e_ => HO_0.out.1 k_ e_)); have n1_ := Aside0.mk (Kept.then_ (S := (fun k_ => P0_ k_)) (by repeat (first | (with_reducible first | exact HK.out | apply Kept.alloc | apply Kept.drewN | apply Kept.drew) | exact HK.out)) hkp (fun k_ hs_ => (fun e_ => (HO_0.out.1 k_ e_.symm)) hs_)); have n2_ := Aside0.mk (hb); clear HO_0; clear HK; clear HB; have HO_0 := n0_; have HK := n1_; have HB := n2_; clear n0_ n1_ n2_; (try clear hb); (try clear hkp); (try clear hy0)))
     go_roundg k1
     case measure => have := HK1.out; omega
     case rel => exact ⟨(t134), (wrap64 (x10_1 - x11_1)), (x11_1), (by first | rfl | (simp; done) | (simp [*]; done)), (by first | rfl | (simp; done) | (simp [*]; done)), H', ⟨by have := HK1.out; omega⟩, ⟨by (with_reducible repeat (first | apply Kd.R_alloc | apply Kd.R_drewN | apply Kd.R_drew)); exact HO_0.out⟩, ⟨by repeat (first | (with_reducible first | exact HK.out | apply Kept.alloc | apply Kept.drewN | apply Kept.drew) | exact HK.out)⟩, ⟨by repeat (first | (with_reducible first | exact HB.out | apply below_alloc | apply pw_below_drewN | apply below_drew1) | exact HB.out)⟩⟩
    ·rw [if_neg c10] at H
     have c10b0 : decide (x11_1 < x10_1) = false := decide_eq_false c10
     clear c10
     replace H := Option.bind_eq_some_iff.mp H
     obtain ⟨t135, A140, H⟩ := H
     replace H : (batch_Change_98.l0 k1 t135 a2 x10_1 (wrap64 (x11_1 - x10_1))) = some r := H
     have A14 := Aside0.mk A140
     clear A140
     have H' := Aside0.mk H
     clear H
     obtain ⟨Ao15, co15, eo15⟩ := Kd.R_slice HO_0.out
     subst eo15
     go_wp2_with (first | ((with_reducible refine gate_callee (f := 99) rfl ?_); refine goesL_ (some 46) rfl rfl Try.func99 (by kernel_rfl) rfl #[.slice Ao15 x0_1.length co15, .int .i64 (wrap64 (a2 - x10_1)), .int .i64 (wrap64 ((wrap64 (a2 + x11_1)) - x10_1)), .int .i64 x10_1, .func (.func 53) #[] #[]] rfl (by (try simp only [List.map_toArray, List.map_cons, List.map_nil]); first | done | rfl | (simp only [List.length_drop, List.length_take]; rfl)) ?_; (with_reducible refine (batch_Change_99.calls k1 (fun k_ => some k_ = (.slice Ao15 x0_1.length co15 : Value).ownBlock) (.slice Ao15 x0_1.length co15) x0_1 (wrap64 (a2 - x10_1)) (wrap64 ((wrap64 (a2 + x11_1)) - x10_1)) x10_1  t135 w0 _ ?side1 ?side2 A14.out).mono ?_); (case side1 => repeat (first | (with_reducible first | exact HB.out | apply below_alloc | apply pw_below_drewN | apply below_drew1) | exact HB.out)); (case side2 => exact Kd.R_tight rfl HO_0.out); rintro e w16 ⟨rfl, hy0, hb, hkp⟩; refine ⟨_, rfl, ?_⟩; have n0_ := Aside0.mk (Kd.R_reok rfl hy0 (fun k_ e_ => HO_0.out.1 k_ e_)); have n1_ := Aside0.mk (Kept.then_ (S := (fun k_ => P0_ k_)) (by repeat (first | (with_reducible first | exact HK.out | apply Kept.alloc | apply Kept.drewN | apply Kept.drew) | exact HK.out)) hkp (fun k_ hs_ => (fun e_ => (HO_0.out.1 k_ e_.symm)) hs_)); have n2_ := Aside0.mk (hb); clear HO_0; clear HK; clear HB; have HO_0 := n0_; have HK := n1_; have HB := n2_; clear n0_ n1_ n2_; (try clear hb); (try clear hkp); (try clear hy0)))
     go_roundg k1
     case measure => have := HK1.out; omega
     case rel => exact ⟨(t135), (x10_1), (wrap64 (x11_1 - x10_1)), (by first | rfl | (simp; done) | (simp [*]; done)), (by first | rfl | (simp; done) | (simp [*]; done)), H', ⟨by have := HK1.out; omega⟩, ⟨by (with_reducible repeat (first | apply Kd.R_alloc | apply Kd.R_drewN | apply Kd.R_drew)); exact HO_0.out⟩, ⟨by repeat (first | (with_reducible first | exact HK.out | apply Kept.alloc | apply Kept.drewN | apply Kept.drew) | exact HK.out)⟩, ⟨by repeat (first | (with_reducible first | exact HB.out | apply below_alloc | apply pw_below_drewN | apply below_drew1) | exact HB.out)⟩⟩

end Go.Proofs.Ytgeldmhgbnamcaa.P
end
