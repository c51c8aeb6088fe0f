/- Walks and laws of several statements of this seat, joined into one text; no condition. -/
import Derived.Test.YtgeldmhgbnamcaaProg
import Derived.Below
import Derived.Deep.Draws
import Derived.Deep.AppendLies
import Derived.Maps.AppendAt
import Derived.OwnWalk
import Derived.Laws.BytesArg
import Derived.Laws.MakeOwn
import Derived.Laws.OwnMore
import Derived.Deep.OwnRows
import Derived.Tactics
import Derived.Lib.ConvBytes
import Derived.Laws.Slices
import Derived.WalkKit
import Derived.KernelRfl
import Derived.RowKit3
import Derived.Deep.LoopGhost
import Derived.Deep.QuietTactic
import Derived.BigQuiet
import Derived.WideLaws
import Derived.Deep.DeepCutAuto
import Derived.Deep.CutBlock
import Derived.Deep.RegionHeld3
import Derived.Laws.Rows
import Derived.Lib.AppendStr
import Derived.ArgAppend
import Derived.Laws.IdiomCopy
import Derived.OrdersHeld
import Derived.Laws.BitsLemmas
import Derived.RowKit
import Derived.Laws.StructEq
import Derived.Laws.CopyOwn
import Derived.Deep.RegionLaw
import Derived.LoopTactic
import Derived.Outline
import Derived.IntWalk
import Derived.Lib.BufferMore
import Derived.Test.YtgeldmhgbnamcaaFWa0
import Derived.Test.YtgeldmhgbnamcaaFWa1
import Derived.Test.YtgeldmhgbnamcaaFWa2
import Derived.Test.YtgeldmhgbnamcaaFWa6
import Derived.Test.YtgeldmhgbnamcaaFWa7
import Derived.Test.YtgeldmhgbnamcaaFWa4
import Derived.Test.YtgeldmhgbnamcaaFWa5
section
-- Printed by the session's own turn of the print (wip/tools/print2.sh): some callees are proved by hand.
namespace Go.Proofs.Ytgeldmhgbnamcaa.P
open Go.RowKit Go.Proofs.YtgeldmhgbnamcaaW.PrintWords Go.Proofs.YtgeldmhgbnamcaaW.PrintLast Go.Proofs.YtgeldmhgbnamcaaW.PrintMore
attribute [local go_sem] max2_int min2_int max_two min_two max_three min_three max_four min_four   -- for this text's walks alone
set_option linter.unusedVariables false
set_option linter.unusedSimpArgs false
/-! ### batch_Right: function 20 -/
def batch_Right.l0 : Nat → List (S50) → List (S50) → Int → Int → Option (Bool)
 | 0, _, _, _, _ => none
 | k + 1, x0, x5, x6, x7 => if x7 < x6 then (if 0 ≤ x7 then (if x7 < (x5.length : Int) then ((batch_wrong.f k ((rd_T50 x5 x7).f0) ((rd_T50 x5 x7).f1) ((rd_T50 x5 x7).f2)).bind fun t221 => (if t221 = 0 then (if ((rd_T50 x5 x7).f2) = 0 then (some false) else (if x7 > 0 then (if 0 ≤ (wrap64 (x7 - 1)) then (if (wrap64 (x7 - 1)) < (x0.length : Int) then ((batch_order.f k ((rd_T50 x0 (wrap64 (x7 - 1))).f0) ((rd_T50 x0 (wrap64 (x7 - 1))).f1) ((rd_T50 x0 (wrap64 (x7 - 1))).f2) ((rd_T50 x5 x7).f0) ((rd_T50 x5 x7).f1) ((rd_T50 x5 x7).f2)).bind fun t223 => (if t223 ≥ 0 then (some false) else (batch_Right.l0 k x0 x5 x6 (wrap64 (x7 + 1))))) else (none)) else (none)) else (batch_Right.l0 k x0 x5 x6 (wrap64 (x7 + 1))))) else (some false))) else (none)) else (none)) else (some true)
def batch_Right.f (k : Nat) (l0 : List (S50)) : Option (Bool) := batch_Right.l0 k l0 l0 (l0.length : Int) 0
def batch_Right.T4 : Bool × List (List Nat × List Nat) := (true, [([], []), ([0], [0]), ([1], [1]), ([2, 1], [2]), ([3], [3]), ([4, 3], [3, 4]), ([5, 3], [3, 5]), ([3, 6], [3, 6]), ([7, 3], [7]), ([8], [8]), ([9, 8], [8, 9]), ([10, 8, 8], [8, 10]), ([11], [11]), ([11], [11]), ([13, 11], [11, 13]), ([12, 14, 11], [11, 12, 14]), ([15, 11], [11, 15]), ([11], [11]), ([16, 17, 11, 11], [11, 16, 17]), ([18, 11], [11, 18]), ([11, 19, 8], [8, 11, 19]), ([8, 20], [8, 20])])
def batch_Right.B4 : List Nat := [0, 1, 3, 7, 15, 31, 63, 127, 255, 511, 1023, 2047, 4095, 4095, 12287, 32767, 65535, 4095, 262143, 524287, 1048575, 2097151]
theorem batch_Right.tab4 : rtab .any (opsOf Try.f20 4) = batch_Right.T4 := by kernel_rfl
theorem batch_Right.bits4 : waitsOk batch_Right.T4.2 batch_Right.B4 = true := by kernel_rfl
set_option maxHeartbeats 8000000 in
set_option maxRecDepth 100000 in
theorem batch_Right.calls (k : Nat) (A0 : Option Addr) (c0 : Nat) (l0 : List (S50)) (r : Bool) (w : World) (hr0 : Kd.C k50 w A0 l0.length l0) (hc0 : l0.length ≤ c0) (h : batch_Right.f k l0 = some r) :
  Calls Try.prog 20 #[.slice A0 l0.length c0] w fun e w' => e = .returned (.bool r) ∧ Below w.heap.size w w' := by
 have hu50 := Try.underlying50
 have HR0 := Aside0.mk hr0
 have HC0 := Aside0.mk hc0
 clear hr0 hc0
 have HB := Aside0.mk (Below.refl w.heap.size w)
 have H : (batch_Right.l0 k l0 l0 (l0.length : Int) 0) = some r := h
 clear h
 have H' := Aside0.mk H
 clear H
 go_enter Try.func20, Try.ntmps20
 go_wp2
 go_loopg [7] k (fun kq v7 w' => ∃ (x7_1 : Int), v7 = .int .i64 x7_1 ∧ Aside0 (batch_Right.l0 kq l0 l0 (l0.length : Int) x7_1 = some r) ∧ Aside0 (kq ≤ k) ∧ Aside0 (Below w.heap.size w w'))
 case atStart => exact ⟨(0), (by first | rfl | (simp; done) | (simp [*]; done)), H', ⟨Nat.le_refl _⟩, ⟨bn HB⟩⟩
 case round =>
  clear H'
  obtain ⟨x7_1, rfl, HA, HK1, HB⟩ := hrel
  cases gk with
  | zero => exact absurd HA.out (by simp [batch_Right.l0])
  | succ k1 =>
   have H := HA.out
   clear HA
   simp only [batch_Right.l0] at H
   by_cases c2 : x7_1 < (l0.length : Int)
   ·rw [if_pos c2] at H
    have c2b0 : decide (x7_1 < (l0.length : Int)) = true := decide_eq_true c2
    clear c2
    by_cases c3 : 0 ≤ x7_1
    ·rw [if_pos c3] at H
     have c3b0 : decide (0 ≤ x7_1) = true := decide_eq_true c3
     clear c3
     by_cases c4 : x7_1 < (l0.length : Int)
     ·rw [if_pos c4] at H
      have c4b0 : decide (x7_1 < (l0.length : Int)) = true := decide_eq_true c4
      clear c4
      replace H := Option.bind_eq_some_iff.mp H
      obtain ⟨t221, A50, H⟩ := H
      replace H : (if t221 = 0 then (if ((rd_T50 l0 x7_1).f2) = 0 then (some false) else (if x7_1 > 0 then (if 0 ≤ (wrap64 (x7_1 - 1)) then (if (wrap64 (x7_1 - 1)) < (l0.length : Int) then ((batch_order.f k1 ((rd_T50 l0 (wrap64 (x7_1 - 1))).f0) ((rd_T50 l0 (wrap64 (x7_1 - 1))).f1) ((rd_T50 l0 (wrap64 (x7_1 - 1))).f2) ((rd_T50 l0 x7_1).f0) ((rd_T50 l0 x7_1).f1) ((rd_T50 l0 x7_1).f2)).bind fun t223 => (if t223 ≥ 0 then (some false) else (batch_Right.l0 k1 l0 l0 (l0.length : Int) (wrap64 (x7_1 + 1))))) else (none)) else (none)) else (batch_Right.l0 k1 l0 l0 (l0.length : Int) (wrap64 (x7_1 + 1))))) else (some false)) = some r := H
      have A5 := Aside0.mk A50
      clear A50
      by_cases c6 : t221 = 0
      ·rw [if_pos c6] at H
       have c6b0 : (t221 == 0) = true := beq_iff_eq.mpr c6
       have c6b1 : (t221 != 0) = false := bne_eq_false_iff_eq.mpr c6
       clear c6
       by_cases c7 : ((rd_T50 l0 x7_1).f2) = 0
       ·rw [if_pos c7] at H
        have c7b0 : (((rd_T50 l0 x7_1).f2) == 0) = true := beq_iff_eq.mpr c7
        have c7b1 : (((rd_T50 l0 x7_1).f2) != 0) = false := bne_eq_false_iff_eq.mpr c7
        clear c7
        obtain rfl := Option.some.inj H
        have p219 : 0 ≤ (x7_1 : Int) := of_decide_eq_true (by assumption)
        have q219 : x7_1 < (l0.length : Int) := of_decide_eq_true (by assumption)
        obtain ⟨ad219, e219, hx219_0, hx219_1, hx219_2⟩ := at_T50 HR0.out x7_1 p219 q219
        cases e219
        replace hx219_0 := ct HB hx219_0
        replace hx219_1 := ct HB hx219_1
        replace hx219_2 := ct HB hx219_2
        replace p219 := eq_true p219
        replace q219 := eq_true q219
        try go_wp2_with (first | ((with_reducible refine gate_dst (N := 4) rfl ?_); refine box_event ?hg (N := 4) ?hd (cs := #[.int .i64 0, .int .u64 0, .int .i64 0]) (t := 50) ?hr ?_; (case hd => rfl); (case hg => rfl); (case hr => first | (go_simp; done) | (go_simp; rfl)); intro gb220 hg w8 hbox hb; have n1_ := Aside0.mk (hbox); have n2_ := Aside0.mk ((by rw [hg]; exact (below_size (bn HB)) : w.heap.size ≤ gb220)); have n3_ := Aside0.mk ((by rw [hg]; exact (below_size (bn HB)) : w.heap.size ≤ gb220)); replace HB := bb HB hb; have BK220 := n1_; have GW220 := n2_; have GE220 := n3_; clear n1_ n2_ n3_; clear hb hbox hg; have hcz9_0 : w8.cell? ⟨gb220, 0, none⟩ = some (.int .i64 0) := (blk_cell BK220.out 0).trans rfl; have hcz9_1 : w8.cell? ⟨gb220, 1, none⟩ = some (.int .u64 0) := (blk_cell BK220.out 1).trans rfl; have hcz9_2 : w8.cell? ⟨gb220, 2, none⟩ = some (.int .i64 0) := (blk_cell BK220.out 2).trans rfl; have hfz9_0 := blk_frozen BK220.out 0; have hfz9_1 := blk_frozen BK220.out 1; have hfz9_2 := blk_frozen BK220.out 2))
        have n0_ : Aside0 ((((w8.setCell ⟨gb220, 0, none⟩ (.int .i64 ((rd_T50 l0 x7_1).f0))).setCell ⟨gb220, 1, none⟩ (.int .u64 ((rd_T50 l0 x7_1).f1))).setCell ⟨gb220, 2, none⟩ (.int .i64 ((rd_T50 l0 x7_1).f2))).heap[gb220]? = some (.cells #[.int .i64 ((rd_T50 l0 x7_1).f0), .int .u64 ((rd_T50 l0 x7_1).f1), .int .i64 ((rd_T50 l0 x7_1).f2)] 50 (0, 0))) := ⟨by (with_reducible repeat (first | refine blk_drewN ?_ _ | refine blk_drew ?_ | refine blk_alloc ?_ _)); refine blk_put (cs := #[.int .i64 ((rd_T50 l0 x7_1).f0), .int .u64 ((rd_T50 l0 x7_1).f1), .int .i64 0]) ?_ 2 _ rfl; (with_reducible repeat (first | refine blk_drewN ?_ _ | refine blk_drew ?_ | refine blk_alloc ?_ _)); refine blk_put (cs := #[.int .i64 ((rd_T50 l0 x7_1).f0), .int .u64 0, .int .i64 0]) ?_ 1 _ rfl; (with_reducible repeat (first | refine blk_drewN ?_ _ | refine blk_drew ?_ | refine blk_alloc ?_ _)); refine blk_put (cs := #[.int .i64 0, .int .u64 0, .int .i64 0]) ?_ 0 _ rfl; (with_reducible repeat (first | refine blk_drewN ?_ _ | refine blk_drew ?_ | refine blk_alloc ?_ _)); exact BK220.out⟩
        have n1_ : Aside0 (Below w.heap.size w (((w8.setCell ⟨gb220, 0, none⟩ (.int .i64 ((rd_T50 l0 x7_1).f0))).setCell ⟨gb220, 1, none⟩ (.int .u64 ((rd_T50 l0 x7_1).f1))).setCell ⟨gb220, 2, none⟩ (.int .i64 ((rd_T50 l0 x7_1).f2)))) := ⟨bn1 HB GE220⟩
        (try clear BK220)
        (try clear HB)
        generalize (((w8.setCell ⟨gb220, 0, none⟩ (.int .i64 ((rd_T50 l0 x7_1).f0))).setCell ⟨gb220, 1, none⟩ (.int .u64 ((rd_T50 l0 x7_1).f1))).setCell ⟨gb220, 2, none⟩ (.int .i64 ((rd_T50 l0 x7_1).f2))) = w10 at n0_ n1_ ⊢
        have BK220 := n0_
        have HB := n1_
        clear n0_ n1_
        have n0_ := Aside0.mk (blk_drew BK220.out)
        have n1_ := Aside0.mk (below_drew1 HB.out)
        clear BK220
        clear HB
        have BK220 := n0_
        have HB := n1_
        clear n0_ n1_
        refine start_ (n := 22) (S := fun w' => w'.cell? ⟨gb220, 0, none⟩ = some (.int .i64 ((rd_T50 l0 x7_1).f0)) ∧ w'.cell? ⟨gb220, 1, none⟩ = some (.int .u64 ((rd_T50 l0 x7_1).f1)) ∧ w'.cell? ⟨gb220, 2, none⟩ = some (.int .i64 ((rd_T50 l0 x7_1).f2))) (ds := []) (mk_ 0 22) (by kernel_rfl) rfl rfl ⟨(blk_cell BK220.out 0).trans rfl, (blk_cell BK220.out 1).trans rfl, (blk_cell BK220.out 2).trans rfl⟩ (fun hHeld => ?_); refine with_tabW batch_Right.tab4 batch_Right.bits4 (fun HT_ HW_ => ?_)
        generalize w10.drew = w11 at BK220 HB hHeld ⊢
        refine tv_ 0 12 (mk_ 1 21) HT_ HW_ hHeld (hy := by rintro w' ⟨s0, s1, s2⟩; go_simp; with_reducible rfl) (h := ?_)
        refine one_ (i := 1) (N := some 13) (mk_ 2 20) rfl rfl (one_of HT_.out (by kernel_rfl)) (by decide) (fun K hK => ?_)
        refine goes_ Try.func48 (by kernel_rfl) rfl #[.agg #[.int .i64 ((rd_T50 l0 x7_1).f0), .int .u64 ((rd_T50 l0 x7_1).f1), .int .i64 ((rd_T50 l0 x7_1).f2)]] (by rfl) rfl rfl (by (try simp only [List.map_toArray, List.map_cons, List.map_nil]); first | done | rfl | (simp only [List.length_drop, List.length_take]; rfl)) ?_
        with_reducible refine (batch_wrong.calls k1 ((rd_T50 l0 x7_1).f0) ((rd_T50 l0 x7_1).f1) ((rd_T50 l0 x7_1).f2) t221 _ A5.out).mono ?_
        rintro e w12 ⟨rfl, hb⟩
        refine ⟨_, rfl, ?_⟩
        have n0_ := Aside0.mk (bkb BK220 hb)
        have n1_ := Aside0.mk (below_step (bn1 HB GE220) hb)
        clear BK220
        clear HB
        have BK220 := n0_
        have HB := n1_
        clear n0_ n1_
        (try clear hb)
        (try clear hb2)
        (try clear hk)
        (try clear hi)
        refine hK.out _ _ ⟨(blk_cell BK220.out 0).trans rfl, (blk_cell BK220.out 1).trans rfl, (blk_cell BK220.out 2).trans rfl⟩ (fun hHeld => ?_)
        clear hK K
        refine norm_ (a' := ?_) ?_ ?_
        rotate_left
        ·show Act.put _ (some 13) _ = _
         simp only [Act.put, List.setIfInBounds_toArray, List.set_cons_zero, List.set_cons_succ, i64_w, i32_w]
         rfl
        refine pv_ 2 14 (mk_ 3 19) HT_ ?_
        refine pv_ 3 15 (mk_ 4 18) HT_ ?_
        refine pv_ 4 16 (mk_ 5 17) HT_ ?_
        refine tv_ 5 17 (mk_ 6 16) HT_ HW_ hHeld (hy := by rintro w' ⟨s0, s1, s2⟩; go_simp; with_reducible rfl) (h := ?_)
        refine pv_ 6 18 (mk_ 7 15) HT_ ?_
        refine pv_ 7 19 (mk_ 8 14) HT_ ?_
        refine pv_ 8 20 (mk_ 9 13) HT_ ?_
        refine pu_ 9 21 (mk_ 10 12) HT_ ?_
        refine pu_ 10 22 (mk_ 11 11) HT_ ?_
        refine pu_ 11 23 (mk_ 12 10) HT_ ?_
        refine pu_ 12 24 (mk_ 13 9) HT_ ?_
        refine pu_ 13 25 (mk_ 14 8) HT_ ?_
        refine pu_ 14 26 (mk_ 15 7) HT_ ?_
        refine pu_ 15 27 (mk_ 16 6) HT_ ?_
        refine pu_ 16 28 (mk_ 17 5) HT_ ?_
        refine pu_ 17 29 (mk_ 18 4) HT_ ?_
        refine pu_ 18 30 (mk_ 19 3) HT_ ?_
        refine pu_ 19 31 (mk_ 20 2) HT_ ?_
        refine pu_ 20 32 (mk_ 21 1) HT_ ?_
        refine pv_ 21 33 (mk_ 22 0) HT_ ?_
        refine done_ (done_of HT_.out (by kernel_rfl)) ?_
        try go_wp2
        go_ret
        exact ⟨by first | rfl | (simp [errW_none, errW_some] <;> rfl) | (simp [*, errW_none, errW_some] <;> rfl), bn1 HB GE220⟩
       ·rw [if_neg c7] at H
        have c7b0 : (((rd_T50 l0 x7_1).f2) == 0) = false := beq_eq_false_iff_ne.mpr c7
        have c7b1 : (((rd_T50 l0 x7_1).f2) != 0) = true := bne_iff_ne.mpr c7
        by_cases c13 : x7_1 > 0
        ·rw [if_pos c13] at H
         have c13b0 : decide (0 < x7_1) = true := decide_eq_true c13
         clear c13
         obtain ⟨ji14, hji14⟩ : ∃ j_ : Int, (wrap64 (x7_1 - 1)) = j_ := ⟨_, rfl⟩
         replace H : (if 0 ≤ (ji14) then (if (ji14) < (l0.length : Int) then ((batch_order.f k1 ((rd_T50 l0 (ji14)).f0) ((rd_T50 l0 (ji14)).f1) ((rd_T50 l0 (ji14)).f2) ((rd_T50 l0 x7_1).f0) ((rd_T50 l0 x7_1).f1) ((rd_T50 l0 x7_1).f2)).bind fun t223 => (if t223 ≥ 0 then (some false) else (batch_Right.l0 k1 l0 l0 (l0.length : Int) (wrap64 (x7_1 + 1))))) else (none)) else (none)) = some r := by first | (rw [hji14] at H; exact H) | (simp only [hji14] at H ⊢; exact H)
         (try rw [hji14] at A5)
         have hji14w : (IntKind.i64.wrap (x7_1 - 1)) = ji14 := (i64_w _).trans hji14
         by_cases c15 : 0 ≤ (ji14)
         ·rw [if_pos c15] at H
          have c15b0 : decide (0 ≤ (ji14)) = true := decide_eq_true c15
          clear c15
          by_cases c16 : (ji14) < (l0.length : Int)
          ·rw [if_pos c16] at H
           have c16b0 : decide ((ji14) < (l0.length : Int)) = true := decide_eq_true c16
           clear c16
           replace H := Option.bind_eq_some_iff.mp H
           obtain ⟨t223, A170, H⟩ := H
           replace H : (if t223 ≥ 0 then (some false) else (batch_Right.l0 k1 l0 l0 (l0.length : Int) (wrap64 (x7_1 + 1)))) = some r := H
           have A17 := Aside0.mk A170
           clear A170
           by_cases c18 : t223 ≥ 0
           ·rw [if_pos c18] at H
            have c18b0 : decide (0 ≤ t223) = true := decide_eq_true c18
            clear c18
            obtain rfl := Option.some.inj H
            have p219 : 0 ≤ (x7_1 : Int) := of_decide_eq_true (by assumption)
            have q219 : x7_1 < (l0.length : Int) := of_decide_eq_true (by assumption)
            obtain ⟨ad219, e219, hx219_0, hx219_1, hx219_2⟩ := at_T50 HR0.out x7_1 p219 q219
            cases e219
            replace hx219_0 := ct HB hx219_0
            replace hx219_1 := ct HB hx219_1
            replace hx219_2 := ct HB hx219_2
            replace p219 := eq_true p219
            replace q219 := eq_true q219
            try go_wp2_with (first | ((with_reducible refine gate_dst (N := 4) rfl ?_); refine box_event ?hg (N := 4) ?hd (cs := #[.int .i64 0, .int .u64 0, .int .i64 0]) (t := 50) ?hr ?_; (case hd => rfl); (case hg => rfl); (case hr => first | (go_simp; done) | (go_simp; rfl)); intro gb220 hg w19 hbox hb; have n1_ := Aside0.mk (hbox); have n2_ := Aside0.mk ((by rw [hg]; exact (below_size (bn HB)) : w.heap.size ≤ gb220)); have n3_ := Aside0.mk ((by rw [hg]; exact (below_size (bn HB)) : w.heap.size ≤ gb220)); replace HB := bb HB hb; have BK220 := n1_; have GW220 := n2_; have GE220 := n3_; clear n1_ n2_ n3_; clear hb hbox hg; have hcz20_0 : w19.cell? ⟨gb220, 0, none⟩ = some (.int .i64 0) := (blk_cell BK220.out 0).trans rfl; have hcz20_1 : w19.cell? ⟨gb220, 1, none⟩ = some (.int .u64 0) := (blk_cell BK220.out 1).trans rfl; have hcz20_2 : w19.cell? ⟨gb220, 2, none⟩ = some (.int .i64 0) := (blk_cell BK220.out 2).trans rfl; have hfz20_0 := blk_frozen BK220.out 0; have hfz20_1 := blk_frozen BK220.out 1; have hfz20_2 := blk_frozen BK220.out 2))
            have n0_ : Aside0 ((((w19.setCell ⟨gb220, 0, none⟩ (.int .i64 ((rd_T50 l0 x7_1).f0))).setCell ⟨gb220, 1, none⟩ (.int .u64 ((rd_T50 l0 x7_1).f1))).setCell ⟨gb220, 2, none⟩ (.int .i64 ((rd_T50 l0 x7_1).f2))).heap[gb220]? = some (.cells #[.int .i64 ((rd_T50 l0 x7_1).f0), .int .u64 ((rd_T50 l0 x7_1).f1), .int .i64 ((rd_T50 l0 x7_1).f2)] 50 (0, 0))) := ⟨by (with_reducible repeat (first | refine blk_drewN ?_ _ | refine blk_drew ?_ | refine blk_alloc ?_ _)); refine blk_put (cs := #[.int .i64 ((rd_T50 l0 x7_1).f0), .int .u64 ((rd_T50 l0 x7_1).f1), .int .i64 0]) ?_ 2 _ rfl; (with_reducible repeat (first | refine blk_drewN ?_ _ | refine blk_drew ?_ | refine blk_alloc ?_ _)); refine blk_put (cs := #[.int .i64 ((rd_T50 l0 x7_1).f0), .int .u64 0, .int .i64 0]) ?_ 1 _ rfl; (with_reducible repeat (first | refine blk_drewN ?_ _ | refine blk_drew ?_ | refine blk_alloc ?_ _)); refine blk_put (cs := #[.int .i64 0, .int .u64 0, .int .i64 0]) ?_ 0 _ rfl; (with_reducible repeat (first | refine blk_drewN ?_ _ | refine blk_drew ?_ | refine blk_alloc ?_ _)); exact BK220.out⟩
            have n1_ : Aside0 (Below w.heap.size w (((w19.setCell ⟨gb220, 0, none⟩ (.int .i64 ((rd_T50 l0 x7_1).f0))).setCell ⟨gb220, 1, none⟩ (.int .u64 ((rd_T50 l0 x7_1).f1))).setCell ⟨gb220, 2, none⟩ (.int .i64 ((rd_T50 l0 x7_1).f2)))) := ⟨bn1 HB GE220⟩
            (try clear BK220)
            (try clear HB)
            generalize (((w19.setCell ⟨gb220, 0, none⟩ (.int .i64 ((rd_T50 l0 x7_1).f0))).setCell ⟨gb220, 1, none⟩ (.int .u64 ((rd_T50 l0 x7_1).f1))).setCell ⟨gb220, 2, none⟩ (.int .i64 ((rd_T50 l0 x7_1).f2))) = w21 at n0_ n1_ ⊢
            have BK220 := n0_
            have HB := n1_
            clear n0_ n1_
            have n0_ := Aside0.mk (blk_drew BK220.out)
            have n1_ := Aside0.mk (below_drew1 HB.out)
            clear BK220
            clear HB
            have BK220 := n0_
            have HB := n1_
            clear n0_ n1_
            have p222 : 0 ≤ ((ji14) : Int) := of_decide_eq_true (by assumption)
            have q222 : (ji14) < (l0.length : Int) := of_decide_eq_true (by assumption)
            obtain ⟨ad222, e222, hx222_0, hx222_1, hx222_2⟩ := at_T50 HR0.out (ji14) p222 q222
            have hw222_2 := hx222_2
            have hw222_1 := hx222_1
            have hw222_0 := hx222_0
            obtain rfl : ad219 = ad222 := (by injection e222)
            replace hx222_0 := ct HB hx222_0
            replace hx222_1 := ct HB hx222_1
            replace hx222_2 := ct HB hx222_2
            replace p222 := eq_true p222
            replace q222 := eq_true q222
            refine start_ (n := 22) (S := fun w' => w'.cell? ⟨gb220, 0, none⟩ = some (.int .i64 ((rd_T50 l0 x7_1).f0)) ∧ w'.cell? ⟨gb220, 1, none⟩ = some (.int .u64 ((rd_T50 l0 x7_1).f1)) ∧ w'.cell? ⟨gb220, 2, none⟩ = some (.int .i64 ((rd_T50 l0 x7_1).f2)) ∧ w'.cell? (ad219.add (((ji14)).toNat * 3)) = some (.int .i64 ((rd_T50 l0 (ji14)).f0)) ∧ w'.cell? ⟨(ad219.add (((ji14)).toNat * 3)).block, (ad219.add (((ji14)).toNat * 3)).off + 1, none⟩ = some (.int .u64 ((rd_T50 l0 (ji14)).f1)) ∧ w'.cell? ⟨(ad219.add (((ji14)).toNat * 3)).block, (ad219.add (((ji14)).toNat * 3)).off + 2, none⟩ = some (.int .i64 ((rd_T50 l0 (ji14)).f2))) (ds := []) (mk_ 0 22) (by kernel_rfl) rfl rfl ⟨(blk_cell BK220.out 0).trans rfl, (blk_cell BK220.out 1).trans rfl, (blk_cell BK220.out 2).trans rfl, (ct HB hw222_0), (ct HB hw222_1), (ct HB hw222_2)⟩ (fun hHeld => ?_); refine with_tabW batch_Right.tab4 batch_Right.bits4 (fun HT_ HW_ => ?_)
            generalize w21.drew = w22 at BK220 HB hx222_0 hx222_1 hx222_2 hHeld ⊢
            refine tv_ 0 12 (mk_ 1 21) HT_ HW_ hHeld (hy := by rintro w' ⟨s0, s1, s2, s3, s4, s5⟩; go_simp; with_reducible rfl) (h := ?_)
            refine one_ (i := 1) (N := some 13) (mk_ 2 20) rfl rfl (one_of HT_.out (by kernel_rfl)) (by decide) (fun K hK => ?_)
            refine goes_ Try.func48 (by kernel_rfl) rfl #[.agg #[.int .i64 ((rd_T50 l0 x7_1).f0), .int .u64 ((rd_T50 l0 x7_1).f1), .int .i64 ((rd_T50 l0 x7_1).f2)]] (by rfl) rfl rfl (by (try simp only [List.map_toArray, List.map_cons, List.map_nil]); first | done | rfl | (simp only [List.length_drop, List.length_take]; rfl)) ?_
            with_reducible refine (batch_wrong.calls k1 ((rd_T50 l0 x7_1).f0) ((rd_T50 l0 x7_1).f1) ((rd_T50 l0 x7_1).f2) t221 _ A5.out).mono ?_
            rintro e w23 ⟨rfl, hb⟩
            refine ⟨_, rfl, ?_⟩
            have n0_ := Aside0.mk (bkb BK220 hb)
            have n1_ := Aside0.mk (below_step (bn1 HB GE220) hb)
            clear BK220
            clear HB
            have BK220 := n0_
            have HB := n1_
            clear n0_ n1_
            (try clear hb)
            (try clear hb2)
            (try clear hk)
            (try clear hi)
            refine hK.out _ _ ⟨(blk_cell BK220.out 0).trans rfl, (blk_cell BK220.out 1).trans rfl, (blk_cell BK220.out 2).trans rfl, (ct HB hw222_0), (ct HB hw222_1), (ct HB hw222_2)⟩ (fun hHeld => ?_)
            clear hK K
            refine norm_ (a' := ?_) ?_ ?_
            rotate_left
            ·show Act.put _ (some 13) _ = _
             simp only [Act.put, List.setIfInBounds_toArray, List.set_cons_zero, List.set_cons_succ, i64_w, i32_w]
             rfl
            refine pv_ 2 14 (mk_ 3 19) HT_ ?_
            refine pv_ 3 15 (mk_ 4 18) HT_ ?_
            refine pv_ 4 16 (mk_ 5 17) HT_ ?_
            refine tv_ 5 17 (mk_ 6 16) HT_ HW_ hHeld (hy := by rintro w' ⟨s0, s1, s2, s3, s4, s5⟩; go_simp; with_reducible rfl) (h := ?_)
            refine pv_ 6 18 (mk_ 7 15) HT_ ?_
            refine pv_ 7 19 (mk_ 8 14) HT_ ?_
            refine pv_ 8 20 (mk_ 9 13) HT_ ?_
            refine pv_ 9 21 (mk_ 10 12) HT_ ?_
            refine pv_ 10 22 (mk_ 11 11) HT_ ?_
            refine pv_ 11 23 (mk_ 12 10) HT_ ?_
            refine pv_ 12 24 (mk_ 13 9) HT_ ?_
            refine pv_ 13 25 (mk_ 14 8) HT_ ?_
            refine pv_ 14 26 (mk_ 15 7) HT_ ?_
            refine pv_ 15 27 (mk_ 16 6) HT_ ?_
            refine tv_ 16 28 (mk_ 17 5) HT_ HW_ hHeld (hy := by rintro w' ⟨s0, s1, s2, s3, s4, s5⟩; go_simp; with_reducible rfl) (h := ?_)
            refine tv_ 17 29 (mk_ 18 4) HT_ HW_ hHeld (hy := by rintro w' ⟨s0, s1, s2, s3, s4, s5⟩; go_simp; with_reducible rfl) (h := ?_)
            refine one_ (i := 18) (N := some 30) (mk_ 19 3) rfl rfl (one_of HT_.out (by kernel_rfl)) (by decide) (fun K hK => ?_)
            refine goes_ Try.func53 (by kernel_rfl) rfl #[.agg #[.int .i64 ((rd_T50 l0 (ji14)).f0), .int .u64 ((rd_T50 l0 (ji14)).f1), .int .i64 ((rd_T50 l0 (ji14)).f2)], .agg #[.int .i64 ((rd_T50 l0 x7_1).f0), .int .u64 ((rd_T50 l0 x7_1).f1), .int .i64 ((rd_T50 l0 x7_1).f2)]] (by rfl) rfl rfl (by (try simp only [List.map_toArray, List.map_cons, List.map_nil]); first | done | (simp only [hji14]; rfl) | rfl | (simp only [List.length_drop, List.length_take]; rfl)) ?_
            with_reducible refine (batch_order.calls k1 ((rd_T50 l0 (ji14)).f0) ((rd_T50 l0 (ji14)).f1) ((rd_T50 l0 (ji14)).f2) ((rd_T50 l0 x7_1).f0) ((rd_T50 l0 x7_1).f1) ((rd_T50 l0 x7_1).f2) t223 _ A17.out).mono ?_
            rintro e w24 ⟨rfl, hb⟩
            refine ⟨_, rfl, ?_⟩
            have n0_ := Aside0.mk (bkb BK220 hb)
            have n1_ := Aside0.mk (below_step (bn1 HB GE220) hb)
            clear BK220
            clear HB
            have BK220 := n0_
            have HB := n1_
            clear n0_ n1_
            (try clear hb)
            (try clear hb2)
            (try clear hk)
            (try clear hi)
            refine hK.out _ _ ⟨(blk_cell BK220.out 0).trans rfl, (blk_cell BK220.out 1).trans rfl, (blk_cell BK220.out 2).trans rfl, (ct HB hw222_0), (ct HB hw222_1), (ct HB hw222_2)⟩ (fun hHeld => ?_)
            clear hK K
            refine norm_ (a' := ?_) ?_ ?_
            rotate_left
            ·show Act.put _ (some 30) _ = _
             simp only [Act.put, List.setIfInBounds_toArray, List.set_cons_zero, List.set_cons_succ, i64_w, i32_w]
             rfl
            refine pv_ 19 31 (mk_ 20 2) HT_ ?_
            refine pv_ 20 32 (mk_ 21 1) HT_ ?_
            refine pv_ 21 33 (mk_ 22 0) HT_ ?_
            refine done_ (done_of HT_.out (by kernel_rfl)) ?_
            try go_wp2
            go_ret
            exact ⟨by first | rfl | (simp [errW_none, errW_some] <;> rfl) | (simp only [← hji14]; first | rfl | (simp [errW_none, errW_some] <;> rfl)) | (simp [*, errW_none, errW_some] <;> rfl), bn1 HB GE220⟩
           ·rw [if_neg c18] at H
            have c18b0 : decide (0 ≤ t223) = false := decide_eq_false c18
            clear c18
            have H' := Aside0.mk H
            clear H
            have p219 : 0 ≤ (x7_1 : Int) := of_decide_eq_true (by assumption)
            have q219 : x7_1 < (l0.length : Int) := of_decide_eq_true (by assumption)
            obtain ⟨ad219, e219, hx219_0, hx219_1, hx219_2⟩ := at_T50 HR0.out x7_1 p219 q219
            cases e219
            replace hx219_0 := ct HB hx219_0
            replace hx219_1 := ct HB hx219_1
            replace hx219_2 := ct HB hx219_2
            replace p219 := eq_true p219
            replace q219 := eq_true q219
            try go_wp2_with (first | ((with_reducible refine gate_dst (N := 4) rfl ?_); refine box_event ?hg (N := 4) ?hd (cs := #[.int .i64 0, .int .u64 0, .int .i64 0]) (t := 50) ?hr ?_; (case hd => rfl); (case hg => rfl); (case hr => first | (go_simp; done) | (go_simp; rfl)); intro gb220 hg w25 hbox hb; have n1_ := Aside0.mk (hbox); have n2_ := Aside0.mk ((by rw [hg]; exact (below_size (bn HB)) : w.heap.size ≤ gb220)); have n3_ := Aside0.mk ((by rw [hg]; exact (below_size (bn HB)) : w.heap.size ≤ gb220)); replace HB := bb HB hb; have BK220 := n1_; have GW220 := n2_; have GE220 := n3_; clear n1_ n2_ n3_; clear hb hbox hg; have hcz26_0 : w25.cell? ⟨gb220, 0, none⟩ = some (.int .i64 0) := (blk_cell BK220.out 0).trans rfl; have hcz26_1 : w25.cell? ⟨gb220, 1, none⟩ = some (.int .u64 0) := (blk_cell BK220.out 1).trans rfl; have hcz26_2 : w25.cell? ⟨gb220, 2, none⟩ = some (.int .i64 0) := (blk_cell BK220.out 2).trans rfl; have hfz26_0 := blk_frozen BK220.out 0; have hfz26_1 := blk_frozen BK220.out 1; have hfz26_2 := blk_frozen BK220.out 2))
            have n0_ : Aside0 ((((w25.setCell ⟨gb220, 0, none⟩ (.int .i64 ((rd_T50 l0 x7_1).f0))).setCell ⟨gb220, 1, none⟩ (.int .u64 ((rd_T50 l0 x7_1).f1))).setCell ⟨gb220, 2, none⟩ (.int .i64 ((rd_T50 l0 x7_1).f2))).heap[gb220]? = some (.cells #[.int .i64 ((rd_T50 l0 x7_1).f0), .int .u64 ((rd_T50 l0 x7_1).f1), .int .i64 ((rd_T50 l0 x7_1).f2)] 50 (0, 0))) := ⟨by (with_reducible repeat (first | refine blk_drewN ?_ _ | refine blk_drew ?_ | refine blk_alloc ?_ _)); refine blk_put (cs := #[.int .i64 ((rd_T50 l0 x7_1).f0), .int .u64 ((rd_T50 l0 x7_1).f1), .int .i64 0]) ?_ 2 _ rfl; (with_reducible repeat (first | refine blk_drewN ?_ _ | refine blk_drew ?_ | refine blk_alloc ?_ _)); refine blk_put (cs := #[.int .i64 ((rd_T50 l0 x7_1).f0), .int .u64 0, .int .i64 0]) ?_ 1 _ rfl; (with_reducible repeat (first | refine blk_drewN ?_ _ | refine blk_drew ?_ | refine blk_alloc ?_ _)); refine blk_put (cs := #[.int .i64 0, .int .u64 0, .int .i64 0]) ?_ 0 _ rfl; (with_reducible repeat (first | refine blk_drewN ?_ _ | refine blk_drew ?_ | refine blk_alloc ?_ _)); exact BK220.out⟩
            have n1_ : Aside0 (Below w.heap.size w (((w25.setCell ⟨gb220, 0, none⟩ (.int .i64 ((rd_T50 l0 x7_1).f0))).setCell ⟨gb220, 1, none⟩ (.int .u64 ((rd_T50 l0 x7_1).f1))).setCell ⟨gb220, 2, none⟩ (.int .i64 ((rd_T50 l0 x7_1).f2)))) := ⟨bn1 HB GE220⟩
            (try clear BK220)
            (try clear HB)
            generalize (((w25.setCell ⟨gb220, 0, none⟩ (.int .i64 ((rd_T50 l0 x7_1).f0))).setCell ⟨gb220, 1, none⟩ (.int .u64 ((rd_T50 l0 x7_1).f1))).setCell ⟨gb220, 2, none⟩ (.int .i64 ((rd_T50 l0 x7_1).f2))) = w27 at n0_ n1_ ⊢
            have BK220 := n0_
            have HB := n1_
            clear n0_ n1_
            have n0_ := Aside0.mk (blk_drew BK220.out)
            have n1_ := Aside0.mk (below_drew1 HB.out)
            clear BK220
            clear HB
            have BK220 := n0_
            have HB := n1_
            clear n0_ n1_
            have p222 : 0 ≤ ((ji14) : Int) := of_decide_eq_true (by assumption)
            have q222 : (ji14) < (l0.length : Int) := of_decide_eq_true (by assumption)
            obtain ⟨ad222, e222, hx222_0, hx222_1, hx222_2⟩ := at_T50 HR0.out (ji14) p222 q222
            have hw222_2 := hx222_2
            have hw222_1 := hx222_1
            have hw222_0 := hx222_0
            obtain rfl : ad219 = ad222 := (by injection e222)
            replace hx222_0 := ct HB hx222_0
            replace hx222_1 := ct HB hx222_1
            replace hx222_2 := ct HB hx222_2
            replace p222 := eq_true p222
            replace q222 := eq_true q222
            refine start_ (n := 22) (S := fun w' => w'.cell? ⟨gb220, 0, none⟩ = some (.int .i64 ((rd_T50 l0 x7_1).f0)) ∧ w'.cell? ⟨gb220, 1, none⟩ = some (.int .u64 ((rd_T50 l0 x7_1).f1)) ∧ w'.cell? ⟨gb220, 2, none⟩ = some (.int .i64 ((rd_T50 l0 x7_1).f2)) ∧ w'.cell? (ad219.add (((ji14)).toNat * 3)) = some (.int .i64 ((rd_T50 l0 (ji14)).f0)) ∧ w'.cell? ⟨(ad219.add (((ji14)).toNat * 3)).block, (ad219.add (((ji14)).toNat * 3)).off + 1, none⟩ = some (.int .u64 ((rd_T50 l0 (ji14)).f1)) ∧ w'.cell? ⟨(ad219.add (((ji14)).toNat * 3)).block, (ad219.add (((ji14)).toNat * 3)).off + 2, none⟩ = some (.int .i64 ((rd_T50 l0 (ji14)).f2))) (ds := []) (mk_ 0 22) (by kernel_rfl) rfl rfl ⟨(blk_cell BK220.out 0).trans rfl, (blk_cell BK220.out 1).trans rfl, (blk_cell BK220.out 2).trans rfl, (ct HB hw222_0), (ct HB hw222_1), (ct HB hw222_2)⟩ (fun hHeld => ?_); refine with_tabW batch_Right.tab4 batch_Right.bits4 (fun HT_ HW_ => ?_)
            generalize w27.drew = w28 at BK220 HB hx222_0 hx222_1 hx222_2 hHeld ⊢
            refine tv_ 0 12 (mk_ 1 21) HT_ HW_ hHeld (hy := by rintro w' ⟨s0, s1, s2, s3, s4, s5⟩; go_simp; with_reducible rfl) (h := ?_)
            refine one_ (i := 1) (N := some 13) (mk_ 2 20) rfl rfl (one_of HT_.out (by kernel_rfl)) (by decide) (fun K hK => ?_)
            refine goes_ Try.func48 (by kernel_rfl) rfl #[.agg #[.int .i64 ((rd_T50 l0 x7_1).f0), .int .u64 ((rd_T50 l0 x7_1).f1), .int .i64 ((rd_T50 l0 x7_1).f2)]] (by rfl) rfl rfl (by (try simp only [List.map_toArray, List.map_cons, List.map_nil]); first | done | rfl | (simp only [List.length_drop, List.length_take]; rfl)) ?_
            with_reducible refine (batch_wrong.calls k1 ((rd_T50 l0 x7_1).f0) ((rd_T50 l0 x7_1).f1) ((rd_T50 l0 x7_1).f2) t221 _ A5.out).mono ?_
            rintro e w29 ⟨rfl, hb⟩
            refine ⟨_, rfl, ?_⟩
            have n0_ := Aside0.mk (bkb BK220 hb)
            have n1_ := Aside0.mk (below_step (bn1 HB GE220) hb)
            clear BK220
            clear HB
            have BK220 := n0_
            have HB := n1_
            clear n0_ n1_
            (try clear hb)
            (try clear hb2)
            (try clear hk)
            (try clear hi)
            refine hK.out _ _ ⟨(blk_cell BK220.out 0).trans rfl, (blk_cell BK220.out 1).trans rfl, (blk_cell BK220.out 2).trans rfl, (ct HB hw222_0), (ct HB hw222_1), (ct HB hw222_2)⟩ (fun hHeld => ?_)
            clear hK K
            refine norm_ (a' := ?_) ?_ ?_
            rotate_left
            ·show Act.put _ (some 13) _ = _
             simp only [Act.put, List.setIfInBounds_toArray, List.set_cons_zero, List.set_cons_succ, i64_w, i32_w]
             rfl
            refine pv_ 2 14 (mk_ 3 19) HT_ ?_
            refine pv_ 3 15 (mk_ 4 18) HT_ ?_
            refine pv_ 4 16 (mk_ 5 17) HT_ ?_
            refine tv_ 5 17 (mk_ 6 16) HT_ HW_ hHeld (hy := by rintro w' ⟨s0, s1, s2, s3, s4, s5⟩; go_simp; with_reducible rfl) (h := ?_)
            refine pv_ 6 18 (mk_ 7 15) HT_ ?_
            refine pv_ 7 19 (mk_ 8 14) HT_ ?_
            refine pv_ 8 20 (mk_ 9 13) HT_ ?_
            refine pv_ 9 21 (mk_ 10 12) HT_ ?_
            refine pv_ 10 22 (mk_ 11 11) HT_ ?_
            refine pv_ 11 23 (mk_ 12 10) HT_ ?_
            refine pv_ 12 24 (mk_ 13 9) HT_ ?_
            refine pv_ 13 25 (mk_ 14 8) HT_ ?_
            refine pv_ 14 26 (mk_ 15 7) HT_ ?_
            refine pv_ 15 27 (mk_ 16 6) HT_ ?_
            refine tv_ 16 28 (mk_ 17 5) HT_ HW_ hHeld (hy := by rintro w' ⟨s0, s1, s2, s3, s4, s5⟩; go_simp; with_reducible rfl) (h := ?_)
            refine tv_ 17 29 (mk_ 18 4) HT_ HW_ hHeld (hy := by rintro w' ⟨s0, s1, s2, s3, s4, s5⟩; go_simp; with_reducible rfl) (h := ?_)
            refine one_ (i := 18) (N := some 30) (mk_ 19 3) rfl rfl (one_of HT_.out (by kernel_rfl)) (by decide) (fun K hK => ?_)
            refine goes_ Try.func53 (by kernel_rfl) rfl #[.agg #[.int .i64 ((rd_T50 l0 (ji14)).f0), .int .u64 ((rd_T50 l0 (ji14)).f1), .int .i64 ((rd_T50 l0 (ji14)).f2)], .agg #[.int .i64 ((rd_T50 l0 x7_1).f0), .int .u64 ((rd_T50 l0 x7_1).f1), .int .i64 ((rd_T50 l0 x7_1).f2)]] (by rfl) rfl rfl (by (try simp only [List.map_toArray, List.map_cons, List.map_nil]); first | done | (simp only [hji14]; rfl) | rfl | (simp only [List.length_drop, List.length_take]; rfl)) ?_
            with_reducible refine (batch_order.calls k1 ((rd_T50 l0 (ji14)).f0) ((rd_T50 l0 (ji14)).f1) ((rd_T50 l0 (ji14)).f2) ((rd_T50 l0 x7_1).f0) ((rd_T50 l0 x7_1).f1) ((rd_T50 l0 x7_1).f2) t223 _ A17.out).mono ?_
            rintro e w30 ⟨rfl, hb⟩
            refine ⟨_, rfl, ?_⟩
            have n0_ := Aside0.mk (bkb BK220 hb)
            have n1_ := Aside0.mk (below_step (bn1 HB GE220) hb)
            clear BK220
            clear HB
            have BK220 := n0_
            have HB := n1_
            clear n0_ n1_
            (try clear hb)
            (try clear hb2)
            (try clear hk)
            (try clear hi)
            refine hK.out _ _ ⟨(blk_cell BK220.out 0).trans rfl, (blk_cell BK220.out 1).trans rfl, (blk_cell BK220.out 2).trans rfl, (ct HB hw222_0), (ct HB hw222_1), (ct HB hw222_2)⟩ (fun hHeld => ?_)
            clear hK K
            refine norm_ (a' := ?_) ?_ ?_
            rotate_left
            ·show Act.put _ (some 30) _ = _
             simp only [Act.put, List.setIfInBounds_toArray, List.set_cons_zero, List.set_cons_succ, i64_w, i32_w]
             rfl
            refine pv_ 19 31 (mk_ 20 2) HT_ ?_
            refine pv_ 20 32 (mk_ 21 1) HT_ ?_
            refine pv_ 21 33 (mk_ 22 0) HT_ ?_
            refine done_ (done_of HT_.out (by kernel_rfl)) ?_
            try go_wp2
            go_roundg k1
            case measure => have := HK1.out; omega
            case rel => exact ⟨(wrap64 (x7_1 + 1)), (by first | rfl | (simp; done) | (simp [*]; done)), H', ⟨by have := HK1.out; omega⟩, ⟨bn1 HB GE220⟩⟩
          ·rw [if_neg c16] at H
           exact absurd H (by simp)
         ·rw [if_neg c15] at H
          exact absurd H (by simp)
        ·rw [if_neg c13] at H
         have c13b0 : decide (0 < x7_1) = false := decide_eq_false c13
         clear c13
         have H' := Aside0.mk H
         clear H
         have p219 : 0 ≤ (x7_1 : Int) := of_decide_eq_true (by assumption)
         have q219 : x7_1 < (l0.length : Int) := of_decide_eq_true (by assumption)
         obtain ⟨ad219, e219, hx219_0, hx219_1, hx219_2⟩ := at_T50 HR0.out x7_1 p219 q219
         cases e219
         replace hx219_0 := ct HB hx219_0
         replace hx219_1 := ct HB hx219_1
         replace hx219_2 := ct HB hx219_2
         replace p219 := eq_true p219
         replace q219 := eq_true q219
         try go_wp2_with (first | ((with_reducible refine gate_dst (N := 4) rfl ?_); refine box_event ?hg (N := 4) ?hd (cs := #[.int .i64 0, .int .u64 0, .int .i64 0]) (t := 50) ?hr ?_; (case hd => rfl); (case hg => rfl); (case hr => first | (go_simp; done) | (go_simp; rfl)); intro gb220 hg w31 hbox hb; have n1_ := Aside0.mk (hbox); have n2_ := Aside0.mk ((by rw [hg]; exact (below_size (bn HB)) : w.heap.size ≤ gb220)); have n3_ := Aside0.mk ((by rw [hg]; exact (below_size (bn HB)) : w.heap.size ≤ gb220)); replace HB := bb HB hb; have BK220 := n1_; have GW220 := n2_; have GE220 := n3_; clear n1_ n2_ n3_; clear hb hbox hg; have hcz32_0 : w31.cell? ⟨gb220, 0, none⟩ = some (.int .i64 0) := (blk_cell BK220.out 0).trans rfl; have hcz32_1 : w31.cell? ⟨gb220, 1, none⟩ = some (.int .u64 0) := (blk_cell BK220.out 1).trans rfl; have hcz32_2 : w31.cell? ⟨gb220, 2, none⟩ = some (.int .i64 0) := (blk_cell BK220.out 2).trans rfl; have hfz32_0 := blk_frozen BK220.out 0; have hfz32_1 := blk_frozen BK220.out 1; have hfz32_2 := blk_frozen BK220.out 2))
         have n0_ : Aside0 ((((w31.setCell ⟨gb220, 0, none⟩ (.int .i64 ((rd_T50 l0 x7_1).f0))).setCell ⟨gb220, 1, none⟩ (.int .u64 ((rd_T50 l0 x7_1).f1))).setCell ⟨gb220, 2, none⟩ (.int .i64 ((rd_T50 l0 x7_1).f2))).heap[gb220]? = some (.cells #[.int .i64 ((rd_T50 l0 x7_1).f0), .int .u64 ((rd_T50 l0 x7_1).f1), .int .i64 ((rd_T50 l0 x7_1).f2)] 50 (0, 0))) := ⟨by (with_reducible repeat (first | refine blk_drewN ?_ _ | refine blk_drew ?_ | refine blk_alloc ?_ _)); refine blk_put (cs := #[.int .i64 ((rd_T50 l0 x7_1).f0), .int .u64 ((rd_T50 l0 x7_1).f1), .int .i64 0]) ?_ 2 _ rfl; (with_reducible repeat (first | refine blk_drewN ?_ _ | refine blk_drew ?_ | refine blk_alloc ?_ _)); refine blk_put (cs := #[.int .i64 ((rd_T50 l0 x7_1).f0), .int .u64 0, .int .i64 0]) ?_ 1 _ rfl; (with_reducible repeat (first | refine blk_drewN ?_ _ | refine blk_drew ?_ | refine blk_alloc ?_ _)); refine blk_put (cs := #[.int .i64 0, .int .u64 0, .int .i64 0]) ?_ 0 _ rfl; (with_reducible repeat (first | refine blk_drewN ?_ _ | refine blk_drew ?_ | refine blk_alloc ?_ _)); exact BK220.out⟩
         have n1_ : Aside0 (Below w.heap.size w (((w31.setCell ⟨gb220, 0, none⟩ (.int .i64 ((rd_T50 l0 x7_1).f0))).setCell ⟨gb220, 1, none⟩ (.int .u64 ((rd_T50 l0 x7_1).f1))).setCell ⟨gb220, 2, none⟩ (.int .i64 ((rd_T50 l0 x7_1).f2)))) := ⟨bn1 HB GE220⟩
         (try clear BK220)
         (try clear HB)
         generalize (((w31.setCell ⟨gb220, 0, none⟩ (.int .i64 ((rd_T50 l0 x7_1).f0))).setCell ⟨gb220, 1, none⟩ (.int .u64 ((rd_T50 l0 x7_1).f1))).setCell ⟨gb220, 2, none⟩ (.int .i64 ((rd_T50 l0 x7_1).f2))) = w33 at n0_ n1_ ⊢
         have BK220 := n0_
         have HB := n1_
         clear n0_ n1_
         have n0_ := Aside0.mk (blk_drew BK220.out)
         have n1_ := Aside0.mk (below_drew1 HB.out)
         clear BK220
         clear HB
         have BK220 := n0_
         have HB := n1_
         clear n0_ n1_
         refine start_ (n := 22) (S := fun w' => w'.cell? ⟨gb220, 0, none⟩ = some (.int .i64 ((rd_T50 l0 x7_1).f0)) ∧ w'.cell? ⟨gb220, 1, none⟩ = some (.int .u64 ((rd_T50 l0 x7_1).f1)) ∧ w'.cell? ⟨gb220, 2, none⟩ = some (.int .i64 ((rd_T50 l0 x7_1).f2))) (ds := []) (mk_ 0 22) (by kernel_rfl) rfl rfl ⟨(blk_cell BK220.out 0).trans rfl, (blk_cell BK220.out 1).trans rfl, (blk_cell BK220.out 2).trans rfl⟩ (fun hHeld => ?_); refine with_tabW batch_Right.tab4 batch_Right.bits4 (fun HT_ HW_ => ?_)
         generalize w33.drew = w34 at BK220 HB hHeld ⊢
         refine tv_ 0 12 (mk_ 1 21) HT_ HW_ hHeld (hy := by rintro w' ⟨s0, s1, s2⟩; go_simp; with_reducible rfl) (h := ?_)
         refine one_ (i := 1) (N := some 13) (mk_ 2 20) rfl rfl (one_of HT_.out (by kernel_rfl)) (by decide) (fun K hK => ?_)
         refine goes_ Try.func48 (by kernel_rfl) rfl #[.agg #[.int .i64 ((rd_T50 l0 x7_1).f0), .int .u64 ((rd_T50 l0 x7_1).f1), .int .i64 ((rd_T50 l0 x7_1).f2)]] (by rfl) rfl rfl (by (try simp only [List.map_toArray, List.map_cons, List.map_nil]); first | done | rfl | (simp only [List.length_drop, List.length_take]; rfl)) ?_
         with_reducible refine (batch_wrong.calls k1 ((rd_T50 l0 x7_1).f0) ((rd_T50 l0 x7_1).f1) ((rd_T50 l0 x7_1).f2) t221 _ A5.out).mono ?_
         rintro e w35 ⟨rfl, hb⟩
         refine ⟨_, rfl, ?_⟩
         have n0_ := Aside0.mk (bkb BK220 hb)
         have n1_ := Aside0.mk (below_step (bn1 HB GE220) hb)
         clear BK220
         clear HB
         have BK220 := n0_
         have HB := n1_
         clear n0_ n1_
         (try clear hb)
         (try clear hb2)
         (try clear hk)
         (try clear hi)
         refine hK.out _ _ ⟨(blk_cell BK220.out 0).trans rfl, (blk_cell BK220.out 1).trans rfl, (blk_cell BK220.out 2).trans rfl⟩ (fun hHeld => ?_)
         clear hK K
         refine norm_ (a' := ?_) ?_ ?_
         rotate_left
         ·show Act.put _ (some 13) _ = _
          simp only [Act.put, List.setIfInBounds_toArray, List.set_cons_zero, List.set_cons_succ, i64_w, i32_w]
          rfl
         refine pv_ 2 14 (mk_ 3 19) HT_ ?_
         refine pv_ 3 15 (mk_ 4 18) HT_ ?_
         refine pv_ 4 16 (mk_ 5 17) HT_ ?_
         refine tv_ 5 17 (mk_ 6 16) HT_ HW_ hHeld (hy := by rintro w' ⟨s0, s1, s2⟩; go_simp; with_reducible rfl) (h := ?_)
         refine pv_ 6 18 (mk_ 7 15) HT_ ?_
         refine pv_ 7 19 (mk_ 8 14) HT_ ?_
         refine pv_ 8 20 (mk_ 9 13) HT_ ?_
         refine pv_ 9 21 (mk_ 10 12) HT_ ?_
         refine pv_ 10 22 (mk_ 11 11) HT_ ?_
         refine pv_ 11 23 (mk_ 12 10) HT_ ?_
         refine pu_ 12 24 (mk_ 13 9) HT_ ?_
         refine pu_ 13 25 (mk_ 14 8) HT_ ?_
         refine pu_ 14 26 (mk_ 15 7) HT_ ?_
         refine pu_ 15 27 (mk_ 16 6) HT_ ?_
         refine pu_ 16 28 (mk_ 17 5) HT_ ?_
         refine pu_ 17 29 (mk_ 18 4) HT_ ?_
         refine pu_ 18 30 (mk_ 19 3) HT_ ?_
         refine pu_ 19 31 (mk_ 20 2) HT_ ?_
         refine pv_ 20 32 (mk_ 21 1) HT_ ?_
         refine pv_ 21 33 (mk_ 22 0) HT_ ?_
         refine done_ (done_of HT_.out (by kernel_rfl)) ?_
         try go_wp2
         go_roundg k1
         case measure => have := HK1.out; omega
         case rel => exact ⟨(wrap64 (x7_1 + 1)), (by first | rfl | (simp; done) | (simp [*]; done)), H', ⟨by have := HK1.out; omega⟩, ⟨bn1 HB GE220⟩⟩
      ·rw [if_neg c6] at H
       have c6b0 : (t221 == 0) = false := beq_eq_false_iff_ne.mpr c6
       have c6b1 : (t221 != 0) = true := bne_iff_ne.mpr c6
       obtain rfl := Option.some.inj H
       have p219 : 0 ≤ (x7_1 : Int) := of_decide_eq_true (by assumption)
       have q219 : x7_1 < (l0.length : Int) := of_decide_eq_true (by assumption)
       obtain ⟨ad219, e219, hx219_0, hx219_1, hx219_2⟩ := at_T50 HR0.out x7_1 p219 q219
       cases e219
       replace hx219_0 := ct HB hx219_0
       replace hx219_1 := ct HB hx219_1
       replace hx219_2 := ct HB hx219_2
       replace p219 := eq_true p219
       replace q219 := eq_true q219
       try go_wp2_with (first | ((with_reducible refine gate_dst (N := 4) rfl ?_); refine box_event ?hg (N := 4) ?hd (cs := #[.int .i64 0, .int .u64 0, .int .i64 0]) (t := 50) ?hr ?_; (case hd => rfl); (case hg => rfl); (case hr => first | (go_simp; done) | (go_simp; rfl)); intro gb220 hg w36 hbox hb; have n1_ := Aside0.mk (hbox); have n2_ := Aside0.mk ((by rw [hg]; exact (below_size (bn HB)) : w.heap.size ≤ gb220)); have n3_ := Aside0.mk ((by rw [hg]; exact (below_size (bn HB)) : w.heap.size ≤ gb220)); replace HB := bb HB hb; have BK220 := n1_; have GW220 := n2_; have GE220 := n3_; clear n1_ n2_ n3_; clear hb hbox hg; have hcz37_0 : w36.cell? ⟨gb220, 0, none⟩ = some (.int .i64 0) := (blk_cell BK220.out 0).trans rfl; have hcz37_1 : w36.cell? ⟨gb220, 1, none⟩ = some (.int .u64 0) := (blk_cell BK220.out 1).trans rfl; have hcz37_2 : w36.cell? ⟨gb220, 2, none⟩ = some (.int .i64 0) := (blk_cell BK220.out 2).trans rfl; have hfz37_0 := blk_frozen BK220.out 0; have hfz37_1 := blk_frozen BK220.out 1; have hfz37_2 := blk_frozen BK220.out 2))
       have n0_ : Aside0 ((((w36.setCell ⟨gb220, 0, none⟩ (.int .i64 ((rd_T50 l0 x7_1).f0))).setCell ⟨gb220, 1, none⟩ (.int .u64 ((rd_T50 l0 x7_1).f1))).setCell ⟨gb220, 2, none⟩ (.int .i64 ((rd_T50 l0 x7_1).f2))).heap[gb220]? = some (.cells #[.int .i64 ((rd_T50 l0 x7_1).f0), .int .u64 ((rd_T50 l0 x7_1).f1), .int .i64 ((rd_T50 l0 x7_1).f2)] 50 (0, 0))) := ⟨by (with_reducible repeat (first | refine blk_drewN ?_ _ | refine blk_drew ?_ | refine blk_alloc ?_ _)); refine blk_put (cs := #[.int .i64 ((rd_T50 l0 x7_1).f0), .int .u64 ((rd_T50 l0 x7_1).f1), .int .i64 0]) ?_ 2 _ rfl; (with_reducible repeat (first | refine blk_drewN ?_ _ | refine blk_drew ?_ | refine blk_alloc ?_ _)); refine blk_put (cs := #[.int .i64 ((rd_T50 l0 x7_1).f0), .int .u64 0, .int .i64 0]) ?_ 1 _ rfl; (with_reducible repeat (first | refine blk_drewN ?_ _ | refine blk_drew ?_ | refine blk_alloc ?_ _)); refine blk_put (cs := #[.int .i64 0, .int .u64 0, .int .i64 0]) ?_ 0 _ rfl; (with_reducible repeat (first | refine blk_drewN ?_ _ | refine blk_drew ?_ | refine blk_alloc ?_ _)); exact BK220.out⟩
       have n1_ : Aside0 (Below w.heap.size w (((w36.setCell ⟨gb220, 0, none⟩ (.int .i64 ((rd_T50 l0 x7_1).f0))).setCell ⟨gb220, 1, none⟩ (.int .u64 ((rd_T50 l0 x7_1).f1))).setCell ⟨gb220, 2, none⟩ (.int .i64 ((rd_T50 l0 x7_1).f2)))) := ⟨bn1 HB GE220⟩
       (try clear BK220)
       (try clear HB)
       generalize (((w36.setCell ⟨gb220, 0, none⟩ (.int .i64 ((rd_T50 l0 x7_1).f0))).setCell ⟨gb220, 1, none⟩ (.int .u64 ((rd_T50 l0 x7_1).f1))).setCell ⟨gb220, 2, none⟩ (.int .i64 ((rd_T50 l0 x7_1).f2))) = w38 at n0_ n1_ ⊢
       have BK220 := n0_
       have HB := n1_
       clear n0_ n1_
       have n0_ := Aside0.mk (blk_drew BK220.out)
       have n1_ := Aside0.mk (below_drew1 HB.out)
       clear BK220
       clear HB
       have BK220 := n0_
       have HB := n1_
       clear n0_ n1_
       refine start_ (n := 22) (S := fun w' => w'.cell? ⟨gb220, 0, none⟩ = some (.int .i64 ((rd_T50 l0 x7_1).f0)) ∧ w'.cell? ⟨gb220, 1, none⟩ = some (.int .u64 ((rd_T50 l0 x7_1).f1)) ∧ w'.cell? ⟨gb220, 2, none⟩ = some (.int .i64 ((rd_T50 l0 x7_1).f2))) (ds := []) (mk_ 0 22) (by kernel_rfl) rfl rfl ⟨(blk_cell BK220.out 0).trans rfl, (blk_cell BK220.out 1).trans rfl, (blk_cell BK220.out 2).trans rfl⟩ (fun hHeld => ?_); refine with_tabW batch_Right.tab4 batch_Right.bits4 (fun HT_ HW_ => ?_)
       generalize w38.drew = w39 at BK220 HB hHeld ⊢
       refine tv_ 0 12 (mk_ 1 21) HT_ HW_ hHeld (hy := by rintro w' ⟨s0, s1, s2⟩; go_simp; with_reducible rfl) (h := ?_)
       refine one_ (i := 1) (N := some 13) (mk_ 2 20) rfl rfl (one_of HT_.out (by kernel_rfl)) (by decide) (fun K hK => ?_)
       refine goes_ Try.func48 (by kernel_rfl) rfl #[.agg #[.int .i64 ((rd_T50 l0 x7_1).f0), .int .u64 ((rd_T50 l0 x7_1).f1), .int .i64 ((rd_T50 l0 x7_1).f2)]] (by rfl) rfl rfl (by (try simp only [List.map_toArray, List.map_cons, List.map_nil]); first | done | rfl | (simp only [List.length_drop, List.length_take]; rfl)) ?_
       with_reducible refine (batch_wrong.calls k1 ((rd_T50 l0 x7_1).f0) ((rd_T50 l0 x7_1).f1) ((rd_T50 l0 x7_1).f2) t221 _ A5.out).mono ?_
       rintro e w40 ⟨rfl, hb⟩
       refine ⟨_, rfl, ?_⟩
       have n0_ := Aside0.mk (bkb BK220 hb)
       have n1_ := Aside0.mk (below_step (bn1 HB GE220) hb)
       clear BK220
       clear HB
       have BK220 := n0_
       have HB := n1_
       clear n0_ n1_
       (try clear hb)
       (try clear hb2)
       (try clear hk)
       (try clear hi)
       refine hK.out _ _ ⟨(blk_cell BK220.out 0).trans rfl, (blk_cell BK220.out 1).trans rfl, (blk_cell BK220.out 2).trans rfl⟩ (fun hHeld => ?_)
       clear hK K
       refine norm_ (a' := ?_) ?_ ?_
       rotate_left
       ·show Act.put _ (some 13) _ = _
        simp only [Act.put, List.setIfInBounds_toArray, List.set_cons_zero, List.set_cons_succ, i64_w, i32_w]
        rfl
       refine pv_ 2 14 (mk_ 3 19) HT_ ?_
       refine pv_ 3 15 (mk_ 4 18) HT_ ?_
       refine pu_ 4 16 (mk_ 5 17) HT_ ?_
       refine pu_ 5 17 (mk_ 6 16) HT_ ?_
       refine pu_ 6 18 (mk_ 7 15) HT_ ?_
       refine pv_ 7 19 (mk_ 8 14) HT_ ?_
       refine pv_ 8 20 (mk_ 9 13) HT_ ?_
       refine pu_ 9 21 (mk_ 10 12) HT_ ?_
       refine pu_ 10 22 (mk_ 11 11) HT_ ?_
       refine pu_ 11 23 (mk_ 12 10) HT_ ?_
       refine pu_ 12 24 (mk_ 13 9) HT_ ?_
       refine pu_ 13 25 (mk_ 14 8) HT_ ?_
       refine pu_ 14 26 (mk_ 15 7) HT_ ?_
       refine pu_ 15 27 (mk_ 16 6) HT_ ?_
       refine pu_ 16 28 (mk_ 17 5) HT_ ?_
       refine pu_ 17 29 (mk_ 18 4) HT_ ?_
       refine pu_ 18 30 (mk_ 19 3) HT_ ?_
       refine pu_ 19 31 (mk_ 20 2) HT_ ?_
       refine pu_ 20 32 (mk_ 21 1) HT_ ?_
       refine pv_ 21 33 (mk_ 22 0) HT_ ?_
       refine done_ (done_of HT_.out (by kernel_rfl)) ?_
       try go_wp2
       go_ret
       exact ⟨by first | rfl | (simp [errW_none, errW_some] <;> rfl) | (simp [*, errW_none, errW_some] <;> rfl), bn1 HB GE220⟩
     ·rw [if_neg c4] at H
      exact absurd H (by simp)
    ·rw [if_neg c3] at H
     exact absurd H (by simp)
   ·rw [if_neg c2] at H
    have c2b0 : decide (x7_1 < (l0.length : Int)) = false := decide_eq_false c2
    clear c2
    obtain rfl := Option.some.inj H
    go_wp2
    go_ret
    exact ⟨by first | rfl | (simp [errW_none, errW_some] <;> rfl) | (simp [*, errW_none, errW_some] <;> rfl), bn HB⟩
end Go.Proofs.Ytgeldmhgbnamcaa.P
end
section
/- front.Reach, by hand: Apply. -/
namespace Go.Proofs.Ytgeldmhgbnamcaa.P
open Go.RowKit Go.Proofs.YtgeldmhgbnamcaaW.PrintWords Go.Proofs.YtgeldmhgbnamcaaW.PrintLast Go.Proofs.YtgeldmhgbnamcaaW.PrintMore
set_option linter.unusedVariables false
set_option linter.unusedSimpArgs false
set_option maxHeartbeats 1000000 in
set_option maxRecDepth 100000 in
theorem port_calls (x : S50) (g m : Nat) (pA : Option Addr) (pn pc : Nat) (W : World) (hm : W.cell? ⟨m, 0, none⟩ = some (.pointer (some ⟨g, 0, none⟩))) (hg : W.cell? ⟨g, 0, none⟩ = some (.slice pA pn pc)) :
  Calls Try.prog 84 (#[.agg #[.int .i64 x.f0, .int .u64 x.f1, .int .i64 x.f2]] ++ #[.pointer (some ⟨m, 0, none⟩)]) W fun e w' => e = .returned (.bool (decide (x.f0 ≥ (pn : Int)))) ∧ Below W.heap.size W w' := by
 show Calls Try.prog 84 #[.agg #[.int .i64 x.f0, .int .u64 x.f1, .int .i64 x.f2], .pointer (some ⟨m, 0, none⟩)] W _
 have hgl := World.block_lt_of_cell? W _ hg
 have hml := World.block_lt_of_cell? W _ hm
 have HG := Aside0.mk hg
 have HM := Aside0.mk hm
 have HL := Aside0.mk hgl
 have HL2 := Aside0.mk hml
 clear hg hgl hm hml
 go_enter Try.func84, Try.ntmps84
 go_wp2_with fail
 have s0 : Below W.heap.size W (W.alloc (.cells #[.int .i64 x.f0, .int .u64 x.f1, .int .i64 x.f2] 50)) := (Below.refl _ _).alloc (Nat.le_refl _) _
 have s1 : (W.alloc (.cells #[.int .i64 x.f0, .int .u64 x.f1, .int .i64 x.f2] 50)).cell? ⟨W.heap.size, 0, none⟩ = some (.int .i64 x.f0) := by simp [go_sem]
 have s4 : (W.alloc (.cells #[.int .i64 x.f0, .int .u64 x.f1, .int .i64 x.f2] 50)).cell? ⟨g, 0, none⟩ = some (.slice pA pn pc) := (s0.cell (p := ⟨g, 0, none⟩) HL.out).trans HG.out
 have s3 : (W.alloc (.cells #[.int .i64 x.f0, .int .u64 x.f1, .int .i64 x.f2] 50)).cell? ⟨m, 0, none⟩ = some (.pointer (some ⟨g, 0, none⟩)) := (s0.cell (p := ⟨m, 0, none⟩) HL2.out).trans HM.out
 have s5 : W.heap.size < (W.alloc (.cells #[.int .i64 x.f0, .int .u64 x.f1, .int .i64 x.f2] 50)).heap.size := by simp
 generalize W.alloc (.cells #[.int .i64 x.f0, .int .u64 x.f1, .int .i64 x.f2] 50) = W1 at *
 go_region_held3 (fun w' => w'.cell? ⟨m, 0, none⟩ = some (.pointer (some ⟨g, 0, none⟩)) ∧ w'.cell? ⟨g, 0, none⟩ = some (.slice pA pn pc) ∧ w'.cell? ⟨W.heap.size, 0, none⟩ = some (.int .i64 x.f0) ∧ Below W.heap.size W w' ∧ W.heap.size < w'.heap.size)
  (first | exact ⟨s3, s4, s1, below_drew s0, s5⟩ | fail) (fail)
 all_goals
  rename_i hH
  have hb := hH.2.2.2.1
  go_wp2
  go_ret
  exact ⟨rfl, hb⟩
theorem at_any {w : World} {ok : Nat → Prop} {A : Option Addr} {n : Nat} {l : List S50} {S : Nat → Prop} {w' : World} (h : Kd.F k50 w (fun k => ¬ S k) A n l) (hk : Kept w w' S) : Kd.C k50 w' A n l := Kd.F_now (Kd.F_kept h hk (fun _ h => h))
theorem no_S {n k g : Nat} {fv : Value} (h1 : n ≤ k) (h3 : g < n) (h4 : ∀ k, fv.ownBlock = some k → k < n) : ¬ (k = g ∨ some k = fv.ownBlock) := fun hs => hs.elim (fun e => by omega) (fun e => by have := h4 k e.symm; omega)
set_option maxHeartbeats 1000000 in
set_option maxRecDepth 100000 in
theorem apply_ok (k g base : Nat) (pA : Option Addr) (pc : Nat) (P : List (List Int)) (wA : Option Addr) (wc : Nat) (was : List S50) (cA : Option Addr) (cc : Nat) (c b : List S50) (fA : Option Addr) (fn fc : Nat) (F r : List Int) (W : World)
  (hg : W.heap[g]? = some (.cells #[.slice pA P.length pc, .slice wA was.length wc, .slice fA fn fc] 118 (0, 0))) (hbg : base ≤ g)
  (hF : Kd.R (Kd.int .u64) 38 W base (fun k => k ≠ g) (.slice fA fn fc) F)
  (hP : Kd.F (Kd.slice 38 (Kd.int .u64)) W (fun k => ¬ (k = g ∨ some k = (Value.slice fA fn fc).ownBlock)) pA P.length P) (hpc : P.length ≤ pc)
  (hw : Kd.F k50 W (fun k => ¬ (k = g ∨ some k = (Value.slice fA fn fc).ownBlock)) wA was.length was) (hwc : was.length ≤ wc)
  (hc : Kd.F k50 W (fun k => ¬ (k = g ∨ some k = (Value.slice fA fn fc).ownBlock)) cA c.length c) (hcc : c.length ≤ cc)
  (hR : batch_Right.f k c = some true) (hp : c.any (fun x => decide (x.f0 ≥ (P.length : Int))) = false) (ha : bag_Apply.f k was c = some (b, 0)) (ht : turn_l0 k P was b c F 0 = some r) :
  Calls Try.prog 66 #[.pointer (some ⟨g, 0, none⟩), .slice cA c.length cc] W fun e w' => e = .returned (.int .i64 0) ∧ ∃ bA bc fv', w'.heap[g]? = some (.cells #[.slice pA P.length pc, .slice bA b.length bc, fv'] 118 (0, 0)) ∧ Kd.R (Kd.int .u64) 38 w' base (fun k => k ≠ g) fv' r ∧ Kd.C k50 w' bA b.length b ∧ b.length ≤ bc ∧ Kept W w' (fun k => k = g ∨ some k = (Value.slice fA fn fc).ownBlock) ∧ Below base W w' := by
 have hfl := Kd.R_lt hF
 have HS0 := Aside0.mk (St.mk hg hF (Kept.refl W _) (Below.refl base W))
 have HS1 := Aside0.mk (HS0.out.below hbg (below_alloc (Below.refl _ _) (.cells #[.pointer (some ⟨g, 0, none⟩)] 96)))
 have HN1 : Aside0 ((W.alloc (.cells #[.pointer (some ⟨g, 0, none⟩)] 96)).cell? ⟨W.heap.size, 0, none⟩ = some (.pointer (some ⟨g, 0, none⟩)) ∧ W.heap.size < (W.alloc (.cells #[.pointer (some ⟨g, 0, none⟩)] 96)).heap.size) := ⟨by simp [go_sem], by simp⟩
 have HP := Aside0.mk hP
 have HW := Aside0.mk hw
 have HCc := Aside0.mk hc
 have HRR := Aside0.mk hR
 have HPP := Aside0.mk hp
 have HA := Aside0.mk ha
 have HT := Aside0.mk ht
 have HFL := Aside0.mk hfl
 clear hP hw hc hF hR hp ha ht hfl hg
 go_enter Try.func66, Try.ntmps66
 go_wp2_with (first
  | (go_at_call 20; (with_reducible refine (batch_Right.calls k cA cc c true _ ?_ hcc HRR.out).mono ?_); (exact at_any (ok := fun _ => True) HCc.out HS1.out.kept); rintro e w2 ⟨rfl, hb⟩; have HS2 := Aside0.mk (HS1.out.below hbg hb); have HN2 := Aside0.mk (show _ ∧ _ from ⟨(hb.cell (p := ⟨W.heap.size, 0, none⟩) HN1.out.2).trans HN1.out.1, Nat.lt_of_lt_of_le HN1.out.2 hb.size⟩); have hn2 := HN2.out.1; clear hb)
  | (go_at_call 59; refine (containsFunc_calls 84 #[.pointer (some ⟨W.heap.size, 0, none⟩)] (fun x => decide (x.f0 ≥ (P.length : Int))) (fun args w => enters_ Try.func84 (by kernel_rfl) rfl args w) cA cc c _ (at_any (ok := fun _ => True) HCc.out HS2.out.kept) (fun W' hW' x hx => port_calls x g W.heap.size pA P.length pc W' ((hW'.cell (p := ⟨W.heap.size, 0, none⟩) HN2.out.2).trans HN2.out.1) (((HS2.out.below hbg hW').cell).1))).mono ?_; rintro e w3 ⟨he, hb⟩; rw [HPP.out] at he; subst he; have HS3 := Aside0.mk (HS2.out.below hbg hb); have HN3 := Aside0.mk (show _ ∧ _ from ⟨(hb.cell (p := ⟨W.heap.size, 0, none⟩) HN2.out.2).trans HN2.out.1, Nat.lt_of_lt_of_le HN2.out.2 hb.size⟩); have hn3 := HN3.out.1; obtain ⟨hx30, hx31, hx32, hz31, hz32⟩ := HS3.out.cell; clear hb)
  | (go_at_call 27; (with_reducible refine (bag_Apply.calls k wA wc was cA cc c b 0 _ ?_ hwc ?_ hcc HA.out).mono ?_); (exact at_any (ok := fun _ => True) HW.out HS3.out.kept); (exact at_any (ok := fun _ => True) HCc.out HS3.out.kept); rintro e w4 ⟨v4, rfl, ho, hb⟩; have HS4 := Aside0.mk (HS3.out.below hbg hb); have hn4 := (hb.cell (p := ⟨W.heap.size, 0, none⟩) HN3.out.2).trans HN3.out.1; obtain ⟨bA, bc, rfl⟩ := Kd.R_slice ho; have hbc := (Kd.R_reads' ho).2.1; have HO4 := Aside0.mk (Kd.F_mono (ok' := fun k => ¬ (k = g ∨ some k = (Value.slice fA fn fc).ownBlock)) (Kd.R_F (Kd.R_bound ho)) (fun k hk => no_S hk.2.1 (Nat.lt_of_lt_of_le (blk_lt HS0.out.hg) HS3.out.kept.1) (fun k hk => Nat.lt_of_lt_of_le (HFL.out k hk) HS3.out.kept.1))); clear ho hb)
  | (go_at_call 85; (with_reducible refine (turn_calls k g base pA pc P wA wc was bA bc b cA cc c fA fn fc F r _ HS4.out.hg hbg HS4.out.hF ?_ hpc ?_ hwc HO4.out hbc ?_ hcc HT.out).mono ?_); (exact Kd.F_kept HP.out HS4.out.kept (fun _ h => h)); (exact Kd.F_kept HW.out HS4.out.kept (fun _ h => h)); (exact Kd.F_kept HCc.out HS4.out.kept (fun _ h => h)); rintro e w5 ⟨rfl, fv5, hg5, hF5, hK5, hB5⟩; have H5 := Aside0.mk (show _ ∧ _ ∧ _ ∧ _ from ⟨hg5, hF5, hK5, hB5⟩); clear hg5 hF5 hK5 hB5))
 go_ret
 have HB4 := HS4.out.bel
 exact ⟨rfl, bA, bc, fv5, H5.out.1, H5.out.2.1, at_any (ok := fun _ => True) HO4.out H5.out.2.2.1, hbc, HS4.out.kept.then_ H5.out.2.2.1 (fun k hk => .inl hk), HB4.trans H5.out.2.2.2⟩
end Go.Proofs.Ytgeldmhgbnamcaa.P
end
section
namespace Go.Proofs.Ytgeldmhgbnamcaa.P
open Go.RowKit Go.Proofs.YtgeldmhgbnamcaaW.PrintWords Go.Proofs.YtgeldmhgbnamcaaW.PrintLast Go.Proofs.YtgeldmhgbnamcaaW.PrintMore
set_option linter.unusedVariables false
set_option linter.unusedSimpArgs false
def slices_CloneC.f (l0 : List S50) : Option (List S50) := if l0.length < 5864062014805 then some l0 else none
set_option maxHeartbeats 400000 in
theorem slices_CloneC.calls (A0 : Option Addr) (c0 : Nat) (l0 : List S50) (r : List S50) (w : World) (hr0 : Kd.C k50 w A0 l0.length l0) (hc0 : l0.length ≤ c0) (h : slices_CloneC.f l0 = some r) :
  Calls Try.prog 50 #[.slice A0 l0.length c0] w fun e w' => ∃ v0_ : Value, e = .returned v0_ ∧ Kd.R k50 50 w' w.heap.size (fun _ => True) v0_ r ∧ Below w.heap.size w w' := by
 unfold slices_CloneC.f at h
 by_cases hlim : l0.length < 5864062014805
 ·rw [if_pos hlim] at h
  obtain rfl := Option.some.inj h
  have LM := Aside0.mk hlim
  clear hlim h
  have HR := Aside0.mk hr0
  clear hr0 hc0
  cases A0 with
  | none =>
   obtain rfl : l0 = [] := by
    have h1 := HR.out.2.2
    cases l0 with
    | nil => rfl
    | cons x xs =>
     obtain ⟨ad, h2, _⟩ := h1 (by simp)
     cases h2
   have hq := fun W : World => Go.Lib.run_eql_slice_nil_nil (P := Try.prog) W (t := 23) 0 c0 Try.underlying23
   go_enter Try.func50, Try.ntmps50
   go_wp2
   go_ret
   exact ⟨_, rfl, Kd.R_nil _ _ _ _ _, Below.refl _ _⟩
  | some ad =>
   have hq := fun W : World => Go.Lib.run_eql_slice_some_nil (P := Try.prog) W (t := 23) ad l0.length c0 Try.underlying23
   go_enter Try.func50, Try.ntmps50
   go_wp2_with (first | ((with_reducible refine gate_dst (N := 5) rfl ?_); refine Kd.R_lit k50 _ 50 ?hg (N := 5) ?hd (xs := ([] : List S50)) (inner := []) (ok := fun _ => True) (okp := fun _ => True) ?hr ?hp (fun _ hk => hk) trivial (Below.refl _ _) (Nat.le_refl _) (by simp) ?_; (case hd => rfl); (case hg => rfl); (case hr => first | (go_simp; done) | (go_simp; rfl)); (case hp => exact (Reps.none _ _)); intro v1 w1 ho1 hb1 hg_ hnew_; clear hg_ hnew_; have HB1 := Aside0.mk hb1; have HO1 := Aside0.mk ho1; clear hb1 ho1) | ((with_reducible refine gate_builtin (b := .append) (xs := #[.tmp 5, .tmp 6]) rfl ?_); at_builtin; refine Kd.R_append_rows k50 (w0 := w) w.heap.size rfl (.tmp 5) (.tmp 6) 23 50 (.agg #[(.int .i64 0), (.int .u64 0), (.int .i64 0)]) 24 rfl Try.underlying23 info50 rfl (by decide) (by omega) v1 [] l0 _ _ _ (fun _ => True) (fun _ => False) rfl rfl ?aO ?aR (fun _ _ h => h) (fun _ h => h.elim) ?aF ?aB ?aS ?aL ?_; (case aR => exact Kd.C_below HR.out HB1.out); (case aB => exact HB1.out); (case aF => exact (fun _ _ => trivial)); (case aO => exact HO1.out); (case aS => exact HB1.out.size); (case aL => have := LM.out; simp only [List.length_nil]; omega); intro v2 w2 ho hb hg hat; have HB2 := Aside0.mk hb; have HO2 := Aside0.mk ho; clear ho hb hg hat))
   go_ret
   exact ⟨_, rfl, by have := HO2.out; rwa [List.nil_append] at this, HB2.out⟩
 ·rw [if_neg hlim] at h
  cases h
def slices_CloneB.f (l0 : List S50) : Option (List S50) := if l0.length < 5864062014805 then some l0 else none
set_option maxHeartbeats 400000 in
theorem slices_CloneB.calls (A0 : Option Addr) (c0 : Nat) (l0 : List S50) (r : List S50) (w : World) (hr0 : Kd.C k50 w A0 l0.length l0) (hc0 : l0.length ≤ c0) (h : slices_CloneB.f l0 = some r) :
  Calls Try.prog 62 #[.slice A0 l0.length c0] w fun e w' => ∃ v0_ : Value, e = .returned v0_ ∧ Kd.R k50 50 w' w.heap.size (fun _ => True) v0_ r ∧ Below w.heap.size w w' := by
 unfold slices_CloneB.f at h
 by_cases hlim : l0.length < 5864062014805
 ·rw [if_pos hlim] at h
  obtain rfl := Option.some.inj h
  have LM := Aside0.mk hlim
  clear hlim h
  have HR := Aside0.mk hr0
  clear hr0 hc0
  cases A0 with
  | none =>
   obtain rfl : l0 = [] := by
    have h1 := HR.out.2.2
    cases l0 with
    | nil => rfl
    | cons x xs =>
     obtain ⟨ad, h2, _⟩ := h1 (by simp)
     cases h2
   have hq := fun W : World => Go.Lib.run_eql_slice_nil_nil (P := Try.prog) W (t := 25) 0 c0 Try.underlying25
   go_enter Try.func62, Try.ntmps62
   go_wp2
   go_ret
   exact ⟨_, rfl, Kd.R_nil _ _ _ _ _, Below.refl _ _⟩
  | some ad =>
   have hq := fun W : World => Go.Lib.run_eql_slice_some_nil (P := Try.prog) W (t := 25) ad l0.length c0 Try.underlying25
   go_enter Try.func62, Try.ntmps62
   go_wp2_with (first | ((with_reducible refine gate_dst (N := 5) rfl ?_); refine Kd.R_lit k50 _ 50 ?hg (N := 5) ?hd (xs := ([] : List S50)) (inner := []) (ok := fun _ => True) (okp := fun _ => True) ?hr ?hp (fun _ hk => hk) trivial (Below.refl _ _) (Nat.le_refl _) (by simp) ?_; (case hd => rfl); (case hg => rfl); (case hr => first | (go_simp; done) | (go_simp; rfl)); (case hp => exact (Reps.none _ _)); intro v1 w1 ho1 hb1 hg_ hnew_; clear hg_ hnew_; have HB1 := Aside0.mk hb1; have HO1 := Aside0.mk ho1; clear hb1 ho1) | ((with_reducible refine gate_builtin (b := .append) (xs := #[.tmp 5, .tmp 6]) rfl ?_); at_builtin; refine Kd.R_append_rows k50 (w0 := w) w.heap.size rfl (.tmp 5) (.tmp 6) 25 50 (.agg #[(.int .i64 0), (.int .u64 0), (.int .i64 0)]) 24 rfl Try.underlying25 info50 rfl (by decide) (by omega) v1 [] l0 _ _ _ (fun _ => True) (fun _ => False) rfl rfl ?aO ?aR (fun _ _ h => h) (fun _ h => h.elim) ?aF ?aB ?aS ?aL ?_; (case aR => exact Kd.C_below HR.out HB1.out); (case aB => exact HB1.out); (case aF => exact (fun _ _ => trivial)); (case aO => exact HO1.out); (case aS => exact HB1.out.size); (case aL => have := LM.out; simp only [List.length_nil]; omega); intro v2 w2 ho hb hg hat; have HB2 := Aside0.mk hb; have HO2 := Aside0.mk ho; clear ho hb hg hat))
   go_ret
   exact ⟨_, rfl, by have := HO2.out; rwa [List.nil_append] at this, HB2.out⟩
 ·rw [if_neg hlim] at h
  cases h
def slices_CloneU.f (l0 : List Int) : Option (List Int) := if l0.length < 17592186044416 then some l0 else none
set_option maxHeartbeats 400000 in
theorem slices_CloneU.calls (A0 : Option Addr) (c0 : Nat) (l0 : List Int) (r : List Int) (w : World) (hr0 : Kd.C (Kd.int .u64) w A0 l0.length l0) (hc0 : l0.length ≤ c0) (h : slices_CloneU.f l0 = some r) :
  Calls Try.prog 86 #[.slice A0 l0.length c0] w fun e w' => ∃ v0_ : Value, e = .returned v0_ ∧ Kd.R (Kd.int .u64) 38 w' w.heap.size (fun _ => True) v0_ r ∧ Below w.heap.size w w' := by
 unfold slices_CloneU.f at h
 by_cases hlim : l0.length < 17592186044416
 ·rw [if_pos hlim] at h
  obtain rfl := Option.some.inj h
  have LM := Aside0.mk hlim
  clear hlim h
  have HR := Aside0.mk hr0
  clear hr0 hc0
  cases A0 with
  | none =>
   obtain rfl : l0 = [] := by
    have h1 := HR.out.2.2
    cases l0 with
    | nil => rfl
    | cons x xs =>
     obtain ⟨ad, h2, _⟩ := h1 (by simp)
     cases h2
   have hq := fun W : World => Go.Lib.run_eql_slice_nil_nil (P := Try.prog) W (t := 67) 0 c0 Try.underlying67
   go_enter Try.func86, Try.ntmps86
   go_wp2
   go_ret
   exact ⟨_, rfl, Kd.R_nil _ _ _ _ _, Below.refl _ _⟩
  | some ad =>
   have hq := fun W : World => Go.Lib.run_eql_slice_some_nil (P := Try.prog) W (t := 67) ad l0.length c0 Try.underlying67
   go_enter Try.func86, Try.ntmps86
   go_wp2_with (first | ((with_reducible refine gate_dst (N := 5) rfl ?_); refine Kd.R_lit (Kd.int .u64) _ 38 ?hg (N := 5) ?hd (xs := ([] : List Int)) (inner := []) (ok := fun _ => True) (okp := fun _ => True) ?hr ?hp (fun _ hk => hk) trivial (Below.refl _ _) (Nat.le_refl _) (by simp) ?_; (case hd => rfl); (case hg => rfl); (case hr => first | (go_simp; done) | (go_simp; rfl)); (case hp => exact (Reps.none _ _)); intro v1 w1 ho1 hb1 hg_ hnew_; clear hg_ hnew_; have HB1 := Aside0.mk hb1; have HO1 := Aside0.mk ho1; clear hb1 ho1) | ((with_reducible refine gate_builtin (b := .append) (xs := #[.tmp 5, .tmp 6]) rfl ?_); at_builtin; refine Kd.R_append_rows (Kd.int .u64) (w0 := w) w.heap.size rfl (.tmp 5) (.tmp 6) 67 38 (.int .u64 0) 8 rfl Try.underlying67 info38 rfl (by decide) (by omega) v1 [] l0 _ _ _ (fun _ => True) (fun _ => False) rfl rfl ?aO ?aR (fun _ _ h => h) (fun _ h => h.elim) ?aF ?aB ?aS ?aL ?_; (case aR => exact Kd.C_below HR.out HB1.out); (case aB => exact HB1.out); (case aF => exact (fun _ _ => trivial)); (case aO => exact HO1.out); (case aS => exact HB1.out.size); (case aL => have := LM.out; simp only [List.length_nil]; omega); intro v2 w2 ho hb hg hat; have HB2 := Aside0.mk hb; have HO2 := Aside0.mk ho; clear ho hb hg hat))
   go_ret
   exact ⟨_, rfl, by have := HO2.out; rwa [List.nil_append] at this, HB2.out⟩
 ·rw [if_neg hlim] at h
  cases h
end Go.Proofs.Ytgeldmhgbnamcaa.P
end
section
/- front.Reach, by hand: Apply at a port that isn't there; New, Fronts, Bag. -/
namespace Go.Proofs.Ytgeldmhgbnamcaa.P
open Go.RowKit Go.Proofs.YtgeldmhgbnamcaaW.PrintWords Go.Proofs.YtgeldmhgbnamcaaW.PrintLast Go.Proofs.YtgeldmhgbnamcaaW.PrintMore
set_option linter.unusedVariables false
set_option linter.unusedSimpArgs false
set_option maxHeartbeats 1000000 in
set_option maxRecDepth 100000 in
theorem apply_port (k g pn pc : Nat) (pA : Option Addr) (cA : Option Addr) (cc : Nat) (c : List S50) (W : World)
  (hg : W.cell? ⟨g, 0, none⟩ = some (.slice pA pn pc)) (hc : Kd.C k50 W cA c.length c) (hcc : c.length ≤ cc)
  (hR : batch_Right.f k c = some true) (hp : c.any (fun x => decide (x.f0 ≥ (pn : Int))) = true) :
  Calls Try.prog 66 #[.pointer (some ⟨g, 0, none⟩), .slice cA c.length cc] W fun e w' => e = .returned (.int .i64 2) ∧ Below W.heap.size W w' := by
 have hgl := World.block_lt_of_cell? W _ hg
 have HB1 := Aside0.mk (below_alloc (Below.refl W.heap.size W) (.cells #[.pointer (some ⟨g, 0, none⟩)] 96))
 have HN1 : Aside0 ((W.alloc (.cells #[.pointer (some ⟨g, 0, none⟩)] 96)).cell? ⟨W.heap.size, 0, none⟩ = some (.pointer (some ⟨g, 0, none⟩)) ∧ W.heap.size < (W.alloc (.cells #[.pointer (some ⟨g, 0, none⟩)] 96)).heap.size) := ⟨by simp [go_sem], by simp⟩
 have HG := Aside0.mk hg
 have HGL := Aside0.mk hgl
 have HCc := Aside0.mk hc
 have HRR := Aside0.mk hR
 have HPP := Aside0.mk hp
 clear hc hR hp hg hgl
 go_enter Try.func66, Try.ntmps66
 go_wp2_with (first
  | (go_at_call 20; (with_reducible refine (batch_Right.calls k cA cc c true _ ?_ hcc HRR.out).mono ?_); (exact Kd.C_below HCc.out HB1.out); rintro e w2 ⟨rfl, hb⟩; have HB2 := Aside0.mk (below_step HB1.out hb); have HN2 := Aside0.mk (show _ ∧ _ from ⟨(hb.cell (p := ⟨W.heap.size, 0, none⟩) HN1.out.2).trans HN1.out.1, Nat.lt_of_lt_of_le HN1.out.2 hb.size⟩); have hn2 := HN2.out.1; clear hb)
  | (go_at_call 59; refine (containsFunc_calls 84 #[.pointer (some ⟨W.heap.size, 0, none⟩)] (fun x => decide (x.f0 ≥ (pn : Int))) (fun args w => enters_ Try.func84 (by kernel_rfl) rfl args w) cA cc c _ (Kd.C_below HCc.out HB2.out) (fun W' hW' x hx => port_calls x g W.heap.size pA pn pc W' ((hW'.cell (p := ⟨W.heap.size, 0, none⟩) HN2.out.2).trans HN2.out.1) (((below_step HB2.out hW').cell (p := ⟨g, 0, none⟩) HGL.out).trans HG.out))).mono ?_; rintro e w3 ⟨he, hb⟩; rw [HPP.out] at he; subst he; have HB3 := Aside0.mk (below_step HB2.out hb); clear hb))
 go_ret
 exact ⟨rfl, HB3.out⟩
set_option maxHeartbeats 1000000 in
set_option maxRecDepth 100000 in
theorem fronts_calls (g : Nat) (fA : Option Addr) (fc : Nat) (F : List Int) (W : World) (hg : W.cell? ⟨g, 2, none⟩ = some (.slice fA F.length fc)) (hF : Kd.C (Kd.int .u64) W fA F.length F) (hfc : F.length ≤ fc) (hl : slices_CloneU.f F = some F) :
  Calls Try.prog 67 #[.pointer (some ⟨g, 0, none⟩)] W fun e w' => ∃ v, e = .returned v ∧ Kd.R (Kd.int .u64) 38 w' W.heap.size (fun _ => True) v F ∧ Below W.heap.size W w' := by
 have HF := Aside0.mk hF
 have HL := Aside0.mk hl
 clear hF hl
 go_enter Try.func67, Try.ntmps67
 go_wp2_with (first | (go_at_call 86; (with_reducible refine (slices_CloneU.calls fA fc F F _ HF.out hfc HL.out).mono ?_); rintro e w2 ⟨v, rfl, ho, hb⟩; have HO := Aside0.mk ho; have HB := Aside0.mk hb; clear ho hb))
 go_ret
 exact ⟨_, rfl, HO.out, HB.out⟩
set_option maxHeartbeats 1000000 in
set_option maxRecDepth 100000 in
theorem bag_calls (g : Nat) (bA : Option Addr) (bc : Nat) (b : List S50) (W : World) (hg : W.cell? ⟨g, 1, none⟩ = some (.slice bA b.length bc)) (hb : Kd.C k50 W bA b.length b) (hbc : b.length ≤ bc) (hl : slices_CloneB.f b = some b) :
  Calls Try.prog 68 #[.pointer (some ⟨g, 0, none⟩)] W fun e w' => ∃ v, e = .returned v ∧ Kd.R k50 50 w' W.heap.size (fun _ => True) v b ∧ Below W.heap.size W w' := by
 have HF := Aside0.mk hb
 have HL := Aside0.mk hl
 clear hb hl
 go_enter Try.func68, Try.ntmps68
 go_wp2_with (first | (go_at_call 62; (with_reducible refine (slices_CloneB.calls bA bc b b _ HF.out hbc HL.out).mono ?_); rintro e w2 ⟨v, rfl, ho, hb⟩; have HO := Aside0.mk ho; have HB := Aside0.mk hb; clear ho hb))
 go_ret
 exact ⟨_, rfl, HO.out, HB.out⟩
/-- A Reach at g. -/
structure RS (w : World) (base g : Nat) (pA : Option Addr) (pc : Nat) (P : List (List Int)) (wA : Option Addr) (wc : Nat) (was : List S50) (fA : Option Addr) (fn fc : Nat) (F : List Int) : Prop where
 hg : w.heap[g]? = some (.cells #[.slice pA P.length pc, .slice wA was.length wc, .slice fA fn fc] 118 (0, 0))
 hbg : base ≤ g
 hF : Kd.R (Kd.int .u64) 38 w base (fun k => k ≠ g) (.slice fA fn fc) F
 hP : Kd.F (Kd.slice 38 (Kd.int .u64)) w (fun k => ¬ (k = g ∨ some k = (Value.slice fA fn fc).ownBlock)) pA P.length P
 hpc : P.length ≤ pc
 hw : Kd.F k50 w (fun k => ¬ (k = g ∨ some k = (Value.slice fA fn fc).ownBlock)) wA was.length was
 hwc : was.length ≤ wc
theorem RS.below {w w' : World} {base g : Nat} {pA : Option Addr} {pc : Nat} {P : List (List Int)} {wA : Option Addr} {wc : Nat} {was : List S50} {fA : Option Addr} {fn fc : Nat} {F : List Int} (h : RS w base g pA pc P wA wc was fA fn fc F) (hb : Below w.heap.size w w') : RS w' base g pA pc P wA wc was fA fn fc F :=
 ⟨blk_below h.hg hb, h.hbg, Kd.R_below h.hF hb, Kd.F_below h.hP hb, h.hpc, Kd.F_below h.hw hb, h.hwc⟩
set_option maxHeartbeats 1000000 in
set_option maxRecDepth 100000 in
theorem new_calls (k : Nat) (a0 : Int) (A1 : Option Addr) (c1 : Nat) (l1 : List S95) (A2 : Option Addr) (c2 : Nat) (l2 : List Int) (P : List (List Int)) (F : List Int) (W : World) (hr1 : Kd.C k95 W A1 l1.length l1) (hc1 : l1.length ≤ c1) (hr2 : Kd.C (Kd.int .i64) W A2 l2.length l2) (hc2 : l2.length ≤ c2)
  (h1 : graph_Check.f k a0 l1 l2 = some none) (h2 : graph_Paths.f k a0 l1 l2 = some P) (h3 : front_Of.f k P [] = some F) :
  Calls Try.prog 65 #[.agg #[.int .i64 a0, .slice A1 l1.length c1, .slice A2 l2.length c2]] W fun e w' => ∃ g pA pc fA fn fc, e = .returned (.tuple #[.pointer (some ⟨g, 0, none⟩), .nilIface]) ∧ RS w' W.heap.size g pA pc P none 0 [] fA fn fc F ∧ Below W.heap.size W w' := by
 have HB1 := Aside0.mk (below_alloc (Below.refl W.heap.size W) (.cells #[.int .i64 a0, .slice A1 l1.length c1, .slice A2 l2.length c2] 64))
 have HN1 : Aside0 ((W.alloc (.cells #[.int .i64 a0, .slice A1 l1.length c1, .slice A2 l2.length c2] 64)).heap[W.heap.size]? = some (.cells #[.int .i64 a0, .slice A1 l1.length c1, .slice A2 l2.length c2] 64 (0, 0))) := ⟨blk_new W _⟩
 have HR1 := Aside0.mk hr1
 have HR2 := Aside0.mk hr2
 have H1 := Aside0.mk h1
 have H2 := Aside0.mk h2
 have H3 := Aside0.mk h3
 clear hr1 hr2 h1 h2 h3
 go_enter Try.func65, Try.ntmps65
 go_wp2_with (first
  | (go_at_call 63; (with_reducible refine (graph_Check.calls k a0 A1 c1 l1 A2 c2 l2 none _ ?_ hc1 ?_ hc2 H1.out).mono ?_); (exact Kd.C_below HR1.out HB1.out); (exact Kd.C_below HR2.out HB1.out); rintro e w2 ⟨he, hb⟩; rw [errW_none] at he; subst he; have HB2 := Aside0.mk (below_step HB1.out hb); have HN2 := Aside0.mk (blk_below HN1.out hb); have hn0 := blk_cell HN2.out 0; have hn1 := blk_cell HN2.out 1; have hn2 := blk_cell HN2.out 2; simp only [List.getElem?_toArray, List.getElem?_cons_zero, List.getElem?_cons_succ] at hn0 hn1 hn2; clear hb)
  | (go_at_call 39; (with_reducible refine (graph_Paths.calls k a0 A1 c1 l1 A2 c2 l2 P _ ?_ hc1 ?_ hc2 H2.out).mono ?_); (exact Kd.C_below HR1.out HB2.out); (exact Kd.C_below HR2.out HB2.out); rintro e w3 ⟨v3, rfl, hs, hb⟩; obtain ⟨pA, pc, rfl⟩ := Kd.S_slice hs; have HS := Aside0.mk hs; have HB3 := Aside0.mk (below_step HB2.out hb); clear hs hb)
  | (go_at_call 43; (refine (front_Of.calls k pA pc P none 0 [] F _ ?_ ?_ ?_ ?_ H3.out).mono ?_); (exact (Kd.S_reads' HS.out).2.2); (exact (Kd.S_reads' HS.out).2.1); (exact Kd.C_nil _ _); (exact Nat.le_refl _); rintro e w5 ⟨v5, rfl, ho, hb⟩; obtain ⟨fA, fc, rfl⟩ := Kd.R_slice ho; have HO := Aside0.mk ho; have HB5 := Aside0.mk (show _ ∧ _ from ⟨below_step HB3.out hb, hb⟩); clear ho hb))
 go_ret2
 refine ⟨w5.heap.size, pA, pc, fA, F.length, fc, rfl, ⟨blk_new _ _, HB5.out.1.size, ?_, ?_, (Kd.S_reads' HS.out).2.1, Kd.F_nil _ _ _, Nat.le_refl _⟩, below_alloc HB5.out.1 _⟩
 ·exact Kd.R_alloc (Kd.R_lower (Kd.R_mono (Kd.R_bound HO.out) (fun k hk => by have h1 := hk.2.2.1; show k ≠ w5.heap.size; omega)) HB3.out.size) _
 ·refine Kd.F_alloc (Kd.F_mono (Kd.F_below (Kd.F_bound (Kd.S_F HS.out)) HB5.out.2) (fun k hk hs => ?_)) _
  have h1 := hk.2
  have h2 := HB5.out.2.size
  rcases hs with hs | hs
  ·omega
  ·have h3 := Kd.R_base HO.out k hs.symm
   omega
end Go.Proofs.Ytgeldmhgbnamcaa.P
end
section
-- Printed by the session's own turn of the print (wip/tools/print2.sh): some callees are proved by hand.
namespace Go.Proofs.Ytgeldmhgbnamcaa.P
open Go.RowKit Go.Proofs.YtgeldmhgbnamcaaW.PrintWords Go.Proofs.YtgeldmhgbnamcaaW.PrintLast Go.Proofs.YtgeldmhgbnamcaaW.PrintMore
attribute [local go_sem] max2_int min2_int max_two min_two max_three min_three max_four min_four   -- for this text's walks alone
set_option linter.unusedVariables false
set_option linter.unusedSimpArgs false
/-! ### marchlandref06_Same: function 42 -/
def marchlandref06_Same.l0 : Nat → List Int → List Int → Int → Option (Bool)
 | 0, _, _, _ => none
 | k + 1, x0, x1, x5 => if x5 < (x0.length : Int) then (if 0 ≤ x5 then (if x5 < (x1.length : Int) then (if (rd x0 x5) = (rd x1 x5) then (marchlandref06_Same.l0 k x0 x1 (wrap64 (x5 + 1))) else (some false)) else (none)) else (none)) else (some true)
def marchlandref06_Same.f (k : Nat) (l0 : List Int) (l1 : List Int) : Option (Bool) := if (l0.length : Int) = (l1.length : Int) then (marchlandref06_Same.l0 k l0 l1 0) else (some false)
set_option maxHeartbeats 8000000 in
set_option maxRecDepth 100000 in
theorem marchlandref06_Same.calls (k : Nat) (A0 : Option Addr) (c0 : Nat) (l0 : List Int) (A1 : Option Addr) (c1 : Nat) (l1 : List Int) (r : Bool) (w : World) (hr0 : Kd.C (Kd.int .u64) w A0 l0.length l0) (hc0 : l0.length ≤ c0) (hr1 : Kd.C (Kd.int .u64) w A1 l1.length l1) (hc1 : l1.length ≤ c1) (h : marchlandref06_Same.f k l0 l1 = some r) :
  Calls Try.prog 42 #[.slice A0 l0.length c0, .slice A1 l1.length c1] w fun e w' => e = .returned (.bool r) ∧ Drawn0 w w' := by
 have HR0 := Aside0.mk hr0
 have HC0 := Aside0.mk hc0
 clear hr0 hc0
 have HR1 := Aside0.mk hr1
 have HC1 := Aside0.mk hc1
 clear hr1 hc1
 have H : (if (l0.length : Int) = (l1.length : Int) then (marchlandref06_Same.l0 k l0 l1 0) else (some false)) = some r := h
 clear h
 by_cases c3 : (l0.length : Int) = (l1.length : Int)
 ·rw [if_pos c3] at H
  have c3b0 : ((l0.length : Int) == (l1.length : Int)) = true := beq_iff_eq.mpr c3
  have c3b1 : ((l0.length : Int) != (l1.length : Int)) = false := bne_eq_false_iff_eq.mpr c3
  have c3b2 : (l0.length == l1.length) = true := by first | simpa using c3 | (simp at c3 ⊢; omega)
  clear c3
  have H' := Aside0.mk H
  clear H
  go_enter Try.func42, Try.ntmps42
  go_wp2
  repeat (go_quiet (fail); try go_wp2)
  go_loopg [5] k (fun kq v5 w' => ∃ (x5_1 : Int), v5 = .int .i64 x5_1 ∧ Aside0 (marchlandref06_Same.l0 kq l0 l1 x5_1 = some r) ∧ Aside0 (kq ≤ k) ∧ Drawn0 w w')
  case atStart => exact ⟨(0), (by first | rfl | (simp; done) | (simp [*]; done)), H', ⟨Nat.le_refl _⟩, by repeat (first | exact Drawn0.refl _ | apply Drawn0.step)⟩
  case round =>
   clear H'
   (try clear c1); (try clear p2); (try clear c3); (try clear c3b0); (try clear c3b1); (try clear c3b2)
   obtain ⟨x5_1, rfl, HA, HK1, ⟨m1, rfl⟩⟩ := hrel
   cases gk with
   | zero => exact absurd HA.out (by simp [marchlandref06_Same.l0])
   | succ k1 =>
    have H := HA.out
    clear HA
    simp only [marchlandref06_Same.l0] at H
    by_cases c4 : x5_1 < (l0.length : Int)
    ·rw [if_pos c4] at H
     have c4b0 : decide (x5_1 < (l0.length : Int)) = true := decide_eq_true c4
     clear c4
     by_cases c5 : 0 ≤ x5_1
     ·rw [if_pos c5] at H
      have c5b0 : decide (0 ≤ x5_1) = true := decide_eq_true c5
      clear c5
      by_cases c6 : x5_1 < (l1.length : Int)
      ·rw [if_pos c6] at H
       have c6b0 : decide (x5_1 < (l1.length : Int)) = true := decide_eq_true c6
       clear c6
       by_cases c7 : (rd l0 x5_1) = (rd l1 x5_1)
       ·rw [if_pos c7] at H
        have c7b0 : ((rd l0 x5_1) == (rd l1 x5_1)) = true := beq_iff_eq.mpr c7
        have c7b1 : ((rd l0 x5_1) != (rd l1 x5_1)) = false := bne_eq_false_iff_eq.mpr c7
        clear c7
        have H' := Aside0.mk H
        clear H
        have p748 : 0 ≤ (x5_1 : Int) := of_decide_eq_true (by assumption)
        have q748 : x5_1 < (l0.length : Int) := of_decide_eq_true (by assumption)
        obtain ⟨ad748, e748, hx748_0⟩ := Kd.at_int HR0.out x5_1 p748 q748
        cases e748
        replace p748 := eq_true p748
        replace q748 := eq_true q748
        have p749 : 0 ≤ (x5_1 : Int) := of_decide_eq_true (by assumption)
        have q749 : x5_1 < (l1.length : Int) := of_decide_eq_true (by assumption)
        obtain ⟨ad749, e749, hx749_0⟩ := Kd.at_int HR1.out x5_1 p749 q749
        cases e749
        replace p749 := eq_true p749
        replace q749 := eq_true q749
        go_wp2
        repeat (go_quiet (fail); try go_wp2)
        go_roundg k1
        case measure => have := HK1.out; omega
        case rel => exact ⟨(wrap64 (x5_1 + 1)), (by first | rfl | (simp; done) | (simp [*]; done)), H', ⟨by have := HK1.out; omega⟩, by repeat (first | exact Drawn0.refl _ | apply Drawn0.step)⟩
       ·rw [if_neg c7] at H
        have c7b0 : ((rd l0 x5_1) == (rd l1 x5_1)) = false := beq_eq_false_iff_ne.mpr c7
        have c7b1 : ((rd l0 x5_1) != (rd l1 x5_1)) = true := bne_iff_ne.mpr c7
        obtain rfl := Option.some.inj H
        have p748 : 0 ≤ (x5_1 : Int) := of_decide_eq_true (by assumption)
        have q748 : x5_1 < (l0.length : Int) := of_decide_eq_true (by assumption)
        obtain ⟨ad748, e748, hx748_0⟩ := Kd.at_int HR0.out x5_1 p748 q748
        cases e748
        replace p748 := eq_true p748
        replace q748 := eq_true q748
        have p749 : 0 ≤ (x5_1 : Int) := of_decide_eq_true (by assumption)
        have q749 : x5_1 < (l1.length : Int) := of_decide_eq_true (by assumption)
        obtain ⟨ad749, e749, hx749_0⟩ := Kd.at_int HR1.out x5_1 p749 q749
        cases e749
        replace p749 := eq_true p749
        replace q749 := eq_true q749
        go_wp2
        repeat (go_quiet (fail); try go_wp2)
        go_ret
        exact ⟨by first | rfl | (simp; done) | (simp [*]; done), by repeat (first | exact Drawn0.refl _ | apply Drawn0.step)⟩
      ·rw [if_neg c6] at H
       exact absurd H (by simp)
     ·rw [if_neg c5] at H
      exact absurd H (by simp)
    ·rw [if_neg c4] at H
     have c4b0 : decide (x5_1 < (l0.length : Int)) = false := decide_eq_false c4
     clear c4
     obtain rfl := Option.some.inj H
     go_wp2
     repeat (go_quiet (fail); try go_wp2)
     go_ret
     exact ⟨by first | rfl | (simp; done) | (simp [*]; done), by repeat (first | exact Drawn0.refl _ | apply Drawn0.step)⟩
 ·rw [if_neg c3] at H
  have c3b0 : ((l0.length : Int) == (l1.length : Int)) = false := beq_eq_false_iff_ne.mpr c3
  have c3b1 : ((l0.length : Int) != (l1.length : Int)) = true := bne_iff_ne.mpr c3
  have c3b2 : (l0.length == l1.length) = false := by first | simpa using c3 | (simp at c3 ⊢; omega)
  obtain rfl := Option.some.inj H
  go_enter Try.func42, Try.ntmps42
  go_wp2
  repeat (go_quiet (fail); try go_wp2)
  go_ret
  exact ⟨by first | rfl | (simp; done) | (simp [*]; done), by repeat (first | exact Drawn0.refl _ | apply Drawn0.step)⟩
end Go.Proofs.Ytgeldmhgbnamcaa.P
end
section
/- law06.told, by hand: a Reach of two ports is made, a time comes in, the fronts are looked at, what is there is counted, a port that isn't there is refused. -/
namespace Go.Proofs.Ytgeldmhgbnamcaa.P
open Go.RowKit Go.Proofs.YtgeldmhgbnamcaaW.PrintWords Go.Proofs.YtgeldmhgbnamcaaW.PrintLast Go.Proofs.YtgeldmhgbnamcaaW.PrintMore
set_option linter.unusedVariables false
set_option linter.unusedSimpArgs false
def marchlandlaw06_told.f : Option Bool := some true
theorem t6_check : graph_Check.f 30 2 [⟨0, 1, 3⟩] [0] = some none := by kernel_rfl
theorem t6_paths : graph_Paths.f 30 2 [⟨0, 1, 3⟩] [0] = some [[0, 3], [18446744073709551615, 0]] := by kernel_rfl
theorem t6_of : front_Of.f 30 [[0, 3], [18446744073709551615, 0]] [] = some [18446744073709551615, 18446744073709551615] := by kernel_rfl
theorem t6_right : batch_Right.f 30 [⟨0, 5, 1⟩] = some true := by kernel_rfl
theorem t6_right2 : batch_Right.f 30 [⟨2, 0, 1⟩] = some true := by kernel_rfl
theorem t6_apply : bag_Apply.f 30 [] [⟨0, 5, 1⟩] = some ([⟨0, 5, 1⟩], 0) := by kernel_rfl
theorem t6_turn : turn_l0 30 [[0, 3], [18446744073709551615, 0]] [] [⟨0, 5, 1⟩] [⟨0, 5, 1⟩] [18446744073709551615, 18446744073709551615] 0 = some [5, 8] := by kernel_rfl
theorem t6_same : marchlandref06_Same.f 30 [5, 8] [5, 8] = some true := by kernel_rfl
theorem t6_cu : slices_CloneU.f [5, 8] = some [5, 8] := by rfl
theorem t6_cb : slices_CloneB.f [⟨0, 5, 1⟩] = some [⟨0, 5, 1⟩] := by rfl
set_option maxHeartbeats 1000000 in
set_option maxRecDepth 100000 in
theorem marchlandlaw06_told.calls (r : Bool) (w : World) (h : marchlandlaw06_told.f = some r) : Calls Try.prog 41 #[] w fun e w' => e = .returned (.bool r) ∧ Below w.heap.size w w' := by
 obtain rfl := Option.some.inj h
 clear h
 have HB := Aside0.mk (Below.refl w.heap.size w)
 obtain ⟨E, hE⟩ : ∃ E : List S95, E = [(⟨0, 1, 3⟩ : S95)] := ⟨_, rfl⟩
 obtain ⟨I, hI⟩ : ∃ I : List Int, I = [0] := ⟨_, rfl⟩
 obtain ⟨P, hP⟩ : ∃ P : List (List Int), P = [[0, 3], [18446744073709551615, 0]] := ⟨_, rfl⟩
 obtain ⟨F, hF⟩ : ∃ F : List Int, F = [18446744073709551615, 18446744073709551615] := ⟨_, rfl⟩
 obtain ⟨c, hc⟩ : ∃ c : List S50, c = [(⟨0, 5, 1⟩ : S50)] := ⟨_, rfl⟩
 obtain ⟨c2, hc2⟩ : ∃ c : List S50, c = [(⟨2, 0, 1⟩ : S50)] := ⟨_, rfl⟩
 obtain ⟨b, hb⟩ : ∃ c : List S50, c = [(⟨0, 5, 1⟩ : S50)] := ⟨_, rfl⟩
 obtain ⟨G, hG⟩ : ∃ F : List Int, F = [5, 8] := ⟨_, rfl⟩
 have T1 := Aside0.mk (show graph_Check.f 30 2 E I = some none by rw [hE, hI]; exact t6_check)
 have T2 := Aside0.mk (show graph_Paths.f 30 2 E I = some P by rw [hE, hI, hP]; exact t6_paths)
 have T3 := Aside0.mk (show front_Of.f 30 P [] = some F by rw [hP, hF]; exact t6_of)
 have T4 := Aside0.mk (show batch_Right.f 30 c = some true by rw [hc]; exact t6_right)
 have T5 := Aside0.mk (show c.any (fun x => decide (x.f0 ≥ (P.length : Int))) = false by rw [hc, hP]; rfl)
 have T6 := Aside0.mk (show bag_Apply.f 30 [] c = some (b, 0) by rw [hc, hb]; exact t6_apply)
 have T7 := Aside0.mk (show turn_l0 30 P [] b c F 0 = some G by rw [hP, hb, hc, hF, hG]; exact t6_turn)
 have T8 := Aside0.mk (show slices_CloneU.f G = some G by rw [hG]; exact t6_cu)
 have T9 := Aside0.mk (show marchlandref06_Same.f 30 G G = some true by rw [hG]; exact t6_same)
 have T10 := Aside0.mk (show slices_CloneB.f b = some b by rw [hb]; exact t6_cb)
 have T11 := Aside0.mk (show batch_Right.f 30 c2 = some true by rw [hc2]; exact t6_right2)
 have T12 := Aside0.mk (show c2.any (fun x => decide (x.f0 ≥ (P.length : Int))) = true by rw [hc2, hP]; rfl)
 have hb1 : ((b.length : Int) == 1) = true := by rw [hb]; rfl
 have HE := Aside0.mk hE
 have HI := Aside0.mk hI
 have HC := Aside0.mk hc
 have HC2 := Aside0.mk hc2
 have HG := Aside0.mk hG
 clear hE hI hP hF hc hc2 hb hG
 go_enter Try.func41, Try.ntmps41
 go_wp2_with (first
  | ((with_reducible refine gate_dst (N := 6) rfl ?_); refine Kd.R_lit k95 _ 95 ?hg (N := 6) ?hd (xs := ([(⟨0, 1, 3⟩ : S95)] : List S95)) (inner := [.int .i64 0, .int .i64 1, .int .u64 3]) (ok := fun _ => True) (okp := fun _ => True) ?hr ?hp (fun _ hk => hk) trivial (Below.refl _ _) (Nat.le_refl _) (by simp) ?_; (case hd => rfl); (case hg => rfl); (case hr => first | (go_simp; done) | (go_simp; rfl)); (case hp => exact (Reps.c3 (show Kd.M k95 _ _ _ (⟨0, 1, 3⟩ : S95) [.int .i64 0, .int .i64 1, .int .u64 3] from (k95_mkM _ _ _ (⟨0, 1, 3⟩ : S95) )) (Reps.none _ _))); intro v6 w6 ho hb hg_ hn_; clear hg_ hn_; rw [← HE.out] at ho; obtain ⟨A1, c1, rfl⟩ := Kd.R_slice ho; have HO1 := Aside0.mk ho; have n1_ := Aside0.mk (below_step (by repeat (first | (with_reducible first | exact HB.out | apply below_alloc | apply pw_below_drewN | apply below_drew1) | exact HB.out)) hb); clear HB; have HB := n1_; clear n1_ ho hb)
  | ((with_reducible refine gate_dst (N := 7) rfl ?_); refine Kd.R_lit (Kd.int .i64) _ 3 ?hg (N := 7) ?hd (xs := ([0] : List Int)) (inner := [.int .i64 0]) (ok := fun _ => True) (okp := fun _ => True) ?hr ?hp (fun _ hk => hk) trivial (Below.refl _ _) (Nat.le_refl _) (by simp) ?_; (case hd => rfl); (case hg => rfl); (case hr => first | (go_simp; done) | (go_simp; rfl)); (case hp => exact (Reps.one (show Kd.M (Kd.int .i64) _ _ _ 0 [.int .i64 0] from rfl) (Reps.none _ _))); intro v7 w7 ho hb hg_ hn_; clear hg_ hn_; rw [← HI.out] at ho; obtain ⟨A2, c2_, rfl⟩ := Kd.R_slice ho; have HO2 := Aside0.mk ho; have HO1b := Aside0.mk (Kd.R_below HO1.out hb); have n1_ := Aside0.mk (below_step (by repeat (first | (with_reducible first | exact HB.out | apply below_alloc | apply pw_below_drewN | apply below_drew1) | exact HB.out)) hb); clear HB; have HB := n1_; clear n1_ ho hb)
  | (go_at_call 65; (with_reducible refine (new_calls 30 2 A1 c1 E A2 c2_ I P F _ ?_ ?_ ?_ ?_ T1.out T2.out T3.out).mono ?_); (exact (Kd.R_reads' HO1b.out).2.2); (exact (Kd.R_reads' HO1b.out).2.1); (exact (Kd.R_reads' HO2.out).2.2); (exact (Kd.R_reads' HO2.out).2.1); rintro e w9 ⟨g, pA, pc, fA, fn, fc, rfl, hrs, hb⟩; have HRS := Aside0.mk hrs; have HW9 := Aside0.mk (HB.out.size); have n1_ := Aside0.mk (below_step (by repeat (first | (with_reducible first | exact HB.out | apply below_alloc | apply pw_below_drewN | apply below_drew1) | exact HB.out)) hb); clear HB; have HB := n1_; clear n1_ hrs hb)
  | ((with_reducible refine gate_dst (N := 21) rfl ?_); (try (refine gate_guard (by rfl) ?_; dsimp only)); refine Kd.R_lit k50 _ 50 ?hg (N := 21) ?hd (xs := ([(⟨0, 5, 1⟩ : S50)] : List S50)) (inner := [.int .i64 0, .int .u64 5, .int .i64 1]) (ok := fun _ => True) (okp := fun _ => True) ?hr ?hp (fun _ hk => hk) trivial (Below.refl _ _) (Nat.le_refl _) (by simp) ?_; (case hd => rfl); (case hg => rfl); (case hr => first | (go_simp; done) | (go_simp; rfl)); (case hp => exact (Reps.c3 (show Kd.M k50 _ _ _ (⟨0, 5, 1⟩ : S50) [.int .i64 0, .int .u64 5, .int .i64 1] from (k50_mkM _ _ _ (⟨0, 5, 1⟩ : S50) )) (Reps.none _ _))); intro v21 w21 ho hb hg_ hn_; clear hg_ hn_; rw [← HC.out] at ho; obtain ⟨cA, cc, rfl⟩ := Kd.R_slice ho; have HO3 := Aside0.mk ho; have HRS2 := Aside0.mk (HRS.out.below hb); have HFC := Aside0.mk (Kd.F_mono (ok' := fun k => ¬ (k = g ∨ some k = (Value.slice fA fn fc).ownBlock)) (Kd.R_F (Kd.R_bound ho)) (fun k hk => no_S hk.2.1 (blk_lt HRS.out.hg) (fun k hk => Kd.R_lt HRS.out.hF k hk))); have n1_ := Aside0.mk (below_step (by repeat (first | (with_reducible first | exact HB.out | apply below_alloc | apply pw_below_drewN | apply below_drew1) | exact HB.out)) hb); clear HB; have HB := n1_; clear n1_ ho hb)
  | (go_at_call 66; (with_reducible refine (apply_ok 30 g _ pA pc P none 0 [] cA cc c b fA fn fc F G _ HRS2.out.hg HRS2.out.hbg HRS2.out.hF HRS2.out.hP HRS2.out.hpc HRS2.out.hw HRS2.out.hwc HFC.out ?_ T4.out T5.out T6.out T7.out).mono ?_); (exact (Kd.R_reads' HO3.out).2.1); rintro e w22 ⟨rfl, bA, bc, fv, hg1, hf1, hc1, hbc, _, hb⟩; obtain ⟨fA2, fc2, rfl⟩ := Kd.R_slice hf1; have HX := Aside0.mk (show _ ∧ _ ∧ _ ∧ _ from ⟨hg1, hf1, hc1, hbc⟩); have n1_ := Aside0.mk (below_weaken HB.out HW9.out hb); clear HB; have HB := n1_; clear n1_ hg1 hf1 hc1 hbc hb)
  | (go_at_call 67; (with_reducible refine (fronts_calls g fA2 fc2 G _ ((blk_cell HX.out.1 2).trans rfl) (Kd.R_reads' HX.out.2.1).2.2 (Kd.R_reads' HX.out.2.1).2.1 T8.out).mono ?_); rintro e w26 ⟨v26, rfl, ho, hb⟩; obtain ⟨A4, c4, rfl⟩ := Kd.R_slice ho; have HO4 := Aside0.mk ho; have HX2 := Aside0.mk (show _ ∧ _ from ⟨blk_below HX.out.1 hb, Kd.C_below HX.out.2.2.1 hb⟩); have n1_ := Aside0.mk (below_step (by repeat (first | (with_reducible first | exact HB.out | apply below_alloc | apply pw_below_drewN | apply below_drew1) | exact HB.out)) hb); clear HB; have HB := n1_; clear n1_ ho hb)
  | ((with_reducible refine gate_dst (N := 28) rfl ?_); refine Kd.R_lit (Kd.int .u64) _ 38 ?hg (N := 28) ?hd (xs := ([5, 8] : List Int)) (inner := [.int .u64 5, .int .u64 8]) (ok := fun _ => True) (okp := fun _ => True) ?hr ?hp (fun _ hk => hk) trivial (Below.refl _ _) (Nat.le_refl _) (by simp) ?_; (case hd => rfl); (case hg => rfl); (case hr => first | (go_simp; done) | (go_simp; rfl)); (case hp => exact (Reps.one (show Kd.M (Kd.int .u64) _ _ _ 5 [.int .u64 5] from rfl) (Reps.one (show Kd.M (Kd.int .u64) _ _ _ 8 [.int .u64 8] from rfl) (Reps.none _ _)))); intro v28 w28 ho hb hg_ hn_; clear hg_ hn_; rw [← HG.out] at ho; obtain ⟨A5, c5, rfl⟩ := Kd.R_slice ho; have HO5 := Aside0.mk ho; have HO4b := Aside0.mk (Kd.R_below HO4.out hb); have HX3 := Aside0.mk (show _ ∧ _ from ⟨blk_below HX2.out.1 hb, Kd.C_below HX2.out.2 hb⟩); have n1_ := Aside0.mk (below_step (by repeat (first | (with_reducible first | exact HB.out | apply below_alloc | apply pw_below_drewN | apply below_drew1) | exact HB.out)) hb); clear HB; have HB := n1_; clear n1_ ho hb)
  | (go_at_call 42; (with_reducible refine (marchlandref06_Same.calls 30 A4 c4 G A5 c5 G true _ ?_ ?_ ?_ ?_ T9.out).mono ?_); (exact (Kd.R_reads' HO4b.out).2.2); (exact (Kd.R_reads' HO4b.out).2.1); (exact (Kd.R_reads' HO5.out).2.2); (exact (Kd.R_reads' HO5.out).2.1); rintro e w29 ⟨rfl, hd⟩; have hb := Drawn0.below hd; have HX4 := Aside0.mk (show _ ∧ _ from ⟨blk_below HX3.out.1 hb, Kd.C_below HX3.out.2 hb⟩); have n1_ := Aside0.mk (below_step (by repeat (first | (with_reducible first | exact HB.out | apply below_alloc | apply pw_below_drewN | apply below_drew1) | exact HB.out)) hb); clear HB; have HB := n1_; clear n1_ hd hb)
  | (go_at_call 68; (with_reducible refine (bag_calls g bA bc b _ ((blk_cell HX4.out.1 1).trans rfl) HX4.out.2 HX.out.2.2.2 T10.out).mono ?_); rintro e w32 ⟨v32, rfl, ho, hb⟩; obtain ⟨A6, c6, rfl⟩ := Kd.R_slice ho; have HX5 := Aside0.mk (blk_below HX4.out.1 hb); have n1_ := Aside0.mk (below_step (by repeat (first | (with_reducible first | exact HB.out | apply below_alloc | apply pw_below_drewN | apply below_drew1) | exact HB.out)) hb); clear HB; have HB := n1_; clear n1_ ho hb)
  | ((with_reducible refine gate_dst (N := 39) rfl ?_); (try (refine gate_guard (by rfl) ?_; dsimp only)); refine Kd.R_lit k50 _ 50 ?hg (N := 39) ?hd (xs := ([(⟨2, 0, 1⟩ : S50)] : List S50)) (inner := [.int .i64 2, .int .u64 0, .int .i64 1]) (ok := fun _ => True) (okp := fun _ => True) ?hr ?hp (fun _ hk => hk) trivial (Below.refl _ _) (Nat.le_refl _) (by simp) ?_; (case hd => rfl); (case hg => rfl); (case hr => first | (go_simp; done) | (go_simp; rfl)); (case hp => exact (Reps.c3 (show Kd.M k50 _ _ _ (⟨2, 0, 1⟩ : S50) [.int .i64 2, .int .u64 0, .int .i64 1] from (k50_mkM _ _ _ (⟨2, 0, 1⟩ : S50) )) (Reps.none _ _))); intro v39 w39 ho hb hg_ hn_; clear hg_ hn_; rw [← HC2.out] at ho; obtain ⟨cA2, cc2, rfl⟩ := Kd.R_slice ho; have HO6 := Aside0.mk ho; have HX6 := Aside0.mk (blk_below HX5.out hb); have n1_ := Aside0.mk (below_step (by repeat (first | (with_reducible first | exact HB.out | apply below_alloc | apply pw_below_drewN | apply below_drew1) | exact HB.out)) hb); clear HB; have HB := n1_; clear n1_ ho hb)
  | (go_at_call 66; (with_reducible refine (apply_port 30 g P.length pc pA cA2 cc2 c2 _ ((blk_cell HX6.out 0).trans rfl) (Kd.R_reads' HO6.out).2.2 (Kd.R_reads' HO6.out).2.1 T11.out T12.out).mono ?_); rintro e w40 ⟨rfl, hb⟩; have n1_ := Aside0.mk (below_step (by repeat (first | (with_reducible first | exact HB.out | apply below_alloc | apply pw_below_drewN | apply below_drew1) | exact HB.out)) hb); clear HB; have HB := n1_; clear n1_ hb))
 go_ret
 exact ⟨rfl, HB.out⟩
end Go.Proofs.Ytgeldmhgbnamcaa.P
end
