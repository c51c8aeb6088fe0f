/- Walks and laws of several statements of this seat, joined into one text; no condition. -/
import Derived.Test.YtgeldmhgbnamcaaZa1
import Derived.Test.YtgeldmhgbnamcaaZa0
import Derived.Test.YtgeldmhgbnamcaaZa4
section
-- Printed by the session's own turn of the print (wip/tools/print2.sh): some callees are proved by hand.
namespace Go.Proofs.Ytgeldmhgbnamcaa.P
open Go.RowKit Go.Proofs.YtgeldmhgbnamcaaW.PrintWords Go.Proofs.YtgeldmhgbnamcaaW.PrintLast Go.Proofs.YtgeldmhgbnamcaaW.PrintMore
attribute [local go_sem] max2_int min2_int max_two min_two max_three min_three max_four min_four   -- for this text's walks alone
set_option linter.unusedVariables false
set_option linter.unusedSimpArgs false

/-! ### batch_Right: function 20 -/
def batch_Right.l0 : Nat → List (S50) → List (S50) → Int → Int → Option (Bool)
 | 0, _, _, _, _ => none
 | k + 1, x0, x5, x6, x7 => if x7 < x6 then (if 0 ≤ x7 then (if x7 < (x5.length : Int) then ((batch_wrong.f k ((rd_T50 x5 x7).f0) ((rd_T50 x5 x7).f1) ((rd_T50 x5 x7).f2)).bind fun t221 => (if t221 = 0 then (if ((rd_T50 x5 x7).f2) = 0 then (some false) else (if x7 > 0 then (if 0 ≤ (wrap64 (x7 - 1)) then (if (wrap64 (x7 - 1)) < (x0.length : Int) then ((batch_order.f k ((rd_T50 x0 (wrap64 (x7 - 1))).f0) ((rd_T50 x0 (wrap64 (x7 - 1))).f1) ((rd_T50 x0 (wrap64 (x7 - 1))).f2) ((rd_T50 x5 x7).f0) ((rd_T50 x5 x7).f1) ((rd_T50 x5 x7).f2)).bind fun t223 => (if t223 ≥ 0 then (some false) else (batch_Right.l0 k x0 x5 x6 (wrap64 (x7 + 1))))) else (none)) else (none)) else (batch_Right.l0 k x0 x5 x6 (wrap64 (x7 + 1))))) else (some false))) else (none)) else (none)) else (some true)
def batch_Right.f (k : Nat) (l0 : List (S50)) : Option (Bool) := batch_Right.l0 k l0 l0 (l0.length : Int) 0
theorem batch_Right.mono_l : ∀ k, (∀ y0 y1 y2 y3, LeO (batch_Right.l0 k y0 y1 y2 y3) (batch_Right.l0 (k + 1) y0 y1 y2 y3))
 | 0 => fun _ _ _ _ r h => by simp [batch_Right.l0] at h
 | k + 1 => by
  have ih0 := batch_Right.mono_l k
  ·intro y0 y1 y2 y3
   unfold batch_Right.l0
   repeat' first
   | (with_reducible exact ih0 _ _ _ _)
   | (with_reducible exact batch_order.mono _ _ _ _ _ _ _)
   | (with_reducible exact batch_wrong.mono _ _ _ _)
   | (with_reducible exact LeO.refl _)
   | (with_reducible exact LeO.none _)
   | (with_reducible refine LeO.ite ?_ ?_)
   | (with_reducible refine LeO.bind ?_ (fun _ => ?_))
   | exact ih0 _ _ _ _
   | exact batch_order.mono _ _ _ _ _ _ _
   | exact batch_wrong.mono _ _ _ _
   | exact LeO.none _
   | refine LeO.ite ?_ ?_
   | refine LeO.bind ?_ (fun _ => ?_)
theorem batch_Right.mono : ∀ a0 k, LeO (batch_Right.f k a0) (batch_Right.f (k + 1) a0) := by
 intro a0 k
 have ih0 := batch_Right.mono_l k
 unfold batch_Right.f
 repeat' first
   | (with_reducible exact ih0 _ _ _ _)
   | (with_reducible exact batch_order.mono _ _ _ _ _ _ _)
   | (with_reducible exact batch_wrong.mono _ _ _ _)
   | (with_reducible exact LeO.refl _)
   | (with_reducible exact LeO.none _)
   | (with_reducible refine LeO.ite ?_ ?_)
   | (with_reducible refine LeO.bind ?_ (fun _ => ?_))
   | exact ih0 _ _ _ _
   | exact batch_order.mono _ _ _ _ _ _ _
   | exact batch_wrong.mono _ _ _ _
   | exact LeO.none _
   | refine LeO.ite ?_ ?_
   | refine LeO.bind ?_ (fun _ => ?_)
def batch_Right.T4 : Bool × List (List Nat × List Nat) := (true, [([], []), ([0], [0]), ([1], [1]), ([2, 1], [2]), ([3], [3]), ([4, 3], [3, 4]), ([5, 3], [3, 5]), ([3, 6], [3, 6]), ([7, 3], [7]), ([8], [8]), ([9, 8], [8, 9]), ([10, 8, 8], [8, 10]), ([11], [11]), ([11], [11]), ([13, 11], [11, 13]), ([12, 14, 11], [11, 12, 14]), ([15, 11], [11, 15]), ([11], [11]), ([16, 17, 11, 11], [11, 16, 17]), ([18, 11], [11, 18]), ([11, 19, 8], [8, 11, 19]), ([8, 20], [8, 20])])
def batch_Right.B4 : List Nat := [0, 1, 3, 7, 15, 31, 63, 127, 255, 511, 1023, 2047, 4095, 4095, 12287, 32767, 65535, 4095, 262143, 524287, 1048575, 2097151]
theorem batch_Right.tab4 : rtab .any (opsOf Try.f20 4) = batch_Right.T4 := by kernel_rfl
theorem batch_Right.bits4 : waitsOk batch_Right.T4.2 batch_Right.B4 = true := by kernel_rfl
set_option maxHeartbeats 8000000 in
set_option maxRecDepth 100000 in
theorem batch_Right.calls (k : Nat) (A0 : Option Addr) (c0 : Nat) (l0 : List (S50)) (r : Bool) (w : World) (hr0 : Kd.C k50 w A0 l0.length l0) (hc0 : l0.length ≤ c0) (h : batch_Right.f k l0 = some r) :
  Calls Try.prog 20 #[.slice A0 l0.length c0] w fun e w' => e = .returned (.bool r) ∧ Below w.heap.size w w' := by
 have hu50 := Try.underlying50
 have HR0 := Aside0.mk hr0
 have HC0 := Aside0.mk hc0
 clear hr0 hc0
 have HB := Aside0.mk (Below.refl w.heap.size w)
 have H : (batch_Right.l0 k l0 l0 (l0.length : Int) 0) = some r := h
 clear h
 have H' := Aside0.mk H
 clear H
 go_enter Try.func20, Try.ntmps20
 go_wp2
 go_loopg [7] k (fun kq v7 w' => ∃ (x7_1 : Int), v7 = .int .i64 x7_1 ∧ Aside0 (batch_Right.l0 kq l0 l0 (l0.length : Int) x7_1 = some r) ∧ Aside0 (kq ≤ k) ∧ Aside0 (Below w.heap.size w w'))
 case atStart => exact ⟨(0), (by first | rfl | (simp; done) | (simp [*]; done)), H', ⟨Nat.le_refl _⟩, ⟨by repeat (first | (with_reducible first | exact HB.out | apply below_alloc | apply pw_below_drewN | apply below_drew1) | exact HB.out)⟩⟩
 case round =>
  clear H'
  obtain ⟨x7_1, rfl, HA, HK1, HB⟩ := hrel
  cases gk with
  | zero => exact absurd HA.out (by simp [batch_Right.l0])
  | succ k1 =>
   have H := HA.out
   clear HA
   simp only [batch_Right.l0] at H
   by_cases c2 : x7_1 < (l0.length : Int)
   ·rw [if_pos c2] at H
    have c2b0 : decide (x7_1 < (l0.length : Int)) = true := decide_eq_true c2
    clear c2
    by_cases c3 : 0 ≤ x7_1
    ·rw [if_pos c3] at H
     have c3b0 : decide (0 ≤ x7_1) = true := decide_eq_true c3
     clear c3
     by_cases c4 : x7_1 < (l0.length : Int)
     ·rw [if_pos c4] at H
      have c4b0 : decide (x7_1 < (l0.length : Int)) = true := decide_eq_true c4
      clear c4
      replace H := Option.bind_eq_some_iff.mp H
      obtain ⟨t221, A50, H⟩ := H
      replace H : (if t221 = 0 then (if ((rd_T50 l0 x7_1).f2) = 0 then (some false) else (if x7_1 > 0 then (if 0 ≤ (wrap64 (x7_1 - 1)) then (if (wrap64 (x7_1 - 1)) < (l0.length : Int) then ((batch_order.f k1 ((rd_T50 l0 (wrap64 (x7_1 - 1))).f0) ((rd_T50 l0 (wrap64 (x7_1 - 1))).f1) ((rd_T50 l0 (wrap64 (x7_1 - 1))).f2) ((rd_T50 l0 x7_1).f0) ((rd_T50 l0 x7_1).f1) ((rd_T50 l0 x7_1).f2)).bind fun t223 => (if t223 ≥ 0 then (some false) else (batch_Right.l0 k1 l0 l0 (l0.length : Int) (wrap64 (x7_1 + 1))))) else (none)) else (none)) else (batch_Right.l0 k1 l0 l0 (l0.length : Int) (wrap64 (x7_1 + 1))))) else (some false)) = some r := H
      have A5 := Aside0.mk A50
      clear A50
      by_cases c6 : t221 = 0
      ·rw [if_pos c6] at H
       have c6b0 : (t221 == 0) = true := beq_iff_eq.mpr c6
       have c6b1 : (t221 != 0) = false := bne_eq_false_iff_eq.mpr c6
       clear c6
       by_cases c7 : ((rd_T50 l0 x7_1).f2) = 0
       ·rw [if_pos c7] at H
        have c7b0 : (((rd_T50 l0 x7_1).f2) == 0) = true := beq_iff_eq.mpr c7
        have c7b1 : (((rd_T50 l0 x7_1).f2) != 0) = false := bne_eq_false_iff_eq.mpr c7
        clear c7
        obtain rfl := Option.some.inj H
        have p219 : 0 ≤ (x7_1 : Int) := of_decide_eq_true (by first | (with_reducible assumption) | assumption)
        have q219 : x7_1 < (l0.length : Int) := of_decide_eq_true (by first | (with_reducible assumption) | assumption)
        obtain ⟨ad219, e219, hx219_0, hx219_1, hx219_2⟩ := at_T50 HR0.out x7_1 p219 q219
        cases e219
        replace hx219_0 := (HB.out.cell (World.block_lt_of_cell? w _ hx219_0)).trans hx219_0
        replace hx219_1 := (HB.out.cell (World.block_lt_of_cell? w _ hx219_1)).trans hx219_1
        replace hx219_2 := (HB.out.cell (World.block_lt_of_cell? w _ hx219_2)).trans hx219_2
        replace p219 := eq_true p219
        replace q219 := eq_true q219
        try go_wp2_with (first | ((with_reducible refine gate_dst (N := 4) rfl ?_); refine box_event ?hg (N := 4) ?hd (cs := #[.int .i64 0, .int .u64 0, .int .i64 0]) (t := 50) ?hr ?_; (case hd => rfl); (case hg => rfl); (case hr => first | (go_simp; done) | (go_simp; rfl)); intro gb220 hg w8 hbox hb; have n0_ := Aside0.mk (below_step (by repeat (first | (with_reducible first | exact HB.out | apply below_alloc | apply pw_below_drewN | apply below_drew1) | exact HB.out)) hb); have n1_ := Aside0.mk (hbox); have n2_ := Aside0.mk ((by rw [hg]; exact (below_size (by repeat (first | (with_reducible first | exact HB.out | apply below_alloc | apply pw_below_drewN | apply below_drew1) | exact HB.out))) : w.heap.size ≤ gb220)); have n3_ := Aside0.mk ((by rw [hg]; exact (below_size (by repeat (first | (with_reducible first | exact HB.out | apply below_alloc | apply pw_below_drewN | apply below_drew1) | exact HB.out))) : w.heap.size ≤ gb220)); clear HB; have HB := n0_; have BK220 := n1_; have GW220 := n2_; have GE220 := n3_; clear n0_ n1_ n2_ n3_; clear hb hbox hg; have hcz9_0 : w8.cell? ⟨gb220, 0, none⟩ = some (.int .i64 0) := (blk_cell BK220.out 0).trans rfl; have hcz9_1 : w8.cell? ⟨gb220, 1, none⟩ = some (.int .u64 0) := (blk_cell BK220.out 1).trans rfl; have hcz9_2 : w8.cell? ⟨gb220, 2, none⟩ = some (.int .i64 0) := (blk_cell BK220.out 2).trans rfl; have hfz9_0 := blk_frozen BK220.out 0; have hfz9_1 := blk_frozen BK220.out 1; have hfz9_2 := blk_frozen BK220.out 2))
        have n0_ : Aside0 ((((w8.setCell ⟨gb220, 0, none⟩ (.int .i64 ((rd_T50 l0 x7_1).f0))).setCell ⟨gb220, 1, none⟩ (.int .u64 ((rd_T50 l0 x7_1).f1))).setCell ⟨gb220, 2, none⟩ (.int .i64 ((rd_T50 l0 x7_1).f2))).heap[gb220]? = some (.cells #[.int .i64 ((rd_T50 l0 x7_1).f0), .int .u64 ((rd_T50 l0 x7_1).f1), .int .i64 ((rd_T50 l0 x7_1).f2)] 50 (0, 0))) := ⟨by (with_reducible repeat (first | refine blk_drewN ?_ _ | refine blk_drew ?_ | refine blk_alloc ?_ _)); refine blk_put (cs := #[.int .i64 ((rd_T50 l0 x7_1).f0), .int .u64 ((rd_T50 l0 x7_1).f1), .int .i64 0]) ?_ 2 _ rfl; (with_reducible repeat (first | refine blk_drewN ?_ _ | refine blk_drew ?_ | refine blk_alloc ?_ _)); refine blk_put (cs := #[.int .i64 ((rd_T50 l0 x7_1).f0), .int .u64 0, .int .i64 0]) ?_ 1 _ rfl; (with_reducible repeat (first | refine blk_drewN ?_ _ | refine blk_drew ?_ | refine blk_alloc ?_ _)); refine blk_put (cs := #[.int .i64 0, .int .u64 0, .int .i64 0]) ?_ 0 _ rfl; (with_reducible repeat (first | refine blk_drewN ?_ _ | refine blk_drew ?_ | refine blk_alloc ?_ _)); exact BK220.out⟩
        have n1_ : Aside0 (Below w.heap.size w (((w8.setCell ⟨gb220, 0, none⟩ (.int .i64 ((rd_T50 l0 x7_1).f0))).setCell ⟨gb220, 1, none⟩ (.int .u64 ((rd_T50 l0 x7_1).f1))).setCell ⟨gb220, 2, none⟩ (.int .i64 ((rd_T50 l0 x7_1).f2)))) := ⟨by repeat (first | (with_reducible first | exact HB.out | apply below_alloc | apply pw_below_drewN | apply below_drew1 | refine below_set ?_ GE220.out) | exact HB.out)⟩
        (try clear BK220)
        (try clear HB)
        generalize (((w8.setCell ⟨gb220, 0, none⟩ (.int .i64 ((rd_T50 l0 x7_1).f0))).setCell ⟨gb220, 1, none⟩ (.int .u64 ((rd_T50 l0 x7_1).f1))).setCell ⟨gb220, 2, none⟩ (.int .i64 ((rd_T50 l0 x7_1).f2))) = w10 at n0_ n1_ ⊢
        have BK220 := n0_
        have HB := n1_
        clear n0_ n1_
        have n0_ := Aside0.mk (blk_drew BK220.out)
        have n1_ := Aside0.mk (below_drew1 HB.out)
        clear BK220
        clear HB
        have BK220 := n0_
        have HB := n1_
        clear n0_ n1_
        refine start_ (n := 22) (S := fun w' => w'.cell? ⟨gb220, 0, none⟩ = some (.int .i64 ((rd_T50 l0 x7_1).f0)) ∧ w'.cell? ⟨gb220, 1, none⟩ = some (.int .u64 ((rd_T50 l0 x7_1).f1)) ∧ w'.cell? ⟨gb220, 2, none⟩ = some (.int .i64 ((rd_T50 l0 x7_1).f2))) (ds := []) (mk_ 0 22) (by kernel_rfl) rfl rfl ⟨(blk_cell BK220.out 0).trans rfl, (blk_cell BK220.out 1).trans rfl, (blk_cell BK220.out 2).trans rfl⟩ (fun hHeld => ?_); refine with_tabW batch_Right.tab4 batch_Right.bits4 (fun HT_ HW_ => ?_)
        generalize w10.drew = w11 at BK220 HB hHeld ⊢
        refine tv_ 0 12 (mk_ 1 21) HT_ HW_ hHeld (hy := by rintro w' ⟨s0, s1, s2⟩; go_simp; with_reducible rfl) (h := ?_)
        refine one_ (i := 1) (N := some 13) (mk_ 2 20) rfl rfl (one_of HT_.out (by kernel_rfl)) (by decide) (fun K hK => ?_)
        refine goes_ Try.func48 (by kernel_rfl) rfl #[.agg #[.int .i64 ((rd_T50 l0 x7_1).f0), .int .u64 ((rd_T50 l0 x7_1).f1), .int .i64 ((rd_T50 l0 x7_1).f2)]] (by rfl) rfl rfl (by (try simp only [List.map_toArray, List.map_cons, List.map_nil]); first | done | rfl | (simp only [List.length_drop, List.length_take]; rfl)) ?_
        with_reducible refine (batch_wrong.calls k1 ((rd_T50 l0 x7_1).f0) ((rd_T50 l0 x7_1).f1) ((rd_T50 l0 x7_1).f2) t221 _ A5.out).mono ?_
        rintro e w12 ⟨rfl, hb⟩
        refine ⟨_, rfl, ?_⟩
        have n0_ := Aside0.mk (blk_below (g := gb220) (o := .cells #[.int .i64 ((rd_T50 l0 x7_1).f0), .int .u64 ((rd_T50 l0 x7_1).f1), .int .i64 ((rd_T50 l0 x7_1).f2)] 50 (0, 0)) (by (with_reducible repeat (first | refine blk_drewN ?_ _ | refine blk_drew ?_ | refine blk_alloc ?_ _)); exact BK220.out) hb)
        have n1_ := Aside0.mk (below_step (by repeat (first | (with_reducible first | exact HB.out | apply below_alloc | apply pw_below_drewN | apply below_drew1 | refine below_set ?_ GE220.out) | exact HB.out)) hb)
        clear BK220
        clear HB
        have BK220 := n0_
        have HB := n1_
        clear n0_ n1_
        (try clear hb)
        (try clear hb2)
        (try clear hk)
        (try clear hi)
        refine hK.out _ _ ⟨(blk_cell BK220.out 0).trans rfl, (blk_cell BK220.out 1).trans rfl, (blk_cell BK220.out 2).trans rfl⟩ (fun hHeld => ?_)
        clear hK K
        refine norm_ (a' := ?_) ?_ ?_
        rotate_left
        ·show Act.put _ (some 13) _ = _
         simp only [Act.put, List.setIfInBounds_toArray, List.set_cons_zero, List.set_cons_succ, i64_w, i32_w]
         rfl
        refine pv_ 2 14 (mk_ 3 19) HT_ ?_
        refine pv_ 3 15 (mk_ 4 18) HT_ ?_
        refine pv_ 4 16 (mk_ 5 17) HT_ ?_
        refine tv_ 5 17 (mk_ 6 16) HT_ HW_ hHeld (hy := by rintro w' ⟨s0, s1, s2⟩; go_simp; with_reducible rfl) (h := ?_)
        refine pv_ 6 18 (mk_ 7 15) HT_ ?_
        refine pv_ 7 19 (mk_ 8 14) HT_ ?_
        refine pv_ 8 20 (mk_ 9 13) HT_ ?_
        refine pu_ 9 21 (mk_ 10 12) HT_ ?_
        refine pu_ 10 22 (mk_ 11 11) HT_ ?_
        refine pu_ 11 23 (mk_ 12 10) HT_ ?_
        refine pu_ 12 24 (mk_ 13 9) HT_ ?_
        refine pu_ 13 25 (mk_ 14 8) HT_ ?_
        refine pu_ 14 26 (mk_ 15 7) HT_ ?_
        refine pu_ 15 27 (mk_ 16 6) HT_ ?_
        refine pu_ 16 28 (mk_ 17 5) HT_ ?_
        refine pu_ 17 29 (mk_ 18 4) HT_ ?_
        refine pu_ 18 30 (mk_ 19 3) HT_ ?_
        refine pu_ 19 31 (mk_ 20 2) HT_ ?_
        refine pu_ 20 32 (mk_ 21 1) HT_ ?_
        refine pv_ 21 33 (mk_ 22 0) HT_ ?_
        refine done_ (done_of HT_.out (by kernel_rfl)) ?_
        try go_wp2
        go_ret
        exact ⟨by first | rfl | (simp [errW_none, errW_some] <;> rfl) | (simp [*, errW_none, errW_some] <;> rfl), by repeat (first | (with_reducible first | exact HB.out | apply below_alloc | apply pw_below_drewN | apply below_drew1 | refine below_set ?_ GE220.out) | exact HB.out)⟩
       ·rw [if_neg c7] at H
        have c7b0 : (((rd_T50 l0 x7_1).f2) == 0) = false := beq_eq_false_iff_ne.mpr c7
        have c7b1 : (((rd_T50 l0 x7_1).f2) != 0) = true := bne_iff_ne.mpr c7
        by_cases c13 : x7_1 > 0
        ·rw [if_pos c13] at H
         have c13b0 : decide (0 < x7_1) = true := decide_eq_true c13
         clear c13
         obtain ⟨ji14, hji14⟩ : ∃ j_ : Int, (wrap64 (x7_1 - 1)) = j_ := ⟨_, rfl⟩
         replace H : (if 0 ≤ (ji14) then (if (ji14) < (l0.length : Int) then ((batch_order.f k1 ((rd_T50 l0 (ji14)).f0) ((rd_T50 l0 (ji14)).f1) ((rd_T50 l0 (ji14)).f2) ((rd_T50 l0 x7_1).f0) ((rd_T50 l0 x7_1).f1) ((rd_T50 l0 x7_1).f2)).bind fun t223 => (if t223 ≥ 0 then (some false) else (batch_Right.l0 k1 l0 l0 (l0.length : Int) (wrap64 (x7_1 + 1))))) else (none)) else (none)) = some r := by first | (rw [hji14] at H; exact H) | (simp only [hji14] at H ⊢; exact H)
         (try rw [hji14] at A5)
         have hji14w : (IntKind.i64.wrap (x7_1 - 1)) = ji14 := (i64_w _).trans hji14
         by_cases c15 : 0 ≤ (ji14)
         ·rw [if_pos c15] at H
          have c15b0 : decide (0 ≤ (ji14)) = true := decide_eq_true c15
          clear c15
          by_cases c16 : (ji14) < (l0.length : Int)
          ·rw [if_pos c16] at H
           have c16b0 : decide ((ji14) < (l0.length : Int)) = true := decide_eq_true c16
           clear c16
           replace H := Option.bind_eq_some_iff.mp H
           obtain ⟨t223, A170, H⟩ := H
           replace H : (if t223 ≥ 0 then (some false) else (batch_Right.l0 k1 l0 l0 (l0.length : Int) (wrap64 (x7_1 + 1)))) = some r := H
           have A17 := Aside0.mk A170
           clear A170
           by_cases c18 : t223 ≥ 0
           ·rw [if_pos c18] at H
            have c18b0 : decide (0 ≤ t223) = true := decide_eq_true c18
            clear c18
            obtain rfl := Option.some.inj H
            have p219 : 0 ≤ (x7_1 : Int) := of_decide_eq_true (by first | (with_reducible assumption) | assumption)
            have q219 : x7_1 < (l0.length : Int) := of_decide_eq_true (by first | (with_reducible assumption) | assumption)
            obtain ⟨ad219, e219, hx219_0, hx219_1, hx219_2⟩ := at_T50 HR0.out x7_1 p219 q219
            cases e219
            replace hx219_0 := (HB.out.cell (World.block_lt_of_cell? w _ hx219_0)).trans hx219_0
            replace hx219_1 := (HB.out.cell (World.block_lt_of_cell? w _ hx219_1)).trans hx219_1
            replace hx219_2 := (HB.out.cell (World.block_lt_of_cell? w _ hx219_2)).trans hx219_2
            replace p219 := eq_true p219
            replace q219 := eq_true q219
            try go_wp2_with (first | ((with_reducible refine gate_dst (N := 4) rfl ?_); refine box_event ?hg (N := 4) ?hd (cs := #[.int .i64 0, .int .u64 0, .int .i64 0]) (t := 50) ?hr ?_; (case hd => rfl); (case hg => rfl); (case hr => first | (go_simp; done) | (go_simp; rfl)); intro gb220 hg w19 hbox hb; have n0_ := Aside0.mk (below_step (by repeat (first | (with_reducible first | exact HB.out | apply below_alloc | apply pw_below_drewN | apply below_drew1) | exact HB.out)) hb); have n1_ := Aside0.mk (hbox); have n2_ := Aside0.mk ((by rw [hg]; exact (below_size (by repeat (first | (with_reducible first | exact HB.out | apply below_alloc | apply pw_below_drewN | apply below_drew1) | exact HB.out))) : w.heap.size ≤ gb220)); have n3_ := Aside0.mk ((by rw [hg]; exact (below_size (by repeat (first | (with_reducible first | exact HB.out | apply below_alloc | apply pw_below_drewN | apply below_drew1) | exact HB.out))) : w.heap.size ≤ gb220)); clear HB; have HB := n0_; have BK220 := n1_; have GW220 := n2_; have GE220 := n3_; clear n0_ n1_ n2_ n3_; clear hb hbox hg; have hcz20_0 : w19.cell? ⟨gb220, 0, none⟩ = some (.int .i64 0) := (blk_cell BK220.out 0).trans rfl; have hcz20_1 : w19.cell? ⟨gb220, 1, none⟩ = some (.int .u64 0) := (blk_cell BK220.out 1).trans rfl; have hcz20_2 : w19.cell? ⟨gb220, 2, none⟩ = some (.int .i64 0) := (blk_cell BK220.out 2).trans rfl; have hfz20_0 := blk_frozen BK220.out 0; have hfz20_1 := blk_frozen BK220.out 1; have hfz20_2 := blk_frozen BK220.out 2))
            have n0_ : Aside0 ((((w19.setCell ⟨gb220, 0, none⟩ (.int .i64 ((rd_T50 l0 x7_1).f0))).setCell ⟨gb220, 1, none⟩ (.int .u64 ((rd_T50 l0 x7_1).f1))).setCell ⟨gb220, 2, none⟩ (.int .i64 ((rd_T50 l0 x7_1).f2))).heap[gb220]? = some (.cells #[.int .i64 ((rd_T50 l0 x7_1).f0), .int .u64 ((rd_T50 l0 x7_1).f1), .int .i64 ((rd_T50 l0 x7_1).f2)] 50 (0, 0))) := ⟨by (with_reducible repeat (first | refine blk_drewN ?_ _ | refine blk_drew ?_ | refine blk_alloc ?_ _)); refine blk_put (cs := #[.int .i64 ((rd_T50 l0 x7_1).f0), .int .u64 ((rd_T50 l0 x7_1).f1), .int .i64 0]) ?_ 2 _ rfl; (with_reducible repeat (first | refine blk_drewN ?_ _ | refine blk_drew ?_ | refine blk_alloc ?_ _)); refine blk_put (cs := #[.int .i64 ((rd_T50 l0 x7_1).f0), .int .u64 0, .int .i64 0]) ?_ 1 _ rfl; (with_reducible repeat (first | refine blk_drewN ?_ _ | refine blk_drew ?_ | refine blk_alloc ?_ _)); refine blk_put (cs := #[.int .i64 0, .int .u64 0, .int .i64 0]) ?_ 0 _ rfl; (with_reducible repeat (first | refine blk_drewN ?_ _ | refine blk_drew ?_ | refine blk_alloc ?_ _)); exact BK220.out⟩
            have n1_ : Aside0 (Below w.heap.size w (((w19.setCell ⟨gb220, 0, none⟩ (.int .i64 ((rd_T50 l0 x7_1).f0))).setCell ⟨gb220, 1, none⟩ (.int .u64 ((rd_T50 l0 x7_1).f1))).setCell ⟨gb220, 2, none⟩ (.int .i64 ((rd_T50 l0 x7_1).f2)))) := ⟨by repeat (first | (with_reducible first | exact HB.out | apply below_alloc | apply pw_below_drewN | apply below_drew1 | refine below_set ?_ GE220.out) | exact HB.out)⟩
            (try clear BK220)
            (try clear HB)
            generalize (((w19.setCell ⟨gb220, 0, none⟩ (.int .i64 ((rd_T50 l0 x7_1).f0))).setCell ⟨gb220, 1, none⟩ (.int .u64 ((rd_T50 l0 x7_1).f1))).setCell ⟨gb220, 2, none⟩ (.int .i64 ((rd_T50 l0 x7_1).f2))) = w21 at n0_ n1_ ⊢
            have BK220 := n0_
            have HB := n1_
            clear n0_ n1_
            have n0_ := Aside0.mk (blk_drew BK220.out)
            have n1_ := Aside0.mk (below_drew1 HB.out)
            clear BK220
            clear HB
            have BK220 := n0_
            have HB := n1_
            clear n0_ n1_
            have p222 : 0 ≤ ((ji14) : Int) := of_decide_eq_true (by first | (with_reducible assumption) | assumption)
            have q222 : (ji14) < (l0.length : Int) := of_decide_eq_true (by first | (with_reducible assumption) | assumption)
            obtain ⟨ad222, e222, hx222_0, hx222_1, hx222_2⟩ := at_T50 HR0.out (ji14) p222 q222
            have hw222_2 := hx222_2
            have hw222_1 := hx222_1
            have hw222_0 := hx222_0
            obtain rfl : ad219 = ad222 := (by injection e222)
            replace hx222_0 := (HB.out.cell (World.block_lt_of_cell? w _ hx222_0)).trans hx222_0
            replace hx222_1 := (HB.out.cell (World.block_lt_of_cell? w _ hx222_1)).trans hx222_1
            replace hx222_2 := (HB.out.cell (World.block_lt_of_cell? w _ hx222_2)).trans hx222_2
            replace p222 := eq_true p222
            replace q222 := eq_true q222
            refine start_ (n := 22) (S := fun w' => w'.cell? ⟨gb220, 0, none⟩ = some (.int .i64 ((rd_T50 l0 x7_1).f0)) ∧ w'.cell? ⟨gb220, 1, none⟩ = some (.int .u64 ((rd_T50 l0 x7_1).f1)) ∧ w'.cell? ⟨gb220, 2, none⟩ = some (.int .i64 ((rd_T50 l0 x7_1).f2)) ∧ w'.cell? (ad219.add (((ji14)).toNat * 3)) = some (.int .i64 ((rd_T50 l0 (ji14)).f0)) ∧ w'.cell? ⟨(ad219.add (((ji14)).toNat * 3)).block, (ad219.add (((ji14)).toNat * 3)).off + 1, none⟩ = some (.int .u64 ((rd_T50 l0 (ji14)).f1)) ∧ w'.cell? ⟨(ad219.add (((ji14)).toNat * 3)).block, (ad219.add (((ji14)).toNat * 3)).off + 2, none⟩ = some (.int .i64 ((rd_T50 l0 (ji14)).f2))) (ds := []) (mk_ 0 22) (by kernel_rfl) rfl rfl ⟨(blk_cell BK220.out 0).trans rfl, (blk_cell BK220.out 1).trans rfl, (blk_cell BK220.out 2).trans rfl, ((HB.out.cell (World.block_lt_of_cell? w _ hw222_0)).trans hw222_0), ((HB.out.cell (World.block_lt_of_cell? w _ hw222_1)).trans hw222_1), ((HB.out.cell (World.block_lt_of_cell? w _ hw222_2)).trans hw222_2)⟩ (fun hHeld => ?_); refine with_tabW batch_Right.tab4 batch_Right.bits4 (fun HT_ HW_ => ?_)
            generalize w21.drew = w22 at BK220 HB hx222_0 hx222_1 hx222_2 hHeld ⊢
            refine tv_ 0 12 (mk_ 1 21) HT_ HW_ hHeld (hy := by rintro w' ⟨s0, s1, s2, s3, s4, s5⟩; go_simp; with_reducible rfl) (h := ?_)
            refine one_ (i := 1) (N := some 13) (mk_ 2 20) rfl rfl (one_of HT_.out (by kernel_rfl)) (by decide) (fun K hK => ?_)
            refine goes_ Try.func48 (by kernel_rfl) rfl #[.agg #[.int .i64 ((rd_T50 l0 x7_1).f0), .int .u64 ((rd_T50 l0 x7_1).f1), .int .i64 ((rd_T50 l0 x7_1).f2)]] (by rfl) rfl rfl (by (try simp only [List.map_toArray, List.map_cons, List.map_nil]); first | done | rfl | (simp only [List.length_drop, List.length_take]; rfl)) ?_
            with_reducible refine (batch_wrong.calls k1 ((rd_T50 l0 x7_1).f0) ((rd_T50 l0 x7_1).f1) ((rd_T50 l0 x7_1).f2) t221 _ A5.out).mono ?_
            rintro e w23 ⟨rfl, hb⟩
            refine ⟨_, rfl, ?_⟩
            have n0_ := Aside0.mk (blk_below (g := gb220) (o := .cells #[.int .i64 ((rd_T50 l0 x7_1).f0), .int .u64 ((rd_T50 l0 x7_1).f1), .int .i64 ((rd_T50 l0 x7_1).f2)] 50 (0, 0)) (by (with_reducible repeat (first | refine blk_drewN ?_ _ | refine blk_drew ?_ | refine blk_alloc ?_ _)); exact BK220.out) hb)
            have n1_ := Aside0.mk (below_step (by repeat (first | (with_reducible first | exact HB.out | apply below_alloc | apply pw_below_drewN | apply below_drew1 | refine below_set ?_ GE220.out) | exact HB.out)) hb)
            clear BK220
            clear HB
            have BK220 := n0_
            have HB := n1_
            clear n0_ n1_
            (try clear hb)
            (try clear hb2)
            (try clear hk)
            (try clear hi)
            refine hK.out _ _ ⟨(blk_cell BK220.out 0).trans rfl, (blk_cell BK220.out 1).trans rfl, (blk_cell BK220.out 2).trans rfl, ((HB.out.cell (World.block_lt_of_cell? w _ hw222_0)).trans hw222_0), ((HB.out.cell (World.block_lt_of_cell? w _ hw222_1)).trans hw222_1), ((HB.out.cell (World.block_lt_of_cell? w _ hw222_2)).trans hw222_2)⟩ (fun hHeld => ?_)
            clear hK K
            refine norm_ (a' := ?_) ?_ ?_
            rotate_left
            ·show Act.put _ (some 13) _ = _
             simp only [Act.put, List.setIfInBounds_toArray, List.set_cons_zero, List.set_cons_succ, i64_w, i32_w]
             rfl
            refine pv_ 2 14 (mk_ 3 19) HT_ ?_
            refine pv_ 3 15 (mk_ 4 18) HT_ ?_
            refine pv_ 4 16 (mk_ 5 17) HT_ ?_
            refine tv_ 5 17 (mk_ 6 16) HT_ HW_ hHeld (hy := by rintro w' ⟨s0, s1, s2, s3, s4, s5⟩; go_simp; with_reducible rfl) (h := ?_)
            refine pv_ 6 18 (mk_ 7 15) HT_ ?_
            refine pv_ 7 19 (mk_ 8 14) HT_ ?_
            refine pv_ 8 20 (mk_ 9 13) HT_ ?_
            refine pv_ 9 21 (mk_ 10 12) HT_ ?_
            refine pv_ 10 22 (mk_ 11 11) HT_ ?_
            refine pv_ 11 23 (mk_ 12 10) HT_ ?_
            refine pv_ 12 24 (mk_ 13 9) HT_ ?_
            refine pv_ 13 25 (mk_ 14 8) HT_ ?_
            refine pv_ 14 26 (mk_ 15 7) HT_ ?_
            refine pv_ 15 27 (mk_ 16 6) HT_ ?_
            refine tv_ 16 28 (mk_ 17 5) HT_ HW_ hHeld (hy := by rintro w' ⟨s0, s1, s2, s3, s4, s5⟩; go_simp; with_reducible rfl) (h := ?_)
            refine tv_ 17 29 (mk_ 18 4) HT_ HW_ hHeld (hy := by rintro w' ⟨s0, s1, s2, s3, s4, s5⟩; go_simp; with_reducible rfl) (h := ?_)
            refine one_ (i := 18) (N := some 30) (mk_ 19 3) rfl rfl (one_of HT_.out (by kernel_rfl)) (by decide) (fun K hK => ?_)
            refine goes_ Try.func53 (by kernel_rfl) rfl #[.agg #[.int .i64 ((rd_T50 l0 (ji14)).f0), .int .u64 ((rd_T50 l0 (ji14)).f1), .int .i64 ((rd_T50 l0 (ji14)).f2)], .agg #[.int .i64 ((rd_T50 l0 x7_1).f0), .int .u64 ((rd_T50 l0 x7_1).f1), .int .i64 ((rd_T50 l0 x7_1).f2)]] (by rfl) rfl rfl (by (try simp only [List.map_toArray, List.map_cons, List.map_nil]); first | done | (simp only [hji14]; rfl) | rfl | (simp only [List.length_drop, List.length_take]; rfl)) ?_
            with_reducible refine (batch_order.calls k1 ((rd_T50 l0 (ji14)).f0) ((rd_T50 l0 (ji14)).f1) ((rd_T50 l0 (ji14)).f2) ((rd_T50 l0 x7_1).f0) ((rd_T50 l0 x7_1).f1) ((rd_T50 l0 x7_1).f2) t223 _ A17.out).mono ?_
            rintro e w24 ⟨rfl, hb⟩
            refine ⟨_, rfl, ?_⟩
            have n0_ := Aside0.mk (blk_below (g := gb220) (o := .cells #[.int .i64 ((rd_T50 l0 x7_1).f0), .int .u64 ((rd_T50 l0 x7_1).f1), .int .i64 ((rd_T50 l0 x7_1).f2)] 50 (0, 0)) (by (with_reducible repeat (first | refine blk_drewN ?_ _ | refine blk_drew ?_ | refine blk_alloc ?_ _)); exact BK220.out) hb)
            have n1_ := Aside0.mk (below_step (by repeat (first | (with_reducible first | exact HB.out | apply below_alloc | apply pw_below_drewN | apply below_drew1 | refine below_set ?_ GE220.out) | exact HB.out)) hb)
            clear BK220
            clear HB
            have BK220 := n0_
            have HB := n1_
            clear n0_ n1_
            (try clear hb)
            (try clear hb2)
            (try clear hk)
            (try clear hi)
            refine hK.out _ _ ⟨(blk_cell BK220.out 0).trans rfl, (blk_cell BK220.out 1).trans rfl, (blk_cell BK220.out 2).trans rfl, ((HB.out.cell (World.block_lt_of_cell? w _ hw222_0)).trans hw222_0), ((HB.out.cell (World.block_lt_of_cell? w _ hw222_1)).trans hw222_1), ((HB.out.cell (World.block_lt_of_cell? w _ hw222_2)).trans hw222_2)⟩ (fun hHeld => ?_)
            clear hK K
            refine norm_ (a' := ?_) ?_ ?_
            rotate_left
            ·show Act.put _ (some 30) _ = _
             simp only [Act.put, List.setIfInBounds_toArray, List.set_cons_zero, List.set_cons_succ, i64_w, i32_w]
             rfl
            refine pv_ 19 31 (mk_ 20 2) HT_ ?_
            refine pv_ 20 32 (mk_ 21 1) HT_ ?_
            refine pv_ 21 33 (mk_ 22 0) HT_ ?_
            refine done_ (done_of HT_.out (by kernel_rfl)) ?_
            try go_wp2
            go_ret
            exact ⟨by first | rfl | (simp [errW_none, errW_some] <;> rfl) | (simp only [← hji14]; first | rfl | (simp [errW_none, errW_some] <;> rfl)) | (simp [*, errW_none, errW_some] <;> rfl), by repeat (first | (with_reducible first | exact HB.out | apply below_alloc | apply pw_below_drewN | apply below_drew1 | refine below_set ?_ GE220.out) | exact HB.out)⟩
           ·rw [if_neg c18] at H
            have c18b0 : decide (0 ≤ t223) = false := decide_eq_false c18
            clear c18
            have H' := Aside0.mk H
            clear H
            have p219 : 0 ≤ (x7_1 : Int) := of_decide_eq_true (by first | (with_reducible assumption) | assumption)
            have q219 : x7_1 < (l0.length : Int) := of_decide_eq_true (by first | (with_reducible assumption) | assumption)
            obtain ⟨ad219, e219, hx219_0, hx219_1, hx219_2⟩ := at_T50 HR0.out x7_1 p219 q219
            cases e219
            replace hx219_0 := (HB.out.cell (World.block_lt_of_cell? w _ hx219_0)).trans hx219_0
            replace hx219_1 := (HB.out.cell (World.block_lt_of_cell? w _ hx219_1)).trans hx219_1
            replace hx219_2 := (HB.out.cell (World.block_lt_of_cell? w _ hx219_2)).trans hx219_2
            replace p219 := eq_true p219
            replace q219 := eq_true q219
            try go_wp2_with (first | ((with_reducible refine gate_dst (N := 4) rfl ?_); refine box_event ?hg (N := 4) ?hd (cs := #[.int .i64 0, .int .u64 0, .int .i64 0]) (t := 50) ?hr ?_; (case hd => rfl); (case hg => rfl); (case hr => first | (go_simp; done) | (go_simp; rfl)); intro gb220 hg w25 hbox hb; have n0_ := Aside0.mk (below_step (by repeat (first | (with_reducible first | exact HB.out | apply below_alloc | apply pw_below_drewN | apply below_drew1) | exact HB.out)) hb); have n1_ := Aside0.mk (hbox); have n2_ := Aside0.mk ((by rw [hg]; exact (below_size (by repeat (first | (with_reducible first | exact HB.out | apply below_alloc | apply pw_below_drewN | apply below_drew1) | exact HB.out))) : w.heap.size ≤ gb220)); have n3_ := Aside0.mk ((by rw [hg]; exact (below_size (by repeat (first | (with_reducible first | exact HB.out | apply below_alloc | apply pw_below_drewN | apply below_drew1) | exact HB.out))) : w.heap.size ≤ gb220)); clear HB; have HB := n0_; have BK220 := n1_; have GW220 := n2_; have GE220 := n3_; clear n0_ n1_ n2_ n3_; clear hb hbox hg; have hcz26_0 : w25.cell? ⟨gb220, 0, none⟩ = some (.int .i64 0) := (blk_cell BK220.out 0).trans rfl; have hcz26_1 : w25.cell? ⟨gb220, 1, none⟩ = some (.int .u64 0) := (blk_cell BK220.out 1).trans rfl; have hcz26_2 : w25.cell? ⟨gb220, 2, none⟩ = some (.int .i64 0) := (blk_cell BK220.out 2).trans rfl; have hfz26_0 := blk_frozen BK220.out 0; have hfz26_1 := blk_frozen BK220.out 1; have hfz26_2 := blk_frozen BK220.out 2))
            have n0_ : Aside0 ((((w25.setCell ⟨gb220, 0, none⟩ (.int .i64 ((rd_T50 l0 x7_1).f0))).setCell ⟨gb220, 1, none⟩ (.int .u64 ((rd_T50 l0 x7_1).f1))).setCell ⟨gb220, 2, none⟩ (.int .i64 ((rd_T50 l0 x7_1).f2))).heap[gb220]? = some (.cells #[.int .i64 ((rd_T50 l0 x7_1).f0), .int .u64 ((rd_T50 l0 x7_1).f1), .int .i64 ((rd_T50 l0 x7_1).f2)] 50 (0, 0))) := ⟨by (with_reducible repeat (first | refine blk_drewN ?_ _ | refine blk_drew ?_ | refine blk_alloc ?_ _)); refine blk_put (cs := #[.int .i64 ((rd_T50 l0 x7_1).f0), .int .u64 ((rd_T50 l0 x7_1).f1), .int .i64 0]) ?_ 2 _ rfl; (with_reducible repeat (first | refine blk_drewN ?_ _ | refine blk_drew ?_ | refine blk_alloc ?_ _)); refine blk_put (cs := #[.int .i64 ((rd_T50 l0 x7_1).f0), .int .u64 0, .int .i64 0]) ?_ 1 _ rfl; (with_reducible repeat (first | refine blk_drewN ?_ _ | refine blk_drew ?_ | refine blk_alloc ?_ _)); refine blk_put (cs := #[.int .i64 0, .int .u64 0, .int .i64 0]) ?_ 0 _ rfl; (with_reducible repeat (first | refine blk_drewN ?_ _ | refine blk_drew ?_ | refine blk_alloc ?_ _)); exact BK220.out⟩
            have n1_ : Aside0 (Below w.heap.size w (((w25.setCell ⟨gb220, 0, none⟩ (.int .i64 ((rd_T50 l0 x7_1).f0))).setCell ⟨gb220, 1, none⟩ (.int .u64 ((rd_T50 l0 x7_1).f1))).setCell ⟨gb220, 2, none⟩ (.int .i64 ((rd_T50 l0 x7_1).f2)))) := ⟨by repeat (first | (with_reducible first | exact HB.out | apply below_alloc | apply pw_below_drewN | apply below_drew1 | refine below_set ?_ GE220.out) | exact HB.out)⟩
            (try clear BK220)
            (try clear HB)
            generalize (((w25.setCell ⟨gb220, 0, none⟩ (.int .i64 ((rd_T50 l0 x7_1).f0))).setCell ⟨gb220, 1, none⟩ (.int .u64 ((rd_T50 l0 x7_1).f1))).setCell ⟨gb220, 2, none⟩ (.int .i64 ((rd_T50 l0 x7_1).f2))) = w27 at n0_ n1_ ⊢
            have BK220 := n0_
            have HB := n1_
            clear n0_ n1_
            have n0_ := Aside0.mk (blk_drew BK220.out)
            have n1_ := Aside0.mk (below_drew1 HB.out)
            clear BK220
            clear HB
            have BK220 := n0_
            have HB := n1_
            clear n0_ n1_
            have p222 : 0 ≤ ((ji14) : Int) := of_decide_eq_true (by first | (with_reducible assumption) | assumption)
            have q222 : (ji14) < (l0.length : Int) := of_decide_eq_true (by first | (with_reducible assumption) | assumption)
            obtain ⟨ad222, e222, hx222_0, hx222_1, hx222_2⟩ := at_T50 HR0.out (ji14) p222 q222
            have hw222_2 := hx222_2
            have hw222_1 := hx222_1
            have hw222_0 := hx222_0
            obtain rfl : ad219 = ad222 := (by injection e222)
            replace hx222_0 := (HB.out.cell (World.block_lt_of_cell? w _ hx222_0)).trans hx222_0
            replace hx222_1 := (HB.out.cell (World.block_lt_of_cell? w _ hx222_1)).trans hx222_1
            replace hx222_2 := (HB.out.cell (World.block_lt_of_cell? w _ hx222_2)).trans hx222_2
            replace p222 := eq_true p222
            replace q222 := eq_true q222
            refine start_ (n := 22) (S := fun w' => w'.cell? ⟨gb220, 0, none⟩ = some (.int .i64 ((rd_T50 l0 x7_1).f0)) ∧ w'.cell? ⟨gb220, 1, none⟩ = some (.int .u64 ((rd_T50 l0 x7_1).f1)) ∧ w'.cell? ⟨gb220, 2, none⟩ = some (.int .i64 ((rd_T50 l0 x7_1).f2)) ∧ w'.cell? (ad219.add (((ji14)).toNat * 3)) = some (.int .i64 ((rd_T50 l0 (ji14)).f0)) ∧ w'.cell? ⟨(ad219.add (((ji14)).toNat * 3)).block, (ad219.add (((ji14)).toNat * 3)).off + 1, none⟩ = some (.int .u64 ((rd_T50 l0 (ji14)).f1)) ∧ w'.cell? ⟨(ad219.add (((ji14)).toNat * 3)).block, (ad219.add (((ji14)).toNat * 3)).off + 2, none⟩ = some (.int .i64 ((rd_T50 l0 (ji14)).f2))) (ds := []) (mk_ 0 22) (by kernel_rfl) rfl rfl ⟨(blk_cell BK220.out 0).trans rfl, (blk_cell BK220.out 1).trans rfl, (blk_cell BK220.out 2).trans rfl, ((HB.out.cell (World.block_lt_of_cell? w _ hw222_0)).trans hw222_0), ((HB.out.cell (World.block_lt_of_cell? w _ hw222_1)).trans hw222_1), ((HB.out.cell (World.block_lt_of_cell? w _ hw222_2)).trans hw222_2)⟩ (fun hHeld => ?_); refine with_tabW batch_Right.tab4 batch_Right.bits4 (fun HT_ HW_ => ?_)
            generalize w27.drew = w28 at BK220 HB hx222_0 hx222_1 hx222_2 hHeld ⊢
            refine tv_ 0 12 (mk_ 1 21) HT_ HW_ hHeld (hy := by rintro w' ⟨s0, s1, s2, s3, s4, s5⟩; go_simp; with_reducible rfl) (h := ?_)
            refine one_ (i := 1) (N := some 13) (mk_ 2 20) rfl rfl (one_of HT_.out (by kernel_rfl)) (by decide) (fun K hK => ?_)
            refine goes_ Try.func48 (by kernel_rfl) rfl #[.agg #[.int .i64 ((rd_T50 l0 x7_1).f0), .int .u64 ((rd_T50 l0 x7_1).f1), .int .i64 ((rd_T50 l0 x7_1).f2)]] (by rfl) rfl rfl (by (try simp only [List.map_toArray, List.map_cons, List.map_nil]); first | done | rfl | (simp only [List.length_drop, List.length_take]; rfl)) ?_
            with_reducible refine (batch_wrong.calls k1 ((rd_T50 l0 x7_1).f0) ((rd_T50 l0 x7_1).f1) ((rd_T50 l0 x7_1).f2) t221 _ A5.out).mono ?_
            rintro e w29 ⟨rfl, hb⟩
            refine ⟨_, rfl, ?_⟩
            have n0_ := Aside0.mk (blk_below (g := gb220) (o := .cells #[.int .i64 ((rd_T50 l0 x7_1).f0), .int .u64 ((rd_T50 l0 x7_1).f1), .int .i64 ((rd_T50 l0 x7_1).f2)] 50 (0, 0)) (by (with_reducible repeat (first | refine blk_drewN ?_ _ | refine blk_drew ?_ | refine blk_alloc ?_ _)); exact BK220.out) hb)
            have n1_ := Aside0.mk (below_step (by repeat (first | (with_reducible first | exact HB.out | apply below_alloc | apply pw_below_drewN | apply below_drew1 | refine below_set ?_ GE220.out) | exact HB.out)) hb)
            clear BK220
            clear HB
            have BK220 := n0_
            have HB := n1_
            clear n0_ n1_
            (try clear hb)
            (try clear hb2)
            (try clear hk)
            (try clear hi)
            refine hK.out _ _ ⟨(blk_cell BK220.out 0).trans rfl, (blk_cell BK220.out 1).trans rfl, (blk_cell BK220.out 2).trans rfl, ((HB.out.cell (World.block_lt_of_cell? w _ hw222_0)).trans hw222_0), ((HB.out.cell (World.block_lt_of_cell? w _ hw222_1)).trans hw222_1), ((HB.out.cell (World.block_lt_of_cell? w _ hw222_2)).trans hw222_2)⟩ (fun hHeld => ?_)
            clear hK K
            refine norm_ (a' := ?_) ?_ ?_
            rotate_left
            ·show Act.put _ (some 13) _ = _
             simp only [Act.put, List.setIfInBounds_toArray, List.set_cons_zero, List.set_cons_succ, i64_w, i32_w]
             rfl
            refine pv_ 2 14 (mk_ 3 19) HT_ ?_
            refine pv_ 3 15 (mk_ 4 18) HT_ ?_
            refine pv_ 4 16 (mk_ 5 17) HT_ ?_
            refine tv_ 5 17 (mk_ 6 16) HT_ HW_ hHeld (hy := by rintro w' ⟨s0, s1, s2, s3, s4, s5⟩; go_simp; with_reducible rfl) (h := ?_)
            refine pv_ 6 18 (mk_ 7 15) HT_ ?_
            refine pv_ 7 19 (mk_ 8 14) HT_ ?_
            refine pv_ 8 20 (mk_ 9 13) HT_ ?_
            refine pv_ 9 21 (mk_ 10 12) HT_ ?_
            refine pv_ 10 22 (mk_ 11 11) HT_ ?_
            refine pv_ 11 23 (mk_ 12 10) HT_ ?_
            refine pv_ 12 24 (mk_ 13 9) HT_ ?_
            refine pv_ 13 25 (mk_ 14 8) HT_ ?_
            refine pv_ 14 26 (mk_ 15 7) HT_ ?_
            refine pv_ 15 27 (mk_ 16 6) HT_ ?_
            refine tv_ 16 28 (mk_ 17 5) HT_ HW_ hHeld (hy := by rintro w' ⟨s0, s1, s2, s3, s4, s5⟩; go_simp; with_reducible rfl) (h := ?_)
            refine tv_ 17 29 (mk_ 18 4) HT_ HW_ hHeld (hy := by rintro w' ⟨s0, s1, s2, s3, s4, s5⟩; go_simp; with_reducible rfl) (h := ?_)
            refine one_ (i := 18) (N := some 30) (mk_ 19 3) rfl rfl (one_of HT_.out (by kernel_rfl)) (by decide) (fun K hK => ?_)
            refine goes_ Try.func53 (by kernel_rfl) rfl #[.agg #[.int .i64 ((rd_T50 l0 (ji14)).f0), .int .u64 ((rd_T50 l0 (ji14)).f1), .int .i64 ((rd_T50 l0 (ji14)).f2)], .agg #[.int .i64 ((rd_T50 l0 x7_1).f0), .int .u64 ((rd_T50 l0 x7_1).f1), .int .i64 ((rd_T50 l0 x7_1).f2)]] (by rfl) rfl rfl (by (try simp only [List.map_toArray, List.map_cons, List.map_nil]); first | done | (simp only [hji14]; rfl) | rfl | (simp only [List.length_drop, List.length_take]; rfl)) ?_
            with_reducible refine (batch_order.calls k1 ((rd_T50 l0 (ji14)).f0) ((rd_T50 l0 (ji14)).f1) ((rd_T50 l0 (ji14)).f2) ((rd_T50 l0 x7_1).f0) ((rd_T50 l0 x7_1).f1) ((rd_T50 l0 x7_1).f2) t223 _ A17.out).mono ?_
            rintro e w30 ⟨rfl, hb⟩
            refine ⟨_, rfl, ?_⟩
            have n0_ := Aside0.mk (blk_below (g := gb220) (o := .cells #[.int .i64 ((rd_T50 l0 x7_1).f0), .int .u64 ((rd_T50 l0 x7_1).f1), .int .i64 ((rd_T50 l0 x7_1).f2)] 50 (0, 0)) (by (with_reducible repeat (first | refine blk_drewN ?_ _ | refine blk_drew ?_ | refine blk_alloc ?_ _)); exact BK220.out) hb)
            have n1_ := Aside0.mk (below_step (by repeat (first | (with_reducible first | exact HB.out | apply below_alloc | apply pw_below_drewN | apply below_drew1 | refine below_set ?_ GE220.out) | exact HB.out)) hb)
            clear BK220
            clear HB
            have BK220 := n0_
            have HB := n1_
            clear n0_ n1_
            (try clear hb)
            (try clear hb2)
            (try clear hk)
            (try clear hi)
            refine hK.out _ _ ⟨(blk_cell BK220.out 0).trans rfl, (blk_cell BK220.out 1).trans rfl, (blk_cell BK220.out 2).trans rfl, ((HB.out.cell (World.block_lt_of_cell? w _ hw222_0)).trans hw222_0), ((HB.out.cell (World.block_lt_of_cell? w _ hw222_1)).trans hw222_1), ((HB.out.cell (World.block_lt_of_cell? w _ hw222_2)).trans hw222_2)⟩ (fun hHeld => ?_)
            clear hK K
            refine norm_ (a' := ?_) ?_ ?_
            rotate_left
            ·show Act.put _ (some 30) _ = _
             simp only [Act.put, List.setIfInBounds_toArray, List.set_cons_zero, List.set_cons_succ, i64_w, i32_w]
             rfl
            refine pv_ 19 31 (mk_ 20 2) HT_ ?_
            refine pv_ 20 32 (mk_ 21 1) HT_ ?_
            refine pv_ 21 33 (mk_ 22 0) HT_ ?_
            refine done_ (done_of HT_.out (by kernel_rfl)) ?_
            try go_wp2
            go_roundg k1
            case measure => have := HK1.out; omega
            case rel => exact ⟨(wrap64 (x7_1 + 1)), (by first | rfl | (simp; done) | (simp [*]; done)), H', ⟨by have := HK1.out; omega⟩, ⟨by repeat (first | (with_reducible first | exact HB.out | apply below_alloc | apply pw_below_drewN | apply below_drew1 | refine below_set ?_ GE220.out) | exact HB.out)⟩⟩
          ·rw [if_neg c16] at H
           exact absurd H (by simp)
         ·rw [if_neg c15] at H
          exact absurd H (by simp)
        ·rw [if_neg c13] at H
         have c13b0 : decide (0 < x7_1) = false := decide_eq_false c13
         clear c13
         have H' := Aside0.mk H
         clear H
         have p219 : 0 ≤ (x7_1 : Int) := of_decide_eq_true (by first | (with_reducible assumption) | assumption)
         have q219 : x7_1 < (l0.length : Int) := of_decide_eq_true (by first | (with_reducible assumption) | assumption)
         obtain ⟨ad219, e219, hx219_0, hx219_1, hx219_2⟩ := at_T50 HR0.out x7_1 p219 q219
         cases e219
         replace hx219_0 := (HB.out.cell (World.block_lt_of_cell? w _ hx219_0)).trans hx219_0
         replace hx219_1 := (HB.out.cell (World.block_lt_of_cell? w _ hx219_1)).trans hx219_1
         replace hx219_2 := (HB.out.cell (World.block_lt_of_cell? w _ hx219_2)).trans hx219_2
         replace p219 := eq_true p219
         replace q219 := eq_true q219
         try go_wp2_with (first | ((with_reducible refine gate_dst (N := 4) rfl ?_); refine box_event ?hg (N := 4) ?hd (cs := #[.int .i64 0, .int .u64 0, .int .i64 0]) (t := 50) ?hr ?_; (case hd => rfl); (case hg => rfl); (case hr => first | (go_simp; done) | (go_simp; rfl)); intro gb220 hg w31 hbox hb; have n0_ := Aside0.mk (below_step (by repeat (first | (with_reducible first | exact HB.out | apply below_alloc | apply pw_below_drewN | apply below_drew1) | exact HB.out)) hb); have n1_ := Aside0.mk (hbox); have n2_ := Aside0.mk ((by rw [hg]; exact (below_size (by repeat (first | (with_reducible first | exact HB.out | apply below_alloc | apply pw_below_drewN | apply below_drew1) | exact HB.out))) : w.heap.size ≤ gb220)); have n3_ := Aside0.mk ((by rw [hg]; exact (below_size (by repeat (first | (with_reducible first | exact HB.out | apply below_alloc | apply pw_below_drewN | apply below_drew1) | exact HB.out))) : w.heap.size ≤ gb220)); clear HB; have HB := n0_; have BK220 := n1_; have GW220 := n2_; have GE220 := n3_; clear n0_ n1_ n2_ n3_; clear hb hbox hg; have hcz32_0 : w31.cell? ⟨gb220, 0, none⟩ = some (.int .i64 0) := (blk_cell BK220.out 0).trans rfl; have hcz32_1 : w31.cell? ⟨gb220, 1, none⟩ = some (.int .u64 0) := (blk_cell BK220.out 1).trans rfl; have hcz32_2 : w31.cell? ⟨gb220, 2, none⟩ = some (.int .i64 0) := (blk_cell BK220.out 2).trans rfl; have hfz32_0 := blk_frozen BK220.out 0; have hfz32_1 := blk_frozen BK220.out 1; have hfz32_2 := blk_frozen BK220.out 2))
         have n0_ : Aside0 ((((w31.setCell ⟨gb220, 0, none⟩ (.int .i64 ((rd_T50 l0 x7_1).f0))).setCell ⟨gb220, 1, none⟩ (.int .u64 ((rd_T50 l0 x7_1).f1))).setCell ⟨gb220, 2, none⟩ (.int .i64 ((rd_T50 l0 x7_1).f2))).heap[gb220]? = some (.cells #[.int .i64 ((rd_T50 l0 x7_1).f0), .int .u64 ((rd_T50 l0 x7_1).f1), .int .i64 ((rd_T50 l0 x7_1).f2)] 50 (0, 0))) := ⟨by (with_reducible repeat (first | refine blk_drewN ?_ _ | refine blk_drew ?_ | refine blk_alloc ?_ _)); refine blk_put (cs := #[.int .i64 ((rd_T50 l0 x7_1).f0), .int .u64 ((rd_T50 l0 x7_1).f1), .int .i64 0]) ?_ 2 _ rfl; (with_reducible repeat (first | refine blk_drewN ?_ _ | refine blk_drew ?_ | refine blk_alloc ?_ _)); refine blk_put (cs := #[.int .i64 ((rd_T50 l0 x7_1).f0), .int .u64 0, .int .i64 0]) ?_ 1 _ rfl; (with_reducible repeat (first | refine blk_drewN ?_ _ | refine blk_drew ?_ | refine blk_alloc ?_ _)); refine blk_put (cs := #[.int .i64 0, .int .u64 0, .int .i64 0]) ?_ 0 _ rfl; (with_reducible repeat (first | refine blk_drewN ?_ _ | refine blk_drew ?_ | refine blk_alloc ?_ _)); exact BK220.out⟩
         have n1_ : Aside0 (Below w.heap.size w (((w31.setCell ⟨gb220, 0, none⟩ (.int .i64 ((rd_T50 l0 x7_1).f0))).setCell ⟨gb220, 1, none⟩ (.int .u64 ((rd_T50 l0 x7_1).f1))).setCell ⟨gb220, 2, none⟩ (.int .i64 ((rd_T50 l0 x7_1).f2)))) := ⟨by repeat (first | (with_reducible first | exact HB.out | apply below_alloc | apply pw_below_drewN | apply below_drew1 | refine below_set ?_ GE220.out) | exact HB.out)⟩
         (try clear BK220)
         (try clear HB)
         generalize (((w31.setCell ⟨gb220, 0, none⟩ (.int .i64 ((rd_T50 l0 x7_1).f0))).setCell ⟨gb220, 1, none⟩ (.int .u64 ((rd_T50 l0 x7_1).f1))).setCell ⟨gb220, 2, none⟩ (.int .i64 ((rd_T50 l0 x7_1).f2))) = w33 at n0_ n1_ ⊢
         have BK220 := n0_
         have HB := n1_
         clear n0_ n1_
         have n0_ := Aside0.mk (blk_drew BK220.out)
         have n1_ := Aside0.mk (below_drew1 HB.out)
         clear BK220
         clear HB
         have BK220 := n0_
         have HB := n1_
         clear n0_ n1_
         refine start_ (n := 22) (S := fun w' => w'.cell? ⟨gb220, 0, none⟩ = some (.int .i64 ((rd_T50 l0 x7_1).f0)) ∧ w'.cell? ⟨gb220, 1, none⟩ = some (.int .u64 ((rd_T50 l0 x7_1).f1)) ∧ w'.cell? ⟨gb220, 2, none⟩ = some (.int .i64 ((rd_T50 l0 x7_1).f2))) (ds := []) (mk_ 0 22) (by kernel_rfl) rfl rfl ⟨(blk_cell BK220.out 0).trans rfl, (blk_cell BK220.out 1).trans rfl, (blk_cell BK220.out 2).trans rfl⟩ (fun hHeld => ?_); refine with_tabW batch_Right.tab4 batch_Right.bits4 (fun HT_ HW_ => ?_)
         generalize w33.drew = w34 at BK220 HB hHeld ⊢
         refine tv_ 0 12 (mk_ 1 21) HT_ HW_ hHeld (hy := by rintro w' ⟨s0, s1, s2⟩; go_simp; with_reducible rfl) (h := ?_)
         refine one_ (i := 1) (N := some 13) (mk_ 2 20) rfl rfl (one_of HT_.out (by kernel_rfl)) (by decide) (fun K hK => ?_)
         refine goes_ Try.func48 (by kernel_rfl) rfl #[.agg #[.int .i64 ((rd_T50 l0 x7_1).f0), .int .u64 ((rd_T50 l0 x7_1).f1), .int .i64 ((rd_T50 l0 x7_1).f2)]] (by rfl) rfl rfl (by (try simp only [List.map_toArray, List.map_cons, List.map_nil]); first | done | rfl | (simp only [List.length_drop, List.length_take]; rfl)) ?_
         with_reducible refine (batch_wrong.calls k1 ((rd_T50 l0 x7_1).f0) ((rd_T50 l0 x7_1).f1) ((rd_T50 l0 x7_1).f2) t221 _ A5.out).mono ?_
         rintro e w35 ⟨rfl, hb⟩
         refine ⟨_, rfl, ?_⟩
         have n0_ := Aside0.mk (blk_below (g := gb220) (o := .cells #[.int .i64 ((rd_T50 l0 x7_1).f0), .int .u64 ((rd_T50 l0 x7_1).f1), .int .i64 ((rd_T50 l0 x7_1).f2)] 50 (0, 0)) (by (with_reducible repeat (first | refine blk_drewN ?_ _ | refine blk_drew ?_ | refine blk_alloc ?_ _)); exact BK220.out) hb)
         have n1_ := Aside0.mk (below_step (by repeat (first | (with_reducible first | exact HB.out | apply below_alloc | apply pw_below_drewN | apply below_drew1 | refine below_set ?_ GE220.out) | exact HB.out)) hb)
         clear BK220
         clear HB
         have BK220 := n0_
         have HB := n1_
         clear n0_ n1_
         (try clear hb)
         (try clear hb2)
         (try clear hk)
         (try clear hi)
         refine hK.out _ _ ⟨(blk_cell BK220.out 0).trans rfl, (blk_cell BK220.out 1).trans rfl, (blk_cell BK220.out 2).trans rfl⟩ (fun hHeld => ?_)
         clear hK K
         refine norm_ (a' := ?_) ?_ ?_
         rotate_left
         ·show Act.put _ (some 13) _ = _
          simp only [Act.put, List.setIfInBounds_toArray, List.set_cons_zero, List.set_cons_succ, i64_w, i32_w]
          rfl
         refine pv_ 2 14 (mk_ 3 19) HT_ ?_
         refine pv_ 3 15 (mk_ 4 18) HT_ ?_
         refine pv_ 4 16 (mk_ 5 17) HT_ ?_
         refine tv_ 5 17 (mk_ 6 16) HT_ HW_ hHeld (hy := by rintro w' ⟨s0, s1, s2⟩; go_simp; with_reducible rfl) (h := ?_)
         refine pv_ 6 18 (mk_ 7 15) HT_ ?_
         refine pv_ 7 19 (mk_ 8 14) HT_ ?_
         refine pv_ 8 20 (mk_ 9 13) HT_ ?_
         refine pv_ 9 21 (mk_ 10 12) HT_ ?_
         refine pv_ 10 22 (mk_ 11 11) HT_ ?_
         refine pv_ 11 23 (mk_ 12 10) HT_ ?_
         refine pu_ 12 24 (mk_ 13 9) HT_ ?_
         refine pu_ 13 25 (mk_ 14 8) HT_ ?_
         refine pu_ 14 26 (mk_ 15 7) HT_ ?_
         refine pu_ 15 27 (mk_ 16 6) HT_ ?_
         refine pu_ 16 28 (mk_ 17 5) HT_ ?_
         refine pu_ 17 29 (mk_ 18 4) HT_ ?_
         refine pu_ 18 30 (mk_ 19 3) HT_ ?_
         refine pu_ 19 31 (mk_ 20 2) HT_ ?_
         refine pv_ 20 32 (mk_ 21 1) HT_ ?_
         refine pv_ 21 33 (mk_ 22 0) HT_ ?_
         refine done_ (done_of HT_.out (by kernel_rfl)) ?_
         try go_wp2
         go_roundg k1
         case measure => have := HK1.out; omega
         case rel => exact ⟨(wrap64 (x7_1 + 1)), (by first | rfl | (simp; done) | (simp [*]; done)), H', ⟨by have := HK1.out; omega⟩, ⟨by repeat (first | (with_reducible first | exact HB.out | apply below_alloc | apply pw_below_drewN | apply below_drew1 | refine below_set ?_ GE220.out) | exact HB.out)⟩⟩
      ·rw [if_neg c6] at H
       have c6b0 : (t221 == 0) = false := beq_eq_false_iff_ne.mpr c6
       have c6b1 : (t221 != 0) = true := bne_iff_ne.mpr c6
       obtain rfl := Option.some.inj H
       have p219 : 0 ≤ (x7_1 : Int) := of_decide_eq_true (by first | (with_reducible assumption) | assumption)
       have q219 : x7_1 < (l0.length : Int) := of_decide_eq_true (by first | (with_reducible assumption) | assumption)
       obtain ⟨ad219, e219, hx219_0, hx219_1, hx219_2⟩ := at_T50 HR0.out x7_1 p219 q219
       cases e219
       replace hx219_0 := (HB.out.cell (World.block_lt_of_cell? w _ hx219_0)).trans hx219_0
       replace hx219_1 := (HB.out.cell (World.block_lt_of_cell? w _ hx219_1)).trans hx219_1
       replace hx219_2 := (HB.out.cell (World.block_lt_of_cell? w _ hx219_2)).trans hx219_2
       replace p219 := eq_true p219
       replace q219 := eq_true q219
       try go_wp2_with (first | ((with_reducible refine gate_dst (N := 4) rfl ?_); refine box_event ?hg (N := 4) ?hd (cs := #[.int .i64 0, .int .u64 0, .int .i64 0]) (t := 50) ?hr ?_; (case hd => rfl); (case hg => rfl); (case hr => first | (go_simp; done) | (go_simp; rfl)); intro gb220 hg w36 hbox hb; have n0_ := Aside0.mk (below_step (by repeat (first | (with_reducible first | exact HB.out | apply below_alloc | apply pw_below_drewN | apply below_drew1) | exact HB.out)) hb); have n1_ := Aside0.mk (hbox); have n2_ := Aside0.mk ((by rw [hg]; exact (below_size (by repeat (first | (with_reducible first | exact HB.out | apply below_alloc | apply pw_below_drewN | apply below_drew1) | exact HB.out))) : w.heap.size ≤ gb220)); have n3_ := Aside0.mk ((by rw [hg]; exact (below_size (by repeat (first | (with_reducible first | exact HB.out | apply below_alloc | apply pw_below_drewN | apply below_drew1) | exact HB.out))) : w.heap.size ≤ gb220)); clear HB; have HB := n0_; have BK220 := n1_; have GW220 := n2_; have GE220 := n3_; clear n0_ n1_ n2_ n3_; clear hb hbox hg; have hcz37_0 : w36.cell? ⟨gb220, 0, none⟩ = some (.int .i64 0) := (blk_cell BK220.out 0).trans rfl; have hcz37_1 : w36.cell? ⟨gb220, 1, none⟩ = some (.int .u64 0) := (blk_cell BK220.out 1).trans rfl; have hcz37_2 : w36.cell? ⟨gb220, 2, none⟩ = some (.int .i64 0) := (blk_cell BK220.out 2).trans rfl; have hfz37_0 := blk_frozen BK220.out 0; have hfz37_1 := blk_frozen BK220.out 1; have hfz37_2 := blk_frozen BK220.out 2))
       have n0_ : Aside0 ((((w36.setCell ⟨gb220, 0, none⟩ (.int .i64 ((rd_T50 l0 x7_1).f0))).setCell ⟨gb220, 1, none⟩ (.int .u64 ((rd_T50 l0 x7_1).f1))).setCell ⟨gb220, 2, none⟩ (.int .i64 ((rd_T50 l0 x7_1).f2))).heap[gb220]? = some (.cells #[.int .i64 ((rd_T50 l0 x7_1).f0), .int .u64 ((rd_T50 l0 x7_1).f1), .int .i64 ((rd_T50 l0 x7_1).f2)] 50 (0, 0))) := ⟨by (with_reducible repeat (first | refine blk_drewN ?_ _ | refine blk_drew ?_ | refine blk_alloc ?_ _)); refine blk_put (cs := #[.int .i64 ((rd_T50 l0 x7_1).f0), .int .u64 ((rd_T50 l0 x7_1).f1), .int .i64 0]) ?_ 2 _ rfl; (with_reducible repeat (first | refine blk_drewN ?_ _ | refine blk_drew ?_ | refine blk_alloc ?_ _)); refine blk_put (cs := #[.int .i64 ((rd_T50 l0 x7_1).f0), .int .u64 0, .int .i64 0]) ?_ 1 _ rfl; (with_reducible repeat (first | refine blk_drewN ?_ _ | refine blk_drew ?_ | refine blk_alloc ?_ _)); refine blk_put (cs := #[.int .i64 0, .int .u64 0, .int .i64 0]) ?_ 0 _ rfl; (with_reducible repeat (first | refine blk_drewN ?_ _ | refine blk_drew ?_ | refine blk_alloc ?_ _)); exact BK220.out⟩
       have n1_ : Aside0 (Below w.heap.size w (((w36.setCell ⟨gb220, 0, none⟩ (.int .i64 ((rd_T50 l0 x7_1).f0))).setCell ⟨gb220, 1, none⟩ (.int .u64 ((rd_T50 l0 x7_1).f1))).setCell ⟨gb220, 2, none⟩ (.int .i64 ((rd_T50 l0 x7_1).f2)))) := ⟨by repeat (first | (with_reducible first | exact HB.out | apply below_alloc | apply pw_below_drewN | apply below_drew1 | refine below_set ?_ GE220.out) | exact HB.out)⟩
       (try clear BK220)
       (try clear HB)
       generalize (((w36.setCell ⟨gb220, 0, none⟩ (.int .i64 ((rd_T50 l0 x7_1).f0))).setCell ⟨gb220, 1, none⟩ (.int .u64 ((rd_T50 l0 x7_1).f1))).setCell ⟨gb220, 2, none⟩ (.int .i64 ((rd_T50 l0 x7_1).f2))) = w38 at n0_ n1_ ⊢
       have BK220 := n0_
       have HB := n1_
       clear n0_ n1_
       have n0_ := Aside0.mk (blk_drew BK220.out)
       have n1_ := Aside0.mk (below_drew1 HB.out)
       clear BK220
       clear HB
       have BK220 := n0_
       have HB := n1_
       clear n0_ n1_
       refine start_ (n := 22) (S := fun w' => w'.cell? ⟨gb220, 0, none⟩ = some (.int .i64 ((rd_T50 l0 x7_1).f0)) ∧ w'.cell? ⟨gb220, 1, none⟩ = some (.int .u64 ((rd_T50 l0 x7_1).f1)) ∧ w'.cell? ⟨gb220, 2, none⟩ = some (.int .i64 ((rd_T50 l0 x7_1).f2))) (ds := []) (mk_ 0 22) (by kernel_rfl) rfl rfl ⟨(blk_cell BK220.out 0).trans rfl, (blk_cell BK220.out 1).trans rfl, (blk_cell BK220.out 2).trans rfl⟩ (fun hHeld => ?_); refine with_tabW batch_Right.tab4 batch_Right.bits4 (fun HT_ HW_ => ?_)
       generalize w38.drew = w39 at BK220 HB hHeld ⊢
       refine tv_ 0 12 (mk_ 1 21) HT_ HW_ hHeld (hy := by rintro w' ⟨s0, s1, s2⟩; go_simp; with_reducible rfl) (h := ?_)
       refine one_ (i := 1) (N := some 13) (mk_ 2 20) rfl rfl (one_of HT_.out (by kernel_rfl)) (by decide) (fun K hK => ?_)
       refine goes_ Try.func48 (by kernel_rfl) rfl #[.agg #[.int .i64 ((rd_T50 l0 x7_1).f0), .int .u64 ((rd_T50 l0 x7_1).f1), .int .i64 ((rd_T50 l0 x7_1).f2)]] (by rfl) rfl rfl (by (try simp only [List.map_toArray, List.map_cons, List.map_nil]); first | done | rfl | (simp only [List.length_drop, List.length_take]; rfl)) ?_
       with_reducible refine (batch_wrong.calls k1 ((rd_T50 l0 x7_1).f0) ((rd_T50 l0 x7_1).f1) ((rd_T50 l0 x7_1).f2) t221 _ A5.out).mono ?_
       rintro e w40 ⟨rfl, hb⟩
       refine ⟨_, rfl, ?_⟩
       have n0_ := Aside0.mk (blk_below (g := gb220) (o := .cells #[.int .i64 ((rd_T50 l0 x7_1).f0), .int .u64 ((rd_T50 l0 x7_1).f1), .int .i64 ((rd_T50 l0 x7_1).f2)] 50 (0, 0)) (by (with_reducible repeat (first | refine blk_drewN ?_ _ | refine blk_drew ?_ | refine blk_alloc ?_ _)); exact BK220.out) hb)
       have n1_ := Aside0.mk (below_step (by repeat (first | (with_reducible first | exact HB.out | apply below_alloc | apply pw_below_drewN | apply below_drew1 | refine below_set ?_ GE220.out) | exact HB.out)) hb)
       clear BK220
       clear HB
       have BK220 := n0_
       have HB := n1_
       clear n0_ n1_
       (try clear hb)
       (try clear hb2)
       (try clear hk)
       (try clear hi)
       refine hK.out _ _ ⟨(blk_cell BK220.out 0).trans rfl, (blk_cell BK220.out 1).trans rfl, (blk_cell BK220.out 2).trans rfl⟩ (fun hHeld => ?_)
       clear hK K
       refine norm_ (a' := ?_) ?_ ?_
       rotate_left
       ·show Act.put _ (some 13) _ = _
        simp only [Act.put, List.setIfInBounds_toArray, List.set_cons_zero, List.set_cons_succ, i64_w, i32_w]
        rfl
       refine pv_ 2 14 (mk_ 3 19) HT_ ?_
       refine pv_ 3 15 (mk_ 4 18) HT_ ?_
       refine pu_ 4 16 (mk_ 5 17) HT_ ?_
       refine pu_ 5 17 (mk_ 6 16) HT_ ?_
       refine pu_ 6 18 (mk_ 7 15) HT_ ?_
       refine pv_ 7 19 (mk_ 8 14) HT_ ?_
       refine pv_ 8 20 (mk_ 9 13) HT_ ?_
       refine pu_ 9 21 (mk_ 10 12) HT_ ?_
       refine pu_ 10 22 (mk_ 11 11) HT_ ?_
       refine pu_ 11 23 (mk_ 12 10) HT_ ?_
       refine pu_ 12 24 (mk_ 13 9) HT_ ?_
       refine pu_ 13 25 (mk_ 14 8) HT_ ?_
       refine pu_ 14 26 (mk_ 15 7) HT_ ?_
       refine pu_ 15 27 (mk_ 16 6) HT_ ?_
       refine pu_ 16 28 (mk_ 17 5) HT_ ?_
       refine pu_ 17 29 (mk_ 18 4) HT_ ?_
       refine pu_ 18 30 (mk_ 19 3) HT_ ?_
       refine pu_ 19 31 (mk_ 20 2) HT_ ?_
       refine pu_ 20 32 (mk_ 21 1) HT_ ?_
       refine pv_ 21 33 (mk_ 22 0) HT_ ?_
       refine done_ (done_of HT_.out (by kernel_rfl)) ?_
       try go_wp2
       go_ret
       exact ⟨by first | rfl | (simp [errW_none, errW_some] <;> rfl) | (simp [*, errW_none, errW_some] <;> rfl), by repeat (first | (with_reducible first | exact HB.out | apply below_alloc | apply pw_below_drewN | apply below_drew1 | refine below_set ?_ GE220.out) | exact HB.out)⟩
     ·rw [if_neg c4] at H
      exact absurd H (by simp)
    ·rw [if_neg c3] at H
     exact absurd H (by simp)
   ·rw [if_neg c2] at H
    have c2b0 : decide (x7_1 < (l0.length : Int)) = false := decide_eq_false c2
    clear c2
    obtain rfl := Option.some.inj H
    go_wp2
    go_ret
    exact ⟨by first | rfl | (simp [errW_none, errW_some] <;> rfl) | (simp [*, errW_none, errW_some] <;> rfl), by repeat (first | (with_reducible first | exact HB.out | apply below_alloc | apply pw_below_drewN | apply below_drew1) | exact HB.out)⟩

end Go.Proofs.Ytgeldmhgbnamcaa.P
end
section
-- Printed by the session's own turn of the print (wip/tools/print2.sh): some callees are proved by hand.
namespace Go.Proofs.Ytgeldmhgbnamcaa.P
open Go.RowKit Go.Proofs.YtgeldmhgbnamcaaW.PrintWords Go.Proofs.YtgeldmhgbnamcaaW.PrintLast Go.Proofs.YtgeldmhgbnamcaaW.PrintMore
attribute [local go_sem] max2_int min2_int max_two min_two max_three min_three max_four min_four   -- for this text's walks alone
set_option linter.unusedVariables false
set_option linter.unusedSimpArgs false

/-! ### batch_Change_55: function 55 -/
def batch_Change_55.l0 : Nat → List (S50) → Int → Int → Int → Int → Int → Int → Option (Int × Bool)
 | 0, _, _, _, _, _, _, _ => none
 | k + 1, x0, x8, x9, x10, x225000, x225001, x225002 => if x9 < x10 then (if 0 ≤ (wrap64 ((IntKind.u64.wrap (wrap64 (x9 + x10))) / 2)) then (if (wrap64 ((IntKind.u64.wrap (wrap64 (x9 + x10))) / 2)) < (x0.length : Int) then ((batch_order.f k ((rd_T50 x0 (wrap64 ((IntKind.u64.wrap (wrap64 (x9 + x10))) / 2))).f0) ((rd_T50 x0 (wrap64 ((IntKind.u64.wrap (wrap64 (x9 + x10))) / 2))).f1) ((rd_T50 x0 (wrap64 ((IntKind.u64.wrap (wrap64 (x9 + x10))) / 2))).f2) x225000 x225001 x225002).bind fun t226 => (if t226 < 0 then (batch_Change_55.l0 k x0 x8 (wrap64 ((wrap64 ((IntKind.u64.wrap (wrap64 (x9 + x10))) / 2)) + 1)) x10 x225000 x225001 x225002) else (batch_Change_55.l0 k x0 x8 x9 (wrap64 ((IntKind.u64.wrap (wrap64 (x9 + x10))) / 2)) x225000 x225001 x225002))) else (none)) else (none)) else (if x9 < x8 then (if 0 ≤ x9 then (if x9 < (x0.length : Int) then ((batch_order.f k ((rd_T50 x0 x9).f0) ((rd_T50 x0 x9).f1) ((rd_T50 x0 x9).f2) x225000 x225001 x225002).bind fun t228 => (some (x9, (t228 == 0)))) else (none)) else (none)) else (some (x9, false)))
def batch_Change_55.f (k : Nat) (l0 : List (S50)) (a1_0 : Int) (a1_1 : Int) (a1_2 : Int)  : Option (Int × Bool) := batch_Change_55.l0 k l0 (l0.length : Int) 0 (l0.length : Int) a1_0 a1_1 a1_2
theorem batch_Change_55.mono_l : ∀ k, (∀ y0 y1 y2 y3 y4 y5 y6, LeO (batch_Change_55.l0 k y0 y1 y2 y3 y4 y5 y6) (batch_Change_55.l0 (k + 1) y0 y1 y2 y3 y4 y5 y6))
 | 0 => fun _ _ _ _ _ _ _ r h => by simp [batch_Change_55.l0] at h
 | k + 1 => by
  have ih0 := batch_Change_55.mono_l k
  ·intro y0 y1 y2 y3 y4 y5 y6
   unfold batch_Change_55.l0
   repeat' first
   | (with_reducible exact ih0 _ _ _ _ _ _ _)
   | (with_reducible exact batch_order.mono _ _ _ _ _ _ _)
   | (with_reducible exact LeO.refl _)
   | (with_reducible exact LeO.none _)
   | (with_reducible refine LeO.ite ?_ ?_)
   | (with_reducible refine LeO.bind ?_ (fun _ => ?_))
   | exact ih0 _ _ _ _ _ _ _
   | exact batch_order.mono _ _ _ _ _ _ _
   | exact LeO.none _
   | refine LeO.ite ?_ ?_
   | refine LeO.bind ?_ (fun _ => ?_)
theorem batch_Change_55.mono : ∀ a0 a1 a2 a3 k, LeO (batch_Change_55.f k a0 a1 a2 a3) (batch_Change_55.f (k + 1) a0 a1 a2 a3) := by
 intro a0 a1 a2 a3 k
 have ih0 := batch_Change_55.mono_l k
 unfold batch_Change_55.f
 repeat' first
   | (with_reducible exact ih0 _ _ _ _ _ _ _)
   | (with_reducible exact batch_order.mono _ _ _ _ _ _ _)
   | (with_reducible exact LeO.refl _)
   | (with_reducible exact LeO.none _)
   | (with_reducible refine LeO.ite ?_ ?_)
   | (with_reducible refine LeO.bind ?_ (fun _ => ?_))
   | exact ih0 _ _ _ _ _ _ _
   | exact batch_order.mono _ _ _ _ _ _ _
   | exact LeO.none _
   | refine LeO.ite ?_ ?_
   | refine LeO.bind ?_ (fun _ => ?_)
def batch_Change_55.T5 : Bool × List (List Nat × List Nat) := (true, [([], []), ([], []), ([], []), ([1, 2], [1, 2]), ([3], [3]), ([], []), ([0, 4, 5], [0, 4, 5]), ([6], [6])])
def batch_Change_55.B5 : List Nat := [0, 0, 0, 6, 14, 0, 63, 127]
theorem batch_Change_55.tab5 : rtab .any (opsOf Try.f55 5) = batch_Change_55.T5 := by kernel_rfl
theorem batch_Change_55.bits5 : waitsOk batch_Change_55.T5.2 batch_Change_55.B5 = true := by kernel_rfl
def batch_Change_55.T8 : Bool × List (List Nat × List Nat) := (true, [([], []), ([], []), ([], []), ([1, 2], [1, 2]), ([3], [3]), ([4], [4]), ([4], [4]), ([4], [4]), ([6, 7, 4], [4, 6, 7]), ([8, 4], [4, 8]), ([4], [4]), ([5, 9, 10, 4, 4], [4, 5, 9, 10]), ([11, 4], [4, 11]), ([4, 12], [4, 12]), ([0, 11, 0], [0]), ([13, 14, 0, 1, 2, 3, 4, 5, 6, 7, 8, 9, 10, 11, 12, 13, 14], [13])])
def batch_Change_55.B8 : List Nat := [0, 0, 0, 6, 14, 30, 30, 30, 222, 478, 30, 2046, 4094, 8190, 4095, 32767]
theorem batch_Change_55.tab8 : rtab .any (opsOf Try.f55 8) = batch_Change_55.T8 := by kernel_rfl
theorem batch_Change_55.bits8 : waitsOk batch_Change_55.T8.2 batch_Change_55.B8 = true := by kernel_rfl
set_option maxHeartbeats 8000000 in
set_option maxRecDepth 100000 in
theorem batch_Change_55.calls (k : Nat) (A0 : Option Addr) (c0 : Nat) (l0 : List (S50)) (a1_0 : Int) (a1_1 : Int) (a1_2 : Int)  (r1 : Int) (r2 : Bool) (w : World) (hr0 : Kd.C k50 w A0 l0.length l0) (hc0 : l0.length ≤ c0) (h : batch_Change_55.f k l0 a1_0 a1_1 a1_2 = some (r1, r2)) :
  Calls Try.prog 55 #[.slice A0 l0.length c0, .agg #[.int .i64 a1_0, .int .u64 a1_1, .int .i64 a1_2], .func (.func 53) #[] #[]] w fun e w' => e = .returned (.tuple #[.int .i64 r1, .bool r2]) ∧ Below w.heap.size w w' := by
 have hu50 := Try.underlying50
 have HR0 := Aside0.mk hr0
 have HC0 := Aside0.mk hc0
 clear hr0 hc0
 have HB := Aside0.mk (Below.refl w.heap.size w)
 have H : (batch_Change_55.l0 k l0 (l0.length : Int) 0 (l0.length : Int) a1_0 a1_1 a1_2) = some (r1, r2) := h
 clear h
 have H' := Aside0.mk H
 clear H
 go_enter Try.func55, Try.ntmps55
 go_wp2_with (first | ((with_reducible refine gate_dst (N := 4) rfl ?_); refine box_event ?hg (N := 4) ?hd (cs := #[.int .i64 a1_0, .int .u64 a1_1, .int .i64 a1_2]) (t := 50) ?hr ?_; (case hd => rfl); (case hg => rfl); (case hr => first | (go_simp; done) | (go_simp; rfl)); intro gb224 hg w4 hbox hb; have n0_ := Aside0.mk (below_step (by repeat (first | (with_reducible first | exact HB.out | apply below_alloc | apply pw_below_drewN | apply below_drew1) | exact HB.out)) hb); have n1_ := Aside0.mk (hbox); have n2_ := Aside0.mk ((by rw [hg]; exact (below_size (by repeat (first | (with_reducible first | exact HB.out | apply below_alloc | apply pw_below_drewN | apply below_drew1) | exact HB.out))) : w.heap.size ≤ gb224)); have n3_ := Aside0.mk ((by rw [hg]; exact (below_size (by repeat (first | (with_reducible first | exact HB.out | apply below_alloc | apply pw_below_drewN | apply below_drew1) | exact HB.out))) : w.heap.size ≤ gb224)); clear HB; have HB := n0_; have BK224 := n1_; have GW224 := n2_; have GE224 := n3_; clear n0_ n1_ n2_ n3_; clear hb hbox hg))
 go_loopg [9, 10] k (fun kq v9 v10 w' => ∃ (x9_1 : Int) (x10_1 : Int), v9 = .int .i64 x9_1 ∧ v10 = .int .i64 x10_1 ∧ Aside0 (batch_Change_55.l0 kq l0 (l0.length : Int) x9_1 x10_1 a1_0 a1_1 a1_2 = some (r1, r2)) ∧ Aside0 (kq ≤ k) ∧ Aside0 (w'.heap[gb224]? = some (.cells #[.int .i64 a1_0, .int .u64 a1_1, .int .i64 a1_2] 50 (0, 0))) ∧ Aside0 (Below w.heap.size w w'))
 case atStart => exact ⟨(0), ((l0.length : Int)), (by first | rfl | (simp; done) | (simp [*]; done)), (by first | rfl | (simp; done) | (simp [*]; done)), H', ⟨Nat.le_refl _⟩, ⟨by (with_reducible repeat (first | refine blk_drewN ?_ _ | refine blk_drew ?_ | refine blk_alloc ?_ _)); exact BK224.out⟩, ⟨by repeat (first | (with_reducible first | exact HB.out | apply below_alloc | apply pw_below_drewN | apply below_drew1 | refine below_set ?_ GE224.out) | exact HB.out)⟩⟩
 case round =>
  clear H'
  try clear p2
  obtain ⟨x9_1, x10_1, rfl, rfl, HA, HK1, BK224, HB⟩ := hrel
  cases gk with
  | zero => exact absurd HA.out (by simp [batch_Change_55.l0])
  | succ k1 =>
   have H := HA.out
   clear HA
   simp only [batch_Change_55.l0] at H
   by_cases c5 : x9_1 < x10_1
   ·rw [if_pos c5] at H
    have c5b0 : decide (x9_1 < x10_1) = true := decide_eq_true c5
    clear c5
    obtain ⟨ji6, hji6⟩ : ∃ j_ : Int, (wrap64 ((IntKind.u64.wrap (wrap64 (x9_1 + x10_1))) / 2)) = j_ := ⟨_, rfl⟩
    replace H : (if 0 ≤ (ji6) then (if (ji6) < (l0.length : Int) then ((batch_order.f k1 ((rd_T50 l0 (ji6)).f0) ((rd_T50 l0 (ji6)).f1) ((rd_T50 l0 (ji6)).f2) a1_0 a1_1 a1_2).bind fun t226 => (if t226 < 0 then (batch_Change_55.l0 k1 l0 (l0.length : Int) (wrap64 ((ji6) + 1)) x10_1 a1_0 a1_1 a1_2) else (batch_Change_55.l0 k1 l0 (l0.length : Int) x9_1 ji6 a1_0 a1_1 a1_2))) else (none)) else (none)) = some (r1, r2) := by first | (rw [hji6] at H; exact H) | (simp only [hji6] at H ⊢; exact H)
    have hji6w : (IntKind.i64.wrap ((IntKind.u64.wrap (wrap64 (x9_1 + x10_1))) / 2)) = ji6 := (i64_w _).trans hji6
    by_cases c7 : 0 ≤ (ji6)
    ·rw [if_pos c7] at H
     have c7b0 : decide (0 ≤ (ji6)) = true := decide_eq_true c7
     clear c7
     by_cases c8 : (ji6) < (l0.length : Int)
     ·rw [if_pos c8] at H
      have c8b0 : decide ((ji6) < (l0.length : Int)) = true := decide_eq_true c8
      clear c8
      replace H := Option.bind_eq_some_iff.mp H
      obtain ⟨t226, A90, H⟩ := H
      replace H : (if t226 < 0 then (batch_Change_55.l0 k1 l0 (l0.length : Int) (wrap64 ((ji6) + 1)) x10_1 a1_0 a1_1 a1_2) else (batch_Change_55.l0 k1 l0 (l0.length : Int) x9_1 ji6 a1_0 a1_1 a1_2)) = some (r1, r2) := H
      have A9 := Aside0.mk A90
      clear A90
      by_cases c10 : t226 < 0
      ·rw [if_pos c10] at H
       have c10b0 : decide (t226 < 0) = true := decide_eq_true c10
       clear c10
       have H' := Aside0.mk H
       clear H
       try go_wp2
       have n0_ := Aside0.mk (blk_drew BK224.out)
       have n1_ := Aside0.mk (below_drew1 HB.out)
       clear BK224
       clear HB
       have BK224 := n0_
       have HB := n1_
       clear n0_ n1_
       have p225 : 0 ≤ ((ji6) : Int) := of_decide_eq_true (by first | (with_reducible assumption) | assumption)
       have q225 : (ji6) < (l0.length : Int) := of_decide_eq_true (by first | (with_reducible assumption) | assumption)
       obtain ⟨ad225, e225, hx225_0, hx225_1, hx225_2⟩ := at_T50 HR0.out (ji6) p225 q225
       have hw225_2 := hx225_2
       have hw225_1 := hx225_1
       have hw225_0 := hx225_0
       cases e225
       replace hx225_0 := (HB.out.cell (World.block_lt_of_cell? w _ hx225_0)).trans hx225_0
       replace hx225_1 := (HB.out.cell (World.block_lt_of_cell? w _ hx225_1)).trans hx225_1
       replace hx225_2 := (HB.out.cell (World.block_lt_of_cell? w _ hx225_2)).trans hx225_2
       replace p225 := eq_true p225
       replace q225 := eq_true q225
       refine start_ (n := 8) (S := fun w' => w'.cell? ⟨gb224, 0, none⟩ = some (.int .i64 a1_0) ∧ w'.cell? ⟨gb224, 1, none⟩ = some (.int .u64 a1_1) ∧ w'.cell? ⟨gb224, 2, none⟩ = some (.int .i64 a1_2) ∧ w'.cell? (ad225.add (((ji6)).toNat * 3)) = some (.int .i64 ((rd_T50 l0 (ji6)).f0)) ∧ w'.cell? ⟨(ad225.add (((ji6)).toNat * 3)).block, (ad225.add (((ji6)).toNat * 3)).off + 1, none⟩ = some (.int .u64 ((rd_T50 l0 (ji6)).f1)) ∧ w'.cell? ⟨(ad225.add (((ji6)).toNat * 3)).block, (ad225.add (((ji6)).toNat * 3)).off + 2, none⟩ = some (.int .i64 ((rd_T50 l0 (ji6)).f2))) (ds := []) (mk_ 0 8) (by kernel_rfl) rfl rfl ⟨(blk_cell BK224.out 0).trans rfl, (blk_cell BK224.out 1).trans rfl, (blk_cell BK224.out 2).trans rfl, ((HB.out.cell (World.block_lt_of_cell? w _ hw225_0)).trans hw225_0), ((HB.out.cell (World.block_lt_of_cell? w _ hw225_1)).trans hw225_1), ((HB.out.cell (World.block_lt_of_cell? w _ hw225_2)).trans hw225_2)⟩ (fun hHeld => ?_); refine with_tabW batch_Change_55.tab5 batch_Change_55.bits5 (fun HT_ HW_ => ?_)
       generalize wr.drew = w11 at BK224 HB hx225_0 hx225_1 hx225_2 hHeld ⊢
       refine pv_ 0 24 (mk_ 1 7) HT_ ?_
       refine pv_ 1 25 (mk_ 2 6) HT_ ?_
       refine pv_ 2 26 (mk_ 3 5) HT_ ?_
       refine pv_ 3 27 (mk_ 4 4) HT_ ?_
       refine tv_ 4 28 (mk_ 5 3) HT_ HW_ hHeld (hy := by rintro w' ⟨s0, s1, s2, s3, s4, s5⟩; go_simp; with_reducible rfl) (h := ?_)
       refine tv_ 5 29 (mk_ 6 2) HT_ HW_ hHeld (hy := by rintro w' ⟨s0, s1, s2, s3, s4, s5⟩; go_simp; with_reducible rfl) (h := ?_)
       refine one_ (i := 6) (N := some 30) (mk_ 7 1) rfl rfl (one_of HT_.out (by kernel_rfl)) (by decide) (fun K hK => ?_)
       refine goesTT_ Try.func53 (by kernel_rfl) rfl #[.agg #[.int .i64 ((rd_T50 l0 (ji6)).f0), .int .u64 ((rd_T50 l0 (ji6)).f1), .int .i64 ((rd_T50 l0 (ji6)).f2)], .agg #[.int .i64 a1_0, .int .u64 a1_1, .int .i64 a1_2]] (by rfl) rfl rfl rfl (by (try simp only [List.map_toArray, List.map_cons, List.map_nil]); first | done | (simp only [hji6]; rfl) | rfl | (simp only [List.length_drop, List.length_take]; rfl)) ?_
       with_reducible refine (batch_order.calls k1 ((rd_T50 l0 (ji6)).f0) ((rd_T50 l0 (ji6)).f1) ((rd_T50 l0 (ji6)).f2) a1_0 a1_1 a1_2 t226 _ A9.out).mono ?_
       rintro e w12 ⟨rfl, hb⟩
       refine ⟨_, rfl, ?_⟩
       have n0_ := Aside0.mk (blk_below (g := gb224) (o := .cells #[.int .i64 a1_0, .int .u64 a1_1, .int .i64 a1_2] 50 (0, 0)) (by (with_reducible repeat (first | refine blk_drewN ?_ _ | refine blk_drew ?_ | refine blk_alloc ?_ _)); exact BK224.out) hb)
       have n1_ := Aside0.mk (below_step (by repeat (first | (with_reducible first | exact HB.out | apply below_alloc | apply pw_below_drewN | apply below_drew1 | refine below_set ?_ GE224.out) | exact HB.out)) hb)
       clear BK224
       clear HB
       have BK224 := n0_
       have HB := n1_
       clear n0_ n1_
       (try clear hb)
       (try clear hb2)
       (try clear hk)
       (try clear hi)
       refine hK.out _ _ ⟨(blk_cell BK224.out 0).trans rfl, (blk_cell BK224.out 1).trans rfl, (blk_cell BK224.out 2).trans rfl, ((HB.out.cell (World.block_lt_of_cell? w _ hw225_0)).trans hw225_0), ((HB.out.cell (World.block_lt_of_cell? w _ hw225_1)).trans hw225_1), ((HB.out.cell (World.block_lt_of_cell? w _ hw225_2)).trans hw225_2)⟩ (fun hHeld => ?_)
       clear hK K
       refine norm_ (a' := ?_) ?_ ?_
       rotate_left
       ·show Act.put _ (some 30) _ = _
        simp only [Act.put, List.setIfInBounds_toArray, List.set_cons_zero, List.set_cons_succ, i64_w, i32_w]
        rfl
       refine pv_ 7 31 (mk_ 8 0) HT_ ?_
       refine done_ (done_of HT_.out (by kernel_rfl)) ?_
       try go_wp2
       go_roundg k1
       case measure => have := HK1.out; omega
       case rel => exact ⟨(wrap64 ((ji6) + 1)), (x10_1), (by first | rfl | (simp; done) | (simp only [← hji6] <;> (first | rfl | simp)) | (simp [*]; done)), (by first | rfl | (simp; done) | (simp [*]; done)), H', ⟨by have := HK1.out; omega⟩, ⟨by (with_reducible repeat (first | refine blk_drewN ?_ _ | refine blk_drew ?_ | refine blk_alloc ?_ _)); exact BK224.out⟩, ⟨by repeat (first | (with_reducible first | exact HB.out | apply below_alloc | apply pw_below_drewN | apply below_drew1 | refine below_set ?_ GE224.out) | exact HB.out)⟩⟩
      ·rw [if_neg c10] at H
       have c10b0 : decide (t226 < 0) = false := decide_eq_false c10
       clear c10
       have H' := Aside0.mk H
       clear H
       try go_wp2
       have n0_ := Aside0.mk (blk_drew BK224.out)
       have n1_ := Aside0.mk (below_drew1 HB.out)
       clear BK224
       clear HB
       have BK224 := n0_
       have HB := n1_
       clear n0_ n1_
       have p225 : 0 ≤ ((ji6) : Int) := of_decide_eq_true (by first | (with_reducible assumption) | assumption)
       have q225 : (ji6) < (l0.length : Int) := of_decide_eq_true (by first | (with_reducible assumption) | assumption)
       obtain ⟨ad225, e225, hx225_0, hx225_1, hx225_2⟩ := at_T50 HR0.out (ji6) p225 q225
       have hw225_2 := hx225_2
       have hw225_1 := hx225_1
       have hw225_0 := hx225_0
       cases e225
       replace hx225_0 := (HB.out.cell (World.block_lt_of_cell? w _ hx225_0)).trans hx225_0
       replace hx225_1 := (HB.out.cell (World.block_lt_of_cell? w _ hx225_1)).trans hx225_1
       replace hx225_2 := (HB.out.cell (World.block_lt_of_cell? w _ hx225_2)).trans hx225_2
       replace p225 := eq_true p225
       replace q225 := eq_true q225
       refine start_ (n := 8) (S := fun w' => w'.cell? ⟨gb224, 0, none⟩ = some (.int .i64 a1_0) ∧ w'.cell? ⟨gb224, 1, none⟩ = some (.int .u64 a1_1) ∧ w'.cell? ⟨gb224, 2, none⟩ = some (.int .i64 a1_2) ∧ w'.cell? (ad225.add (((ji6)).toNat * 3)) = some (.int .i64 ((rd_T50 l0 (ji6)).f0)) ∧ w'.cell? ⟨(ad225.add (((ji6)).toNat * 3)).block, (ad225.add (((ji6)).toNat * 3)).off + 1, none⟩ = some (.int .u64 ((rd_T50 l0 (ji6)).f1)) ∧ w'.cell? ⟨(ad225.add (((ji6)).toNat * 3)).block, (ad225.add (((ji6)).toNat * 3)).off + 2, none⟩ = some (.int .i64 ((rd_T50 l0 (ji6)).f2))) (ds := []) (mk_ 0 8) (by kernel_rfl) rfl rfl ⟨(blk_cell BK224.out 0).trans rfl, (blk_cell BK224.out 1).trans rfl, (blk_cell BK224.out 2).trans rfl, ((HB.out.cell (World.block_lt_of_cell? w _ hw225_0)).trans hw225_0), ((HB.out.cell (World.block_lt_of_cell? w _ hw225_1)).trans hw225_1), ((HB.out.cell (World.block_lt_of_cell? w _ hw225_2)).trans hw225_2)⟩ (fun hHeld => ?_); refine with_tabW batch_Change_55.tab5 batch_Change_55.bits5 (fun HT_ HW_ => ?_)
       generalize wr.drew = w13 at BK224 HB hx225_0 hx225_1 hx225_2 hHeld ⊢
       refine pv_ 0 24 (mk_ 1 7) HT_ ?_
       refine pv_ 1 25 (mk_ 2 6) HT_ ?_
       refine pv_ 2 26 (mk_ 3 5) HT_ ?_
       refine pv_ 3 27 (mk_ 4 4) HT_ ?_
       refine tv_ 4 28 (mk_ 5 3) HT_ HW_ hHeld (hy := by rintro w' ⟨s0, s1, s2, s3, s4, s5⟩; go_simp; with_reducible rfl) (h := ?_)
       refine tv_ 5 29 (mk_ 6 2) HT_ HW_ hHeld (hy := by rintro w' ⟨s0, s1, s2, s3, s4, s5⟩; go_simp; with_reducible rfl) (h := ?_)
       refine one_ (i := 6) (N := some 30) (mk_ 7 1) rfl rfl (one_of HT_.out (by kernel_rfl)) (by decide) (fun K hK => ?_)
       refine goesTT_ Try.func53 (by kernel_rfl) rfl #[.agg #[.int .i64 ((rd_T50 l0 (ji6)).f0), .int .u64 ((rd_T50 l0 (ji6)).f1), .int .i64 ((rd_T50 l0 (ji6)).f2)], .agg #[.int .i64 a1_0, .int .u64 a1_1, .int .i64 a1_2]] (by rfl) rfl rfl rfl (by (try simp only [List.map_toArray, List.map_cons, List.map_nil]); first | done | (simp only [hji6]; rfl) | rfl | (simp only [List.length_drop, List.length_take]; rfl)) ?_
       with_reducible refine (batch_order.calls k1 ((rd_T50 l0 (ji6)).f0) ((rd_T50 l0 (ji6)).f1) ((rd_T50 l0 (ji6)).f2) a1_0 a1_1 a1_2 t226 _ A9.out).mono ?_
       rintro e w14 ⟨rfl, hb⟩
       refine ⟨_, rfl, ?_⟩
       have n0_ := Aside0.mk (blk_below (g := gb224) (o := .cells #[.int .i64 a1_0, .int .u64 a1_1, .int .i64 a1_2] 50 (0, 0)) (by (with_reducible repeat (first | refine blk_drewN ?_ _ | refine blk_drew ?_ | refine blk_alloc ?_ _)); exact BK224.out) hb)
       have n1_ := Aside0.mk (below_step (by repeat (first | (with_reducible first | exact HB.out | apply below_alloc | apply pw_below_drewN | apply below_drew1 | refine below_set ?_ GE224.out) | exact HB.out)) hb)
       clear BK224
       clear HB
       have BK224 := n0_
       have HB := n1_
       clear n0_ n1_
       (try clear hb)
       (try clear hb2)
       (try clear hk)
       (try clear hi)
       refine hK.out _ _ ⟨(blk_cell BK224.out 0).trans rfl, (blk_cell BK224.out 1).trans rfl, (blk_cell BK224.out 2).trans rfl, ((HB.out.cell (World.block_lt_of_cell? w _ hw225_0)).trans hw225_0), ((HB.out.cell (World.block_lt_of_cell? w _ hw225_1)).trans hw225_1), ((HB.out.cell (World.block_lt_of_cell? w _ hw225_2)).trans hw225_2)⟩ (fun hHeld => ?_)
       clear hK K
       refine norm_ (a' := ?_) ?_ ?_
       rotate_left
       ·show Act.put _ (some 30) _ = _
        simp only [Act.put, List.setIfInBounds_toArray, List.set_cons_zero, List.set_cons_succ, i64_w, i32_w]
        rfl
       refine pv_ 7 31 (mk_ 8 0) HT_ ?_
       refine done_ (done_of HT_.out (by kernel_rfl)) ?_
       try go_wp2
       go_roundg k1
       case measure => have := HK1.out; omega
       case rel => exact ⟨(x9_1), (ji6), (by first | rfl | (simp; done) | (simp [*]; done)), (by first | rfl | (simp; done) | (simp only [← hji6] <;> (first | rfl | simp)) | (simp [*]; done)), H', ⟨by have := HK1.out; omega⟩, ⟨by (with_reducible repeat (first | refine blk_drewN ?_ _ | refine blk_drew ?_ | refine blk_alloc ?_ _)); exact BK224.out⟩, ⟨by repeat (first | (with_reducible first | exact HB.out | apply below_alloc | apply pw_below_drewN | apply below_drew1 | refine below_set ?_ GE224.out) | exact HB.out)⟩⟩
     ·rw [if_neg c8] at H
      exact absurd H (by simp)
    ·rw [if_neg c7] at H
     exact absurd H (by simp)
   ·rw [if_neg c5] at H
    have c5b0 : decide (x9_1 < x10_1) = false := decide_eq_false c5
    clear c5
    by_cases c15 : x9_1 < (l0.length : Int)
    ·rw [if_pos c15] at H
     have c15b0 : decide (x9_1 < (l0.length : Int)) = true := decide_eq_true c15
     clear c15
     by_cases c16 : 0 ≤ x9_1
     ·rw [if_pos c16] at H
      have c16b0 : decide (0 ≤ x9_1) = true := decide_eq_true c16
      clear c16
      by_cases c17 : x9_1 < (l0.length : Int)
      ·rw [if_pos c17] at H
       have c17b0 : decide (x9_1 < (l0.length : Int)) = true := decide_eq_true c17
       clear c17
       replace H := Option.bind_eq_some_iff.mp H
       obtain ⟨t228, A180, H⟩ := H
       replace H : (some (x9_1, (t228 == 0))) = some (r1, r2) := H
       have A18 := Aside0.mk A180
       clear A180
       simp only [Option.some.injEq, Prod.mk.injEq] at H
       obtain ⟨rfl, rfl⟩ := H
       try go_wp2
       have n0_ := Aside0.mk (blk_drew BK224.out)
       have n1_ := Aside0.mk (below_drew1 HB.out)
       clear BK224
       clear HB
       have BK224 := n0_
       have HB := n1_
       clear n0_ n1_
       have p227 : 0 ≤ (x9_1 : Int) := of_decide_eq_true (by first | (with_reducible assumption) | assumption)
       have q227 : x9_1 < (l0.length : Int) := of_decide_eq_true (by first | (with_reducible assumption) | assumption)
       obtain ⟨ad227, e227, hx227_0, hx227_1, hx227_2⟩ := at_T50 HR0.out x9_1 p227 q227
       have hw227_2 := hx227_2
       have hw227_1 := hx227_1
       have hw227_0 := hx227_0
       cases e227
       replace hx227_0 := (HB.out.cell (World.block_lt_of_cell? w _ hx227_0)).trans hx227_0
       replace hx227_1 := (HB.out.cell (World.block_lt_of_cell? w _ hx227_1)).trans hx227_1
       replace hx227_2 := (HB.out.cell (World.block_lt_of_cell? w _ hx227_2)).trans hx227_2
       replace p227 := eq_true p227
       replace q227 := eq_true q227
       refine start_ (n := 16) (S := fun w' => w'.cell? ⟨gb224, 0, none⟩ = some (.int .i64 a1_0) ∧ w'.cell? ⟨gb224, 1, none⟩ = some (.int .u64 a1_1) ∧ w'.cell? ⟨gb224, 2, none⟩ = some (.int .i64 a1_2) ∧ w'.cell? (ad227.add ((x9_1).toNat * 3)) = some (.int .i64 ((rd_T50 l0 x9_1).f0)) ∧ w'.cell? ⟨(ad227.add ((x9_1).toNat * 3)).block, (ad227.add ((x9_1).toNat * 3)).off + 1, none⟩ = some (.int .u64 ((rd_T50 l0 x9_1).f1)) ∧ w'.cell? ⟨(ad227.add ((x9_1).toNat * 3)).block, (ad227.add ((x9_1).toNat * 3)).off + 2, none⟩ = some (.int .i64 ((rd_T50 l0 x9_1).f2))) (ds := []) (mk_ 0 16) (by kernel_rfl) rfl rfl ⟨(blk_cell BK224.out 0).trans rfl, (blk_cell BK224.out 1).trans rfl, (blk_cell BK224.out 2).trans rfl, ((HB.out.cell (World.block_lt_of_cell? w _ hw227_0)).trans hw227_0), ((HB.out.cell (World.block_lt_of_cell? w _ hw227_1)).trans hw227_1), ((HB.out.cell (World.block_lt_of_cell? w _ hw227_2)).trans hw227_2)⟩ (fun hHeld => ?_); refine with_tabW batch_Change_55.tab8 batch_Change_55.bits8 (fun HT_ HW_ => ?_)
       generalize wr.drew = w19 at BK224 HB hx227_0 hx227_1 hx227_2 hHeld ⊢
       refine pv_ 0 35 (mk_ 1 15) HT_ ?_
       refine pv_ 1 36 (mk_ 2 14) HT_ ?_
       refine pv_ 2 37 (mk_ 3 13) HT_ ?_
       refine pv_ 3 38 (mk_ 4 12) HT_ ?_
       refine pv_ 4 39 (mk_ 5 11) HT_ ?_
       refine pv_ 5 40 (mk_ 6 10) HT_ ?_
       refine pv_ 6 41 (mk_ 7 9) HT_ ?_
       refine pv_ 7 42 (mk_ 8 8) HT_ ?_
       refine pv_ 8 43 (mk_ 9 7) HT_ ?_
       refine tv_ 9 44 (mk_ 10 6) HT_ HW_ hHeld (hy := by rintro w' ⟨s0, s1, s2, s3, s4, s5⟩; go_simp; with_reducible rfl) (h := ?_)
       refine tv_ 10 45 (mk_ 11 5) HT_ HW_ hHeld (hy := by rintro w' ⟨s0, s1, s2, s3, s4, s5⟩; go_simp; with_reducible rfl) (h := ?_)
       refine one_ (i := 11) (N := some 46) (mk_ 12 4) rfl rfl (one_of HT_.out (by kernel_rfl)) (by decide) (fun K hK => ?_)
       refine goesTT_ Try.func53 (by kernel_rfl) rfl #[.agg #[.int .i64 ((rd_T50 l0 x9_1).f0), .int .u64 ((rd_T50 l0 x9_1).f1), .int .i64 ((rd_T50 l0 x9_1).f2)], .agg #[.int .i64 a1_0, .int .u64 a1_1, .int .i64 a1_2]] (by rfl) rfl rfl rfl (by (try simp only [List.map_toArray, List.map_cons, List.map_nil]); first | done | rfl | (simp only [List.length_drop, List.length_take]; rfl)) ?_
       with_reducible refine (batch_order.calls k1 ((rd_T50 l0 x9_1).f0) ((rd_T50 l0 x9_1).f1) ((rd_T50 l0 x9_1).f2) a1_0 a1_1 a1_2 t228 _ A18.out).mono ?_
       rintro e w20 ⟨rfl, hb⟩
       refine ⟨_, rfl, ?_⟩
       have n0_ := Aside0.mk (blk_below (g := gb224) (o := .cells #[.int .i64 a1_0, .int .u64 a1_1, .int .i64 a1_2] 50 (0, 0)) (by (with_reducible repeat (first | refine blk_drewN ?_ _ | refine blk_drew ?_ | refine blk_alloc ?_ _)); exact BK224.out) hb)
       have n1_ := Aside0.mk (below_step (by repeat (first | (with_reducible first | exact HB.out | apply below_alloc | apply pw_below_drewN | apply below_drew1 | refine below_set ?_ GE224.out) | exact HB.out)) hb)
       clear BK224
       clear HB
       have BK224 := n0_
       have HB := n1_
       clear n0_ n1_
       (try clear hb)
       (try clear hb2)
       (try clear hk)
       (try clear hi)
       refine hK.out _ _ ⟨(blk_cell BK224.out 0).trans rfl, (blk_cell BK224.out 1).trans rfl, (blk_cell BK224.out 2).trans rfl, ((HB.out.cell (World.block_lt_of_cell? w _ hw227_0)).trans hw227_0), ((HB.out.cell (World.block_lt_of_cell? w _ hw227_1)).trans hw227_1), ((HB.out.cell (World.block_lt_of_cell? w _ hw227_2)).trans hw227_2)⟩ (fun hHeld => ?_)
       clear hK K
       refine norm_ (a' := ?_) ?_ ?_
       rotate_left
       ·show Act.put _ (some 46) _ = _
        simp only [Act.put, List.setIfInBounds_toArray, List.set_cons_zero, List.set_cons_succ, i64_w, i32_w]
        rfl
       refine pv_ 12 47 (mk_ 13 3) HT_ ?_
       refine pv_ 13 48 (mk_ 14 2) HT_ ?_
       refine pv_ 14 6 (mk_ 15 1) HT_ ?_
       refine pv_ 15 7 (mk_ 16 0) HT_ ?_
       refine done_ (done_of HT_.out (by kernel_rfl)) ?_
       try go_wp2
       go_ret2
       exact ⟨by first | rfl | (simp [errW_none, errW_some] <;> rfl) | (simp [*, errW_none, errW_some] <;> rfl), by repeat (first | (with_reducible first | exact HB.out | apply below_alloc | apply pw_below_drewN | apply below_drew1 | refine below_set ?_ GE224.out) | exact HB.out)⟩
      ·rw [if_neg c17] at H
       exact absurd H (by simp)
     ·rw [if_neg c16] at H
      exact absurd H (by simp)
    ·rw [if_neg c15] at H
     have c15b0 : decide (x9_1 < (l0.length : Int)) = false := decide_eq_false c15
     clear c15
     simp only [Option.some.injEq, Prod.mk.injEq] at H
     obtain ⟨rfl, rfl⟩ := H
     try go_wp2
     have n0_ := Aside0.mk (blk_drew BK224.out)
     have n1_ := Aside0.mk (below_drew1 HB.out)
     clear BK224
     clear HB
     have BK224 := n0_
     have HB := n1_
     clear n0_ n1_
     refine start_ (n := 16) (S := fun w' => True) (ds := []) (mk_ 0 16) (by kernel_rfl) rfl rfl trivial (fun hHeld => ?_); refine with_tabW batch_Change_55.tab8 batch_Change_55.bits8 (fun HT_ HW_ => ?_)
     generalize wr.drew = w21 at BK224 HB hHeld ⊢
     refine pv_ 0 35 (mk_ 1 15) HT_ ?_
     refine pv_ 1 36 (mk_ 2 14) HT_ ?_
     refine pv_ 2 37 (mk_ 3 13) HT_ ?_
     refine pv_ 3 38 (mk_ 4 12) HT_ ?_
     refine pv_ 4 39 (mk_ 5 11) HT_ ?_
     refine pu_ 5 40 (mk_ 6 10) HT_ ?_
     refine pu_ 6 41 (mk_ 7 9) HT_ ?_
     refine pu_ 7 42 (mk_ 8 8) HT_ ?_
     refine pu_ 8 43 (mk_ 9 7) HT_ ?_
     refine pu_ 9 44 (mk_ 10 6) HT_ ?_
     refine pu_ 10 45 (mk_ 11 5) HT_ ?_
     refine pu_ 11 46 (mk_ 12 4) HT_ ?_
     refine pu_ 12 47 (mk_ 13 3) HT_ ?_
     refine pv_ 13 48 (mk_ 14 2) HT_ ?_
     refine pv_ 14 6 (mk_ 15 1) HT_ ?_
     refine pv_ 15 7 (mk_ 16 0) HT_ ?_
     refine done_ (done_of HT_.out (by kernel_rfl)) ?_
     try go_wp2
     go_ret2
     exact ⟨by first | rfl | (simp [errW_none, errW_some] <;> rfl) | (simp [*, errW_none, errW_some] <;> rfl), by repeat (first | (with_reducible first | exact HB.out | apply below_alloc | apply pw_below_drewN | apply below_drew1 | refine below_set ?_ GE224.out) | exact HB.out)⟩

end Go.Proofs.Ytgeldmhgbnamcaa.P
end
section
-- Printed by the session's own turn of the print (wip/tools/print2.sh): some callees are proved by hand.
namespace Go.Proofs.Ytgeldmhgbnamcaa.P
open Go.RowKit Go.Proofs.YtgeldmhgbnamcaaW.PrintWords Go.Proofs.YtgeldmhgbnamcaaW.PrintLast Go.Proofs.YtgeldmhgbnamcaaW.PrintMore
attribute [local go_sem] max2_int min2_int max_two min_two max_three min_three max_four min_four   -- for this text's walks alone
set_option linter.unusedVariables false
set_option linter.unusedSimpArgs false

/-! ### batch_Of: function 23 -/
def batch_Of.f (k : Nat) (l0 : List (S50)) (a1 : Int) (a2 : Int) : Option (Int) := (batch_Change_55.f k l0 a1 a2 0).bind fun bt229 => (if bt229.2 = true then (if 0 ≤ bt229.1 then (if bt229.1 < (l0.length : Int) then (some ((rd_T50 l0 bt229.1).f2)) else (none)) else (none)) else (some 0))
theorem batch_Of.mono : ∀ a0 a1 a2 k, LeO (batch_Of.f k a0 a1 a2) (batch_Of.f (k + 1) a0 a1 a2) := by
 intro a0 a1 a2 k
 unfold batch_Of.f
 repeat' first
   | (with_reducible exact batch_Change_55.mono _ _ _ _ _)
   | (with_reducible exact LeO.refl _)
   | (with_reducible exact LeO.none _)
   | (with_reducible refine LeO.ite ?_ ?_)
   | (with_reducible refine LeO.bind ?_ (fun _ => ?_))
   | exact batch_Change_55.mono _ _ _ _ _
   | exact LeO.none _
   | refine LeO.ite ?_ ?_
   | refine LeO.bind ?_ (fun _ => ?_)
set_option maxHeartbeats 8000000 in
set_option maxRecDepth 100000 in
theorem batch_Of.calls (k : Nat) (A0 : Option Addr) (c0 : Nat) (l0 : List (S50)) (a1 : Int) (a2 : Int) (r : Int) (w : World) (hr0 : Kd.C k50 w A0 l0.length l0) (hc0 : l0.length ≤ c0) (h : batch_Of.f k l0 a1 a2 = some r) :
  Calls Try.prog 23 #[.slice A0 l0.length c0, .int .i64 a1, .int .u64 a2] w fun e w' => e = .returned (.int .i64 r) ∧ Below w.heap.size w w' := by
 have hu50 := Try.underlying50
 have HR0 := Aside0.mk hr0
 have HC0 := Aside0.mk hc0
 clear hr0 hc0
 have HB := Aside0.mk (Below.refl w.heap.size w)
 have H : ((batch_Change_55.f k l0 a1 a2 0).bind fun bt229 => (if bt229.2 = true then (if 0 ≤ bt229.1 then (if bt229.1 < (l0.length : Int) then (some ((rd_T50 l0 bt229.1).f2)) else (none)) else (none)) else (some 0))) = some r := h
 clear h
 replace H := Option.bind_eq_some_iff.mp H
 obtain ⟨⟨t229, t230⟩, A40, H⟩ := H
 replace H : (if t230 = true then (if 0 ≤ t229 then (if t229 < (l0.length : Int) then (some ((rd_T50 l0 t229).f2)) else (none)) else (none)) else (some 0)) = some r := H
 have A4 := Aside0.mk A40
 clear A40
 by_cases c5 : t230 = true
 ·subst c5
  have H1 : (if 0 ≤ t229 then (if t229 < (l0.length : Int) then (some ((rd_T50 l0 t229).f2)) else (none)) else (none)) = some r := by rw [if_pos rfl] at H; exact H
  clear H
  have H := H1
  clear H1
  by_cases c6 : 0 ≤ t229
  ·rw [if_pos c6] at H
   have c6b0 : decide (0 ≤ t229) = true := decide_eq_true c6
   clear c6
   by_cases c7 : t229 < (l0.length : Int)
   ·rw [if_pos c7] at H
    have c7b0 : decide (t229 < (l0.length : Int)) = true := decide_eq_true c7
    clear c7
    obtain rfl := Option.some.inj H
    go_enter Try.func23, Try.ntmps23
    go_wp2_with (first | ((with_reducible refine gate_callee (f := 55) rfl ?_); refine goesL_ (some 14) rfl rfl Try.func55 (by kernel_rfl) rfl #[.slice A0 l0.length c0, .agg #[.int .i64 a1, .int .u64 a2, .int .i64 0], .func (.func 53) #[] #[]] rfl (by (try simp only [List.map_toArray, List.map_cons, List.map_nil]); first | done | rfl | (simp only [List.length_drop, List.length_take]; rfl)) ?_; (with_reducible refine (batch_Change_55.calls k _ _ l0 a1 a2 0  t229 true _ ?side1 ?side2 A4.out).mono ?_); (case side1 => repeat (first | exact HR0.out | (with_reducible refine Kd.C_alloc ?_ _) | (with_reducible refine Kd.C_drewN ?_ _) | (with_reducible refine Kd.C_drew ?_))); (case side2 => exact HC0.out); rintro e w8 ⟨rfl, hb⟩; refine ⟨_, rfl, ?_⟩; have n0_ := Aside0.mk (below_step (by repeat (first | (with_reducible first | exact HB.out | apply below_alloc | apply pw_below_drewN | apply below_drew1) | exact HB.out)) hb); clear HB; have HB := n0_; clear n0_; (try clear hb); (try clear hb2); (try clear hk); (try clear hi); have p231 : 0 ≤ (t229 : Int) := of_decide_eq_true (by first | (with_reducible assumption) | assumption); have q231 : t229 < (l0.length : Int) := of_decide_eq_true (by first | (with_reducible assumption) | assumption); obtain ⟨ad231, e231, hx231_0, hx231_1, hx231_2⟩ := at_T50 HR0.out t229 p231 q231; cases e231; replace hx231_0 := (HB.out.cell (World.block_lt_of_cell? w _ hx231_0)).trans hx231_0; replace hx231_1 := (HB.out.cell (World.block_lt_of_cell? w _ hx231_1)).trans hx231_1; replace hx231_2 := (HB.out.cell (World.block_lt_of_cell? w _ hx231_2)).trans hx231_2; replace p231 := eq_true p231; replace q231 := eq_true q231))
    go_ret
    exact ⟨by first | rfl | (simp [errW_none, errW_some] <;> rfl) | (simp [*, errW_none, errW_some] <;> rfl), by repeat (first | (with_reducible first | exact HB.out | apply below_alloc | apply pw_below_drewN | apply below_drew1) | exact HB.out)⟩
   ·rw [if_neg c7] at H
    exact absurd H (by simp)
  ·rw [if_neg c6] at H
   exact absurd H (by simp)
 ·replace c5 := Bool.eq_false_iff.mpr c5
  subst c5
  have H1 : (some 0) = some r := by rw [if_neg (show ¬ (false = true) by decide)] at H; exact H
  clear H
  have H := H1
  clear H1
  obtain rfl := Option.some.inj H
  go_enter Try.func23, Try.ntmps23
  go_wp2_with (first | ((with_reducible refine gate_callee (f := 55) rfl ?_); refine goesL_ (some 14) rfl rfl Try.func55 (by kernel_rfl) rfl #[.slice A0 l0.length c0, .agg #[.int .i64 a1, .int .u64 a2, .int .i64 0], .func (.func 53) #[] #[]] rfl (by (try simp only [List.map_toArray, List.map_cons, List.map_nil]); first | done | rfl | (simp only [List.length_drop, List.length_take]; rfl)) ?_; (with_reducible refine (batch_Change_55.calls k _ _ l0 a1 a2 0  t229 false _ ?side1 ?side2 A4.out).mono ?_); (case side1 => repeat (first | exact HR0.out | (with_reducible refine Kd.C_alloc ?_ _) | (with_reducible refine Kd.C_drewN ?_ _) | (with_reducible refine Kd.C_drew ?_))); (case side2 => exact HC0.out); rintro e w9 ⟨rfl, hb⟩; refine ⟨_, rfl, ?_⟩; have n0_ := Aside0.mk (below_step (by repeat (first | (with_reducible first | exact HB.out | apply below_alloc | apply pw_below_drewN | apply below_drew1) | exact HB.out)) hb); clear HB; have HB := n0_; clear n0_; (try clear hb); (try clear hb2); (try clear hk); (try clear hi)))
  go_ret
  exact ⟨by first | rfl | (simp [errW_none, errW_some] <;> rfl) | (simp [*, errW_none, errW_some] <;> rfl), by repeat (first | (with_reducible first | exact HB.out | apply below_alloc | apply pw_below_drewN | apply below_drew1) | exact HB.out)⟩

end Go.Proofs.Ytgeldmhgbnamcaa.P
end
section
-- Printed by the session's own turn of the print (wip/tools/print2.sh): some callees are proved by hand.
namespace Go.Proofs.Ytgeldmhgbnamcaa.P
open Go.RowKit Go.Proofs.YtgeldmhgbnamcaaW.PrintWords Go.Proofs.YtgeldmhgbnamcaaW.PrintLast Go.Proofs.YtgeldmhgbnamcaaW.PrintMore
attribute [local go_sem] max2_int min2_int max_two min_two max_three min_three max_four min_four   -- for this text's walks alone
set_option linter.unusedVariables false
set_option linter.unusedSimpArgs false

/-! ### marchlandlaw03_told: function 17 -/
def marchlandlaw03_told.f (k : Nat)  : Option (Bool) := (batch_Pack.f k (([(⟨1, 5, 2⟩ : S50), (⟨0, 7, 1⟩ : S50), (⟨1, 5, (-2)⟩ : S50)] : List (S50)))).bind fun bt235 => ((batch_Pack.f k (([(⟨64, 0, 0⟩ : S50)] : List (S50)))).bind fun bt242 => (if bt235.2 = 0 then (if (bt235.1.length : Int) = 1 then (if 0 < (bt235.1.length : Int) then (if ((rd_T50 bt235.1 0).f1) = 7 then (if bt242.2 = 2 then ((batch_Of.f k bt235.1 0 7).bind fun t247 => (if t247 = 1 then ((batch_Right.f k bt235.1).bind fun t248 => (some t248)) else (some false))) else (some false)) else (some false)) else (none)) else (some false)) else (some false)))
theorem marchlandlaw03_told.mono : ∀ k, LeO (marchlandlaw03_told.f k ) (marchlandlaw03_told.f (k + 1) ) := by
 intro  k
 unfold marchlandlaw03_told.f
 repeat' first
   | (with_reducible exact batch_Of.mono _ _ _ _)
   | (with_reducible exact batch_Pack.mono _ _)
   | (with_reducible exact batch_Right.mono _ _)
   | (with_reducible exact LeO.refl _)
   | (with_reducible exact LeO.none _)
   | (with_reducible refine LeO.ite ?_ ?_)
   | (with_reducible refine LeO.bind ?_ (fun _ => ?_))
   | exact batch_Of.mono _ _ _ _
   | exact batch_Pack.mono _ _
   | exact batch_Right.mono _ _
   | exact LeO.none _
   | refine LeO.ite ?_ ?_
   | refine LeO.bind ?_ (fun _ => ?_)
set_option maxHeartbeats 8000000 in
set_option maxRecDepth 100000 in
theorem marchlandlaw03_told.calls (k : Nat)  (r : Bool) (w : World) (h : marchlandlaw03_told.f k  = some r) :
  Calls Try.prog 17 #[] w fun e w' => e = .returned (.bool r) ∧ Below w.heap.size w w' := by
 have hu50 := Try.underlying50
 have HB := Aside0.mk (Below.refl w.heap.size w)
 have H : ((batch_Pack.f k (([(⟨1, 5, 2⟩ : S50), (⟨0, 7, 1⟩ : S50), (⟨1, 5, (-2)⟩ : S50)] : List (S50)))).bind fun bt235 => ((batch_Pack.f k (([(⟨64, 0, 0⟩ : S50)] : List (S50)))).bind fun bt242 => (if bt235.2 = 0 then (if (bt235.1.length : Int) = 1 then (if 0 < (bt235.1.length : Int) then (if ((rd_T50 bt235.1 0).f1) = 7 then (if bt242.2 = 2 then ((batch_Of.f k bt235.1 0 7).bind fun t247 => (if t247 = 1 then ((batch_Right.f k bt235.1).bind fun t248 => (some t248)) else (some false))) else (some false)) else (some false)) else (none)) else (some false)) else (some false)))) = some r := h
 clear h
 obtain ⟨y232, hy232⟩ : ∃ y_ : List (S50), y_ = (([(⟨1, 5, 2⟩ : S50), (⟨0, 7, 1⟩ : S50), (⟨1, 5, (-2)⟩ : S50)] : List (S50))) := ⟨_, rfl⟩
 replace H : ((batch_Pack.f k y232).bind fun bt235 => ((batch_Pack.f k (([(⟨64, 0, 0⟩ : S50)] : List (S50)))).bind fun bt242 => (if bt235.2 = 0 then (if (bt235.1.length : Int) = 1 then (if 0 < (bt235.1.length : Int) then (if ((rd_T50 bt235.1 0).f1) = 7 then (if bt242.2 = 2 then ((batch_Of.f k bt235.1 0 7).bind fun t247 => (if t247 = 1 then ((batch_Right.f k bt235.1).bind fun t248 => (some t248)) else (some false))) else (some false)) else (some false)) else (none)) else (some false)) else (some false)))) = some r := by first | (rw [hy232]; with_reducible exact H) | (have H2_ := (Option.bind_some _ _).symm.trans H; rw [hy232]; with_reducible exact H2_) | (have H2_ := (Option.bind_some _ _).symm.trans H; with_reducible exact H2_) | with_reducible exact H | (rw [hy232]; exact H) | exact H
 have Ny232 := Aside0.mk hy232
 clear hy232
 replace H := Option.bind_eq_some_iff.mp H
 obtain ⟨⟨t235, t236⟩, A10, H⟩ := H
 replace H : ((batch_Pack.f k (([(⟨64, 0, 0⟩ : S50)] : List (S50)))).bind fun bt242 => (if t236 = 0 then (if (t235.length : Int) = 1 then (if 0 < (t235.length : Int) then (if ((rd_T50 t235 0).f1) = 7 then (if bt242.2 = 2 then ((batch_Of.f k t235 0 7).bind fun t247 => (if t247 = 1 then ((batch_Right.f k t235).bind fun t248 => (some t248)) else (some false))) else (some false)) else (some false)) else (none)) else (some false)) else (some false))) = some r := H
 have A1 := Aside0.mk A10
 clear A10
 obtain ⟨y239, hy239⟩ : ∃ y_ : List (S50), y_ = (([(⟨64, 0, 0⟩ : S50)] : List (S50))) := ⟨_, rfl⟩
 replace H : ((batch_Pack.f k y239).bind fun bt242 => (if t236 = 0 then (if (t235.length : Int) = 1 then (if 0 < (t235.length : Int) then (if ((rd_T50 t235 0).f1) = 7 then (if bt242.2 = 2 then ((batch_Of.f k t235 0 7).bind fun t247 => (if t247 = 1 then ((batch_Right.f k t235).bind fun t248 => (some t248)) else (some false))) else (some false)) else (some false)) else (none)) else (some false)) else (some false))) = some r := by first | (rw [hy239]; with_reducible exact H) | (have H2_ := (Option.bind_some _ _).symm.trans H; rw [hy239]; with_reducible exact H2_) | (have H2_ := (Option.bind_some _ _).symm.trans H; with_reducible exact H2_) | with_reducible exact H | (rw [hy239]; exact H) | exact H
 have Ny239 := Aside0.mk hy239
 clear hy239
 replace H := Option.bind_eq_some_iff.mp H
 obtain ⟨⟨t242, t243⟩, A20, H⟩ := H
 replace H : (if t236 = 0 then (if (t235.length : Int) = 1 then (if 0 < (t235.length : Int) then (if ((rd_T50 t235 0).f1) = 7 then (if t243 = 2 then ((batch_Of.f k t235 0 7).bind fun t247 => (if t247 = 1 then ((batch_Right.f k t235).bind fun t248 => (some t248)) else (some false))) else (some false)) else (some false)) else (none)) else (some false)) else (some false)) = some r := H
 have A2 := Aside0.mk A20
 clear A20
 by_cases c3 : t236 = 0
 ·rw [if_pos c3] at H
  have c3b0 : (t236 == 0) = true := beq_iff_eq.mpr c3
  have c3b1 : (t236 != 0) = false := bne_eq_false_iff_eq.mpr c3
  clear c3
  by_cases c4 : (t235.length : Int) = 1
  ·rw [if_pos c4] at H
   have c4b0 : ((t235.length : Int) == 1) = true := beq_iff_eq.mpr c4
   have c4b1 : ((t235.length : Int) != 1) = false := bne_eq_false_iff_eq.mpr c4
   clear c4
   by_cases c5 : 0 < (t235.length : Int)
   ·rw [if_pos c5] at H
    have c5b0 : decide (0 < (t235.length : Int)) = true := decide_eq_true c5
    have c5b1 : decide (0 < t235.length) = true := decide_eq_true (by omega)
    clear c5
    by_cases c6 : ((rd_T50 t235 0).f1) = 7
    ·rw [if_pos c6] at H
     have c6b0 : (((rd_T50 t235 0).f1) == 7) = true := beq_iff_eq.mpr c6
     have c6b1 : (((rd_T50 t235 0).f1) != 7) = false := bne_eq_false_iff_eq.mpr c6
     clear c6
     by_cases c7 : t243 = 2
     ·rw [if_pos c7] at H
      have c7b0 : (t243 == 2) = true := beq_iff_eq.mpr c7
      have c7b1 : (t243 != 2) = false := bne_eq_false_iff_eq.mpr c7
      clear c7
      replace H := Option.bind_eq_some_iff.mp H
      obtain ⟨t247, A80, H⟩ := H
      replace H : (if t247 = 1 then ((batch_Right.f k t235).bind fun t248 => (some t248)) else (some false)) = some r := H
      have A8 := Aside0.mk A80
      clear A80
      by_cases c9 : t247 = 1
      ·rw [if_pos c9] at H
       have c9b0 : (t247 == 1) = true := beq_iff_eq.mpr c9
       have c9b1 : (t247 != 1) = false := bne_eq_false_iff_eq.mpr c9
       clear c9
       replace H := Option.bind_eq_some_iff.mp H
       obtain ⟨t248, A100, H⟩ := H
       replace H : (some t248) = some r := H
       have A10 := Aside0.mk A100
       clear A100
       obtain rfl := Option.some.inj H
       go_enter Try.func17, Try.ntmps17
       go_wp2_with (first | ((with_reducible refine gate_dst (N := 9) rfl ?_); (try (refine gate_guard (by rfl) ?_; dsimp only)); refine Kd.R_lit k50 _ 50 ?hg (N := 9) ?hd (xs := ([(⟨1, 5, 2⟩ : S50), (⟨0, 7, 1⟩ : S50), (⟨1, 5, (-2)⟩ : S50)] : List (S50))) (inner := [.int .i64 1, .int .u64 5, .int .i64 2, .int .i64 0, .int .u64 7, .int .i64 1, .int .i64 1, .int .u64 5, .int .i64 (-2)]) (ok := fun _ => True) (okp := fun _ => True) ?hr ?hp (fun _ hk => hk) trivial (Below.refl _ _) (Nat.le_refl _) (by simp) ?_; (case hd => rfl); (case hg => rfl); (case hr => first | (go_simp; done) | (go_simp; rfl)); (case hp => exact (Reps.c3 (show Kd.M k50 _ _ _ (⟨1, 5, 2⟩ : S50) [.int .i64 1, .int .u64 5, .int .i64 2] from (k50_mkM _ _ _ (⟨1, 5, 2⟩ : S50) )) (Reps.c3 (show Kd.M k50 _ _ _ (⟨0, 7, 1⟩ : S50) [.int .i64 0, .int .u64 7, .int .i64 1] from (k50_mkM _ _ _ (⟨0, 7, 1⟩ : S50) )) (Reps.c3 (show Kd.M k50 _ _ _ (⟨1, 5, (-2)⟩ : S50) [.int .i64 1, .int .u64 5, .int .i64 (-2)] from (k50_mkM _ _ _ (⟨1, 5, (-2)⟩ : S50) )) (Reps.none _ _))))); intro v233 w11 ho12 hb hg_ hnew_; clear hg_ hnew_; (first | rw [← Ny232.out] at ho12 | (simp only [Int.reduceToNat] at ho12; rw [← Ny232.out] at ho12)); have n0_ := Aside0.mk (Kd.R_lower ho12 (below_size (by repeat (first | (with_reducible first | exact HB.out | apply below_alloc | apply pw_below_drewN | apply below_drew1) | exact HB.out)))); have n1_ := Aside0.mk (below_step (by repeat (first | (with_reducible first | exact HB.out | apply below_alloc | apply pw_below_drewN | apply below_drew1) | exact HB.out)) hb); clear HB; have HO234 := n0_; have HB := n1_; clear n0_ n1_; clear hb ho12; obtain ⟨Ao13, co13, eo13⟩ := Kd.R_slice HO234.out; subst eo13) | ((with_reducible refine gate_callee (f := 15) rfl ?_); refine goesL_ (some 10) rfl rfl Try.func15 (by kernel_rfl) rfl #[.slice Ao13 y232.length co13] rfl (by (try simp only [List.map_toArray, List.map_cons, List.map_nil]); first | done | rfl | (simp only [List.length_drop, List.length_take]; rfl)) ?_; (with_reducible refine (batch_Pack.calls k _ _ y232 t235 t236 _ ?side1 ?side2 A1.out).mono ?_); (case side1 => repeat (first | exact (Kd.R_reads' HO234.out).2.2 | (with_reducible refine Kd.C_alloc ?_ _) | (with_reducible refine Kd.C_drewN ?_ _) | (with_reducible refine Kd.C_drew ?_))); (case side2 => exact (Kd.R_reads' HO234.out).2.1); rintro e w14 ⟨v237, rfl, ho0, hb⟩; refine ⟨_, rfl, ?_⟩; have n0_ := Aside0.mk (Kd.R_elder' (by (with_reducible repeat (first | apply Kd.R_alloc | apply Kd.R_drewN | apply Kd.R_drew)); exact HO234.out) (Kd.R_base ho0) hb); have n1_ := Aside0.mk (Kd.R_lower (Kd.R_new' ho0 (Kd.R_lt (by (with_reducible repeat (first | apply Kd.R_alloc | apply Kd.R_drewN | apply Kd.R_drew)); exact HO234.out))) (below_size (by repeat (first | (with_reducible first | exact HB.out | apply below_alloc | apply pw_below_drewN | apply below_drew1) | exact HB.out)))); have n2_ := Aside0.mk (below_step (by repeat (first | (with_reducible first | exact HB.out | apply below_alloc | apply pw_below_drewN | apply below_drew1) | exact HB.out)) hb); clear HO234; clear HB; have HO234 := n0_; have HO238 := n1_; have HB := n2_; clear n0_ n1_ n2_; (try clear hb); (try clear hb2); (try clear hk); (try clear hi); (try clear ho0)) | ((with_reducible refine gate_dst (N := 15) rfl ?_); (try (refine gate_guard (by rfl) ?_; dsimp only)); refine Kd.R_lit k50 _ 50 ?hg (N := 15) ?hd (xs := ([(⟨64, 0, 0⟩ : S50)] : List (S50))) (inner := [.int .i64 64, .int .u64 0, .int .i64 0]) (ok := fun _ => True) (okp := fun _ => True) ?hr ?hp (fun _ hk => hk) trivial (Below.refl _ _) (Nat.le_refl _) (by simp) ?_; (case hd => rfl); (case hg => rfl); (case hr => first | (go_simp; done) | (go_simp; rfl)); (case hp => exact (Reps.c3 (show Kd.M k50 _ _ _ (⟨64, 0, 0⟩ : S50) [.int .i64 64, .int .u64 0, .int .i64 0] from (k50_mkM _ _ _ (⟨64, 0, 0⟩ : S50) )) (Reps.none _ _))); intro v240 w15 ho16 hb hg_ hnew_; clear hg_ hnew_; (first | rw [← Ny239.out] at ho16 | (simp only [Int.reduceToNat] at ho16; rw [← Ny239.out] at ho16)); have n0_ := Aside0.mk (Kd.R_elder' (by (with_reducible repeat (first | apply Kd.R_alloc | apply Kd.R_drewN | apply Kd.R_drew)); exact HO234.out) (Kd.R_base ho16) hb); have n1_ := Aside0.mk (Kd.R_elder' (by (with_reducible repeat (first | apply Kd.R_alloc | apply Kd.R_drewN | apply Kd.R_drew)); exact HO238.out) (Kd.R_base ho16) hb); have n2_ := Aside0.mk (Kd.R_lower (Kd.R_new' (Kd.R_new' ho16 (Kd.R_lt (by (with_reducible repeat (first | apply Kd.R_alloc | apply Kd.R_drewN | apply Kd.R_drew)); exact HO234.out))) (Kd.R_lt (by (with_reducible repeat (first | apply Kd.R_alloc | apply Kd.R_drewN | apply Kd.R_drew)); exact HO238.out))) (below_size (by repeat (first | (with_reducible first | exact HB.out | apply below_alloc | apply pw_below_drewN | apply below_drew1) | exact HB.out)))); have n3_ := Aside0.mk (below_step (by repeat (first | (with_reducible first | exact HB.out | apply below_alloc | apply pw_below_drewN | apply below_drew1) | exact HB.out)) hb); clear HO234; clear HO238; clear HB; have HO234 := n0_; have HO238 := n1_; have HO241 := n2_; have HB := n3_; clear n0_ n1_ n2_ n3_; clear hb ho16; obtain ⟨Ao17, co17, eo17⟩ := Kd.R_slice HO241.out; subst eo17) | ((with_reducible refine gate_callee (f := 15) rfl ?_); refine goesL_ (some 16) rfl rfl Try.func15 (by kernel_rfl) rfl #[.slice Ao17 y239.length co17] rfl (by (try simp only [List.map_toArray, List.map_cons, List.map_nil]); first | done | rfl | (simp only [List.length_drop, List.length_take]; rfl)) ?_; (with_reducible refine (batch_Pack.calls k _ _ y239 t242 t243 _ ?side1 ?side2 A2.out).mono ?_); (case side1 => repeat (first | exact (Kd.R_reads' HO241.out).2.2 | (with_reducible refine Kd.C_alloc ?_ _) | (with_reducible refine Kd.C_drewN ?_ _) | (with_reducible refine Kd.C_drew ?_))); (case side2 => exact (Kd.R_reads' HO241.out).2.1); rintro e w18 ⟨v244, rfl, ho0, hb⟩; refine ⟨_, rfl, ?_⟩; have n0_ := Aside0.mk (Kd.R_elder' (by (with_reducible repeat (first | apply Kd.R_alloc | apply Kd.R_drewN | apply Kd.R_drew)); exact HO234.out) (Kd.R_base ho0) hb); have n1_ := Aside0.mk (Kd.R_elder' (by (with_reducible repeat (first | apply Kd.R_alloc | apply Kd.R_drewN | apply Kd.R_drew)); exact HO238.out) (Kd.R_base ho0) hb); have n2_ := Aside0.mk (Kd.R_elder' (by (with_reducible repeat (first | apply Kd.R_alloc | apply Kd.R_drewN | apply Kd.R_drew)); exact HO241.out) (Kd.R_base ho0) hb); have n3_ := Aside0.mk (Kd.R_lower (Kd.R_new' (Kd.R_new' (Kd.R_new' ho0 (Kd.R_lt (by (with_reducible repeat (first | apply Kd.R_alloc | apply Kd.R_drewN | apply Kd.R_drew)); exact HO234.out))) (Kd.R_lt (by (with_reducible repeat (first | apply Kd.R_alloc | apply Kd.R_drewN | apply Kd.R_drew)); exact HO238.out))) (Kd.R_lt (by (with_reducible repeat (first | apply Kd.R_alloc | apply Kd.R_drewN | apply Kd.R_drew)); exact HO241.out))) (below_size (by repeat (first | (with_reducible first | exact HB.out | apply below_alloc | apply pw_below_drewN | apply below_drew1) | exact HB.out)))); have n4_ := Aside0.mk (below_step (by repeat (first | (with_reducible first | exact HB.out | apply below_alloc | apply pw_below_drewN | apply below_drew1) | exact HB.out)) hb); clear HO234; clear HO238; clear HO241; clear HB; have HO234 := n0_; have HO238 := n1_; have HO241 := n2_; have HO245 := n3_; have HB := n4_; clear n0_ n1_ n2_ n3_ n4_; (try clear hb); (try clear hb2); (try clear hk); (try clear hi); (try clear ho0); obtain ⟨Ao19, co19, eo19⟩ := Kd.R_slice HO238.out; subst eo19; have p246 : 0 ≤ (0 : Int) := (by omega); have q246 : 0 < (t235.length : Int) := of_decide_eq_true (by first | (with_reducible assumption) | assumption); obtain ⟨ad246, e246, hx246_0, hx246_1, hx246_2⟩ := at_T50 (Kd.R_reads' HO238.out).2.2 0 p246 q246; cases e246; have qi246 : (0 < t235.length) = True := eq_true (by omega); (try rw [show ((0 : Int)).toNat = 0 from rfl] at hx246_0); (try rw [show 0 * 3 = 0 from rfl] at hx246_0); (try rw [Addr.add_zero'] at hx246_0); (try rw [show ((0 : Int)).toNat = 0 from rfl] at hx246_1); (try rw [show 0 * 3 = 0 from rfl] at hx246_1); (try rw [Addr.add_zero'] at hx246_1); (try rw [show ((0 : Int)).toNat = 0 from rfl] at hx246_2); (try rw [show 0 * 3 = 0 from rfl] at hx246_2); (try rw [Addr.add_zero'] at hx246_2); replace p246 := eq_true p246; replace q246 := eq_true q246) | (go_at_call 23; (with_reducible refine (batch_Of.calls k _ _ t235 0 7 t247 _ ?side1 ?side2 A8.out).mono ?_); (case side1 => repeat (first | exact (Kd.R_reads' HO238.out).2.2 | (with_reducible refine Kd.C_alloc ?_ _) | (with_reducible refine Kd.C_drewN ?_ _) | (with_reducible refine Kd.C_drew ?_))); (case side2 => exact (Kd.R_reads' HO238.out).2.1); rintro e w20 ⟨rfl, hb⟩; have n0_ := Aside0.mk (Kd.R_below (by (with_reducible repeat (first | apply Kd.R_alloc | apply Kd.R_drewN | apply Kd.R_drew)); exact HO234.out) hb); have n1_ := Aside0.mk (Kd.R_below (by (with_reducible repeat (first | apply Kd.R_alloc | apply Kd.R_drewN | apply Kd.R_drew)); exact HO238.out) hb); have n2_ := Aside0.mk (Kd.R_below (by (with_reducible repeat (first | apply Kd.R_alloc | apply Kd.R_drewN | apply Kd.R_drew)); exact HO241.out) hb); have n3_ := Aside0.mk (Kd.R_below (by (with_reducible repeat (first | apply Kd.R_alloc | apply Kd.R_drewN | apply Kd.R_drew)); exact HO245.out) hb); have n4_ := Aside0.mk (below_step (by repeat (first | (with_reducible first | exact HB.out | apply below_alloc | apply pw_below_drewN | apply below_drew1) | exact HB.out)) hb); clear HO234; clear HO238; clear HO241; clear HO245; clear HB; have HO234 := n0_; have HO238 := n1_; have HO241 := n2_; have HO245 := n3_; have HB := n4_; clear n0_ n1_ n2_ n3_ n4_; (try clear hb); (try clear hb2); (try clear hk); (try clear hi)) | (go_at_call 20; (with_reducible refine (batch_Right.calls k _ _ t235 t248 _ ?side1 ?side2 A10.out).mono ?_); (case side1 => repeat (first | exact (Kd.R_reads' HO238.out).2.2 | (with_reducible refine Kd.C_alloc ?_ _) | (with_reducible refine Kd.C_drewN ?_ _) | (with_reducible refine Kd.C_drew ?_))); (case side2 => exact (Kd.R_reads' HO238.out).2.1); rintro e w21 ⟨rfl, hb⟩; have n0_ := Aside0.mk (Kd.R_below (by (with_reducible repeat (first | apply Kd.R_alloc | apply Kd.R_drewN | apply Kd.R_drew)); exact HO234.out) hb); have n1_ := Aside0.mk (Kd.R_below (by (with_reducible repeat (first | apply Kd.R_alloc | apply Kd.R_drewN | apply Kd.R_drew)); exact HO238.out) hb); have n2_ := Aside0.mk (Kd.R_below (by (with_reducible repeat (first | apply Kd.R_alloc | apply Kd.R_drewN | apply Kd.R_drew)); exact HO241.out) hb); have n3_ := Aside0.mk (Kd.R_below (by (with_reducible repeat (first | apply Kd.R_alloc | apply Kd.R_drewN | apply Kd.R_drew)); exact HO245.out) hb); have n4_ := Aside0.mk (below_step (by repeat (first | (with_reducible first | exact HB.out | apply below_alloc | apply pw_below_drewN | apply below_drew1) | exact HB.out)) hb); clear HO234; clear HO238; clear HO241; clear HO245; clear HB; have HO234 := n0_; have HO238 := n1_; have HO241 := n2_; have HO245 := n3_; have HB := n4_; clear n0_ n1_ n2_ n3_ n4_; (try clear hb); (try clear hb2); (try clear hk); (try clear hi)))
       go_ret
       exact ⟨by first | rfl | (simp [errW_none, errW_some] <;> rfl) | (simp [*, errW_none, errW_some] <;> rfl), by repeat (first | (with_reducible first | exact HB.out | apply below_alloc | apply pw_below_drewN | apply below_drew1) | exact HB.out)⟩
      ·rw [if_neg c9] at H
       have c9b0 : (t247 == 1) = false := beq_eq_false_iff_ne.mpr c9
       have c9b1 : (t247 != 1) = true := bne_iff_ne.mpr c9
       obtain rfl := Option.some.inj H
       go_enter Try.func17, Try.ntmps17
       go_wp2_with (first | ((with_reducible refine gate_dst (N := 9) rfl ?_); (try (refine gate_guard (by rfl) ?_; dsimp only)); refine Kd.R_lit k50 _ 50 ?hg (N := 9) ?hd (xs := ([(⟨1, 5, 2⟩ : S50), (⟨0, 7, 1⟩ : S50), (⟨1, 5, (-2)⟩ : S50)] : List (S50))) (inner := [.int .i64 1, .int .u64 5, .int .i64 2, .int .i64 0, .int .u64 7, .int .i64 1, .int .i64 1, .int .u64 5, .int .i64 (-2)]) (ok := fun _ => True) (okp := fun _ => True) ?hr ?hp (fun _ hk => hk) trivial (Below.refl _ _) (Nat.le_refl _) (by simp) ?_; (case hd => rfl); (case hg => rfl); (case hr => first | (go_simp; done) | (go_simp; rfl)); (case hp => exact (Reps.c3 (show Kd.M k50 _ _ _ (⟨1, 5, 2⟩ : S50) [.int .i64 1, .int .u64 5, .int .i64 2] from (k50_mkM _ _ _ (⟨1, 5, 2⟩ : S50) )) (Reps.c3 (show Kd.M k50 _ _ _ (⟨0, 7, 1⟩ : S50) [.int .i64 0, .int .u64 7, .int .i64 1] from (k50_mkM _ _ _ (⟨0, 7, 1⟩ : S50) )) (Reps.c3 (show Kd.M k50 _ _ _ (⟨1, 5, (-2)⟩ : S50) [.int .i64 1, .int .u64 5, .int .i64 (-2)] from (k50_mkM _ _ _ (⟨1, 5, (-2)⟩ : S50) )) (Reps.none _ _))))); intro v233 w22 ho23 hb hg_ hnew_; clear hg_ hnew_; (first | rw [← Ny232.out] at ho23 | (simp only [Int.reduceToNat] at ho23; rw [← Ny232.out] at ho23)); have n0_ := Aside0.mk (Kd.R_lower ho23 (below_size (by repeat (first | (with_reducible first | exact HB.out | apply below_alloc | apply pw_below_drewN | apply below_drew1) | exact HB.out)))); have n1_ := Aside0.mk (below_step (by repeat (first | (with_reducible first | exact HB.out | apply below_alloc | apply pw_below_drewN | apply below_drew1) | exact HB.out)) hb); clear HB; have HO234 := n0_; have HB := n1_; clear n0_ n1_; clear hb ho23; obtain ⟨Ao24, co24, eo24⟩ := Kd.R_slice HO234.out; subst eo24) | ((with_reducible refine gate_callee (f := 15) rfl ?_); refine goesL_ (some 10) rfl rfl Try.func15 (by kernel_rfl) rfl #[.slice Ao24 y232.length co24] rfl (by (try simp only [List.map_toArray, List.map_cons, List.map_nil]); first | done | rfl | (simp only [List.length_drop, List.length_take]; rfl)) ?_; (with_reducible refine (batch_Pack.calls k _ _ y232 t235 t236 _ ?side1 ?side2 A1.out).mono ?_); (case side1 => repeat (first | exact (Kd.R_reads' HO234.out).2.2 | (with_reducible refine Kd.C_alloc ?_ _) | (with_reducible refine Kd.C_drewN ?_ _) | (with_reducible refine Kd.C_drew ?_))); (case side2 => exact (Kd.R_reads' HO234.out).2.1); rintro e w25 ⟨v237, rfl, ho0, hb⟩; refine ⟨_, rfl, ?_⟩; have n0_ := Aside0.mk (Kd.R_elder' (by (with_reducible repeat (first | apply Kd.R_alloc | apply Kd.R_drewN | apply Kd.R_drew)); exact HO234.out) (Kd.R_base ho0) hb); have n1_ := Aside0.mk (Kd.R_lower (Kd.R_new' ho0 (Kd.R_lt (by (with_reducible repeat (first | apply Kd.R_alloc | apply Kd.R_drewN | apply Kd.R_drew)); exact HO234.out))) (below_size (by repeat (first | (with_reducible first | exact HB.out | apply below_alloc | apply pw_below_drewN | apply below_drew1) | exact HB.out)))); have n2_ := Aside0.mk (below_step (by repeat (first | (with_reducible first | exact HB.out | apply below_alloc | apply pw_below_drewN | apply below_drew1) | exact HB.out)) hb); clear HO234; clear HB; have HO234 := n0_; have HO238 := n1_; have HB := n2_; clear n0_ n1_ n2_; (try clear hb); (try clear hb2); (try clear hk); (try clear hi); (try clear ho0)) | ((with_reducible refine gate_dst (N := 15) rfl ?_); (try (refine gate_guard (by rfl) ?_; dsimp only)); refine Kd.R_lit k50 _ 50 ?hg (N := 15) ?hd (xs := ([(⟨64, 0, 0⟩ : S50)] : List (S50))) (inner := [.int .i64 64, .int .u64 0, .int .i64 0]) (ok := fun _ => True) (okp := fun _ => True) ?hr ?hp (fun _ hk => hk) trivial (Below.refl _ _) (Nat.le_refl _) (by simp) ?_; (case hd => rfl); (case hg => rfl); (case hr => first | (go_simp; done) | (go_simp; rfl)); (case hp => exact (Reps.c3 (show Kd.M k50 _ _ _ (⟨64, 0, 0⟩ : S50) [.int .i64 64, .int .u64 0, .int .i64 0] from (k50_mkM _ _ _ (⟨64, 0, 0⟩ : S50) )) (Reps.none _ _))); intro v240 w26 ho27 hb hg_ hnew_; clear hg_ hnew_; (first | rw [← Ny239.out] at ho27 | (simp only [Int.reduceToNat] at ho27; rw [← Ny239.out] at ho27)); have n0_ := Aside0.mk (Kd.R_elder' (by (with_reducible repeat (first | apply Kd.R_alloc | apply Kd.R_drewN | apply Kd.R_drew)); exact HO234.out) (Kd.R_base ho27) hb); have n1_ := Aside0.mk (Kd.R_elder' (by (with_reducible repeat (first | apply Kd.R_alloc | apply Kd.R_drewN | apply Kd.R_drew)); exact HO238.out) (Kd.R_base ho27) hb); have n2_ := Aside0.mk (Kd.R_lower (Kd.R_new' (Kd.R_new' ho27 (Kd.R_lt (by (with_reducible repeat (first | apply Kd.R_alloc | apply Kd.R_drewN | apply Kd.R_drew)); exact HO234.out))) (Kd.R_lt (by (with_reducible repeat (first | apply Kd.R_alloc | apply Kd.R_drewN | apply Kd.R_drew)); exact HO238.out))) (below_size (by repeat (first | (with_reducible first | exact HB.out | apply below_alloc | apply pw_below_drewN | apply below_drew1) | exact HB.out)))); have n3_ := Aside0.mk (below_step (by repeat (first | (with_reducible first | exact HB.out | apply below_alloc | apply pw_below_drewN | apply below_drew1) | exact HB.out)) hb); clear HO234; clear HO238; clear HB; have HO234 := n0_; have HO238 := n1_; have HO241 := n2_; have HB := n3_; clear n0_ n1_ n2_ n3_; clear hb ho27; obtain ⟨Ao28, co28, eo28⟩ := Kd.R_slice HO241.out; subst eo28) | ((with_reducible refine gate_callee (f := 15) rfl ?_); refine goesL_ (some 16) rfl rfl Try.func15 (by kernel_rfl) rfl #[.slice Ao28 y239.length co28] rfl (by (try simp only [List.map_toArray, List.map_cons, List.map_nil]); first | done | rfl | (simp only [List.length_drop, List.length_take]; rfl)) ?_; (with_reducible refine (batch_Pack.calls k _ _ y239 t242 t243 _ ?side1 ?side2 A2.out).mono ?_); (case side1 => repeat (first | exact (Kd.R_reads' HO241.out).2.2 | (with_reducible refine Kd.C_alloc ?_ _) | (with_reducible refine Kd.C_drewN ?_ _) | (with_reducible refine Kd.C_drew ?_))); (case side2 => exact (Kd.R_reads' HO241.out).2.1); rintro e w29 ⟨v244, rfl, ho0, hb⟩; refine ⟨_, rfl, ?_⟩; have n0_ := Aside0.mk (Kd.R_elder' (by (with_reducible repeat (first | apply Kd.R_alloc | apply Kd.R_drewN | apply Kd.R_drew)); exact HO234.out) (Kd.R_base ho0) hb); have n1_ := Aside0.mk (Kd.R_elder' (by (with_reducible repeat (first | apply Kd.R_alloc | apply Kd.R_drewN | apply Kd.R_drew)); exact HO238.out) (Kd.R_base ho0) hb); have n2_ := Aside0.mk (Kd.R_elder' (by (with_reducible repeat (first | apply Kd.R_alloc | apply Kd.R_drewN | apply Kd.R_drew)); exact HO241.out) (Kd.R_base ho0) hb); have n3_ := Aside0.mk (Kd.R_lower (Kd.R_new' (Kd.R_new' (Kd.R_new' ho0 (Kd.R_lt (by (with_reducible repeat (first | apply Kd.R_alloc | apply Kd.R_drewN | apply Kd.R_drew)); exact HO234.out))) (Kd.R_lt (by (with_reducible repeat (first | apply Kd.R_alloc | apply Kd.R_drewN | apply Kd.R_drew)); exact HO238.out))) (Kd.R_lt (by (with_reducible repeat (first | apply Kd.R_alloc | apply Kd.R_drewN | apply Kd.R_drew)); exact HO241.out))) (below_size (by repeat (first | (with_reducible first | exact HB.out | apply below_alloc | apply pw_below_drewN | apply below_drew1) | exact HB.out)))); have n4_ := Aside0.mk (below_step (by repeat (first | (with_reducible first | exact HB.out | apply below_alloc | apply pw_below_drewN | apply below_drew1) | exact HB.out)) hb); clear HO234; clear HO238; clear HO241; clear HB; have HO234 := n0_; have HO238 := n1_; have HO241 := n2_; have HO245 := n3_; have HB := n4_; clear n0_ n1_ n2_ n3_ n4_; (try clear hb); (try clear hb2); (try clear hk); (try clear hi); (try clear ho0); obtain ⟨Ao30, co30, eo30⟩ := Kd.R_slice HO238.out; subst eo30; have p246 : 0 ≤ (0 : Int) := (by omega); have q246 : 0 < (t235.length : Int) := of_decide_eq_true (by first | (with_reducible assumption) | assumption); obtain ⟨ad246, e246, hx246_0, hx246_1, hx246_2⟩ := at_T50 (Kd.R_reads' HO238.out).2.2 0 p246 q246; cases e246; have qi246 : (0 < t235.length) = True := eq_true (by omega); (try rw [show ((0 : Int)).toNat = 0 from rfl] at hx246_0); (try rw [show 0 * 3 = 0 from rfl] at hx246_0); (try rw [Addr.add_zero'] at hx246_0); (try rw [show ((0 : Int)).toNat = 0 from rfl] at hx246_1); (try rw [show 0 * 3 = 0 from rfl] at hx246_1); (try rw [Addr.add_zero'] at hx246_1); (try rw [show ((0 : Int)).toNat = 0 from rfl] at hx246_2); (try rw [show 0 * 3 = 0 from rfl] at hx246_2); (try rw [Addr.add_zero'] at hx246_2); replace p246 := eq_true p246; replace q246 := eq_true q246) | (go_at_call 23; (with_reducible refine (batch_Of.calls k _ _ t235 0 7 t247 _ ?side1 ?side2 A8.out).mono ?_); (case side1 => repeat (first | exact (Kd.R_reads' HO238.out).2.2 | (with_reducible refine Kd.C_alloc ?_ _) | (with_reducible refine Kd.C_drewN ?_ _) | (with_reducible refine Kd.C_drew ?_))); (case side2 => exact (Kd.R_reads' HO238.out).2.1); rintro e w31 ⟨rfl, hb⟩; have n0_ := Aside0.mk (Kd.R_below (by (with_reducible repeat (first | apply Kd.R_alloc | apply Kd.R_drewN | apply Kd.R_drew)); exact HO234.out) hb); have n1_ := Aside0.mk (Kd.R_below (by (with_reducible repeat (first | apply Kd.R_alloc | apply Kd.R_drewN | apply Kd.R_drew)); exact HO238.out) hb); have n2_ := Aside0.mk (Kd.R_below (by (with_reducible repeat (first | apply Kd.R_alloc | apply Kd.R_drewN | apply Kd.R_drew)); exact HO241.out) hb); have n3_ := Aside0.mk (Kd.R_below (by (with_reducible repeat (first | apply Kd.R_alloc | apply Kd.R_drewN | apply Kd.R_drew)); exact HO245.out) hb); have n4_ := Aside0.mk (below_step (by repeat (first | (with_reducible first | exact HB.out | apply below_alloc | apply pw_below_drewN | apply below_drew1) | exact HB.out)) hb); clear HO234; clear HO238; clear HO241; clear HO245; clear HB; have HO234 := n0_; have HO238 := n1_; have HO241 := n2_; have HO245 := n3_; have HB := n4_; clear n0_ n1_ n2_ n3_ n4_; (try clear hb); (try clear hb2); (try clear hk); (try clear hi)))
       go_ret
       exact ⟨by first | rfl | (simp [errW_none, errW_some] <;> rfl) | (simp [*, errW_none, errW_some] <;> rfl), by repeat (first | (with_reducible first | exact HB.out | apply below_alloc | apply pw_below_drewN | apply below_drew1) | exact HB.out)⟩
     ·rw [if_neg c7] at H
      have c7b0 : (t243 == 2) = false := beq_eq_false_iff_ne.mpr c7
      have c7b1 : (t243 != 2) = true := bne_iff_ne.mpr c7
      obtain rfl := Option.some.inj H
      go_enter Try.func17, Try.ntmps17
      go_wp2_with (first | ((with_reducible refine gate_dst (N := 9) rfl ?_); (try (refine gate_guard (by rfl) ?_; dsimp only)); refine Kd.R_lit k50 _ 50 ?hg (N := 9) ?hd (xs := ([(⟨1, 5, 2⟩ : S50), (⟨0, 7, 1⟩ : S50), (⟨1, 5, (-2)⟩ : S50)] : List (S50))) (inner := [.int .i64 1, .int .u64 5, .int .i64 2, .int .i64 0, .int .u64 7, .int .i64 1, .int .i64 1, .int .u64 5, .int .i64 (-2)]) (ok := fun _ => True) (okp := fun _ => True) ?hr ?hp (fun _ hk => hk) trivial (Below.refl _ _) (Nat.le_refl _) (by simp) ?_; (case hd => rfl); (case hg => rfl); (case hr => first | (go_simp; done) | (go_simp; rfl)); (case hp => exact (Reps.c3 (show Kd.M k50 _ _ _ (⟨1, 5, 2⟩ : S50) [.int .i64 1, .int .u64 5, .int .i64 2] from (k50_mkM _ _ _ (⟨1, 5, 2⟩ : S50) )) (Reps.c3 (show Kd.M k50 _ _ _ (⟨0, 7, 1⟩ : S50) [.int .i64 0, .int .u64 7, .int .i64 1] from (k50_mkM _ _ _ (⟨0, 7, 1⟩ : S50) )) (Reps.c3 (show Kd.M k50 _ _ _ (⟨1, 5, (-2)⟩ : S50) [.int .i64 1, .int .u64 5, .int .i64 (-2)] from (k50_mkM _ _ _ (⟨1, 5, (-2)⟩ : S50) )) (Reps.none _ _))))); intro v233 w32 ho33 hb hg_ hnew_; clear hg_ hnew_; (first | rw [← Ny232.out] at ho33 | (simp only [Int.reduceToNat] at ho33; rw [← Ny232.out] at ho33)); have n0_ := Aside0.mk (Kd.R_lower ho33 (below_size (by repeat (first | (with_reducible first | exact HB.out | apply below_alloc | apply pw_below_drewN | apply below_drew1) | exact HB.out)))); have n1_ := Aside0.mk (below_step (by repeat (first | (with_reducible first | exact HB.out | apply below_alloc | apply pw_below_drewN | apply below_drew1) | exact HB.out)) hb); clear HB; have HO234 := n0_; have HB := n1_; clear n0_ n1_; clear hb ho33; obtain ⟨Ao34, co34, eo34⟩ := Kd.R_slice HO234.out; subst eo34) | ((with_reducible refine gate_callee (f := 15) rfl ?_); refine goesL_ (some 10) rfl rfl Try.func15 (by kernel_rfl) rfl #[.slice Ao34 y232.length co34] rfl (by (try simp only [List.map_toArray, List.map_cons, List.map_nil]); first | done | rfl | (simp only [List.length_drop, List.length_take]; rfl)) ?_; (with_reducible refine (batch_Pack.calls k _ _ y232 t235 t236 _ ?side1 ?side2 A1.out).mono ?_); (case side1 => repeat (first | exact (Kd.R_reads' HO234.out).2.2 | (with_reducible refine Kd.C_alloc ?_ _) | (with_reducible refine Kd.C_drewN ?_ _) | (with_reducible refine Kd.C_drew ?_))); (case side2 => exact (Kd.R_reads' HO234.out).2.1); rintro e w35 ⟨v237, rfl, ho0, hb⟩; refine ⟨_, rfl, ?_⟩; have n0_ := Aside0.mk (Kd.R_elder' (by (with_reducible repeat (first | apply Kd.R_alloc | apply Kd.R_drewN | apply Kd.R_drew)); exact HO234.out) (Kd.R_base ho0) hb); have n1_ := Aside0.mk (Kd.R_lower (Kd.R_new' ho0 (Kd.R_lt (by (with_reducible repeat (first | apply Kd.R_alloc | apply Kd.R_drewN | apply Kd.R_drew)); exact HO234.out))) (below_size (by repeat (first | (with_reducible first | exact HB.out | apply below_alloc | apply pw_below_drewN | apply below_drew1) | exact HB.out)))); have n2_ := Aside0.mk (below_step (by repeat (first | (with_reducible first | exact HB.out | apply below_alloc | apply pw_below_drewN | apply below_drew1) | exact HB.out)) hb); clear HO234; clear HB; have HO234 := n0_; have HO238 := n1_; have HB := n2_; clear n0_ n1_ n2_; (try clear hb); (try clear hb2); (try clear hk); (try clear hi); (try clear ho0)) | ((with_reducible refine gate_dst (N := 15) rfl ?_); (try (refine gate_guard (by rfl) ?_; dsimp only)); refine Kd.R_lit k50 _ 50 ?hg (N := 15) ?hd (xs := ([(⟨64, 0, 0⟩ : S50)] : List (S50))) (inner := [.int .i64 64, .int .u64 0, .int .i64 0]) (ok := fun _ => True) (okp := fun _ => True) ?hr ?hp (fun _ hk => hk) trivial (Below.refl _ _) (Nat.le_refl _) (by simp) ?_; (case hd => rfl); (case hg => rfl); (case hr => first | (go_simp; done) | (go_simp; rfl)); (case hp => exact (Reps.c3 (show Kd.M k50 _ _ _ (⟨64, 0, 0⟩ : S50) [.int .i64 64, .int .u64 0, .int .i64 0] from (k50_mkM _ _ _ (⟨64, 0, 0⟩ : S50) )) (Reps.none _ _))); intro v240 w36 ho37 hb hg_ hnew_; clear hg_ hnew_; (first | rw [← Ny239.out] at ho37 | (simp only [Int.reduceToNat] at ho37; rw [← Ny239.out] at ho37)); have n0_ := Aside0.mk (Kd.R_elder' (by (with_reducible repeat (first | apply Kd.R_alloc | apply Kd.R_drewN | apply Kd.R_drew)); exact HO234.out) (Kd.R_base ho37) hb); have n1_ := Aside0.mk (Kd.R_elder' (by (with_reducible repeat (first | apply Kd.R_alloc | apply Kd.R_drewN | apply Kd.R_drew)); exact HO238.out) (Kd.R_base ho37) hb); have n2_ := Aside0.mk (Kd.R_lower (Kd.R_new' (Kd.R_new' ho37 (Kd.R_lt (by (with_reducible repeat (first | apply Kd.R_alloc | apply Kd.R_drewN | apply Kd.R_drew)); exact HO234.out))) (Kd.R_lt (by (with_reducible repeat (first | apply Kd.R_alloc | apply Kd.R_drewN | apply Kd.R_drew)); exact HO238.out))) (below_size (by repeat (first | (with_reducible first | exact HB.out | apply below_alloc | apply pw_below_drewN | apply below_drew1) | exact HB.out)))); have n3_ := Aside0.mk (below_step (by repeat (first | (with_reducible first | exact HB.out | apply below_alloc | apply pw_below_drewN | apply below_drew1) | exact HB.out)) hb); clear HO234; clear HO238; clear HB; have HO234 := n0_; have HO238 := n1_; have HO241 := n2_; have HB := n3_; clear n0_ n1_ n2_ n3_; clear hb ho37; obtain ⟨Ao38, co38, eo38⟩ := Kd.R_slice HO241.out; subst eo38) | ((with_reducible refine gate_callee (f := 15) rfl ?_); refine goesL_ (some 16) rfl rfl Try.func15 (by kernel_rfl) rfl #[.slice Ao38 y239.length co38] rfl (by (try simp only [List.map_toArray, List.map_cons, List.map_nil]); first | done | rfl | (simp only [List.length_drop, List.length_take]; rfl)) ?_; (with_reducible refine (batch_Pack.calls k _ _ y239 t242 t243 _ ?side1 ?side2 A2.out).mono ?_); (case side1 => repeat (first | exact (Kd.R_reads' HO241.out).2.2 | (with_reducible refine Kd.C_alloc ?_ _) | (with_reducible refine Kd.C_drewN ?_ _) | (with_reducible refine Kd.C_drew ?_))); (case side2 => exact (Kd.R_reads' HO241.out).2.1); rintro e w39 ⟨v244, rfl, ho0, hb⟩; refine ⟨_, rfl, ?_⟩; have n0_ := Aside0.mk (Kd.R_elder' (by (with_reducible repeat (first | apply Kd.R_alloc | apply Kd.R_drewN | apply Kd.R_drew)); exact HO234.out) (Kd.R_base ho0) hb); have n1_ := Aside0.mk (Kd.R_elder' (by (with_reducible repeat (first | apply Kd.R_alloc | apply Kd.R_drewN | apply Kd.R_drew)); exact HO238.out) (Kd.R_base ho0) hb); have n2_ := Aside0.mk (Kd.R_elder' (by (with_reducible repeat (first | apply Kd.R_alloc | apply Kd.R_drewN | apply Kd.R_drew)); exact HO241.out) (Kd.R_base ho0) hb); have n3_ := Aside0.mk (Kd.R_lower (Kd.R_new' (Kd.R_new' (Kd.R_new' ho0 (Kd.R_lt (by (with_reducible repeat (first | apply Kd.R_alloc | apply Kd.R_drewN | apply Kd.R_drew)); exact HO234.out))) (Kd.R_lt (by (with_reducible repeat (first | apply Kd.R_alloc | apply Kd.R_drewN | apply Kd.R_drew)); exact HO238.out))) (Kd.R_lt (by (with_reducible repeat (first | apply Kd.R_alloc | apply Kd.R_drewN | apply Kd.R_drew)); exact HO241.out))) (below_size (by repeat (first | (with_reducible first | exact HB.out | apply below_alloc | apply pw_below_drewN | apply below_drew1) | exact HB.out)))); have n4_ := Aside0.mk (below_step (by repeat (first | (with_reducible first | exact HB.out | apply below_alloc | apply pw_below_drewN | apply below_drew1) | exact HB.out)) hb); clear HO234; clear HO238; clear HO241; clear HB; have HO234 := n0_; have HO238 := n1_; have HO241 := n2_; have HO245 := n3_; have HB := n4_; clear n0_ n1_ n2_ n3_ n4_; (try clear hb); (try clear hb2); (try clear hk); (try clear hi); (try clear ho0); obtain ⟨Ao40, co40, eo40⟩ := Kd.R_slice HO238.out; subst eo40; have p246 : 0 ≤ (0 : Int) := (by omega); have q246 : 0 < (t235.length : Int) := of_decide_eq_true (by first | (with_reducible assumption) | assumption); obtain ⟨ad246, e246, hx246_0, hx246_1, hx246_2⟩ := at_T50 (Kd.R_reads' HO238.out).2.2 0 p246 q246; cases e246; have qi246 : (0 < t235.length) = True := eq_true (by omega); (try rw [show ((0 : Int)).toNat = 0 from rfl] at hx246_0); (try rw [show 0 * 3 = 0 from rfl] at hx246_0); (try rw [Addr.add_zero'] at hx246_0); (try rw [show ((0 : Int)).toNat = 0 from rfl] at hx246_1); (try rw [show 0 * 3 = 0 from rfl] at hx246_1); (try rw [Addr.add_zero'] at hx246_1); (try rw [show ((0 : Int)).toNat = 0 from rfl] at hx246_2); (try rw [show 0 * 3 = 0 from rfl] at hx246_2); (try rw [Addr.add_zero'] at hx246_2); replace p246 := eq_true p246; replace q246 := eq_true q246))
      go_ret
      exact ⟨by first | rfl | (simp [errW_none, errW_some] <;> rfl) | (simp [*, errW_none, errW_some] <;> rfl), by repeat (first | (with_reducible first | exact HB.out | apply below_alloc | apply pw_below_drewN | apply below_drew1) | exact HB.out)⟩
    ·rw [if_neg c6] at H
     have c6b0 : (((rd_T50 t235 0).f1) == 7) = false := beq_eq_false_iff_ne.mpr c6
     have c6b1 : (((rd_T50 t235 0).f1) != 7) = true := bne_iff_ne.mpr c6
     obtain rfl := Option.some.inj H
     go_enter Try.func17, Try.ntmps17
     go_wp2_with (first | ((with_reducible refine gate_dst (N := 9) rfl ?_); (try (refine gate_guard (by rfl) ?_; dsimp only)); refine Kd.R_lit k50 _ 50 ?hg (N := 9) ?hd (xs := ([(⟨1, 5, 2⟩ : S50), (⟨0, 7, 1⟩ : S50), (⟨1, 5, (-2)⟩ : S50)] : List (S50))) (inner := [.int .i64 1, .int .u64 5, .int .i64 2, .int .i64 0, .int .u64 7, .int .i64 1, .int .i64 1, .int .u64 5, .int .i64 (-2)]) (ok := fun _ => True) (okp := fun _ => True) ?hr ?hp (fun _ hk => hk) trivial (Below.refl _ _) (Nat.le_refl _) (by simp) ?_; (case hd => rfl); (case hg => rfl); (case hr => first | (go_simp; done) | (go_simp; rfl)); (case hp => exact (Reps.c3 (show Kd.M k50 _ _ _ (⟨1, 5, 2⟩ : S50) [.int .i64 1, .int .u64 5, .int .i64 2] from (k50_mkM _ _ _ (⟨1, 5, 2⟩ : S50) )) (Reps.c3 (show Kd.M k50 _ _ _ (⟨0, 7, 1⟩ : S50) [.int .i64 0, .int .u64 7, .int .i64 1] from (k50_mkM _ _ _ (⟨0, 7, 1⟩ : S50) )) (Reps.c3 (show Kd.M k50 _ _ _ (⟨1, 5, (-2)⟩ : S50) [.int .i64 1, .int .u64 5, .int .i64 (-2)] from (k50_mkM _ _ _ (⟨1, 5, (-2)⟩ : S50) )) (Reps.none _ _))))); intro v233 w41 ho42 hb hg_ hnew_; clear hg_ hnew_; (first | rw [← Ny232.out] at ho42 | (simp only [Int.reduceToNat] at ho42; rw [← Ny232.out] at ho42)); have n0_ := Aside0.mk (Kd.R_lower ho42 (below_size (by repeat (first | (with_reducible first | exact HB.out | apply below_alloc | apply pw_below_drewN | apply below_drew1) | exact HB.out)))); have n1_ := Aside0.mk (below_step (by repeat (first | (with_reducible first | exact HB.out | apply below_alloc | apply pw_below_drewN | apply below_drew1) | exact HB.out)) hb); clear HB; have HO234 := n0_; have HB := n1_; clear n0_ n1_; clear hb ho42; obtain ⟨Ao43, co43, eo43⟩ := Kd.R_slice HO234.out; subst eo43) | ((with_reducible refine gate_callee (f := 15) rfl ?_); refine goesL_ (some 10) rfl rfl Try.func15 (by kernel_rfl) rfl #[.slice Ao43 y232.length co43] rfl (by (try simp only [List.map_toArray, List.map_cons, List.map_nil]); first | done | rfl | (simp only [List.length_drop, List.length_take]; rfl)) ?_; (with_reducible refine (batch_Pack.calls k _ _ y232 t235 t236 _ ?side1 ?side2 A1.out).mono ?_); (case side1 => repeat (first | exact (Kd.R_reads' HO234.out).2.2 | (with_reducible refine Kd.C_alloc ?_ _) | (with_reducible refine Kd.C_drewN ?_ _) | (with_reducible refine Kd.C_drew ?_))); (case side2 => exact (Kd.R_reads' HO234.out).2.1); rintro e w44 ⟨v237, rfl, ho0, hb⟩; refine ⟨_, rfl, ?_⟩; have n0_ := Aside0.mk (Kd.R_elder' (by (with_reducible repeat (first | apply Kd.R_alloc | apply Kd.R_drewN | apply Kd.R_drew)); exact HO234.out) (Kd.R_base ho0) hb); have n1_ := Aside0.mk (Kd.R_lower (Kd.R_new' ho0 (Kd.R_lt (by (with_reducible repeat (first | apply Kd.R_alloc | apply Kd.R_drewN | apply Kd.R_drew)); exact HO234.out))) (below_size (by repeat (first | (with_reducible first | exact HB.out | apply below_alloc | apply pw_below_drewN | apply below_drew1) | exact HB.out)))); have n2_ := Aside0.mk (below_step (by repeat (first | (with_reducible first | exact HB.out | apply below_alloc | apply pw_below_drewN | apply below_drew1) | exact HB.out)) hb); clear HO234; clear HB; have HO234 := n0_; have HO238 := n1_; have HB := n2_; clear n0_ n1_ n2_; (try clear hb); (try clear hb2); (try clear hk); (try clear hi); (try clear ho0)) | ((with_reducible refine gate_dst (N := 15) rfl ?_); (try (refine gate_guard (by rfl) ?_; dsimp only)); refine Kd.R_lit k50 _ 50 ?hg (N := 15) ?hd (xs := ([(⟨64, 0, 0⟩ : S50)] : List (S50))) (inner := [.int .i64 64, .int .u64 0, .int .i64 0]) (ok := fun _ => True) (okp := fun _ => True) ?hr ?hp (fun _ hk => hk) trivial (Below.refl _ _) (Nat.le_refl _) (by simp) ?_; (case hd => rfl); (case hg => rfl); (case hr => first | (go_simp; done) | (go_simp; rfl)); (case hp => exact (Reps.c3 (show Kd.M k50 _ _ _ (⟨64, 0, 0⟩ : S50) [.int .i64 64, .int .u64 0, .int .i64 0] from (k50_mkM _ _ _ (⟨64, 0, 0⟩ : S50) )) (Reps.none _ _))); intro v240 w45 ho46 hb hg_ hnew_; clear hg_ hnew_; (first | rw [← Ny239.out] at ho46 | (simp only [Int.reduceToNat] at ho46; rw [← Ny239.out] at ho46)); have n0_ := Aside0.mk (Kd.R_elder' (by (with_reducible repeat (first | apply Kd.R_alloc | apply Kd.R_drewN | apply Kd.R_drew)); exact HO234.out) (Kd.R_base ho46) hb); have n1_ := Aside0.mk (Kd.R_elder' (by (with_reducible repeat (first | apply Kd.R_alloc | apply Kd.R_drewN | apply Kd.R_drew)); exact HO238.out) (Kd.R_base ho46) hb); have n2_ := Aside0.mk (Kd.R_lower (Kd.R_new' (Kd.R_new' ho46 (Kd.R_lt (by (with_reducible repeat (first | apply Kd.R_alloc | apply Kd.R_drewN | apply Kd.R_drew)); exact HO234.out))) (Kd.R_lt (by (with_reducible repeat (first | apply Kd.R_alloc | apply Kd.R_drewN | apply Kd.R_drew)); exact HO238.out))) (below_size (by repeat (first | (with_reducible first | exact HB.out | apply below_alloc | apply pw_below_drewN | apply below_drew1) | exact HB.out)))); have n3_ := Aside0.mk (below_step (by repeat (first | (with_reducible first | exact HB.out | apply below_alloc | apply pw_below_drewN | apply below_drew1) | exact HB.out)) hb); clear HO234; clear HO238; clear HB; have HO234 := n0_; have HO238 := n1_; have HO241 := n2_; have HB := n3_; clear n0_ n1_ n2_ n3_; clear hb ho46; obtain ⟨Ao47, co47, eo47⟩ := Kd.R_slice HO241.out; subst eo47) | ((with_reducible refine gate_callee (f := 15) rfl ?_); refine goesL_ (some 16) rfl rfl Try.func15 (by kernel_rfl) rfl #[.slice Ao47 y239.length co47] rfl (by (try simp only [List.map_toArray, List.map_cons, List.map_nil]); first | done | rfl | (simp only [List.length_drop, List.length_take]; rfl)) ?_; (with_reducible refine (batch_Pack.calls k _ _ y239 t242 t243 _ ?side1 ?side2 A2.out).mono ?_); (case side1 => repeat (first | exact (Kd.R_reads' HO241.out).2.2 | (with_reducible refine Kd.C_alloc ?_ _) | (with_reducible refine Kd.C_drewN ?_ _) | (with_reducible refine Kd.C_drew ?_))); (case side2 => exact (Kd.R_reads' HO241.out).2.1); rintro e w48 ⟨v244, rfl, ho0, hb⟩; refine ⟨_, rfl, ?_⟩; have n0_ := Aside0.mk (Kd.R_elder' (by (with_reducible repeat (first | apply Kd.R_alloc | apply Kd.R_drewN | apply Kd.R_drew)); exact HO234.out) (Kd.R_base ho0) hb); have n1_ := Aside0.mk (Kd.R_elder' (by (with_reducible repeat (first | apply Kd.R_alloc | apply Kd.R_drewN | apply Kd.R_drew)); exact HO238.out) (Kd.R_base ho0) hb); have n2_ := Aside0.mk (Kd.R_elder' (by (with_reducible repeat (first | apply Kd.R_alloc | apply Kd.R_drewN | apply Kd.R_drew)); exact HO241.out) (Kd.R_base ho0) hb); have n3_ := Aside0.mk (Kd.R_lower (Kd.R_new' (Kd.R_new' (Kd.R_new' ho0 (Kd.R_lt (by (with_reducible repeat (first | apply Kd.R_alloc | apply Kd.R_drewN | apply Kd.R_drew)); exact HO234.out))) (Kd.R_lt (by (with_reducible repeat (first | apply Kd.R_alloc | apply Kd.R_drewN | apply Kd.R_drew)); exact HO238.out))) (Kd.R_lt (by (with_reducible repeat (first | apply Kd.R_alloc | apply Kd.R_drewN | apply Kd.R_drew)); exact HO241.out))) (below_size (by repeat (first | (with_reducible first | exact HB.out | apply below_alloc | apply pw_below_drewN | apply below_drew1) | exact HB.out)))); have n4_ := Aside0.mk (below_step (by repeat (first | (with_reducible first | exact HB.out | apply below_alloc | apply pw_below_drewN | apply below_drew1) | exact HB.out)) hb); clear HO234; clear HO238; clear HO241; clear HB; have HO234 := n0_; have HO238 := n1_; have HO241 := n2_; have HO245 := n3_; have HB := n4_; clear n0_ n1_ n2_ n3_ n4_; (try clear hb); (try clear hb2); (try clear hk); (try clear hi); (try clear ho0); obtain ⟨Ao49, co49, eo49⟩ := Kd.R_slice HO238.out; subst eo49; have p246 : 0 ≤ (0 : Int) := (by omega); have q246 : 0 < (t235.length : Int) := of_decide_eq_true (by first | (with_reducible assumption) | assumption); obtain ⟨ad246, e246, hx246_0, hx246_1, hx246_2⟩ := at_T50 (Kd.R_reads' HO238.out).2.2 0 p246 q246; cases e246; have qi246 : (0 < t235.length) = True := eq_true (by omega); (try rw [show ((0 : Int)).toNat = 0 from rfl] at hx246_0); (try rw [show 0 * 3 = 0 from rfl] at hx246_0); (try rw [Addr.add_zero'] at hx246_0); (try rw [show ((0 : Int)).toNat = 0 from rfl] at hx246_1); (try rw [show 0 * 3 = 0 from rfl] at hx246_1); (try rw [Addr.add_zero'] at hx246_1); (try rw [show ((0 : Int)).toNat = 0 from rfl] at hx246_2); (try rw [show 0 * 3 = 0 from rfl] at hx246_2); (try rw [Addr.add_zero'] at hx246_2); replace p246 := eq_true p246; replace q246 := eq_true q246))
     go_ret
     exact ⟨by first | rfl | (simp [errW_none, errW_some] <;> rfl) | (simp [*, errW_none, errW_some] <;> rfl), by repeat (first | (with_reducible first | exact HB.out | apply below_alloc | apply pw_below_drewN | apply below_drew1) | exact HB.out)⟩
   ·rw [if_neg c5] at H
    exact absurd H (by simp)
  ·rw [if_neg c4] at H
   have c4b0 : ((t235.length : Int) == 1) = false := beq_eq_false_iff_ne.mpr c4
   have c4b1 : ((t235.length : Int) != 1) = true := bne_iff_ne.mpr c4
   obtain rfl := Option.some.inj H
   go_enter Try.func17, Try.ntmps17
   go_wp2_with (first | ((with_reducible refine gate_dst (N := 9) rfl ?_); (try (refine gate_guard (by rfl) ?_; dsimp only)); refine Kd.R_lit k50 _ 50 ?hg (N := 9) ?hd (xs := ([(⟨1, 5, 2⟩ : S50), (⟨0, 7, 1⟩ : S50), (⟨1, 5, (-2)⟩ : S50)] : List (S50))) (inner := [.int .i64 1, .int .u64 5, .int .i64 2, .int .i64 0, .int .u64 7, .int .i64 1, .int .i64 1, .int .u64 5, .int .i64 (-2)]) (ok := fun _ => True) (okp := fun _ => True) ?hr ?hp (fun _ hk => hk) trivial (Below.refl _ _) (Nat.le_refl _) (by simp) ?_; (case hd => rfl); (case hg => rfl); (case hr => first | (go_simp; done) | (go_simp; rfl)); (case hp => exact (Reps.c3 (show Kd.M k50 _ _ _ (⟨1, 5, 2⟩ : S50) [.int .i64 1, .int .u64 5, .int .i64 2] from (k50_mkM _ _ _ (⟨1, 5, 2⟩ : S50) )) (Reps.c3 (show Kd.M k50 _ _ _ (⟨0, 7, 1⟩ : S50) [.int .i64 0, .int .u64 7, .int .i64 1] from (k50_mkM _ _ _ (⟨0, 7, 1⟩ : S50) )) (Reps.c3 (show Kd.M k50 _ _ _ (⟨1, 5, (-2)⟩ : S50) [.int .i64 1, .int .u64 5, .int .i64 (-2)] from (k50_mkM _ _ _ (⟨1, 5, (-2)⟩ : S50) )) (Reps.none _ _))))); intro v233 w50 ho51 hb hg_ hnew_; clear hg_ hnew_; (first | rw [← Ny232.out] at ho51 | (simp only [Int.reduceToNat] at ho51; rw [← Ny232.out] at ho51)); have n0_ := Aside0.mk (Kd.R_lower ho51 (below_size (by repeat (first | (with_reducible first | exact HB.out | apply below_alloc | apply pw_below_drewN | apply below_drew1) | exact HB.out)))); have n1_ := Aside0.mk (below_step (by repeat (first | (with_reducible first | exact HB.out | apply below_alloc | apply pw_below_drewN | apply below_drew1) | exact HB.out)) hb); clear HB; have HO234 := n0_; have HB := n1_; clear n0_ n1_; clear hb ho51; obtain ⟨Ao52, co52, eo52⟩ := Kd.R_slice HO234.out; subst eo52) | ((with_reducible refine gate_callee (f := 15) rfl ?_); refine goesL_ (some 10) rfl rfl Try.func15 (by kernel_rfl) rfl #[.slice Ao52 y232.length co52] rfl (by (try simp only [List.map_toArray, List.map_cons, List.map_nil]); first | done | rfl | (simp only [List.length_drop, List.length_take]; rfl)) ?_; (with_reducible refine (batch_Pack.calls k _ _ y232 t235 t236 _ ?side1 ?side2 A1.out).mono ?_); (case side1 => repeat (first | exact (Kd.R_reads' HO234.out).2.2 | (with_reducible refine Kd.C_alloc ?_ _) | (with_reducible refine Kd.C_drewN ?_ _) | (with_reducible refine Kd.C_drew ?_))); (case side2 => exact (Kd.R_reads' HO234.out).2.1); rintro e w53 ⟨v237, rfl, ho0, hb⟩; refine ⟨_, rfl, ?_⟩; have n0_ := Aside0.mk (Kd.R_elder' (by (with_reducible repeat (first | apply Kd.R_alloc | apply Kd.R_drewN | apply Kd.R_drew)); exact HO234.out) (Kd.R_base ho0) hb); have n1_ := Aside0.mk (Kd.R_lower (Kd.R_new' ho0 (Kd.R_lt (by (with_reducible repeat (first | apply Kd.R_alloc | apply Kd.R_drewN | apply Kd.R_drew)); exact HO234.out))) (below_size (by repeat (first | (with_reducible first | exact HB.out | apply below_alloc | apply pw_below_drewN | apply below_drew1) | exact HB.out)))); have n2_ := Aside0.mk (below_step (by repeat (first | (with_reducible first | exact HB.out | apply below_alloc | apply pw_below_drewN | apply below_drew1) | exact HB.out)) hb); clear HO234; clear HB; have HO234 := n0_; have HO238 := n1_; have HB := n2_; clear n0_ n1_ n2_; (try clear hb); (try clear hb2); (try clear hk); (try clear hi); (try clear ho0)) | ((with_reducible refine gate_dst (N := 15) rfl ?_); (try (refine gate_guard (by rfl) ?_; dsimp only)); refine Kd.R_lit k50 _ 50 ?hg (N := 15) ?hd (xs := ([(⟨64, 0, 0⟩ : S50)] : List (S50))) (inner := [.int .i64 64, .int .u64 0, .int .i64 0]) (ok := fun _ => True) (okp := fun _ => True) ?hr ?hp (fun _ hk => hk) trivial (Below.refl _ _) (Nat.le_refl _) (by simp) ?_; (case hd => rfl); (case hg => rfl); (case hr => first | (go_simp; done) | (go_simp; rfl)); (case hp => exact (Reps.c3 (show Kd.M k50 _ _ _ (⟨64, 0, 0⟩ : S50) [.int .i64 64, .int .u64 0, .int .i64 0] from (k50_mkM _ _ _ (⟨64, 0, 0⟩ : S50) )) (Reps.none _ _))); intro v240 w54 ho55 hb hg_ hnew_; clear hg_ hnew_; (first | rw [← Ny239.out] at ho55 | (simp only [Int.reduceToNat] at ho55; rw [← Ny239.out] at ho55)); have n0_ := Aside0.mk (Kd.R_elder' (by (with_reducible repeat (first | apply Kd.R_alloc | apply Kd.R_drewN | apply Kd.R_drew)); exact HO234.out) (Kd.R_base ho55) hb); have n1_ := Aside0.mk (Kd.R_elder' (by (with_reducible repeat (first | apply Kd.R_alloc | apply Kd.R_drewN | apply Kd.R_drew)); exact HO238.out) (Kd.R_base ho55) hb); have n2_ := Aside0.mk (Kd.R_lower (Kd.R_new' (Kd.R_new' ho55 (Kd.R_lt (by (with_reducible repeat (first | apply Kd.R_alloc | apply Kd.R_drewN | apply Kd.R_drew)); exact HO234.out))) (Kd.R_lt (by (with_reducible repeat (first | apply Kd.R_alloc | apply Kd.R_drewN | apply Kd.R_drew)); exact HO238.out))) (below_size (by repeat (first | (with_reducible first | exact HB.out | apply below_alloc | apply pw_below_drewN | apply below_drew1) | exact HB.out)))); have n3_ := Aside0.mk (below_step (by repeat (first | (with_reducible first | exact HB.out | apply below_alloc | apply pw_below_drewN | apply below_drew1) | exact HB.out)) hb); clear HO234; clear HO238; clear HB; have HO234 := n0_; have HO238 := n1_; have HO241 := n2_; have HB := n3_; clear n0_ n1_ n2_ n3_; clear hb ho55; obtain ⟨Ao56, co56, eo56⟩ := Kd.R_slice HO241.out; subst eo56) | ((with_reducible refine gate_callee (f := 15) rfl ?_); refine goesL_ (some 16) rfl rfl Try.func15 (by kernel_rfl) rfl #[.slice Ao56 y239.length co56] rfl (by (try simp only [List.map_toArray, List.map_cons, List.map_nil]); first | done | rfl | (simp only [List.length_drop, List.length_take]; rfl)) ?_; (with_reducible refine (batch_Pack.calls k _ _ y239 t242 t243 _ ?side1 ?side2 A2.out).mono ?_); (case side1 => repeat (first | exact (Kd.R_reads' HO241.out).2.2 | (with_reducible refine Kd.C_alloc ?_ _) | (with_reducible refine Kd.C_drewN ?_ _) | (with_reducible refine Kd.C_drew ?_))); (case side2 => exact (Kd.R_reads' HO241.out).2.1); rintro e w57 ⟨v244, rfl, ho0, hb⟩; refine ⟨_, rfl, ?_⟩; have n0_ := Aside0.mk (Kd.R_elder' (by (with_reducible repeat (first | apply Kd.R_alloc | apply Kd.R_drewN | apply Kd.R_drew)); exact HO234.out) (Kd.R_base ho0) hb); have n1_ := Aside0.mk (Kd.R_elder' (by (with_reducible repeat (first | apply Kd.R_alloc | apply Kd.R_drewN | apply Kd.R_drew)); exact HO238.out) (Kd.R_base ho0) hb); have n2_ := Aside0.mk (Kd.R_elder' (by (with_reducible repeat (first | apply Kd.R_alloc | apply Kd.R_drewN | apply Kd.R_drew)); exact HO241.out) (Kd.R_base ho0) hb); have n3_ := Aside0.mk (Kd.R_lower (Kd.R_new' (Kd.R_new' (Kd.R_new' ho0 (Kd.R_lt (by (with_reducible repeat (first | apply Kd.R_alloc | apply Kd.R_drewN | apply Kd.R_drew)); exact HO234.out))) (Kd.R_lt (by (with_reducible repeat (first | apply Kd.R_alloc | apply Kd.R_drewN | apply Kd.R_drew)); exact HO238.out))) (Kd.R_lt (by (with_reducible repeat (first | apply Kd.R_alloc | apply Kd.R_drewN | apply Kd.R_drew)); exact HO241.out))) (below_size (by repeat (first | (with_reducible first | exact HB.out | apply below_alloc | apply pw_below_drewN | apply below_drew1) | exact HB.out)))); have n4_ := Aside0.mk (below_step (by repeat (first | (with_reducible first | exact HB.out | apply below_alloc | apply pw_below_drewN | apply below_drew1) | exact HB.out)) hb); clear HO234; clear HO238; clear HO241; clear HB; have HO234 := n0_; have HO238 := n1_; have HO241 := n2_; have HO245 := n3_; have HB := n4_; clear n0_ n1_ n2_ n3_ n4_; (try clear hb); (try clear hb2); (try clear hk); (try clear hi); (try clear ho0); obtain ⟨Ao58, co58, eo58⟩ := Kd.R_slice HO238.out; subst eo58))
   go_ret
   exact ⟨by first | rfl | (simp [errW_none, errW_some] <;> rfl) | (simp [*, errW_none, errW_some] <;> rfl), by repeat (first | (with_reducible first | exact HB.out | apply below_alloc | apply pw_below_drewN | apply below_drew1) | exact HB.out)⟩
 ·rw [if_neg c3] at H
  have c3b0 : (t236 == 0) = false := beq_eq_false_iff_ne.mpr c3
  have c3b1 : (t236 != 0) = true := bne_iff_ne.mpr c3
  obtain rfl := Option.some.inj H
  go_enter Try.func17, Try.ntmps17
  go_wp2_with (first | ((with_reducible refine gate_dst (N := 9) rfl ?_); (try (refine gate_guard (by rfl) ?_; dsimp only)); refine Kd.R_lit k50 _ 50 ?hg (N := 9) ?hd (xs := ([(⟨1, 5, 2⟩ : S50), (⟨0, 7, 1⟩ : S50), (⟨1, 5, (-2)⟩ : S50)] : List (S50))) (inner := [.int .i64 1, .int .u64 5, .int .i64 2, .int .i64 0, .int .u64 7, .int .i64 1, .int .i64 1, .int .u64 5, .int .i64 (-2)]) (ok := fun _ => True) (okp := fun _ => True) ?hr ?hp (fun _ hk => hk) trivial (Below.refl _ _) (Nat.le_refl _) (by simp) ?_; (case hd => rfl); (case hg => rfl); (case hr => first | (go_simp; done) | (go_simp; rfl)); (case hp => exact (Reps.c3 (show Kd.M k50 _ _ _ (⟨1, 5, 2⟩ : S50) [.int .i64 1, .int .u64 5, .int .i64 2] from (k50_mkM _ _ _ (⟨1, 5, 2⟩ : S50) )) (Reps.c3 (show Kd.M k50 _ _ _ (⟨0, 7, 1⟩ : S50) [.int .i64 0, .int .u64 7, .int .i64 1] from (k50_mkM _ _ _ (⟨0, 7, 1⟩ : S50) )) (Reps.c3 (show Kd.M k50 _ _ _ (⟨1, 5, (-2)⟩ : S50) [.int .i64 1, .int .u64 5, .int .i64 (-2)] from (k50_mkM _ _ _ (⟨1, 5, (-2)⟩ : S50) )) (Reps.none _ _))))); intro v233 w59 ho60 hb hg_ hnew_; clear hg_ hnew_; (first | rw [← Ny232.out] at ho60 | (simp only [Int.reduceToNat] at ho60; rw [← Ny232.out] at ho60)); have n0_ := Aside0.mk (Kd.R_lower ho60 (below_size (by repeat (first | (with_reducible first | exact HB.out | apply below_alloc | apply pw_below_drewN | apply below_drew1) | exact HB.out)))); have n1_ := Aside0.mk (below_step (by repeat (first | (with_reducible first | exact HB.out | apply below_alloc | apply pw_below_drewN | apply below_drew1) | exact HB.out)) hb); clear HB; have HO234 := n0_; have HB := n1_; clear n0_ n1_; clear hb ho60; obtain ⟨Ao61, co61, eo61⟩ := Kd.R_slice HO234.out; subst eo61) | ((with_reducible refine gate_callee (f := 15) rfl ?_); refine goesL_ (some 10) rfl rfl Try.func15 (by kernel_rfl) rfl #[.slice Ao61 y232.length co61] rfl (by (try simp only [List.map_toArray, List.map_cons, List.map_nil]); first | done | rfl | (simp only [List.length_drop, List.length_take]; rfl)) ?_; (with_reducible refine (batch_Pack.calls k _ _ y232 t235 t236 _ ?side1 ?side2 A1.out).mono ?_); (case side1 => repeat (first | exact (Kd.R_reads' HO234.out).2.2 | (with_reducible refine Kd.C_alloc ?_ _) | (with_reducible refine Kd.C_drewN ?_ _) | (with_reducible refine Kd.C_drew ?_))); (case side2 => exact (Kd.R_reads' HO234.out).2.1); rintro e w62 ⟨v237, rfl, ho0, hb⟩; refine ⟨_, rfl, ?_⟩; have n0_ := Aside0.mk (Kd.R_elder' (by (with_reducible repeat (first | apply Kd.R_alloc | apply Kd.R_drewN | apply Kd.R_drew)); exact HO234.out) (Kd.R_base ho0) hb); have n1_ := Aside0.mk (Kd.R_lower (Kd.R_new' ho0 (Kd.R_lt (by (with_reducible repeat (first | apply Kd.R_alloc | apply Kd.R_drewN | apply Kd.R_drew)); exact HO234.out))) (below_size (by repeat (first | (with_reducible first | exact HB.out | apply below_alloc | apply pw_below_drewN | apply below_drew1) | exact HB.out)))); have n2_ := Aside0.mk (below_step (by repeat (first | (with_reducible first | exact HB.out | apply below_alloc | apply pw_below_drewN | apply below_drew1) | exact HB.out)) hb); clear HO234; clear HB; have HO234 := n0_; have HO238 := n1_; have HB := n2_; clear n0_ n1_ n2_; (try clear hb); (try clear hb2); (try clear hk); (try clear hi); (try clear ho0)) | ((with_reducible refine gate_dst (N := 15) rfl ?_); (try (refine gate_guard (by rfl) ?_; dsimp only)); refine Kd.R_lit k50 _ 50 ?hg (N := 15) ?hd (xs := ([(⟨64, 0, 0⟩ : S50)] : List (S50))) (inner := [.int .i64 64, .int .u64 0, .int .i64 0]) (ok := fun _ => True) (okp := fun _ => True) ?hr ?hp (fun _ hk => hk) trivial (Below.refl _ _) (Nat.le_refl _) (by simp) ?_; (case hd => rfl); (case hg => rfl); (case hr => first | (go_simp; done) | (go_simp; rfl)); (case hp => exact (Reps.c3 (show Kd.M k50 _ _ _ (⟨64, 0, 0⟩ : S50) [.int .i64 64, .int .u64 0, .int .i64 0] from (k50_mkM _ _ _ (⟨64, 0, 0⟩ : S50) )) (Reps.none _ _))); intro v240 w63 ho64 hb hg_ hnew_; clear hg_ hnew_; (first | rw [← Ny239.out] at ho64 | (simp only [Int.reduceToNat] at ho64; rw [← Ny239.out] at ho64)); have n0_ := Aside0.mk (Kd.R_elder' (by (with_reducible repeat (first | apply Kd.R_alloc | apply Kd.R_drewN | apply Kd.R_drew)); exact HO234.out) (Kd.R_base ho64) hb); have n1_ := Aside0.mk (Kd.R_elder' (by (with_reducible repeat (first | apply Kd.R_alloc | apply Kd.R_drewN | apply Kd.R_drew)); exact HO238.out) (Kd.R_base ho64) hb); have n2_ := Aside0.mk (Kd.R_lower (Kd.R_new' (Kd.R_new' ho64 (Kd.R_lt (by (with_reducible repeat (first | apply Kd.R_alloc | apply Kd.R_drewN | apply Kd.R_drew)); exact HO234.out))) (Kd.R_lt (by (with_reducible repeat (first | apply Kd.R_alloc | apply Kd.R_drewN | apply Kd.R_drew)); exact HO238.out))) (below_size (by repeat (first | (with_reducible first | exact HB.out | apply below_alloc | apply pw_below_drewN | apply below_drew1) | exact HB.out)))); have n3_ := Aside0.mk (below_step (by repeat (first | (with_reducible first | exact HB.out | apply below_alloc | apply pw_below_drewN | apply below_drew1) | exact HB.out)) hb); clear HO234; clear HO238; clear HB; have HO234 := n0_; have HO238 := n1_; have HO241 := n2_; have HB := n3_; clear n0_ n1_ n2_ n3_; clear hb ho64; obtain ⟨Ao65, co65, eo65⟩ := Kd.R_slice HO241.out; subst eo65) | ((with_reducible refine gate_callee (f := 15) rfl ?_); refine goesL_ (some 16) rfl rfl Try.func15 (by kernel_rfl) rfl #[.slice Ao65 y239.length co65] rfl (by (try simp only [List.map_toArray, List.map_cons, List.map_nil]); first | done | rfl | (simp only [List.length_drop, List.length_take]; rfl)) ?_; (with_reducible refine (batch_Pack.calls k _ _ y239 t242 t243 _ ?side1 ?side2 A2.out).mono ?_); (case side1 => repeat (first | exact (Kd.R_reads' HO241.out).2.2 | (with_reducible refine Kd.C_alloc ?_ _) | (with_reducible refine Kd.C_drewN ?_ _) | (with_reducible refine Kd.C_drew ?_))); (case side2 => exact (Kd.R_reads' HO241.out).2.1); rintro e w66 ⟨v244, rfl, ho0, hb⟩; refine ⟨_, rfl, ?_⟩; have n0_ := Aside0.mk (Kd.R_elder' (by (with_reducible repeat (first | apply Kd.R_alloc | apply Kd.R_drewN | apply Kd.R_drew)); exact HO234.out) (Kd.R_base ho0) hb); have n1_ := Aside0.mk (Kd.R_elder' (by (with_reducible repeat (first | apply Kd.R_alloc | apply Kd.R_drewN | apply Kd.R_drew)); exact HO238.out) (Kd.R_base ho0) hb); have n2_ := Aside0.mk (Kd.R_elder' (by (with_reducible repeat (first | apply Kd.R_alloc | apply Kd.R_drewN | apply Kd.R_drew)); exact HO241.out) (Kd.R_base ho0) hb); have n3_ := Aside0.mk (Kd.R_lower (Kd.R_new' (Kd.R_new' (Kd.R_new' ho0 (Kd.R_lt (by (with_reducible repeat (first | apply Kd.R_alloc | apply Kd.R_drewN | apply Kd.R_drew)); exact HO234.out))) (Kd.R_lt (by (with_reducible repeat (first | apply Kd.R_alloc | apply Kd.R_drewN | apply Kd.R_drew)); exact HO238.out))) (Kd.R_lt (by (with_reducible repeat (first | apply Kd.R_alloc | apply Kd.R_drewN | apply Kd.R_drew)); exact HO241.out))) (below_size (by repeat (first | (with_reducible first | exact HB.out | apply below_alloc | apply pw_below_drewN | apply below_drew1) | exact HB.out)))); have n4_ := Aside0.mk (below_step (by repeat (first | (with_reducible first | exact HB.out | apply below_alloc | apply pw_below_drewN | apply below_drew1) | exact HB.out)) hb); clear HO234; clear HO238; clear HO241; clear HB; have HO234 := n0_; have HO238 := n1_; have HO241 := n2_; have HO245 := n3_; have HB := n4_; clear n0_ n1_ n2_ n3_ n4_; (try clear hb); (try clear hb2); (try clear hk); (try clear hi); (try clear ho0)))
  go_ret
  exact ⟨by first | rfl | (simp [errW_none, errW_some] <;> rfl) | (simp [*, errW_none, errW_some] <;> rfl), by repeat (first | (with_reducible first | exact HB.out | apply below_alloc | apply pw_below_drewN | apply below_drew1) | exact HB.out)⟩

end Go.Proofs.Ytgeldmhgbnamcaa.P
end
section
-- Printed by the session's own turn of the print (wip/tools/print2.sh): some callees are proved by hand.
namespace Go.Proofs.Ytgeldmhgbnamcaa.P
open Go.RowKit Go.Proofs.YtgeldmhgbnamcaaW.PrintWords Go.Proofs.YtgeldmhgbnamcaaW.PrintLast Go.Proofs.YtgeldmhgbnamcaaW.PrintMore
attribute [local go_sem] max2_int min2_int max_two min_two max_three min_three max_four min_four   -- for this text's walks alone
set_option linter.unusedVariables false
set_option linter.unusedSimpArgs false

theorem eqA40 (d : Nat) (w : World) (x0 y0 : Int) (x1 y1 : Int) (x2 y2 : Int) :
  (Op.equalIn (d + 2) 40 (.agg #[.int .i64 x0, .int .u64 x1, .int .i64 x2]) (.agg #[.int .i64 y0, .int .u64 y1, .int .i64 y2])).run Try.prog w = .ok (x0 == y0 && (x1 == y1 && (x2 == y2))) w := by
 refine eqA_of Try.underlying40 (by kernel_rfl) ?_
 refine eqf_cons (by rfl) (by go_simp; rfl) (by go_simp; rfl) (by go_simp) ?_
 refine eqf_cons (by rfl) (by go_simp; rfl) (by go_simp; rfl) (by go_simp) ?_
 exact eqf_last (by rfl) (by go_simp; rfl) (by go_simp; rfl) (by go_simp)
end Go.Proofs.Ytgeldmhgbnamcaa.P
end
section
-- Printed by the session's own turn of the print (wip/tools/print2.sh): some callees are proved by hand.
namespace Go.Proofs.Ytgeldmhgbnamcaa.P
open Go.RowKit Go.Proofs.YtgeldmhgbnamcaaW.PrintWords Go.Proofs.YtgeldmhgbnamcaaW.PrintLast Go.Proofs.YtgeldmhgbnamcaaW.PrintMore
attribute [local go_sem] max2_int min2_int max_two min_two max_three min_three max_four min_four   -- for this text's walks alone
set_option linter.unusedVariables false
set_option linter.unusedSimpArgs false

attribute [local go_sem high] eqA40
/-! ### marchlandref03_Same: function 18 -/
def marchlandref03_Same.l0 : Nat → List (S40) → List (S40) → Int → Option (Bool)
 | 0, _, _, _ => none
 | k + 1, x0, x1, x5 => if x5 < (x0.length : Int) then (if 0 ≤ x5 then (if x5 < (x1.length : Int) then (if (!(((rd_T40 x0 x5).f0) == ((rd_T40 x1 x5).f0)) || (!(((rd_T40 x0 x5).f1) == ((rd_T40 x1 x5).f1)) || (!(((rd_T40 x0 x5).f2) == ((rd_T40 x1 x5).f2))))) = true then (some false) else (marchlandref03_Same.l0 k x0 x1 (wrap64 (x5 + 1)))) else (none)) else (none)) else (some true)
def marchlandref03_Same.f (k : Nat) (l0 : List (S40)) (l1 : List (S40)) : Option (Bool) := if (l0.length : Int) = (l1.length : Int) then (marchlandref03_Same.l0 k l0 l1 0) else (some false)
theorem marchlandref03_Same.mono_l : ∀ k, (∀ y0 y1 y2, LeO (marchlandref03_Same.l0 k y0 y1 y2) (marchlandref03_Same.l0 (k + 1) y0 y1 y2))
 | 0 => fun _ _ _ r h => by simp [marchlandref03_Same.l0] at h
 | k + 1 => by
  have ih0 := marchlandref03_Same.mono_l k
  ·intro y0 y1 y2
   unfold marchlandref03_Same.l0
   repeat' first
   | (with_reducible exact ih0 _ _ _)
   | (with_reducible exact LeO.refl _)
   | (with_reducible exact LeO.none _)
   | (with_reducible refine LeO.ite ?_ ?_)
   | (with_reducible refine LeO.bind ?_ (fun _ => ?_))
   | exact ih0 _ _ _
   | exact LeO.none _
   | refine LeO.ite ?_ ?_
   | refine LeO.bind ?_ (fun _ => ?_)
theorem marchlandref03_Same.mono : ∀ a0 a1 k, LeO (marchlandref03_Same.f k a0 a1) (marchlandref03_Same.f (k + 1) a0 a1) := by
 intro a0 a1 k
 have ih0 := marchlandref03_Same.mono_l k
 unfold marchlandref03_Same.f
 repeat' first
   | (with_reducible exact ih0 _ _ _)
   | (with_reducible exact LeO.refl _)
   | (with_reducible exact LeO.none _)
   | (with_reducible refine LeO.ite ?_ ?_)
   | (with_reducible refine LeO.bind ?_ (fun _ => ?_))
   | exact ih0 _ _ _
   | exact LeO.none _
   | refine LeO.ite ?_ ?_
   | refine LeO.bind ?_ (fun _ => ?_)
set_option maxHeartbeats 8000000 in
set_option maxRecDepth 100000 in
theorem marchlandref03_Same.calls (k : Nat) (A0 : Option Addr) (c0 : Nat) (l0 : List (S40)) (A1 : Option Addr) (c1 : Nat) (l1 : List (S40)) (r : Bool) (w : World) (hr0 : Kd.C k40 w A0 l0.length l0) (hc0 : l0.length ≤ c0) (hr1 : Kd.C k40 w A1 l1.length l1) (hc1 : l1.length ≤ c1) (h : marchlandref03_Same.f k l0 l1 = some r) :
  Calls Try.prog 18 #[.slice A0 l0.length c0, .slice A1 l1.length c1] w fun e w' => e = .returned (.bool r) ∧ Drawn0 w w' := by
 have hu40 := Try.underlying40
 have HR0 := Aside0.mk hr0
 have HC0 := Aside0.mk hc0
 clear hr0 hc0
 have HR1 := Aside0.mk hr1
 have HC1 := Aside0.mk hc1
 clear hr1 hc1
 have H : (if (l0.length : Int) = (l1.length : Int) then (marchlandref03_Same.l0 k l0 l1 0) else (some false)) = some r := h
 clear h
 by_cases c3 : (l0.length : Int) = (l1.length : Int)
 ·rw [if_pos c3] at H
  have c3b0 : ((l0.length : Int) == (l1.length : Int)) = true := beq_iff_eq.mpr c3
  have c3b1 : ((l0.length : Int) != (l1.length : Int)) = false := bne_eq_false_iff_eq.mpr c3
  have c3b2 : (l0.length == l1.length) = true := by first | simpa using c3 | (simp at c3 ⊢; omega)
  clear c3
  have H' := Aside0.mk H
  clear H
  go_enter Try.func18, Try.ntmps18
  go_wp2
  repeat (go_quiet (fail); try go_wp2)
  go_loopg [5] k (fun kq v5 w' => ∃ (x5_1 : Int), v5 = .int .i64 x5_1 ∧ Aside0 (marchlandref03_Same.l0 kq l0 l1 x5_1 = some r) ∧ Aside0 (kq ≤ k) ∧ Drawn0 w w')
  case atStart => exact ⟨(0), (by first | rfl | (simp; done) | (simp [*]; done)), H', ⟨Nat.le_refl _⟩, by repeat (first | exact Drawn0.refl _ | apply Drawn0.step)⟩
  case round =>
   clear H'
   try clear c1
   try clear p2
   try clear c3
   try clear c3b0
   try clear c3b1
   try clear c3b2
   obtain ⟨x5_1, rfl, HA, HK1, ⟨m1, rfl⟩⟩ := hrel
   cases gk with
   | zero => exact absurd HA.out (by simp [marchlandref03_Same.l0])
   | succ k1 =>
    have H := HA.out
    clear HA
    simp only [marchlandref03_Same.l0] at H
    by_cases c4 : x5_1 < (l0.length : Int)
    ·rw [if_pos c4] at H
     have c4b0 : decide (x5_1 < (l0.length : Int)) = true := decide_eq_true c4
     clear c4
     by_cases c5 : 0 ≤ x5_1
     ·rw [if_pos c5] at H
      have c5b0 : decide (0 ≤ x5_1) = true := decide_eq_true c5
      clear c5
      by_cases c6 : x5_1 < (l1.length : Int)
      ·rw [if_pos c6] at H
       have c6b0 : decide (x5_1 < (l1.length : Int)) = true := decide_eq_true c6
       clear c6
       by_cases c7 : (!(((rd_T40 l0 x5_1).f0) == ((rd_T40 l1 x5_1).f0)) || (!(((rd_T40 l0 x5_1).f1) == ((rd_T40 l1 x5_1).f1)) || (!(((rd_T40 l0 x5_1).f2) == ((rd_T40 l1 x5_1).f2))))) = true
       ·rw [if_pos c7] at H
        have c7b0 : (!(((rd_T40 l0 x5_1).f0) == ((rd_T40 l1 x5_1).f0)) || (!(((rd_T40 l0 x5_1).f1) == ((rd_T40 l1 x5_1).f1)) || (!(((rd_T40 l0 x5_1).f2) == ((rd_T40 l1 x5_1).f2))))) = true := c7
        clear c7
        obtain rfl := Option.some.inj H
        have p249 : 0 ≤ (x5_1 : Int) := of_decide_eq_true (by first | (with_reducible assumption) | assumption)
        have q249 : x5_1 < (l0.length : Int) := of_decide_eq_true (by first | (with_reducible assumption) | assumption)
        obtain ⟨ad249, e249, hx249_0, hx249_1, hx249_2⟩ := at_T40 HR0.out x5_1 p249 q249
        cases e249
        replace p249 := eq_true p249
        replace q249 := eq_true q249
        have p250 : 0 ≤ (x5_1 : Int) := of_decide_eq_true (by first | (with_reducible assumption) | assumption)
        have q250 : x5_1 < (l1.length : Int) := of_decide_eq_true (by first | (with_reducible assumption) | assumption)
        obtain ⟨ad250, e250, hx250_0, hx250_1, hx250_2⟩ := at_T40 HR1.out x5_1 p250 q250
        cases e250
        replace p250 := eq_true p250
        replace q250 := eq_true q250
        go_wp2
        repeat (go_quiet (fail); try go_wp2)
        go_ret
        exact ⟨by first | rfl | (simp; done) | (simp [*]; done), by repeat (first | exact Drawn0.refl _ | apply Drawn0.step)⟩
       ·rw [if_neg c7] at H
        have c7b0 : (!(((rd_T40 l0 x5_1).f0) == ((rd_T40 l1 x5_1).f0)) || (!(((rd_T40 l0 x5_1).f1) == ((rd_T40 l1 x5_1).f1)) || (!(((rd_T40 l0 x5_1).f2) == ((rd_T40 l1 x5_1).f2))))) = false := by simpa using c7
        clear c7
        have H' := Aside0.mk H
        clear H
        have p249 : 0 ≤ (x5_1 : Int) := of_decide_eq_true (by first | (with_reducible assumption) | assumption)
        have q249 : x5_1 < (l0.length : Int) := of_decide_eq_true (by first | (with_reducible assumption) | assumption)
        obtain ⟨ad249, e249, hx249_0, hx249_1, hx249_2⟩ := at_T40 HR0.out x5_1 p249 q249
        cases e249
        replace p249 := eq_true p249
        replace q249 := eq_true q249
        have p250 : 0 ≤ (x5_1 : Int) := of_decide_eq_true (by first | (with_reducible assumption) | assumption)
        have q250 : x5_1 < (l1.length : Int) := of_decide_eq_true (by first | (with_reducible assumption) | assumption)
        obtain ⟨ad250, e250, hx250_0, hx250_1, hx250_2⟩ := at_T40 HR1.out x5_1 p250 q250
        cases e250
        replace p250 := eq_true p250
        replace q250 := eq_true q250
        go_wp2
        repeat (go_quiet (fail); try go_wp2)
        go_roundg k1
        case measure => have := HK1.out; omega
        case rel => exact ⟨(wrap64 (x5_1 + 1)), (by first | rfl | (simp; done) | (simp [*]; done)), H', ⟨by have := HK1.out; omega⟩, by repeat (first | exact Drawn0.refl _ | apply Drawn0.step)⟩
      ·rw [if_neg c6] at H
       exact absurd H (by simp)
     ·rw [if_neg c5] at H
      exact absurd H (by simp)
    ·rw [if_neg c4] at H
     have c4b0 : decide (x5_1 < (l0.length : Int)) = false := decide_eq_false c4
     clear c4
     obtain rfl := Option.some.inj H
     go_wp2
     repeat (go_quiet (fail); try go_wp2)
     go_ret
     exact ⟨by first | rfl | (simp; done) | (simp [*]; done), by repeat (first | exact Drawn0.refl _ | apply Drawn0.step)⟩
 ·rw [if_neg c3] at H
  have c3b0 : ((l0.length : Int) == (l1.length : Int)) = false := beq_eq_false_iff_ne.mpr c3
  have c3b1 : ((l0.length : Int) != (l1.length : Int)) = true := bne_iff_ne.mpr c3
  have c3b2 : (l0.length == l1.length) = false := by first | simpa using c3 | (simp at c3 ⊢; omega)
  obtain rfl := Option.some.inj H
  go_enter Try.func18, Try.ntmps18
  go_wp2
  repeat (go_quiet (fail); try go_wp2)
  go_ret
  exact ⟨by first | rfl | (simp; done) | (simp [*]; done), by repeat (first | exact Drawn0.refl _ | apply Drawn0.step)⟩

end Go.Proofs.Ytgeldmhgbnamcaa.P
end
