/- Walks and laws of several statements of this seat, joined into one text; no condition. -/
import Derived.Test.YtgeldmhgbnamcaaZa2
import Derived.Test.YtgeldmhgbnamcaaZa6
import Derived.Test.YtgeldmhgbnamcaaZa0
section
-- Printed by the session's own turn of the print (wip/tools/print2.sh): some callees are proved by hand.
namespace Go.Proofs.Ytgeldmhgbnamcaa.P
open Go.RowKit Go.Proofs.YtgeldmhgbnamcaaW.PrintWords Go.Proofs.YtgeldmhgbnamcaaW.PrintLast Go.Proofs.YtgeldmhgbnamcaaW.PrintMore
attribute [local go_sem] max2_int min2_int max_two min_two max_three min_three max_four min_four   -- for this text's walks alone
set_option linter.unusedVariables false
set_option linter.unusedSimpArgs false

/-! ### marchlandref03_Right: function 21 -/
def marchlandref03_Right.l0 : Nat → List (S40) → Int → Option (Bool)
 | 0, _, _ => none
 | k + 1, x0, x3 => if x3 < (x0.length : Int) then (if 0 ≤ x3 then (if ((rd_T40 x0 x3).f0) < 0 then (some false) else (if ((rd_T40 x0 x3).f0) > 63 then (some false) else (if ((rd_T40 x0 x3).f1) = 18446744073709551615 then (some false) else (if ((rd_T40 x0 x3).f2) = 0 then (some false) else ((marchlandref03_within.f ((rd_T40 x0 x3).f2)).bind fun t259 => (if t259 = true then (if x3 > 0 then (if 0 ≤ (wrap64 (x3 - 1)) then (if (wrap64 (x3 - 1)) < (x0.length : Int) then ((marchlandref03_before.f ((rd_T40 x0 (wrap64 (x3 - 1))).f0) ((rd_T40 x0 (wrap64 (x3 - 1))).f1) ((rd_T40 x0 (wrap64 (x3 - 1))).f2) ((rd_T40 x0 x3).f0) ((rd_T40 x0 x3).f1) ((rd_T40 x0 x3).f2)).bind fun t261 => (if t261 = true then (marchlandref03_Right.l0 k x0 (wrap64 (x3 + 1))) else (some false))) else (none)) else (none)) else (marchlandref03_Right.l0 k x0 (wrap64 (x3 + 1)))) else (some false))))))) else (none)) else (some true)
def marchlandref03_Right.f (k : Nat) (l0 : List (S40)) : Option (Bool) := marchlandref03_Right.l0 k l0 0
theorem marchlandref03_Right.mono_l : ∀ k, (∀ y0 y1, LeO (marchlandref03_Right.l0 k y0 y1) (marchlandref03_Right.l0 (k + 1) y0 y1))
 | 0 => fun _ _ r h => by simp [marchlandref03_Right.l0] at h
 | k + 1 => by
  have ih0 := marchlandref03_Right.mono_l k
  ·intro y0 y1
   unfold marchlandref03_Right.l0
   repeat' first
   | (with_reducible exact ih0 _ _)
   | (with_reducible exact LeO.refl _)
   | (with_reducible exact LeO.none _)
   | (with_reducible refine LeO.ite ?_ ?_)
   | (with_reducible refine LeO.bind ?_ (fun _ => ?_))
   | exact ih0 _ _
   | exact LeO.none _
   | refine LeO.ite ?_ ?_
   | refine LeO.bind ?_ (fun _ => ?_)
theorem marchlandref03_Right.mono : ∀ a0 k, LeO (marchlandref03_Right.f k a0) (marchlandref03_Right.f (k + 1) a0) := by
 intro a0 k
 have ih0 := marchlandref03_Right.mono_l k
 unfold marchlandref03_Right.f
 repeat' first
   | (with_reducible exact ih0 _ _)
   | (with_reducible exact LeO.refl _)
   | (with_reducible exact LeO.none _)
   | (with_reducible refine LeO.ite ?_ ?_)
   | (with_reducible refine LeO.bind ?_ (fun _ => ?_))
   | exact ih0 _ _
   | exact LeO.none _
   | refine LeO.ite ?_ ?_
   | refine LeO.bind ?_ (fun _ => ?_)
def marchlandref03_Right.T5 : Bool × List (List Nat × List Nat) := (true, [([], []), ([0], [0]), ([1], [1]), ([2], [2]), ([3], [3]), ([4, 3], [3, 4]), ([5, 3], [3, 5]), ([3, 6], [3, 6]), ([7, 3], [7]), ([8], [8]), ([9, 8], [8, 9]), ([10, 8], [8, 10]), ([8, 11], [8, 11]), ([12, 8], [12]), ([13], [13]), ([14, 13], [13, 14]), ([15, 13], [13, 15]), ([13, 16], [13, 16]), ([17, 13], [17]), ([18], [18]), ([19, 18], [18, 19]), ([20, 18, 18], [18, 20]), ([21, 18], [18, 21]), ([18, 22], [18, 22]), ([23, 21], [23]), ([24], [24]), ([25, 24], [24, 25]), ([26, 24, 24], [24, 26]), ([27], [27]), ([27], [27]), ([29, 27], [27, 29]), ([28, 30, 27], [27, 28, 30]), ([31, 27], [27, 31]), ([27], [27]), ([32, 33, 27, 27], [27, 32, 33]), ([34, 27], [27, 34]), ([27, 35, 24], [24, 27, 35]), ([24, 36], [24, 36])])
def marchlandref03_Right.B5 : List Nat := [0, 1, 3, 7, 15, 31, 63, 127, 255, 511, 1023, 2047, 4095, 8191, 16383, 32767, 65535, 131071, 262143, 524287, 1048575, 2097151, 4194303, 8388607, 16777215, 33554431, 67108863, 134217727, 268435455, 268435455, 805306367, 2147483647, 4294967295, 268435455, 17179869183, 34359738367, 68719476735, 137438953471]
theorem marchlandref03_Right.tab5 : rtab .any (opsOf Try.f21 5) = marchlandref03_Right.T5 := by kernel_rfl
theorem marchlandref03_Right.bits5 : waitsOk marchlandref03_Right.T5.2 marchlandref03_Right.B5 = true := by kernel_rfl
set_option maxHeartbeats 8000000 in
set_option maxRecDepth 100000 in
theorem marchlandref03_Right.calls (k : Nat) (A0 : Option Addr) (c0 : Nat) (l0 : List (S40)) (r : Bool) (w : World) (hr0 : Kd.C k40 w A0 l0.length l0) (hc0 : l0.length ≤ c0) (h : marchlandref03_Right.f k l0 = some r) :
  Calls Try.prog 21 #[.slice A0 l0.length c0] w fun e w' => e = .returned (.bool r) ∧ Below w.heap.size w w' := by
 have hu40 := Try.underlying40
 have HR0 := Aside0.mk hr0
 have HC0 := Aside0.mk hc0
 clear hr0 hc0
 have HB := Aside0.mk (Below.refl w.heap.size w)
 have H : (marchlandref03_Right.l0 k l0 0) = some r := h
 clear h
 have H' := Aside0.mk H
 clear H
 go_enter Try.func21, Try.ntmps21
 go_wp2
 go_loopg [3] k (fun kq v3 w' => ∃ (x3_1 : Int), v3 = .int .i64 x3_1 ∧ Aside0 (marchlandref03_Right.l0 kq l0 x3_1 = some r) ∧ Aside0 (kq ≤ k) ∧ Aside0 (Below w.heap.size w w'))
 case atStart => exact ⟨(0), (by first | rfl | (simp; done) | (simp [*]; done)), H', ⟨Nat.le_refl _⟩, ⟨by repeat (first | (with_reducible first | exact HB.out | apply below_alloc | apply pw_below_drewN | apply below_drew1) | exact HB.out)⟩⟩
 case round =>
  clear H'
  obtain ⟨x3_1, rfl, HA, HK1, HB⟩ := hrel
  cases gk with
  | zero => exact absurd HA.out (by simp [marchlandref03_Right.l0])
  | succ k1 =>
   have H := HA.out
   clear HA
   simp only [marchlandref03_Right.l0] at H
   by_cases c2 : x3_1 < (l0.length : Int)
   ·rw [if_pos c2] at H
    have c2b0 : decide (x3_1 < (l0.length : Int)) = true := decide_eq_true c2
    clear c2
    by_cases c3 : 0 ≤ x3_1
    ·rw [if_pos c3] at H
     have c3b0 : decide (0 ≤ x3_1) = true := decide_eq_true c3
     clear c3
     by_cases c4 : ((rd_T40 l0 x3_1).f0) < 0
     ·rw [if_pos c4] at H
      have c4b0 : decide (((rd_T40 l0 x3_1).f0) < 0) = true := decide_eq_true c4
      clear c4
      obtain rfl := Option.some.inj H
      have p257 : 0 ≤ (x3_1 : Int) := of_decide_eq_true (by first | (with_reducible assumption) | assumption)
      have q257 : x3_1 < (l0.length : Int) := of_decide_eq_true (by first | (with_reducible assumption) | assumption)
      obtain ⟨ad257, e257, hx257_0, hx257_1, hx257_2⟩ := at_T40 HR0.out x3_1 p257 q257
      cases e257
      replace hx257_0 := (HB.out.cell (World.block_lt_of_cell? w _ hx257_0)).trans hx257_0
      replace hx257_1 := (HB.out.cell (World.block_lt_of_cell? w _ hx257_1)).trans hx257_1
      replace hx257_2 := (HB.out.cell (World.block_lt_of_cell? w _ hx257_2)).trans hx257_2
      replace p257 := eq_true p257
      replace q257 := eq_true q257
      try go_wp2_with (first | ((with_reducible refine gate_dst (N := 4) rfl ?_); refine box_event ?hg (N := 4) ?hd (cs := #[.int .i64 0, .int .u64 0, .int .i64 0]) (t := 40) ?hr ?_; (case hd => rfl); (case hg => rfl); (case hr => first | (go_simp; done) | (go_simp; rfl)); intro gb258 hg w5 hbox hb; have n0_ := Aside0.mk (below_step (by repeat (first | (with_reducible first | exact HB.out | apply below_alloc | apply pw_below_drewN | apply below_drew1) | exact HB.out)) hb); have n1_ := Aside0.mk (hbox); have n2_ := Aside0.mk ((by rw [hg]; exact (below_size (by repeat (first | (with_reducible first | exact HB.out | apply below_alloc | apply pw_below_drewN | apply below_drew1) | exact HB.out))) : w.heap.size ≤ gb258)); have n3_ := Aside0.mk ((by rw [hg]; exact (below_size (by repeat (first | (with_reducible first | exact HB.out | apply below_alloc | apply pw_below_drewN | apply below_drew1) | exact HB.out))) : w.heap.size ≤ gb258)); clear HB; have HB := n0_; have BK258 := n1_; have GW258 := n2_; have GE258 := n3_; clear n0_ n1_ n2_ n3_; clear hb hbox hg; have hcz6_0 : w5.cell? ⟨gb258, 0, none⟩ = some (.int .i64 0) := (blk_cell BK258.out 0).trans rfl; have hcz6_1 : w5.cell? ⟨gb258, 1, none⟩ = some (.int .u64 0) := (blk_cell BK258.out 1).trans rfl; have hcz6_2 : w5.cell? ⟨gb258, 2, none⟩ = some (.int .i64 0) := (blk_cell BK258.out 2).trans rfl; have hfz6_0 := blk_frozen BK258.out 0; have hfz6_1 := blk_frozen BK258.out 1; have hfz6_2 := blk_frozen BK258.out 2))
      have n0_ : Aside0 ((((w5.setCell ⟨gb258, 0, none⟩ (.int .i64 ((rd_T40 l0 x3_1).f0))).setCell ⟨gb258, 1, none⟩ (.int .u64 ((rd_T40 l0 x3_1).f1))).setCell ⟨gb258, 2, none⟩ (.int .i64 ((rd_T40 l0 x3_1).f2))).heap[gb258]? = some (.cells #[.int .i64 ((rd_T40 l0 x3_1).f0), .int .u64 ((rd_T40 l0 x3_1).f1), .int .i64 ((rd_T40 l0 x3_1).f2)] 40 (0, 0))) := ⟨by (with_reducible repeat (first | refine blk_drewN ?_ _ | refine blk_drew ?_ | refine blk_alloc ?_ _)); refine blk_put (cs := #[.int .i64 ((rd_T40 l0 x3_1).f0), .int .u64 ((rd_T40 l0 x3_1).f1), .int .i64 0]) ?_ 2 _ rfl; (with_reducible repeat (first | refine blk_drewN ?_ _ | refine blk_drew ?_ | refine blk_alloc ?_ _)); refine blk_put (cs := #[.int .i64 ((rd_T40 l0 x3_1).f0), .int .u64 0, .int .i64 0]) ?_ 1 _ rfl; (with_reducible repeat (first | refine blk_drewN ?_ _ | refine blk_drew ?_ | refine blk_alloc ?_ _)); refine blk_put (cs := #[.int .i64 0, .int .u64 0, .int .i64 0]) ?_ 0 _ rfl; (with_reducible repeat (first | refine blk_drewN ?_ _ | refine blk_drew ?_ | refine blk_alloc ?_ _)); exact BK258.out⟩
      have n1_ : Aside0 (Below w.heap.size w (((w5.setCell ⟨gb258, 0, none⟩ (.int .i64 ((rd_T40 l0 x3_1).f0))).setCell ⟨gb258, 1, none⟩ (.int .u64 ((rd_T40 l0 x3_1).f1))).setCell ⟨gb258, 2, none⟩ (.int .i64 ((rd_T40 l0 x3_1).f2)))) := ⟨by repeat (first | (with_reducible first | exact HB.out | apply below_alloc | apply pw_below_drewN | apply below_drew1 | refine below_set ?_ GE258.out) | exact HB.out)⟩
      (try clear BK258)
      (try clear HB)
      generalize (((w5.setCell ⟨gb258, 0, none⟩ (.int .i64 ((rd_T40 l0 x3_1).f0))).setCell ⟨gb258, 1, none⟩ (.int .u64 ((rd_T40 l0 x3_1).f1))).setCell ⟨gb258, 2, none⟩ (.int .i64 ((rd_T40 l0 x3_1).f2))) = w7 at n0_ n1_ ⊢
      have BK258 := n0_
      have HB := n1_
      clear n0_ n1_
      have n0_ := Aside0.mk (blk_drew BK258.out)
      have n1_ := Aside0.mk (below_drew1 HB.out)
      clear BK258
      clear HB
      have BK258 := n0_
      have HB := n1_
      clear n0_ n1_
      refine start_ (n := 38) (S := fun w' => w'.cell? ⟨gb258, 0, none⟩ = some (.int .i64 ((rd_T40 l0 x3_1).f0)) ∧ w'.cell? ⟨gb258, 1, none⟩ = some (.int .u64 ((rd_T40 l0 x3_1).f1)) ∧ w'.cell? ⟨gb258, 2, none⟩ = some (.int .i64 ((rd_T40 l0 x3_1).f2))) (ds := []) (mk_ 0 38) (by kernel_rfl) rfl rfl ⟨(blk_cell BK258.out 0).trans rfl, (blk_cell BK258.out 1).trans rfl, (blk_cell BK258.out 2).trans rfl⟩ (fun hHeld => ?_); refine with_tabW marchlandref03_Right.tab5 marchlandref03_Right.bits5 (fun HT_ HW_ => ?_)
      generalize w7.drew = w8 at BK258 HB hHeld ⊢
      refine pv_ 0 15 (mk_ 1 37) HT_ ?_
      refine tv_ 1 16 (mk_ 2 36) HT_ HW_ hHeld (hy := by rintro w' ⟨s0, s1, s2⟩; go_simp; with_reducible rfl) (h := ?_)
      refine pv_ 2 17 (mk_ 3 35) HT_ ?_
      refine pv_ 3 18 (mk_ 4 34) HT_ ?_
      refine pu_ 4 19 (mk_ 5 33) HT_ ?_
      refine pu_ 5 20 (mk_ 6 32) HT_ ?_
      refine pu_ 6 21 (mk_ 7 31) HT_ ?_
      refine pv_ 7 22 (mk_ 8 30) HT_ ?_
      refine pv_ 8 23 (mk_ 9 29) HT_ ?_
      refine pu_ 9 24 (mk_ 10 28) HT_ ?_
      refine pu_ 10 25 (mk_ 11 27) HT_ ?_
      refine pu_ 11 26 (mk_ 12 26) HT_ ?_
      refine pv_ 12 27 (mk_ 13 25) HT_ ?_
      refine pv_ 13 28 (mk_ 14 24) HT_ ?_
      refine pu_ 14 29 (mk_ 15 23) HT_ ?_
      refine pu_ 15 30 (mk_ 16 22) HT_ ?_
      refine pu_ 16 31 (mk_ 17 21) HT_ ?_
      refine pv_ 17 32 (mk_ 18 20) HT_ ?_
      refine pv_ 18 33 (mk_ 19 19) HT_ ?_
      refine pu_ 19 34 (mk_ 20 18) HT_ ?_
      refine pu_ 20 35 (mk_ 21 17) HT_ ?_
      refine pu_ 21 36 (mk_ 22 16) HT_ ?_
      refine pu_ 22 37 (mk_ 23 15) HT_ ?_
      refine pv_ 23 38 (mk_ 24 14) HT_ ?_
      refine pv_ 24 39 (mk_ 25 13) HT_ ?_
      refine pu_ 25 40 (mk_ 26 12) HT_ ?_
      refine pu_ 26 41 (mk_ 27 11) HT_ ?_
      refine pu_ 27 42 (mk_ 28 10) HT_ ?_
      refine pu_ 28 43 (mk_ 29 9) HT_ ?_
      refine pu_ 29 44 (mk_ 30 8) HT_ ?_
      refine pu_ 30 45 (mk_ 31 7) HT_ ?_
      refine pu_ 31 46 (mk_ 32 6) HT_ ?_
      refine pu_ 32 47 (mk_ 33 5) HT_ ?_
      refine pu_ 33 48 (mk_ 34 4) HT_ ?_
      refine pu_ 34 49 (mk_ 35 3) HT_ ?_
      refine pu_ 35 50 (mk_ 36 2) HT_ ?_
      refine pu_ 36 51 (mk_ 37 1) HT_ ?_
      refine pv_ 37 52 (mk_ 38 0) HT_ ?_
      refine done_ (done_of HT_.out (by kernel_rfl)) ?_
      try go_wp2
      go_ret
      exact ⟨by first | rfl | (simp [errW_none, errW_some] <;> rfl) | (simp [*, errW_none, errW_some] <;> rfl), by repeat (first | (with_reducible first | exact HB.out | apply below_alloc | apply pw_below_drewN | apply below_drew1 | refine below_set ?_ GE258.out) | exact HB.out)⟩
     ·rw [if_neg c4] at H
      have c4b0 : decide (((rd_T40 l0 x3_1).f0) < 0) = false := decide_eq_false c4
      clear c4
      by_cases c9 : ((rd_T40 l0 x3_1).f0) > 63
      ·rw [if_pos c9] at H
       have c9b0 : decide (63 < ((rd_T40 l0 x3_1).f0)) = true := decide_eq_true c9
       clear c9
       obtain rfl := Option.some.inj H
       have p257 : 0 ≤ (x3_1 : Int) := of_decide_eq_true (by first | (with_reducible assumption) | assumption)
       have q257 : x3_1 < (l0.length : Int) := of_decide_eq_true (by first | (with_reducible assumption) | assumption)
       obtain ⟨ad257, e257, hx257_0, hx257_1, hx257_2⟩ := at_T40 HR0.out x3_1 p257 q257
       cases e257
       replace hx257_0 := (HB.out.cell (World.block_lt_of_cell? w _ hx257_0)).trans hx257_0
       replace hx257_1 := (HB.out.cell (World.block_lt_of_cell? w _ hx257_1)).trans hx257_1
       replace hx257_2 := (HB.out.cell (World.block_lt_of_cell? w _ hx257_2)).trans hx257_2
       replace p257 := eq_true p257
       replace q257 := eq_true q257
       try go_wp2_with (first | ((with_reducible refine gate_dst (N := 4) rfl ?_); refine box_event ?hg (N := 4) ?hd (cs := #[.int .i64 0, .int .u64 0, .int .i64 0]) (t := 40) ?hr ?_; (case hd => rfl); (case hg => rfl); (case hr => first | (go_simp; done) | (go_simp; rfl)); intro gb258 hg w10 hbox hb; have n0_ := Aside0.mk (below_step (by repeat (first | (with_reducible first | exact HB.out | apply below_alloc | apply pw_below_drewN | apply below_drew1) | exact HB.out)) hb); have n1_ := Aside0.mk (hbox); have n2_ := Aside0.mk ((by rw [hg]; exact (below_size (by repeat (first | (with_reducible first | exact HB.out | apply below_alloc | apply pw_below_drewN | apply below_drew1) | exact HB.out))) : w.heap.size ≤ gb258)); have n3_ := Aside0.mk ((by rw [hg]; exact (below_size (by repeat (first | (with_reducible first | exact HB.out | apply below_alloc | apply pw_below_drewN | apply below_drew1) | exact HB.out))) : w.heap.size ≤ gb258)); clear HB; have HB := n0_; have BK258 := n1_; have GW258 := n2_; have GE258 := n3_; clear n0_ n1_ n2_ n3_; clear hb hbox hg; have hcz11_0 : w10.cell? ⟨gb258, 0, none⟩ = some (.int .i64 0) := (blk_cell BK258.out 0).trans rfl; have hcz11_1 : w10.cell? ⟨gb258, 1, none⟩ = some (.int .u64 0) := (blk_cell BK258.out 1).trans rfl; have hcz11_2 : w10.cell? ⟨gb258, 2, none⟩ = some (.int .i64 0) := (blk_cell BK258.out 2).trans rfl; have hfz11_0 := blk_frozen BK258.out 0; have hfz11_1 := blk_frozen BK258.out 1; have hfz11_2 := blk_frozen BK258.out 2))
       have n0_ : Aside0 ((((w10.setCell ⟨gb258, 0, none⟩ (.int .i64 ((rd_T40 l0 x3_1).f0))).setCell ⟨gb258, 1, none⟩ (.int .u64 ((rd_T40 l0 x3_1).f1))).setCell ⟨gb258, 2, none⟩ (.int .i64 ((rd_T40 l0 x3_1).f2))).heap[gb258]? = some (.cells #[.int .i64 ((rd_T40 l0 x3_1).f0), .int .u64 ((rd_T40 l0 x3_1).f1), .int .i64 ((rd_T40 l0 x3_1).f2)] 40 (0, 0))) := ⟨by (with_reducible repeat (first | refine blk_drewN ?_ _ | refine blk_drew ?_ | refine blk_alloc ?_ _)); refine blk_put (cs := #[.int .i64 ((rd_T40 l0 x3_1).f0), .int .u64 ((rd_T40 l0 x3_1).f1), .int .i64 0]) ?_ 2 _ rfl; (with_reducible repeat (first | refine blk_drewN ?_ _ | refine blk_drew ?_ | refine blk_alloc ?_ _)); refine blk_put (cs := #[.int .i64 ((rd_T40 l0 x3_1).f0), .int .u64 0, .int .i64 0]) ?_ 1 _ rfl; (with_reducible repeat (first | refine blk_drewN ?_ _ | refine blk_drew ?_ | refine blk_alloc ?_ _)); refine blk_put (cs := #[.int .i64 0, .int .u64 0, .int .i64 0]) ?_ 0 _ rfl; (with_reducible repeat (first | refine blk_drewN ?_ _ | refine blk_drew ?_ | refine blk_alloc ?_ _)); exact BK258.out⟩
       have n1_ : Aside0 (Below w.heap.size w (((w10.setCell ⟨gb258, 0, none⟩ (.int .i64 ((rd_T40 l0 x3_1).f0))).setCell ⟨gb258, 1, none⟩ (.int .u64 ((rd_T40 l0 x3_1).f1))).setCell ⟨gb258, 2, none⟩ (.int .i64 ((rd_T40 l0 x3_1).f2)))) := ⟨by repeat (first | (with_reducible first | exact HB.out | apply below_alloc | apply pw_below_drewN | apply below_drew1 | refine below_set ?_ GE258.out) | exact HB.out)⟩
       (try clear BK258)
       (try clear HB)
       generalize (((w10.setCell ⟨gb258, 0, none⟩ (.int .i64 ((rd_T40 l0 x3_1).f0))).setCell ⟨gb258, 1, none⟩ (.int .u64 ((rd_T40 l0 x3_1).f1))).setCell ⟨gb258, 2, none⟩ (.int .i64 ((rd_T40 l0 x3_1).f2))) = w12 at n0_ n1_ ⊢
       have BK258 := n0_
       have HB := n1_
       clear n0_ n1_
       have n0_ := Aside0.mk (blk_drew BK258.out)
       have n1_ := Aside0.mk (below_drew1 HB.out)
       clear BK258
       clear HB
       have BK258 := n0_
       have HB := n1_
       clear n0_ n1_
       refine start_ (n := 38) (S := fun w' => w'.cell? ⟨gb258, 0, none⟩ = some (.int .i64 ((rd_T40 l0 x3_1).f0)) ∧ w'.cell? ⟨gb258, 1, none⟩ = some (.int .u64 ((rd_T40 l0 x3_1).f1)) ∧ w'.cell? ⟨gb258, 2, none⟩ = some (.int .i64 ((rd_T40 l0 x3_1).f2))) (ds := []) (mk_ 0 38) (by kernel_rfl) rfl rfl ⟨(blk_cell BK258.out 0).trans rfl, (blk_cell BK258.out 1).trans rfl, (blk_cell BK258.out 2).trans rfl⟩ (fun hHeld => ?_); refine with_tabW marchlandref03_Right.tab5 marchlandref03_Right.bits5 (fun HT_ HW_ => ?_)
       generalize w12.drew = w13 at BK258 HB hHeld ⊢
       refine pv_ 0 15 (mk_ 1 37) HT_ ?_
       refine tv_ 1 16 (mk_ 2 36) HT_ HW_ hHeld (hy := by rintro w' ⟨s0, s1, s2⟩; go_simp; with_reducible rfl) (h := ?_)
       refine pv_ 2 17 (mk_ 3 35) HT_ ?_
       refine pv_ 3 18 (mk_ 4 34) HT_ ?_
       refine pv_ 4 19 (mk_ 5 33) HT_ ?_
       refine tv_ 5 20 (mk_ 6 32) HT_ HW_ hHeld (hy := by rintro w' ⟨s0, s1, s2⟩; go_simp; with_reducible rfl) (h := ?_)
       refine pv_ 6 21 (mk_ 7 31) HT_ ?_
       refine pv_ 7 22 (mk_ 8 30) HT_ ?_
       refine pv_ 8 23 (mk_ 9 29) HT_ ?_
       refine pu_ 9 24 (mk_ 10 28) HT_ ?_
       refine pu_ 10 25 (mk_ 11 27) HT_ ?_
       refine pu_ 11 26 (mk_ 12 26) HT_ ?_
       refine pv_ 12 27 (mk_ 13 25) HT_ ?_
       refine pv_ 13 28 (mk_ 14 24) HT_ ?_
       refine pu_ 14 29 (mk_ 15 23) HT_ ?_
       refine pu_ 15 30 (mk_ 16 22) HT_ ?_
       refine pu_ 16 31 (mk_ 17 21) HT_ ?_
       refine pv_ 17 32 (mk_ 18 20) HT_ ?_
       refine pv_ 18 33 (mk_ 19 19) HT_ ?_
       refine pu_ 19 34 (mk_ 20 18) HT_ ?_
       refine pu_ 20 35 (mk_ 21 17) HT_ ?_
       refine pu_ 21 36 (mk_ 22 16) HT_ ?_
       refine pu_ 22 37 (mk_ 23 15) HT_ ?_
       refine pv_ 23 38 (mk_ 24 14) HT_ ?_
       refine pv_ 24 39 (mk_ 25 13) HT_ ?_
       refine pu_ 25 40 (mk_ 26 12) HT_ ?_
       refine pu_ 26 41 (mk_ 27 11) HT_ ?_
       refine pu_ 27 42 (mk_ 28 10) HT_ ?_
       refine pu_ 28 43 (mk_ 29 9) HT_ ?_
       refine pu_ 29 44 (mk_ 30 8) HT_ ?_
       refine pu_ 30 45 (mk_ 31 7) HT_ ?_
       refine pu_ 31 46 (mk_ 32 6) HT_ ?_
       refine pu_ 32 47 (mk_ 33 5) HT_ ?_
       refine pu_ 33 48 (mk_ 34 4) HT_ ?_
       refine pu_ 34 49 (mk_ 35 3) HT_ ?_
       refine pu_ 35 50 (mk_ 36 2) HT_ ?_
       refine pu_ 36 51 (mk_ 37 1) HT_ ?_
       refine pv_ 37 52 (mk_ 38 0) HT_ ?_
       refine done_ (done_of HT_.out (by kernel_rfl)) ?_
       try go_wp2
       go_ret
       exact ⟨by first | rfl | (simp [errW_none, errW_some] <;> rfl) | (simp [*, errW_none, errW_some] <;> rfl), by repeat (first | (with_reducible first | exact HB.out | apply below_alloc | apply pw_below_drewN | apply below_drew1 | refine below_set ?_ GE258.out) | exact HB.out)⟩
      ·rw [if_neg c9] at H
       have c9b0 : decide (63 < ((rd_T40 l0 x3_1).f0)) = false := decide_eq_false c9
       clear c9
       by_cases c14 : ((rd_T40 l0 x3_1).f1) = 18446744073709551615
       ·rw [if_pos c14] at H
        have c14b0 : (((rd_T40 l0 x3_1).f1) == 18446744073709551615) = true := beq_iff_eq.mpr c14
        have c14b1 : (((rd_T40 l0 x3_1).f1) != 18446744073709551615) = false := bne_eq_false_iff_eq.mpr c14
        clear c14
        obtain rfl := Option.some.inj H
        have p257 : 0 ≤ (x3_1 : Int) := of_decide_eq_true (by first | (with_reducible assumption) | assumption)
        have q257 : x3_1 < (l0.length : Int) := of_decide_eq_true (by first | (with_reducible assumption) | assumption)
        obtain ⟨ad257, e257, hx257_0, hx257_1, hx257_2⟩ := at_T40 HR0.out x3_1 p257 q257
        cases e257
        replace hx257_0 := (HB.out.cell (World.block_lt_of_cell? w _ hx257_0)).trans hx257_0
        replace hx257_1 := (HB.out.cell (World.block_lt_of_cell? w _ hx257_1)).trans hx257_1
        replace hx257_2 := (HB.out.cell (World.block_lt_of_cell? w _ hx257_2)).trans hx257_2
        replace p257 := eq_true p257
        replace q257 := eq_true q257
        try go_wp2_with (first | ((with_reducible refine gate_dst (N := 4) rfl ?_); refine box_event ?hg (N := 4) ?hd (cs := #[.int .i64 0, .int .u64 0, .int .i64 0]) (t := 40) ?hr ?_; (case hd => rfl); (case hg => rfl); (case hr => first | (go_simp; done) | (go_simp; rfl)); intro gb258 hg w15 hbox hb; have n0_ := Aside0.mk (below_step (by repeat (first | (with_reducible first | exact HB.out | apply below_alloc | apply pw_below_drewN | apply below_drew1) | exact HB.out)) hb); have n1_ := Aside0.mk (hbox); have n2_ := Aside0.mk ((by rw [hg]; exact (below_size (by repeat (first | (with_reducible first | exact HB.out | apply below_alloc | apply pw_below_drewN | apply below_drew1) | exact HB.out))) : w.heap.size ≤ gb258)); have n3_ := Aside0.mk ((by rw [hg]; exact (below_size (by repeat (first | (with_reducible first | exact HB.out | apply below_alloc | apply pw_below_drewN | apply below_drew1) | exact HB.out))) : w.heap.size ≤ gb258)); clear HB; have HB := n0_; have BK258 := n1_; have GW258 := n2_; have GE258 := n3_; clear n0_ n1_ n2_ n3_; clear hb hbox hg; have hcz16_0 : w15.cell? ⟨gb258, 0, none⟩ = some (.int .i64 0) := (blk_cell BK258.out 0).trans rfl; have hcz16_1 : w15.cell? ⟨gb258, 1, none⟩ = some (.int .u64 0) := (blk_cell BK258.out 1).trans rfl; have hcz16_2 : w15.cell? ⟨gb258, 2, none⟩ = some (.int .i64 0) := (blk_cell BK258.out 2).trans rfl; have hfz16_0 := blk_frozen BK258.out 0; have hfz16_1 := blk_frozen BK258.out 1; have hfz16_2 := blk_frozen BK258.out 2))
        have n0_ : Aside0 ((((w15.setCell ⟨gb258, 0, none⟩ (.int .i64 ((rd_T40 l0 x3_1).f0))).setCell ⟨gb258, 1, none⟩ (.int .u64 ((rd_T40 l0 x3_1).f1))).setCell ⟨gb258, 2, none⟩ (.int .i64 ((rd_T40 l0 x3_1).f2))).heap[gb258]? = some (.cells #[.int .i64 ((rd_T40 l0 x3_1).f0), .int .u64 ((rd_T40 l0 x3_1).f1), .int .i64 ((rd_T40 l0 x3_1).f2)] 40 (0, 0))) := ⟨by (with_reducible repeat (first | refine blk_drewN ?_ _ | refine blk_drew ?_ | refine blk_alloc ?_ _)); refine blk_put (cs := #[.int .i64 ((rd_T40 l0 x3_1).f0), .int .u64 ((rd_T40 l0 x3_1).f1), .int .i64 0]) ?_ 2 _ rfl; (with_reducible repeat (first | refine blk_drewN ?_ _ | refine blk_drew ?_ | refine blk_alloc ?_ _)); refine blk_put (cs := #[.int .i64 ((rd_T40 l0 x3_1).f0), .int .u64 0, .int .i64 0]) ?_ 1 _ rfl; (with_reducible repeat (first | refine blk_drewN ?_ _ | refine blk_drew ?_ | refine blk_alloc ?_ _)); refine blk_put (cs := #[.int .i64 0, .int .u64 0, .int .i64 0]) ?_ 0 _ rfl; (with_reducible repeat (first | refine blk_drewN ?_ _ | refine blk_drew ?_ | refine blk_alloc ?_ _)); exact BK258.out⟩
        have n1_ : Aside0 (Below w.heap.size w (((w15.setCell ⟨gb258, 0, none⟩ (.int .i64 ((rd_T40 l0 x3_1).f0))).setCell ⟨gb258, 1, none⟩ (.int .u64 ((rd_T40 l0 x3_1).f1))).setCell ⟨gb258, 2, none⟩ (.int .i64 ((rd_T40 l0 x3_1).f2)))) := ⟨by repeat (first | (with_reducible first | exact HB.out | apply below_alloc | apply pw_below_drewN | apply below_drew1 | refine below_set ?_ GE258.out) | exact HB.out)⟩
        (try clear BK258)
        (try clear HB)
        generalize (((w15.setCell ⟨gb258, 0, none⟩ (.int .i64 ((rd_T40 l0 x3_1).f0))).setCell ⟨gb258, 1, none⟩ (.int .u64 ((rd_T40 l0 x3_1).f1))).setCell ⟨gb258, 2, none⟩ (.int .i64 ((rd_T40 l0 x3_1).f2))) = w17 at n0_ n1_ ⊢
        have BK258 := n0_
        have HB := n1_
        clear n0_ n1_
        have n0_ := Aside0.mk (blk_drew BK258.out)
        have n1_ := Aside0.mk (below_drew1 HB.out)
        clear BK258
        clear HB
        have BK258 := n0_
        have HB := n1_
        clear n0_ n1_
        refine start_ (n := 38) (S := fun w' => w'.cell? ⟨gb258, 0, none⟩ = some (.int .i64 ((rd_T40 l0 x3_1).f0)) ∧ w'.cell? ⟨gb258, 1, none⟩ = some (.int .u64 ((rd_T40 l0 x3_1).f1)) ∧ w'.cell? ⟨gb258, 2, none⟩ = some (.int .i64 ((rd_T40 l0 x3_1).f2))) (ds := []) (mk_ 0 38) (by kernel_rfl) rfl rfl ⟨(blk_cell BK258.out 0).trans rfl, (blk_cell BK258.out 1).trans rfl, (blk_cell BK258.out 2).trans rfl⟩ (fun hHeld => ?_); refine with_tabW marchlandref03_Right.tab5 marchlandref03_Right.bits5 (fun HT_ HW_ => ?_)
        generalize w17.drew = w18 at BK258 HB hHeld ⊢
        refine pv_ 0 15 (mk_ 1 37) HT_ ?_
        refine tv_ 1 16 (mk_ 2 36) HT_ HW_ hHeld (hy := by rintro w' ⟨s0, s1, s2⟩; go_simp; with_reducible rfl) (h := ?_)
        refine pv_ 2 17 (mk_ 3 35) HT_ ?_
        refine pv_ 3 18 (mk_ 4 34) HT_ ?_
        refine pv_ 4 19 (mk_ 5 33) HT_ ?_
        refine tv_ 5 20 (mk_ 6 32) HT_ HW_ hHeld (hy := by rintro w' ⟨s0, s1, s2⟩; go_simp; with_reducible rfl) (h := ?_)
        refine pv_ 6 21 (mk_ 7 31) HT_ ?_
        refine pv_ 7 22 (mk_ 8 30) HT_ ?_
        refine pv_ 8 23 (mk_ 9 29) HT_ ?_
        refine pv_ 9 24 (mk_ 10 28) HT_ ?_
        refine tv_ 10 25 (mk_ 11 27) HT_ HW_ hHeld (hy := by rintro w' ⟨s0, s1, s2⟩; go_simp; with_reducible rfl) (h := ?_)
        refine pv_ 11 26 (mk_ 12 26) HT_ ?_
        refine pv_ 12 27 (mk_ 13 25) HT_ ?_
        refine pv_ 13 28 (mk_ 14 24) HT_ ?_
        refine pu_ 14 29 (mk_ 15 23) HT_ ?_
        refine pu_ 15 30 (mk_ 16 22) HT_ ?_
        refine pu_ 16 31 (mk_ 17 21) HT_ ?_
        refine pv_ 17 32 (mk_ 18 20) HT_ ?_
        refine pv_ 18 33 (mk_ 19 19) HT_ ?_
        refine pu_ 19 34 (mk_ 20 18) HT_ ?_
        refine pu_ 20 35 (mk_ 21 17) HT_ ?_
        refine pu_ 21 36 (mk_ 22 16) HT_ ?_
        refine pu_ 22 37 (mk_ 23 15) HT_ ?_
        refine pv_ 23 38 (mk_ 24 14) HT_ ?_
        refine pv_ 24 39 (mk_ 25 13) HT_ ?_
        refine pu_ 25 40 (mk_ 26 12) HT_ ?_
        refine pu_ 26 41 (mk_ 27 11) HT_ ?_
        refine pu_ 27 42 (mk_ 28 10) HT_ ?_
        refine pu_ 28 43 (mk_ 29 9) HT_ ?_
        refine pu_ 29 44 (mk_ 30 8) HT_ ?_
        refine pu_ 30 45 (mk_ 31 7) HT_ ?_
        refine pu_ 31 46 (mk_ 32 6) HT_ ?_
        refine pu_ 32 47 (mk_ 33 5) HT_ ?_
        refine pu_ 33 48 (mk_ 34 4) HT_ ?_
        refine pu_ 34 49 (mk_ 35 3) HT_ ?_
        refine pu_ 35 50 (mk_ 36 2) HT_ ?_
        refine pu_ 36 51 (mk_ 37 1) HT_ ?_
        refine pv_ 37 52 (mk_ 38 0) HT_ ?_
        refine done_ (done_of HT_.out (by kernel_rfl)) ?_
        try go_wp2
        go_ret
        exact ⟨by first | rfl | (simp [errW_none, errW_some] <;> rfl) | (simp [*, errW_none, errW_some] <;> rfl), by repeat (first | (with_reducible first | exact HB.out | apply below_alloc | apply pw_below_drewN | apply below_drew1 | refine below_set ?_ GE258.out) | exact HB.out)⟩
       ·rw [if_neg c14] at H
        have c14b0 : (((rd_T40 l0 x3_1).f1) == 18446744073709551615) = false := beq_eq_false_iff_ne.mpr c14
        have c14b1 : (((rd_T40 l0 x3_1).f1) != 18446744073709551615) = true := bne_iff_ne.mpr c14
        by_cases c19 : ((rd_T40 l0 x3_1).f2) = 0
        ·rw [if_pos c19] at H
         have c19b0 : (((rd_T40 l0 x3_1).f2) == 0) = true := beq_iff_eq.mpr c19
         have c19b1 : (((rd_T40 l0 x3_1).f2) != 0) = false := bne_eq_false_iff_eq.mpr c19
         clear c19
         obtain rfl := Option.some.inj H
         have p257 : 0 ≤ (x3_1 : Int) := of_decide_eq_true (by first | (with_reducible assumption) | assumption)
         have q257 : x3_1 < (l0.length : Int) := of_decide_eq_true (by first | (with_reducible assumption) | assumption)
         obtain ⟨ad257, e257, hx257_0, hx257_1, hx257_2⟩ := at_T40 HR0.out x3_1 p257 q257
         cases e257
         replace hx257_0 := (HB.out.cell (World.block_lt_of_cell? w _ hx257_0)).trans hx257_0
         replace hx257_1 := (HB.out.cell (World.block_lt_of_cell? w _ hx257_1)).trans hx257_1
         replace hx257_2 := (HB.out.cell (World.block_lt_of_cell? w _ hx257_2)).trans hx257_2
         replace p257 := eq_true p257
         replace q257 := eq_true q257
         try go_wp2_with (first | ((with_reducible refine gate_dst (N := 4) rfl ?_); refine box_event ?hg (N := 4) ?hd (cs := #[.int .i64 0, .int .u64 0, .int .i64 0]) (t := 40) ?hr ?_; (case hd => rfl); (case hg => rfl); (case hr => first | (go_simp; done) | (go_simp; rfl)); intro gb258 hg w20 hbox hb; have n0_ := Aside0.mk (below_step (by repeat (first | (with_reducible first | exact HB.out | apply below_alloc | apply pw_below_drewN | apply below_drew1) | exact HB.out)) hb); have n1_ := Aside0.mk (hbox); have n2_ := Aside0.mk ((by rw [hg]; exact (below_size (by repeat (first | (with_reducible first | exact HB.out | apply below_alloc | apply pw_below_drewN | apply below_drew1) | exact HB.out))) : w.heap.size ≤ gb258)); have n3_ := Aside0.mk ((by rw [hg]; exact (below_size (by repeat (first | (with_reducible first | exact HB.out | apply below_alloc | apply pw_below_drewN | apply below_drew1) | exact HB.out))) : w.heap.size ≤ gb258)); clear HB; have HB := n0_; have BK258 := n1_; have GW258 := n2_; have GE258 := n3_; clear n0_ n1_ n2_ n3_; clear hb hbox hg; have hcz21_0 : w20.cell? ⟨gb258, 0, none⟩ = some (.int .i64 0) := (blk_cell BK258.out 0).trans rfl; have hcz21_1 : w20.cell? ⟨gb258, 1, none⟩ = some (.int .u64 0) := (blk_cell BK258.out 1).trans rfl; have hcz21_2 : w20.cell? ⟨gb258, 2, none⟩ = some (.int .i64 0) := (blk_cell BK258.out 2).trans rfl; have hfz21_0 := blk_frozen BK258.out 0; have hfz21_1 := blk_frozen BK258.out 1; have hfz21_2 := blk_frozen BK258.out 2))
         have n0_ : Aside0 ((((w20.setCell ⟨gb258, 0, none⟩ (.int .i64 ((rd_T40 l0 x3_1).f0))).setCell ⟨gb258, 1, none⟩ (.int .u64 ((rd_T40 l0 x3_1).f1))).setCell ⟨gb258, 2, none⟩ (.int .i64 ((rd_T40 l0 x3_1).f2))).heap[gb258]? = some (.cells #[.int .i64 ((rd_T40 l0 x3_1).f0), .int .u64 ((rd_T40 l0 x3_1).f1), .int .i64 ((rd_T40 l0 x3_1).f2)] 40 (0, 0))) := ⟨by (with_reducible repeat (first | refine blk_drewN ?_ _ | refine blk_drew ?_ | refine blk_alloc ?_ _)); refine blk_put (cs := #[.int .i64 ((rd_T40 l0 x3_1).f0), .int .u64 ((rd_T40 l0 x3_1).f1), .int .i64 0]) ?_ 2 _ rfl; (with_reducible repeat (first | refine blk_drewN ?_ _ | refine blk_drew ?_ | refine blk_alloc ?_ _)); refine blk_put (cs := #[.int .i64 ((rd_T40 l0 x3_1).f0), .int .u64 0, .int .i64 0]) ?_ 1 _ rfl; (with_reducible repeat (first | refine blk_drewN ?_ _ | refine blk_drew ?_ | refine blk_alloc ?_ _)); refine blk_put (cs := #[.int .i64 0, .int .u64 0, .int .i64 0]) ?_ 0 _ rfl; (with_reducible repeat (first | refine blk_drewN ?_ _ | refine blk_drew ?_ | refine blk_alloc ?_ _)); exact BK258.out⟩
         have n1_ : Aside0 (Below w.heap.size w (((w20.setCell ⟨gb258, 0, none⟩ (.int .i64 ((rd_T40 l0 x3_1).f0))).setCell ⟨gb258, 1, none⟩ (.int .u64 ((rd_T40 l0 x3_1).f1))).setCell ⟨gb258, 2, none⟩ (.int .i64 ((rd_T40 l0 x3_1).f2)))) := ⟨by repeat (first | (with_reducible first | exact HB.out | apply below_alloc | apply pw_below_drewN | apply below_drew1 | refine below_set ?_ GE258.out) | exact HB.out)⟩
         (try clear BK258)
         (try clear HB)
         generalize (((w20.setCell ⟨gb258, 0, none⟩ (.int .i64 ((rd_T40 l0 x3_1).f0))).setCell ⟨gb258, 1, none⟩ (.int .u64 ((rd_T40 l0 x3_1).f1))).setCell ⟨gb258, 2, none⟩ (.int .i64 ((rd_T40 l0 x3_1).f2))) = w22 at n0_ n1_ ⊢
         have BK258 := n0_
         have HB := n1_
         clear n0_ n1_
         have n0_ := Aside0.mk (blk_drew BK258.out)
         have n1_ := Aside0.mk (below_drew1 HB.out)
         clear BK258
         clear HB
         have BK258 := n0_
         have HB := n1_
         clear n0_ n1_
         refine start_ (n := 38) (S := fun w' => w'.cell? ⟨gb258, 0, none⟩ = some (.int .i64 ((rd_T40 l0 x3_1).f0)) ∧ w'.cell? ⟨gb258, 1, none⟩ = some (.int .u64 ((rd_T40 l0 x3_1).f1)) ∧ w'.cell? ⟨gb258, 2, none⟩ = some (.int .i64 ((rd_T40 l0 x3_1).f2))) (ds := []) (mk_ 0 38) (by kernel_rfl) rfl rfl ⟨(blk_cell BK258.out 0).trans rfl, (blk_cell BK258.out 1).trans rfl, (blk_cell BK258.out 2).trans rfl⟩ (fun hHeld => ?_); refine with_tabW marchlandref03_Right.tab5 marchlandref03_Right.bits5 (fun HT_ HW_ => ?_)
         generalize w22.drew = w23 at BK258 HB hHeld ⊢
         refine pv_ 0 15 (mk_ 1 37) HT_ ?_
         refine tv_ 1 16 (mk_ 2 36) HT_ HW_ hHeld (hy := by rintro w' ⟨s0, s1, s2⟩; go_simp; with_reducible rfl) (h := ?_)
         refine pv_ 2 17 (mk_ 3 35) HT_ ?_
         refine pv_ 3 18 (mk_ 4 34) HT_ ?_
         refine pv_ 4 19 (mk_ 5 33) HT_ ?_
         refine tv_ 5 20 (mk_ 6 32) HT_ HW_ hHeld (hy := by rintro w' ⟨s0, s1, s2⟩; go_simp; with_reducible rfl) (h := ?_)
         refine pv_ 6 21 (mk_ 7 31) HT_ ?_
         refine pv_ 7 22 (mk_ 8 30) HT_ ?_
         refine pv_ 8 23 (mk_ 9 29) HT_ ?_
         refine pv_ 9 24 (mk_ 10 28) HT_ ?_
         refine tv_ 10 25 (mk_ 11 27) HT_ HW_ hHeld (hy := by rintro w' ⟨s0, s1, s2⟩; go_simp; with_reducible rfl) (h := ?_)
         refine pv_ 11 26 (mk_ 12 26) HT_ ?_
         refine pv_ 12 27 (mk_ 13 25) HT_ ?_
         refine pv_ 13 28 (mk_ 14 24) HT_ ?_
         refine pv_ 14 29 (mk_ 15 23) HT_ ?_
         refine tv_ 15 30 (mk_ 16 22) HT_ HW_ hHeld (hy := by rintro w' ⟨s0, s1, s2⟩; go_simp; with_reducible rfl) (h := ?_)
         refine pv_ 16 31 (mk_ 17 21) HT_ ?_
         refine pv_ 17 32 (mk_ 18 20) HT_ ?_
         refine pv_ 18 33 (mk_ 19 19) HT_ ?_
         refine pu_ 19 34 (mk_ 20 18) HT_ ?_
         refine pu_ 20 35 (mk_ 21 17) HT_ ?_
         refine pu_ 21 36 (mk_ 22 16) HT_ ?_
         refine pu_ 22 37 (mk_ 23 15) HT_ ?_
         refine pv_ 23 38 (mk_ 24 14) HT_ ?_
         refine pv_ 24 39 (mk_ 25 13) HT_ ?_
         refine pu_ 25 40 (mk_ 26 12) HT_ ?_
         refine pu_ 26 41 (mk_ 27 11) HT_ ?_
         refine pu_ 27 42 (mk_ 28 10) HT_ ?_
         refine pu_ 28 43 (mk_ 29 9) HT_ ?_
         refine pu_ 29 44 (mk_ 30 8) HT_ ?_
         refine pu_ 30 45 (mk_ 31 7) HT_ ?_
         refine pu_ 31 46 (mk_ 32 6) HT_ ?_
         refine pu_ 32 47 (mk_ 33 5) HT_ ?_
         refine pu_ 33 48 (mk_ 34 4) HT_ ?_
         refine pu_ 34 49 (mk_ 35 3) HT_ ?_
         refine pu_ 35 50 (mk_ 36 2) HT_ ?_
         refine pu_ 36 51 (mk_ 37 1) HT_ ?_
         refine pv_ 37 52 (mk_ 38 0) HT_ ?_
         refine done_ (done_of HT_.out (by kernel_rfl)) ?_
         try go_wp2
         go_ret
         exact ⟨by first | rfl | (simp [errW_none, errW_some] <;> rfl) | (simp [*, errW_none, errW_some] <;> rfl), by repeat (first | (with_reducible first | exact HB.out | apply below_alloc | apply pw_below_drewN | apply below_drew1 | refine below_set ?_ GE258.out) | exact HB.out)⟩
        ·rw [if_neg c19] at H
         have c19b0 : (((rd_T40 l0 x3_1).f2) == 0) = false := beq_eq_false_iff_ne.mpr c19
         have c19b1 : (((rd_T40 l0 x3_1).f2) != 0) = true := bne_iff_ne.mpr c19
         replace H := Option.bind_eq_some_iff.mp H
         obtain ⟨t259, A240, H⟩ := H
         replace H : (if t259 = true then (if x3_1 > 0 then (if 0 ≤ (wrap64 (x3_1 - 1)) then (if (wrap64 (x3_1 - 1)) < (l0.length : Int) then ((marchlandref03_before.f ((rd_T40 l0 (wrap64 (x3_1 - 1))).f0) ((rd_T40 l0 (wrap64 (x3_1 - 1))).f1) ((rd_T40 l0 (wrap64 (x3_1 - 1))).f2) ((rd_T40 l0 x3_1).f0) ((rd_T40 l0 x3_1).f1) ((rd_T40 l0 x3_1).f2)).bind fun t261 => (if t261 = true then (marchlandref03_Right.l0 k1 l0 (wrap64 (x3_1 + 1))) else (some false))) else (none)) else (none)) else (marchlandref03_Right.l0 k1 l0 (wrap64 (x3_1 + 1)))) else (some false)) = some r := H
         have A24 := Aside0.mk A240
         clear A240
         by_cases c25 : t259 = true
         ·subst c25
          have H1 : (if x3_1 > 0 then (if 0 ≤ (wrap64 (x3_1 - 1)) then (if (wrap64 (x3_1 - 1)) < (l0.length : Int) then ((marchlandref03_before.f ((rd_T40 l0 (wrap64 (x3_1 - 1))).f0) ((rd_T40 l0 (wrap64 (x3_1 - 1))).f1) ((rd_T40 l0 (wrap64 (x3_1 - 1))).f2) ((rd_T40 l0 x3_1).f0) ((rd_T40 l0 x3_1).f1) ((rd_T40 l0 x3_1).f2)).bind fun t261 => (if t261 = true then (marchlandref03_Right.l0 k1 l0 (wrap64 (x3_1 + 1))) else (some false))) else (none)) else (none)) else (marchlandref03_Right.l0 k1 l0 (wrap64 (x3_1 + 1)))) = some r := by rw [if_pos rfl] at H; exact H
          clear H
          have H := H1
          clear H1
          by_cases c26 : x3_1 > 0
          ·rw [if_pos c26] at H
           have c26b0 : decide (0 < x3_1) = true := decide_eq_true c26
           clear c26
           obtain ⟨ji27, hji27⟩ : ∃ j_ : Int, (wrap64 (x3_1 - 1)) = j_ := ⟨_, rfl⟩
           replace H : (if 0 ≤ (ji27) then (if (ji27) < (l0.length : Int) then ((marchlandref03_before.f ((rd_T40 l0 (ji27)).f0) ((rd_T40 l0 (ji27)).f1) ((rd_T40 l0 (ji27)).f2) ((rd_T40 l0 x3_1).f0) ((rd_T40 l0 x3_1).f1) ((rd_T40 l0 x3_1).f2)).bind fun t261 => (if t261 = true then (marchlandref03_Right.l0 k1 l0 (wrap64 (x3_1 + 1))) else (some false))) else (none)) else (none)) = some r := by first | (rw [hji27] at H; exact H) | (simp only [hji27] at H ⊢; exact H)
           (try rw [hji27] at A24)
           have hji27w : (IntKind.i64.wrap (x3_1 - 1)) = ji27 := (i64_w _).trans hji27
           by_cases c28 : 0 ≤ (ji27)
           ·rw [if_pos c28] at H
            have c28b0 : decide (0 ≤ (ji27)) = true := decide_eq_true c28
            clear c28
            by_cases c29 : (ji27) < (l0.length : Int)
            ·rw [if_pos c29] at H
             have c29b0 : decide ((ji27) < (l0.length : Int)) = true := decide_eq_true c29
             clear c29
             replace H := Option.bind_eq_some_iff.mp H
             obtain ⟨t261, A300, H⟩ := H
             replace H : (if t261 = true then (marchlandref03_Right.l0 k1 l0 (wrap64 (x3_1 + 1))) else (some false)) = some r := H
             have A30 := Aside0.mk A300
             clear A300
             by_cases c31 : t261 = true
             ·subst c31
              have H1 : (marchlandref03_Right.l0 k1 l0 (wrap64 (x3_1 + 1))) = some r := by rw [if_pos rfl] at H; exact H
              clear H
              have H := H1
              clear H1
              have H' := Aside0.mk H
              clear H
              have p257 : 0 ≤ (x3_1 : Int) := of_decide_eq_true (by first | (with_reducible assumption) | assumption)
              have q257 : x3_1 < (l0.length : Int) := of_decide_eq_true (by first | (with_reducible assumption) | assumption)
              obtain ⟨ad257, e257, hx257_0, hx257_1, hx257_2⟩ := at_T40 HR0.out x3_1 p257 q257
              cases e257
              replace hx257_0 := (HB.out.cell (World.block_lt_of_cell? w _ hx257_0)).trans hx257_0
              replace hx257_1 := (HB.out.cell (World.block_lt_of_cell? w _ hx257_1)).trans hx257_1
              replace hx257_2 := (HB.out.cell (World.block_lt_of_cell? w _ hx257_2)).trans hx257_2
              replace p257 := eq_true p257
              replace q257 := eq_true q257
              try go_wp2_with (first | ((with_reducible refine gate_dst (N := 4) rfl ?_); refine box_event ?hg (N := 4) ?hd (cs := #[.int .i64 0, .int .u64 0, .int .i64 0]) (t := 40) ?hr ?_; (case hd => rfl); (case hg => rfl); (case hr => first | (go_simp; done) | (go_simp; rfl)); intro gb258 hg w32 hbox hb; have n0_ := Aside0.mk (below_step (by repeat (first | (with_reducible first | exact HB.out | apply below_alloc | apply pw_below_drewN | apply below_drew1) | exact HB.out)) hb); have n1_ := Aside0.mk (hbox); have n2_ := Aside0.mk ((by rw [hg]; exact (below_size (by repeat (first | (with_reducible first | exact HB.out | apply below_alloc | apply pw_below_drewN | apply below_drew1) | exact HB.out))) : w.heap.size ≤ gb258)); have n3_ := Aside0.mk ((by rw [hg]; exact (below_size (by repeat (first | (with_reducible first | exact HB.out | apply below_alloc | apply pw_below_drewN | apply below_drew1) | exact HB.out))) : w.heap.size ≤ gb258)); clear HB; have HB := n0_; have BK258 := n1_; have GW258 := n2_; have GE258 := n3_; clear n0_ n1_ n2_ n3_; clear hb hbox hg; have hcz33_0 : w32.cell? ⟨gb258, 0, none⟩ = some (.int .i64 0) := (blk_cell BK258.out 0).trans rfl; have hcz33_1 : w32.cell? ⟨gb258, 1, none⟩ = some (.int .u64 0) := (blk_cell BK258.out 1).trans rfl; have hcz33_2 : w32.cell? ⟨gb258, 2, none⟩ = some (.int .i64 0) := (blk_cell BK258.out 2).trans rfl; have hfz33_0 := blk_frozen BK258.out 0; have hfz33_1 := blk_frozen BK258.out 1; have hfz33_2 := blk_frozen BK258.out 2))
              have n0_ : Aside0 ((((w32.setCell ⟨gb258, 0, none⟩ (.int .i64 ((rd_T40 l0 x3_1).f0))).setCell ⟨gb258, 1, none⟩ (.int .u64 ((rd_T40 l0 x3_1).f1))).setCell ⟨gb258, 2, none⟩ (.int .i64 ((rd_T40 l0 x3_1).f2))).heap[gb258]? = some (.cells #[.int .i64 ((rd_T40 l0 x3_1).f0), .int .u64 ((rd_T40 l0 x3_1).f1), .int .i64 ((rd_T40 l0 x3_1).f2)] 40 (0, 0))) := ⟨by (with_reducible repeat (first | refine blk_drewN ?_ _ | refine blk_drew ?_ | refine blk_alloc ?_ _)); refine blk_put (cs := #[.int .i64 ((rd_T40 l0 x3_1).f0), .int .u64 ((rd_T40 l0 x3_1).f1), .int .i64 0]) ?_ 2 _ rfl; (with_reducible repeat (first | refine blk_drewN ?_ _ | refine blk_drew ?_ | refine blk_alloc ?_ _)); refine blk_put (cs := #[.int .i64 ((rd_T40 l0 x3_1).f0), .int .u64 0, .int .i64 0]) ?_ 1 _ rfl; (with_reducible repeat (first | refine blk_drewN ?_ _ | refine blk_drew ?_ | refine blk_alloc ?_ _)); refine blk_put (cs := #[.int .i64 0, .int .u64 0, .int .i64 0]) ?_ 0 _ rfl; (with_reducible repeat (first | refine blk_drewN ?_ _ | refine blk_drew ?_ | refine blk_alloc ?_ _)); exact BK258.out⟩
              have n1_ : Aside0 (Below w.heap.size w (((w32.setCell ⟨gb258, 0, none⟩ (.int .i64 ((rd_T40 l0 x3_1).f0))).setCell ⟨gb258, 1, none⟩ (.int .u64 ((rd_T40 l0 x3_1).f1))).setCell ⟨gb258, 2, none⟩ (.int .i64 ((rd_T40 l0 x3_1).f2)))) := ⟨by repeat (first | (with_reducible first | exact HB.out | apply below_alloc | apply pw_below_drewN | apply below_drew1 | refine below_set ?_ GE258.out) | exact HB.out)⟩
              (try clear BK258)
              (try clear HB)
              generalize (((w32.setCell ⟨gb258, 0, none⟩ (.int .i64 ((rd_T40 l0 x3_1).f0))).setCell ⟨gb258, 1, none⟩ (.int .u64 ((rd_T40 l0 x3_1).f1))).setCell ⟨gb258, 2, none⟩ (.int .i64 ((rd_T40 l0 x3_1).f2))) = w34 at n0_ n1_ ⊢
              have BK258 := n0_
              have HB := n1_
              clear n0_ n1_
              have n0_ := Aside0.mk (blk_drew BK258.out)
              have n1_ := Aside0.mk (below_drew1 HB.out)
              clear BK258
              clear HB
              have BK258 := n0_
              have HB := n1_
              clear n0_ n1_
              have p260 : 0 ≤ ((ji27) : Int) := of_decide_eq_true (by first | (with_reducible assumption) | assumption)
              have q260 : (ji27) < (l0.length : Int) := of_decide_eq_true (by first | (with_reducible assumption) | assumption)
              obtain ⟨ad260, e260, hx260_0, hx260_1, hx260_2⟩ := at_T40 HR0.out (ji27) p260 q260
              have hw260_2 := hx260_2
              have hw260_1 := hx260_1
              have hw260_0 := hx260_0
              obtain rfl : ad257 = ad260 := (by injection e260)
              replace hx260_0 := (HB.out.cell (World.block_lt_of_cell? w _ hx260_0)).trans hx260_0
              replace hx260_1 := (HB.out.cell (World.block_lt_of_cell? w _ hx260_1)).trans hx260_1
              replace hx260_2 := (HB.out.cell (World.block_lt_of_cell? w _ hx260_2)).trans hx260_2
              replace p260 := eq_true p260
              replace q260 := eq_true q260
              refine start_ (n := 38) (S := fun w' => w'.cell? ⟨gb258, 0, none⟩ = some (.int .i64 ((rd_T40 l0 x3_1).f0)) ∧ w'.cell? ⟨gb258, 1, none⟩ = some (.int .u64 ((rd_T40 l0 x3_1).f1)) ∧ w'.cell? ⟨gb258, 2, none⟩ = some (.int .i64 ((rd_T40 l0 x3_1).f2)) ∧ w'.cell? (ad257.add (((ji27)).toNat * 3)) = some (.int .i64 ((rd_T40 l0 (ji27)).f0)) ∧ w'.cell? ⟨(ad257.add (((ji27)).toNat * 3)).block, (ad257.add (((ji27)).toNat * 3)).off + 1, none⟩ = some (.int .u64 ((rd_T40 l0 (ji27)).f1)) ∧ w'.cell? ⟨(ad257.add (((ji27)).toNat * 3)).block, (ad257.add (((ji27)).toNat * 3)).off + 2, none⟩ = some (.int .i64 ((rd_T40 l0 (ji27)).f2))) (ds := []) (mk_ 0 38) (by kernel_rfl) rfl rfl ⟨(blk_cell BK258.out 0).trans rfl, (blk_cell BK258.out 1).trans rfl, (blk_cell BK258.out 2).trans rfl, ((HB.out.cell (World.block_lt_of_cell? w _ hw260_0)).trans hw260_0), ((HB.out.cell (World.block_lt_of_cell? w _ hw260_1)).trans hw260_1), ((HB.out.cell (World.block_lt_of_cell? w _ hw260_2)).trans hw260_2)⟩ (fun hHeld => ?_); refine with_tabW marchlandref03_Right.tab5 marchlandref03_Right.bits5 (fun HT_ HW_ => ?_)
              generalize w34.drew = w35 at BK258 HB hx260_0 hx260_1 hx260_2 hHeld ⊢
              refine pv_ 0 15 (mk_ 1 37) HT_ ?_
              refine tv_ 1 16 (mk_ 2 36) HT_ HW_ hHeld (hy := by rintro w' ⟨s0, s1, s2, s3, s4, s5⟩; go_simp; with_reducible rfl) (h := ?_)
              refine pv_ 2 17 (mk_ 3 35) HT_ ?_
              refine pv_ 3 18 (mk_ 4 34) HT_ ?_
              refine pv_ 4 19 (mk_ 5 33) HT_ ?_
              refine tv_ 5 20 (mk_ 6 32) HT_ HW_ hHeld (hy := by rintro w' ⟨s0, s1, s2, s3, s4, s5⟩; go_simp; with_reducible rfl) (h := ?_)
              refine pv_ 6 21 (mk_ 7 31) HT_ ?_
              refine pv_ 7 22 (mk_ 8 30) HT_ ?_
              refine pv_ 8 23 (mk_ 9 29) HT_ ?_
              refine pv_ 9 24 (mk_ 10 28) HT_ ?_
              refine tv_ 10 25 (mk_ 11 27) HT_ HW_ hHeld (hy := by rintro w' ⟨s0, s1, s2, s3, s4, s5⟩; go_simp; with_reducible rfl) (h := ?_)
              refine pv_ 11 26 (mk_ 12 26) HT_ ?_
              refine pv_ 12 27 (mk_ 13 25) HT_ ?_
              refine pv_ 13 28 (mk_ 14 24) HT_ ?_
              refine pv_ 14 29 (mk_ 15 23) HT_ ?_
              refine tv_ 15 30 (mk_ 16 22) HT_ HW_ hHeld (hy := by rintro w' ⟨s0, s1, s2, s3, s4, s5⟩; go_simp; with_reducible rfl) (h := ?_)
              refine pv_ 16 31 (mk_ 17 21) HT_ ?_
              refine pv_ 17 32 (mk_ 18 20) HT_ ?_
              refine pv_ 18 33 (mk_ 19 19) HT_ ?_
              refine pv_ 19 34 (mk_ 20 18) HT_ ?_
              refine tv_ 20 35 (mk_ 21 17) HT_ HW_ hHeld (hy := by rintro w' ⟨s0, s1, s2, s3, s4, s5⟩; go_simp; with_reducible rfl) (h := ?_)
              refine one_ (i := 21) (N := some 36) (mk_ 22 16) rfl rfl (one_of HT_.out (by kernel_rfl)) (by decide) (fun K hK => ?_)
              refine goes_ Try.func51 (by kernel_rfl) rfl #[.int .i64 ((rd_T40 l0 x3_1).f2)] (by rfl) rfl rfl (by (try simp only [List.map_toArray, List.map_cons, List.map_nil]); first | done | rfl | (simp only [List.length_drop, List.length_take]; rfl)) ?_
              with_reducible refine (marchlandref03_within.calls ((rd_T40 l0 x3_1).f2) true _ A24.out).mono ?_
              rintro e w' ⟨rfl, ⟨nd, rfl⟩⟩
              refine ⟨_, rfl, ?_⟩
              refine hK.out _ _ ⟨(blk_cell BK258.out 0).trans rfl, (blk_cell BK258.out 1).trans rfl, (blk_cell BK258.out 2).trans rfl, ((HB.out.cell (World.block_lt_of_cell? w _ hw260_0)).trans hw260_0), ((HB.out.cell (World.block_lt_of_cell? w _ hw260_1)).trans hw260_1), ((HB.out.cell (World.block_lt_of_cell? w _ hw260_2)).trans hw260_2)⟩ (fun hHeld => ?_)
              clear hK K
              refine norm_ (a' := ?_) ?_ ?_
              rotate_left
              ·show Act.put _ (some 36) _ = _
               simp only [Act.put, List.setIfInBounds_toArray, List.set_cons_zero, List.set_cons_succ, i64_w, i32_w]
               rfl
              refine pv_ 22 37 (mk_ 23 15) HT_ ?_
              refine pv_ 23 38 (mk_ 24 14) HT_ ?_
              refine pv_ 24 39 (mk_ 25 13) HT_ ?_
              refine pv_ 25 40 (mk_ 26 12) HT_ ?_
              refine pv_ 26 41 (mk_ 27 11) HT_ ?_
              refine pv_ 27 42 (mk_ 28 10) HT_ ?_
              refine pv_ 28 43 (mk_ 29 9) HT_ ?_
              refine pv_ 29 44 (mk_ 30 8) HT_ ?_
              refine pv_ 30 45 (mk_ 31 7) HT_ ?_
              refine pv_ 31 46 (mk_ 32 6) HT_ ?_
              refine tv_ 32 47 (mk_ 33 5) HT_ HW_ hHeld (hy := by rintro w' ⟨s0, s1, s2, s3, s4, s5⟩; go_simp; with_reducible rfl) (h := ?_)
              refine tv_ 33 48 (mk_ 34 4) HT_ HW_ hHeld (hy := by rintro w' ⟨s0, s1, s2, s3, s4, s5⟩; go_simp; with_reducible rfl) (h := ?_)
              refine one_ (i := 34) (N := some 49) (mk_ 35 3) rfl rfl (one_of HT_.out (by kernel_rfl)) (by decide) (fun K hK => ?_)
              refine goes_ Try.func54 (by kernel_rfl) rfl #[.agg #[.int .i64 ((rd_T40 l0 (ji27)).f0), .int .u64 ((rd_T40 l0 (ji27)).f1), .int .i64 ((rd_T40 l0 (ji27)).f2)], .agg #[.int .i64 ((rd_T40 l0 x3_1).f0), .int .u64 ((rd_T40 l0 x3_1).f1), .int .i64 ((rd_T40 l0 x3_1).f2)]] (by rfl) rfl rfl (by (try simp only [List.map_toArray, List.map_cons, List.map_nil]); first | done | (simp only [hji27]; rfl) | rfl | (simp only [List.length_drop, List.length_take]; rfl)) ?_
              with_reducible refine (marchlandref03_before.calls ((rd_T40 l0 (ji27)).f0) ((rd_T40 l0 (ji27)).f1) ((rd_T40 l0 (ji27)).f2) ((rd_T40 l0 x3_1).f0) ((rd_T40 l0 x3_1).f1) ((rd_T40 l0 x3_1).f2) true _ A30.out).mono ?_
              rintro e w36 ⟨rfl, hb⟩
              refine ⟨_, rfl, ?_⟩
              have n0_ := Aside0.mk (blk_below (g := gb258) (o := .cells #[.int .i64 ((rd_T40 l0 x3_1).f0), .int .u64 ((rd_T40 l0 x3_1).f1), .int .i64 ((rd_T40 l0 x3_1).f2)] 40 (0, 0)) (by (with_reducible repeat (first | refine blk_drewN ?_ _ | refine blk_drew ?_ | refine blk_alloc ?_ _)); exact BK258.out) hb)
              have n1_ := Aside0.mk (below_step (by repeat (first | (with_reducible first | exact HB.out | apply below_alloc | apply pw_below_drewN | apply below_drew1 | refine below_set ?_ GE258.out) | exact HB.out)) hb)
              clear BK258
              clear HB
              have BK258 := n0_
              have HB := n1_
              clear n0_ n1_
              (try clear hb)
              (try clear hb2)
              (try clear hk)
              (try clear hi)
              refine hK.out _ _ ⟨(blk_cell BK258.out 0).trans rfl, (blk_cell BK258.out 1).trans rfl, (blk_cell BK258.out 2).trans rfl, ((HB.out.cell (World.block_lt_of_cell? w _ hw260_0)).trans hw260_0), ((HB.out.cell (World.block_lt_of_cell? w _ hw260_1)).trans hw260_1), ((HB.out.cell (World.block_lt_of_cell? w _ hw260_2)).trans hw260_2)⟩ (fun hHeld => ?_)
              clear hK K
              refine norm_ (a' := ?_) ?_ ?_
              rotate_left
              ·show Act.put _ (some 49) _ = _
               simp only [Act.put, List.setIfInBounds_toArray, List.set_cons_zero, List.set_cons_succ, i64_w, i32_w]
               rfl
              refine pv_ 35 50 (mk_ 36 2) HT_ ?_
              refine pv_ 36 51 (mk_ 37 1) HT_ ?_
              refine pv_ 37 52 (mk_ 38 0) HT_ ?_
              refine done_ (done_of HT_.out (by kernel_rfl)) ?_
              try go_wp2
              go_roundg k1
              case measure => have := HK1.out; omega
              case rel => exact ⟨(wrap64 (x3_1 + 1)), (by first | rfl | (simp; done) | (simp [*]; done)), H', ⟨by have := HK1.out; omega⟩, ⟨by repeat (first | (with_reducible first | exact HB.out | apply below_alloc | apply pw_below_drewN | apply below_drew1 | refine below_set ?_ GE258.out) | exact HB.out)⟩⟩
             ·replace c31 := Bool.eq_false_iff.mpr c31
              subst c31
              have H1 : (some false) = some r := by rw [if_neg (show ¬ (false = true) by decide)] at H; exact H
              clear H
              have H := H1
              clear H1
              obtain rfl := Option.some.inj H
              have p257 : 0 ≤ (x3_1 : Int) := of_decide_eq_true (by first | (with_reducible assumption) | assumption)
              have q257 : x3_1 < (l0.length : Int) := of_decide_eq_true (by first | (with_reducible assumption) | assumption)
              obtain ⟨ad257, e257, hx257_0, hx257_1, hx257_2⟩ := at_T40 HR0.out x3_1 p257 q257
              cases e257
              replace hx257_0 := (HB.out.cell (World.block_lt_of_cell? w _ hx257_0)).trans hx257_0
              replace hx257_1 := (HB.out.cell (World.block_lt_of_cell? w _ hx257_1)).trans hx257_1
              replace hx257_2 := (HB.out.cell (World.block_lt_of_cell? w _ hx257_2)).trans hx257_2
              replace p257 := eq_true p257
              replace q257 := eq_true q257
              try go_wp2_with (first | ((with_reducible refine gate_dst (N := 4) rfl ?_); refine box_event ?hg (N := 4) ?hd (cs := #[.int .i64 0, .int .u64 0, .int .i64 0]) (t := 40) ?hr ?_; (case hd => rfl); (case hg => rfl); (case hr => first | (go_simp; done) | (go_simp; rfl)); intro gb258 hg w37 hbox hb; have n0_ := Aside0.mk (below_step (by repeat (first | (with_reducible first | exact HB.out | apply below_alloc | apply pw_below_drewN | apply below_drew1) | exact HB.out)) hb); have n1_ := Aside0.mk (hbox); have n2_ := Aside0.mk ((by rw [hg]; exact (below_size (by repeat (first | (with_reducible first | exact HB.out | apply below_alloc | apply pw_below_drewN | apply below_drew1) | exact HB.out))) : w.heap.size ≤ gb258)); have n3_ := Aside0.mk ((by rw [hg]; exact (below_size (by repeat (first | (with_reducible first | exact HB.out | apply below_alloc | apply pw_below_drewN | apply below_drew1) | exact HB.out))) : w.heap.size ≤ gb258)); clear HB; have HB := n0_; have BK258 := n1_; have GW258 := n2_; have GE258 := n3_; clear n0_ n1_ n2_ n3_; clear hb hbox hg; have hcz38_0 : w37.cell? ⟨gb258, 0, none⟩ = some (.int .i64 0) := (blk_cell BK258.out 0).trans rfl; have hcz38_1 : w37.cell? ⟨gb258, 1, none⟩ = some (.int .u64 0) := (blk_cell BK258.out 1).trans rfl; have hcz38_2 : w37.cell? ⟨gb258, 2, none⟩ = some (.int .i64 0) := (blk_cell BK258.out 2).trans rfl; have hfz38_0 := blk_frozen BK258.out 0; have hfz38_1 := blk_frozen BK258.out 1; have hfz38_2 := blk_frozen BK258.out 2))
              have n0_ : Aside0 ((((w37.setCell ⟨gb258, 0, none⟩ (.int .i64 ((rd_T40 l0 x3_1).f0))).setCell ⟨gb258, 1, none⟩ (.int .u64 ((rd_T40 l0 x3_1).f1))).setCell ⟨gb258, 2, none⟩ (.int .i64 ((rd_T40 l0 x3_1).f2))).heap[gb258]? = some (.cells #[.int .i64 ((rd_T40 l0 x3_1).f0), .int .u64 ((rd_T40 l0 x3_1).f1), .int .i64 ((rd_T40 l0 x3_1).f2)] 40 (0, 0))) := ⟨by (with_reducible repeat (first | refine blk_drewN ?_ _ | refine blk_drew ?_ | refine blk_alloc ?_ _)); refine blk_put (cs := #[.int .i64 ((rd_T40 l0 x3_1).f0), .int .u64 ((rd_T40 l0 x3_1).f1), .int .i64 0]) ?_ 2 _ rfl; (with_reducible repeat (first | refine blk_drewN ?_ _ | refine blk_drew ?_ | refine blk_alloc ?_ _)); refine blk_put (cs := #[.int .i64 ((rd_T40 l0 x3_1).f0), .int .u64 0, .int .i64 0]) ?_ 1 _ rfl; (with_reducible repeat (first | refine blk_drewN ?_ _ | refine blk_drew ?_ | refine blk_alloc ?_ _)); refine blk_put (cs := #[.int .i64 0, .int .u64 0, .int .i64 0]) ?_ 0 _ rfl; (with_reducible repeat (first | refine blk_drewN ?_ _ | refine blk_drew ?_ | refine blk_alloc ?_ _)); exact BK258.out⟩
              have n1_ : Aside0 (Below w.heap.size w (((w37.setCell ⟨gb258, 0, none⟩ (.int .i64 ((rd_T40 l0 x3_1).f0))).setCell ⟨gb258, 1, none⟩ (.int .u64 ((rd_T40 l0 x3_1).f1))).setCell ⟨gb258, 2, none⟩ (.int .i64 ((rd_T40 l0 x3_1).f2)))) := ⟨by repeat (first | (with_reducible first | exact HB.out | apply below_alloc | apply pw_below_drewN | apply below_drew1 | refine below_set ?_ GE258.out) | exact HB.out)⟩
              (try clear BK258)
              (try clear HB)
              generalize (((w37.setCell ⟨gb258, 0, none⟩ (.int .i64 ((rd_T40 l0 x3_1).f0))).setCell ⟨gb258, 1, none⟩ (.int .u64 ((rd_T40 l0 x3_1).f1))).setCell ⟨gb258, 2, none⟩ (.int .i64 ((rd_T40 l0 x3_1).f2))) = w39 at n0_ n1_ ⊢
              have BK258 := n0_
              have HB := n1_
              clear n0_ n1_
              have n0_ := Aside0.mk (blk_drew BK258.out)
              have n1_ := Aside0.mk (below_drew1 HB.out)
              clear BK258
              clear HB
              have BK258 := n0_
              have HB := n1_
              clear n0_ n1_
              have p260 : 0 ≤ ((ji27) : Int) := of_decide_eq_true (by first | (with_reducible assumption) | assumption)
              have q260 : (ji27) < (l0.length : Int) := of_decide_eq_true (by first | (with_reducible assumption) | assumption)
              obtain ⟨ad260, e260, hx260_0, hx260_1, hx260_2⟩ := at_T40 HR0.out (ji27) p260 q260
              have hw260_2 := hx260_2
              have hw260_1 := hx260_1
              have hw260_0 := hx260_0
              obtain rfl : ad257 = ad260 := (by injection e260)
              replace hx260_0 := (HB.out.cell (World.block_lt_of_cell? w _ hx260_0)).trans hx260_0
              replace hx260_1 := (HB.out.cell (World.block_lt_of_cell? w _ hx260_1)).trans hx260_1
              replace hx260_2 := (HB.out.cell (World.block_lt_of_cell? w _ hx260_2)).trans hx260_2
              replace p260 := eq_true p260
              replace q260 := eq_true q260
              refine start_ (n := 38) (S := fun w' => w'.cell? ⟨gb258, 0, none⟩ = some (.int .i64 ((rd_T40 l0 x3_1).f0)) ∧ w'.cell? ⟨gb258, 1, none⟩ = some (.int .u64 ((rd_T40 l0 x3_1).f1)) ∧ w'.cell? ⟨gb258, 2, none⟩ = some (.int .i64 ((rd_T40 l0 x3_1).f2)) ∧ w'.cell? (ad257.add (((ji27)).toNat * 3)) = some (.int .i64 ((rd_T40 l0 (ji27)).f0)) ∧ w'.cell? ⟨(ad257.add (((ji27)).toNat * 3)).block, (ad257.add (((ji27)).toNat * 3)).off + 1, none⟩ = some (.int .u64 ((rd_T40 l0 (ji27)).f1)) ∧ w'.cell? ⟨(ad257.add (((ji27)).toNat * 3)).block, (ad257.add (((ji27)).toNat * 3)).off + 2, none⟩ = some (.int .i64 ((rd_T40 l0 (ji27)).f2))) (ds := []) (mk_ 0 38) (by kernel_rfl) rfl rfl ⟨(blk_cell BK258.out 0).trans rfl, (blk_cell BK258.out 1).trans rfl, (blk_cell BK258.out 2).trans rfl, ((HB.out.cell (World.block_lt_of_cell? w _ hw260_0)).trans hw260_0), ((HB.out.cell (World.block_lt_of_cell? w _ hw260_1)).trans hw260_1), ((HB.out.cell (World.block_lt_of_cell? w _ hw260_2)).trans hw260_2)⟩ (fun hHeld => ?_); refine with_tabW marchlandref03_Right.tab5 marchlandref03_Right.bits5 (fun HT_ HW_ => ?_)
              generalize w39.drew = w40 at BK258 HB hx260_0 hx260_1 hx260_2 hHeld ⊢
              refine pv_ 0 15 (mk_ 1 37) HT_ ?_
              refine tv_ 1 16 (mk_ 2 36) HT_ HW_ hHeld (hy := by rintro w' ⟨s0, s1, s2, s3, s4, s5⟩; go_simp; with_reducible rfl) (h := ?_)
              refine pv_ 2 17 (mk_ 3 35) HT_ ?_
              refine pv_ 3 18 (mk_ 4 34) HT_ ?_
              refine pv_ 4 19 (mk_ 5 33) HT_ ?_
              refine tv_ 5 20 (mk_ 6 32) HT_ HW_ hHeld (hy := by rintro w' ⟨s0, s1, s2, s3, s4, s5⟩; go_simp; with_reducible rfl) (h := ?_)
              refine pv_ 6 21 (mk_ 7 31) HT_ ?_
              refine pv_ 7 22 (mk_ 8 30) HT_ ?_
              refine pv_ 8 23 (mk_ 9 29) HT_ ?_
              refine pv_ 9 24 (mk_ 10 28) HT_ ?_
              refine tv_ 10 25 (mk_ 11 27) HT_ HW_ hHeld (hy := by rintro w' ⟨s0, s1, s2, s3, s4, s5⟩; go_simp; with_reducible rfl) (h := ?_)
              refine pv_ 11 26 (mk_ 12 26) HT_ ?_
              refine pv_ 12 27 (mk_ 13 25) HT_ ?_
              refine pv_ 13 28 (mk_ 14 24) HT_ ?_
              refine pv_ 14 29 (mk_ 15 23) HT_ ?_
              refine tv_ 15 30 (mk_ 16 22) HT_ HW_ hHeld (hy := by rintro w' ⟨s0, s1, s2, s3, s4, s5⟩; go_simp; with_reducible rfl) (h := ?_)
              refine pv_ 16 31 (mk_ 17 21) HT_ ?_
              refine pv_ 17 32 (mk_ 18 20) HT_ ?_
              refine pv_ 18 33 (mk_ 19 19) HT_ ?_
              refine pv_ 19 34 (mk_ 20 18) HT_ ?_
              refine tv_ 20 35 (mk_ 21 17) HT_ HW_ hHeld (hy := by rintro w' ⟨s0, s1, s2, s3, s4, s5⟩; go_simp; with_reducible rfl) (h := ?_)
              refine one_ (i := 21) (N := some 36) (mk_ 22 16) rfl rfl (one_of HT_.out (by kernel_rfl)) (by decide) (fun K hK => ?_)
              refine goes_ Try.func51 (by kernel_rfl) rfl #[.int .i64 ((rd_T40 l0 x3_1).f2)] (by rfl) rfl rfl (by (try simp only [List.map_toArray, List.map_cons, List.map_nil]); first | done | rfl | (simp only [List.length_drop, List.length_take]; rfl)) ?_
              with_reducible refine (marchlandref03_within.calls ((rd_T40 l0 x3_1).f2) true _ A24.out).mono ?_
              rintro e w' ⟨rfl, ⟨nd, rfl⟩⟩
              refine ⟨_, rfl, ?_⟩
              refine hK.out _ _ ⟨(blk_cell BK258.out 0).trans rfl, (blk_cell BK258.out 1).trans rfl, (blk_cell BK258.out 2).trans rfl, ((HB.out.cell (World.block_lt_of_cell? w _ hw260_0)).trans hw260_0), ((HB.out.cell (World.block_lt_of_cell? w _ hw260_1)).trans hw260_1), ((HB.out.cell (World.block_lt_of_cell? w _ hw260_2)).trans hw260_2)⟩ (fun hHeld => ?_)
              clear hK K
              refine norm_ (a' := ?_) ?_ ?_
              rotate_left
              ·show Act.put _ (some 36) _ = _
               simp only [Act.put, List.setIfInBounds_toArray, List.set_cons_zero, List.set_cons_succ, i64_w, i32_w]
               rfl
              refine pv_ 22 37 (mk_ 23 15) HT_ ?_
              refine pv_ 23 38 (mk_ 24 14) HT_ ?_
              refine pv_ 24 39 (mk_ 25 13) HT_ ?_
              refine pv_ 25 40 (mk_ 26 12) HT_ ?_
              refine pv_ 26 41 (mk_ 27 11) HT_ ?_
              refine pv_ 27 42 (mk_ 28 10) HT_ ?_
              refine pv_ 28 43 (mk_ 29 9) HT_ ?_
              refine pv_ 29 44 (mk_ 30 8) HT_ ?_
              refine pv_ 30 45 (mk_ 31 7) HT_ ?_
              refine pv_ 31 46 (mk_ 32 6) HT_ ?_
              refine tv_ 32 47 (mk_ 33 5) HT_ HW_ hHeld (hy := by rintro w' ⟨s0, s1, s2, s3, s4, s5⟩; go_simp; with_reducible rfl) (h := ?_)
              refine tv_ 33 48 (mk_ 34 4) HT_ HW_ hHeld (hy := by rintro w' ⟨s0, s1, s2, s3, s4, s5⟩; go_simp; with_reducible rfl) (h := ?_)
              refine one_ (i := 34) (N := some 49) (mk_ 35 3) rfl rfl (one_of HT_.out (by kernel_rfl)) (by decide) (fun K hK => ?_)
              refine goes_ Try.func54 (by kernel_rfl) rfl #[.agg #[.int .i64 ((rd_T40 l0 (ji27)).f0), .int .u64 ((rd_T40 l0 (ji27)).f1), .int .i64 ((rd_T40 l0 (ji27)).f2)], .agg #[.int .i64 ((rd_T40 l0 x3_1).f0), .int .u64 ((rd_T40 l0 x3_1).f1), .int .i64 ((rd_T40 l0 x3_1).f2)]] (by rfl) rfl rfl (by (try simp only [List.map_toArray, List.map_cons, List.map_nil]); first | done | (simp only [hji27]; rfl) | rfl | (simp only [List.length_drop, List.length_take]; rfl)) ?_
              with_reducible refine (marchlandref03_before.calls ((rd_T40 l0 (ji27)).f0) ((rd_T40 l0 (ji27)).f1) ((rd_T40 l0 (ji27)).f2) ((rd_T40 l0 x3_1).f0) ((rd_T40 l0 x3_1).f1) ((rd_T40 l0 x3_1).f2) false _ A30.out).mono ?_
              rintro e w41 ⟨rfl, hb⟩
              refine ⟨_, rfl, ?_⟩
              have n0_ := Aside0.mk (blk_below (g := gb258) (o := .cells #[.int .i64 ((rd_T40 l0 x3_1).f0), .int .u64 ((rd_T40 l0 x3_1).f1), .int .i64 ((rd_T40 l0 x3_1).f2)] 40 (0, 0)) (by (with_reducible repeat (first | refine blk_drewN ?_ _ | refine blk_drew ?_ | refine blk_alloc ?_ _)); exact BK258.out) hb)
              have n1_ := Aside0.mk (below_step (by repeat (first | (with_reducible first | exact HB.out | apply below_alloc | apply pw_below_drewN | apply below_drew1 | refine below_set ?_ GE258.out) | exact HB.out)) hb)
              clear BK258
              clear HB
              have BK258 := n0_
              have HB := n1_
              clear n0_ n1_
              (try clear hb)
              (try clear hb2)
              (try clear hk)
              (try clear hi)
              refine hK.out _ _ ⟨(blk_cell BK258.out 0).trans rfl, (blk_cell BK258.out 1).trans rfl, (blk_cell BK258.out 2).trans rfl, ((HB.out.cell (World.block_lt_of_cell? w _ hw260_0)).trans hw260_0), ((HB.out.cell (World.block_lt_of_cell? w _ hw260_1)).trans hw260_1), ((HB.out.cell (World.block_lt_of_cell? w _ hw260_2)).trans hw260_2)⟩ (fun hHeld => ?_)
              clear hK K
              refine norm_ (a' := ?_) ?_ ?_
              rotate_left
              ·show Act.put _ (some 49) _ = _
               simp only [Act.put, List.setIfInBounds_toArray, List.set_cons_zero, List.set_cons_succ, i64_w, i32_w]
               rfl
              refine pv_ 35 50 (mk_ 36 2) HT_ ?_
              refine pv_ 36 51 (mk_ 37 1) HT_ ?_
              refine pv_ 37 52 (mk_ 38 0) HT_ ?_
              refine done_ (done_of HT_.out (by kernel_rfl)) ?_
              try go_wp2
              go_ret
              exact ⟨by first | rfl | (simp [errW_none, errW_some] <;> rfl) | (simp only [← hji27]; first | rfl | (simp [errW_none, errW_some] <;> rfl)) | (simp [*, errW_none, errW_some] <;> rfl), by repeat (first | (with_reducible first | exact HB.out | apply below_alloc | apply pw_below_drewN | apply below_drew1 | refine below_set ?_ GE258.out) | exact HB.out)⟩
            ·rw [if_neg c29] at H
             exact absurd H (by simp)
           ·rw [if_neg c28] at H
            exact absurd H (by simp)
          ·rw [if_neg c26] at H
           have c26b0 : decide (0 < x3_1) = false := decide_eq_false c26
           clear c26
           have H' := Aside0.mk H
           clear H
           have p257 : 0 ≤ (x3_1 : Int) := of_decide_eq_true (by first | (with_reducible assumption) | assumption)
           have q257 : x3_1 < (l0.length : Int) := of_decide_eq_true (by first | (with_reducible assumption) | assumption)
           obtain ⟨ad257, e257, hx257_0, hx257_1, hx257_2⟩ := at_T40 HR0.out x3_1 p257 q257
           cases e257
           replace hx257_0 := (HB.out.cell (World.block_lt_of_cell? w _ hx257_0)).trans hx257_0
           replace hx257_1 := (HB.out.cell (World.block_lt_of_cell? w _ hx257_1)).trans hx257_1
           replace hx257_2 := (HB.out.cell (World.block_lt_of_cell? w _ hx257_2)).trans hx257_2
           replace p257 := eq_true p257
           replace q257 := eq_true q257
           try go_wp2_with (first | ((with_reducible refine gate_dst (N := 4) rfl ?_); refine box_event ?hg (N := 4) ?hd (cs := #[.int .i64 0, .int .u64 0, .int .i64 0]) (t := 40) ?hr ?_; (case hd => rfl); (case hg => rfl); (case hr => first | (go_simp; done) | (go_simp; rfl)); intro gb258 hg w42 hbox hb; have n0_ := Aside0.mk (below_step (by repeat (first | (with_reducible first | exact HB.out | apply below_alloc | apply pw_below_drewN | apply below_drew1) | exact HB.out)) hb); have n1_ := Aside0.mk (hbox); have n2_ := Aside0.mk ((by rw [hg]; exact (below_size (by repeat (first | (with_reducible first | exact HB.out | apply below_alloc | apply pw_below_drewN | apply below_drew1) | exact HB.out))) : w.heap.size ≤ gb258)); have n3_ := Aside0.mk ((by rw [hg]; exact (below_size (by repeat (first | (with_reducible first | exact HB.out | apply below_alloc | apply pw_below_drewN | apply below_drew1) | exact HB.out))) : w.heap.size ≤ gb258)); clear HB; have HB := n0_; have BK258 := n1_; have GW258 := n2_; have GE258 := n3_; clear n0_ n1_ n2_ n3_; clear hb hbox hg; have hcz43_0 : w42.cell? ⟨gb258, 0, none⟩ = some (.int .i64 0) := (blk_cell BK258.out 0).trans rfl; have hcz43_1 : w42.cell? ⟨gb258, 1, none⟩ = some (.int .u64 0) := (blk_cell BK258.out 1).trans rfl; have hcz43_2 : w42.cell? ⟨gb258, 2, none⟩ = some (.int .i64 0) := (blk_cell BK258.out 2).trans rfl; have hfz43_0 := blk_frozen BK258.out 0; have hfz43_1 := blk_frozen BK258.out 1; have hfz43_2 := blk_frozen BK258.out 2))
           have n0_ : Aside0 ((((w42.setCell ⟨gb258, 0, none⟩ (.int .i64 ((rd_T40 l0 x3_1).f0))).setCell ⟨gb258, 1, none⟩ (.int .u64 ((rd_T40 l0 x3_1).f1))).setCell ⟨gb258, 2, none⟩ (.int .i64 ((rd_T40 l0 x3_1).f2))).heap[gb258]? = some (.cells #[.int .i64 ((rd_T40 l0 x3_1).f0), .int .u64 ((rd_T40 l0 x3_1).f1), .int .i64 ((rd_T40 l0 x3_1).f2)] 40 (0, 0))) := ⟨by (with_reducible repeat (first | refine blk_drewN ?_ _ | refine blk_drew ?_ | refine blk_alloc ?_ _)); refine blk_put (cs := #[.int .i64 ((rd_T40 l0 x3_1).f0), .int .u64 ((rd_T40 l0 x3_1).f1), .int .i64 0]) ?_ 2 _ rfl; (with_reducible repeat (first | refine blk_drewN ?_ _ | refine blk_drew ?_ | refine blk_alloc ?_ _)); refine blk_put (cs := #[.int .i64 ((rd_T40 l0 x3_1).f0), .int .u64 0, .int .i64 0]) ?_ 1 _ rfl; (with_reducible repeat (first | refine blk_drewN ?_ _ | refine blk_drew ?_ | refine blk_alloc ?_ _)); refine blk_put (cs := #[.int .i64 0, .int .u64 0, .int .i64 0]) ?_ 0 _ rfl; (with_reducible repeat (first | refine blk_drewN ?_ _ | refine blk_drew ?_ | refine blk_alloc ?_ _)); exact BK258.out⟩
           have n1_ : Aside0 (Below w.heap.size w (((w42.setCell ⟨gb258, 0, none⟩ (.int .i64 ((rd_T40 l0 x3_1).f0))).setCell ⟨gb258, 1, none⟩ (.int .u64 ((rd_T40 l0 x3_1).f1))).setCell ⟨gb258, 2, none⟩ (.int .i64 ((rd_T40 l0 x3_1).f2)))) := ⟨by repeat (first | (with_reducible first | exact HB.out | apply below_alloc | apply pw_below_drewN | apply below_drew1 | refine below_set ?_ GE258.out) | exact HB.out)⟩
           (try clear BK258)
           (try clear HB)
           generalize (((w42.setCell ⟨gb258, 0, none⟩ (.int .i64 ((rd_T40 l0 x3_1).f0))).setCell ⟨gb258, 1, none⟩ (.int .u64 ((rd_T40 l0 x3_1).f1))).setCell ⟨gb258, 2, none⟩ (.int .i64 ((rd_T40 l0 x3_1).f2))) = w44 at n0_ n1_ ⊢
           have BK258 := n0_
           have HB := n1_
           clear n0_ n1_
           have n0_ := Aside0.mk (blk_drew BK258.out)
           have n1_ := Aside0.mk (below_drew1 HB.out)
           clear BK258
           clear HB
           have BK258 := n0_
           have HB := n1_
           clear n0_ n1_
           refine start_ (n := 38) (S := fun w' => w'.cell? ⟨gb258, 0, none⟩ = some (.int .i64 ((rd_T40 l0 x3_1).f0)) ∧ w'.cell? ⟨gb258, 1, none⟩ = some (.int .u64 ((rd_T40 l0 x3_1).f1)) ∧ w'.cell? ⟨gb258, 2, none⟩ = some (.int .i64 ((rd_T40 l0 x3_1).f2))) (ds := []) (mk_ 0 38) (by kernel_rfl) rfl rfl ⟨(blk_cell BK258.out 0).trans rfl, (blk_cell BK258.out 1).trans rfl, (blk_cell BK258.out 2).trans rfl⟩ (fun hHeld => ?_); refine with_tabW marchlandref03_Right.tab5 marchlandref03_Right.bits5 (fun HT_ HW_ => ?_)
           generalize w44.drew = w45 at BK258 HB hHeld ⊢
           refine pv_ 0 15 (mk_ 1 37) HT_ ?_
           refine tv_ 1 16 (mk_ 2 36) HT_ HW_ hHeld (hy := by rintro w' ⟨s0, s1, s2⟩; go_simp; with_reducible rfl) (h := ?_)
           refine pv_ 2 17 (mk_ 3 35) HT_ ?_
           refine pv_ 3 18 (mk_ 4 34) HT_ ?_
           refine pv_ 4 19 (mk_ 5 33) HT_ ?_
           refine tv_ 5 20 (mk_ 6 32) HT_ HW_ hHeld (hy := by rintro w' ⟨s0, s1, s2⟩; go_simp; with_reducible rfl) (h := ?_)
           refine pv_ 6 21 (mk_ 7 31) HT_ ?_
           refine pv_ 7 22 (mk_ 8 30) HT_ ?_
           refine pv_ 8 23 (mk_ 9 29) HT_ ?_
           refine pv_ 9 24 (mk_ 10 28) HT_ ?_
           refine tv_ 10 25 (mk_ 11 27) HT_ HW_ hHeld (hy := by rintro w' ⟨s0, s1, s2⟩; go_simp; with_reducible rfl) (h := ?_)
           refine pv_ 11 26 (mk_ 12 26) HT_ ?_
           refine pv_ 12 27 (mk_ 13 25) HT_ ?_
           refine pv_ 13 28 (mk_ 14 24) HT_ ?_
           refine pv_ 14 29 (mk_ 15 23) HT_ ?_
           refine tv_ 15 30 (mk_ 16 22) HT_ HW_ hHeld (hy := by rintro w' ⟨s0, s1, s2⟩; go_simp; with_reducible rfl) (h := ?_)
           refine pv_ 16 31 (mk_ 17 21) HT_ ?_
           refine pv_ 17 32 (mk_ 18 20) HT_ ?_
           refine pv_ 18 33 (mk_ 19 19) HT_ ?_
           refine pv_ 19 34 (mk_ 20 18) HT_ ?_
           refine tv_ 20 35 (mk_ 21 17) HT_ HW_ hHeld (hy := by rintro w' ⟨s0, s1, s2⟩; go_simp; with_reducible rfl) (h := ?_)
           refine one_ (i := 21) (N := some 36) (mk_ 22 16) rfl rfl (one_of HT_.out (by kernel_rfl)) (by decide) (fun K hK => ?_)
           refine goes_ Try.func51 (by kernel_rfl) rfl #[.int .i64 ((rd_T40 l0 x3_1).f2)] (by rfl) rfl rfl (by (try simp only [List.map_toArray, List.map_cons, List.map_nil]); first | done | rfl | (simp only [List.length_drop, List.length_take]; rfl)) ?_
           with_reducible refine (marchlandref03_within.calls ((rd_T40 l0 x3_1).f2) true _ A24.out).mono ?_
           rintro e w' ⟨rfl, ⟨nd, rfl⟩⟩
           refine ⟨_, rfl, ?_⟩
           refine hK.out _ _ ⟨(blk_cell BK258.out 0).trans rfl, (blk_cell BK258.out 1).trans rfl, (blk_cell BK258.out 2).trans rfl⟩ (fun hHeld => ?_)
           clear hK K
           refine norm_ (a' := ?_) ?_ ?_
           rotate_left
           ·show Act.put _ (some 36) _ = _
            simp only [Act.put, List.setIfInBounds_toArray, List.set_cons_zero, List.set_cons_succ, i64_w, i32_w]
            rfl
           refine pv_ 22 37 (mk_ 23 15) HT_ ?_
           refine pv_ 23 38 (mk_ 24 14) HT_ ?_
           refine pv_ 24 39 (mk_ 25 13) HT_ ?_
           refine pv_ 25 40 (mk_ 26 12) HT_ ?_
           refine pv_ 26 41 (mk_ 27 11) HT_ ?_
           refine pv_ 27 42 (mk_ 28 10) HT_ ?_
           refine pu_ 28 43 (mk_ 29 9) HT_ ?_
           refine pu_ 29 44 (mk_ 30 8) HT_ ?_
           refine pu_ 30 45 (mk_ 31 7) HT_ ?_
           refine pu_ 31 46 (mk_ 32 6) HT_ ?_
           refine pu_ 32 47 (mk_ 33 5) HT_ ?_
           refine pu_ 33 48 (mk_ 34 4) HT_ ?_
           refine pu_ 34 49 (mk_ 35 3) HT_ ?_
           refine pu_ 35 50 (mk_ 36 2) HT_ ?_
           refine pv_ 36 51 (mk_ 37 1) HT_ ?_
           refine pv_ 37 52 (mk_ 38 0) HT_ ?_
           refine done_ (done_of HT_.out (by kernel_rfl)) ?_
           try go_wp2
           go_roundg k1
           case measure => have := HK1.out; omega
           case rel => exact ⟨(wrap64 (x3_1 + 1)), (by first | rfl | (simp; done) | (simp [*]; done)), H', ⟨by have := HK1.out; omega⟩, ⟨by repeat (first | (with_reducible first | exact HB.out | apply below_alloc | apply pw_below_drewN | apply below_drew1 | refine below_set ?_ GE258.out) | exact HB.out)⟩⟩
         ·replace c25 := Bool.eq_false_iff.mpr c25
          subst c25
          have H1 : (some false) = some r := by rw [if_neg (show ¬ (false = true) by decide)] at H; exact H
          clear H
          have H := H1
          clear H1
          obtain rfl := Option.some.inj H
          have p257 : 0 ≤ (x3_1 : Int) := of_decide_eq_true (by first | (with_reducible assumption) | assumption)
          have q257 : x3_1 < (l0.length : Int) := of_decide_eq_true (by first | (with_reducible assumption) | assumption)
          obtain ⟨ad257, e257, hx257_0, hx257_1, hx257_2⟩ := at_T40 HR0.out x3_1 p257 q257
          cases e257
          replace hx257_0 := (HB.out.cell (World.block_lt_of_cell? w _ hx257_0)).trans hx257_0
          replace hx257_1 := (HB.out.cell (World.block_lt_of_cell? w _ hx257_1)).trans hx257_1
          replace hx257_2 := (HB.out.cell (World.block_lt_of_cell? w _ hx257_2)).trans hx257_2
          replace p257 := eq_true p257
          replace q257 := eq_true q257
          try go_wp2_with (first | ((with_reducible refine gate_dst (N := 4) rfl ?_); refine box_event ?hg (N := 4) ?hd (cs := #[.int .i64 0, .int .u64 0, .int .i64 0]) (t := 40) ?hr ?_; (case hd => rfl); (case hg => rfl); (case hr => first | (go_simp; done) | (go_simp; rfl)); intro gb258 hg w46 hbox hb; have n0_ := Aside0.mk (below_step (by repeat (first | (with_reducible first | exact HB.out | apply below_alloc | apply pw_below_drewN | apply below_drew1) | exact HB.out)) hb); have n1_ := Aside0.mk (hbox); have n2_ := Aside0.mk ((by rw [hg]; exact (below_size (by repeat (first | (with_reducible first | exact HB.out | apply below_alloc | apply pw_below_drewN | apply below_drew1) | exact HB.out))) : w.heap.size ≤ gb258)); have n3_ := Aside0.mk ((by rw [hg]; exact (below_size (by repeat (first | (with_reducible first | exact HB.out | apply below_alloc | apply pw_below_drewN | apply below_drew1) | exact HB.out))) : w.heap.size ≤ gb258)); clear HB; have HB := n0_; have BK258 := n1_; have GW258 := n2_; have GE258 := n3_; clear n0_ n1_ n2_ n3_; clear hb hbox hg; have hcz47_0 : w46.cell? ⟨gb258, 0, none⟩ = some (.int .i64 0) := (blk_cell BK258.out 0).trans rfl; have hcz47_1 : w46.cell? ⟨gb258, 1, none⟩ = some (.int .u64 0) := (blk_cell BK258.out 1).trans rfl; have hcz47_2 : w46.cell? ⟨gb258, 2, none⟩ = some (.int .i64 0) := (blk_cell BK258.out 2).trans rfl; have hfz47_0 := blk_frozen BK258.out 0; have hfz47_1 := blk_frozen BK258.out 1; have hfz47_2 := blk_frozen BK258.out 2))
          have n0_ : Aside0 ((((w46.setCell ⟨gb258, 0, none⟩ (.int .i64 ((rd_T40 l0 x3_1).f0))).setCell ⟨gb258, 1, none⟩ (.int .u64 ((rd_T40 l0 x3_1).f1))).setCell ⟨gb258, 2, none⟩ (.int .i64 ((rd_T40 l0 x3_1).f2))).heap[gb258]? = some (.cells #[.int .i64 ((rd_T40 l0 x3_1).f0), .int .u64 ((rd_T40 l0 x3_1).f1), .int .i64 ((rd_T40 l0 x3_1).f2)] 40 (0, 0))) := ⟨by (with_reducible repeat (first | refine blk_drewN ?_ _ | refine blk_drew ?_ | refine blk_alloc ?_ _)); refine blk_put (cs := #[.int .i64 ((rd_T40 l0 x3_1).f0), .int .u64 ((rd_T40 l0 x3_1).f1), .int .i64 0]) ?_ 2 _ rfl; (with_reducible repeat (first | refine blk_drewN ?_ _ | refine blk_drew ?_ | refine blk_alloc ?_ _)); refine blk_put (cs := #[.int .i64 ((rd_T40 l0 x3_1).f0), .int .u64 0, .int .i64 0]) ?_ 1 _ rfl; (with_reducible repeat (first | refine blk_drewN ?_ _ | refine blk_drew ?_ | refine blk_alloc ?_ _)); refine blk_put (cs := #[.int .i64 0, .int .u64 0, .int .i64 0]) ?_ 0 _ rfl; (with_reducible repeat (first | refine blk_drewN ?_ _ | refine blk_drew ?_ | refine blk_alloc ?_ _)); exact BK258.out⟩
          have n1_ : Aside0 (Below w.heap.size w (((w46.setCell ⟨gb258, 0, none⟩ (.int .i64 ((rd_T40 l0 x3_1).f0))).setCell ⟨gb258, 1, none⟩ (.int .u64 ((rd_T40 l0 x3_1).f1))).setCell ⟨gb258, 2, none⟩ (.int .i64 ((rd_T40 l0 x3_1).f2)))) := ⟨by repeat (first | (with_reducible first | exact HB.out | apply below_alloc | apply pw_below_drewN | apply below_drew1 | refine below_set ?_ GE258.out) | exact HB.out)⟩
          (try clear BK258)
          (try clear HB)
          generalize (((w46.setCell ⟨gb258, 0, none⟩ (.int .i64 ((rd_T40 l0 x3_1).f0))).setCell ⟨gb258, 1, none⟩ (.int .u64 ((rd_T40 l0 x3_1).f1))).setCell ⟨gb258, 2, none⟩ (.int .i64 ((rd_T40 l0 x3_1).f2))) = w48 at n0_ n1_ ⊢
          have BK258 := n0_
          have HB := n1_
          clear n0_ n1_
          have n0_ := Aside0.mk (blk_drew BK258.out)
          have n1_ := Aside0.mk (below_drew1 HB.out)
          clear BK258
          clear HB
          have BK258 := n0_
          have HB := n1_
          clear n0_ n1_
          refine start_ (n := 38) (S := fun w' => w'.cell? ⟨gb258, 0, none⟩ = some (.int .i64 ((rd_T40 l0 x3_1).f0)) ∧ w'.cell? ⟨gb258, 1, none⟩ = some (.int .u64 ((rd_T40 l0 x3_1).f1)) ∧ w'.cell? ⟨gb258, 2, none⟩ = some (.int .i64 ((rd_T40 l0 x3_1).f2))) (ds := []) (mk_ 0 38) (by kernel_rfl) rfl rfl ⟨(blk_cell BK258.out 0).trans rfl, (blk_cell BK258.out 1).trans rfl, (blk_cell BK258.out 2).trans rfl⟩ (fun hHeld => ?_); refine with_tabW marchlandref03_Right.tab5 marchlandref03_Right.bits5 (fun HT_ HW_ => ?_)
          generalize w48.drew = w49 at BK258 HB hHeld ⊢
          refine pv_ 0 15 (mk_ 1 37) HT_ ?_
          refine tv_ 1 16 (mk_ 2 36) HT_ HW_ hHeld (hy := by rintro w' ⟨s0, s1, s2⟩; go_simp; with_reducible rfl) (h := ?_)
          refine pv_ 2 17 (mk_ 3 35) HT_ ?_
          refine pv_ 3 18 (mk_ 4 34) HT_ ?_
          refine pv_ 4 19 (mk_ 5 33) HT_ ?_
          refine tv_ 5 20 (mk_ 6 32) HT_ HW_ hHeld (hy := by rintro w' ⟨s0, s1, s2⟩; go_simp; with_reducible rfl) (h := ?_)
          refine pv_ 6 21 (mk_ 7 31) HT_ ?_
          refine pv_ 7 22 (mk_ 8 30) HT_ ?_
          refine pv_ 8 23 (mk_ 9 29) HT_ ?_
          refine pv_ 9 24 (mk_ 10 28) HT_ ?_
          refine tv_ 10 25 (mk_ 11 27) HT_ HW_ hHeld (hy := by rintro w' ⟨s0, s1, s2⟩; go_simp; with_reducible rfl) (h := ?_)
          refine pv_ 11 26 (mk_ 12 26) HT_ ?_
          refine pv_ 12 27 (mk_ 13 25) HT_ ?_
          refine pv_ 13 28 (mk_ 14 24) HT_ ?_
          refine pv_ 14 29 (mk_ 15 23) HT_ ?_
          refine tv_ 15 30 (mk_ 16 22) HT_ HW_ hHeld (hy := by rintro w' ⟨s0, s1, s2⟩; go_simp; with_reducible rfl) (h := ?_)
          refine pv_ 16 31 (mk_ 17 21) HT_ ?_
          refine pv_ 17 32 (mk_ 18 20) HT_ ?_
          refine pv_ 18 33 (mk_ 19 19) HT_ ?_
          refine pv_ 19 34 (mk_ 20 18) HT_ ?_
          refine tv_ 20 35 (mk_ 21 17) HT_ HW_ hHeld (hy := by rintro w' ⟨s0, s1, s2⟩; go_simp; with_reducible rfl) (h := ?_)
          refine one_ (i := 21) (N := some 36) (mk_ 22 16) rfl rfl (one_of HT_.out (by kernel_rfl)) (by decide) (fun K hK => ?_)
          refine goes_ Try.func51 (by kernel_rfl) rfl #[.int .i64 ((rd_T40 l0 x3_1).f2)] (by rfl) rfl rfl (by (try simp only [List.map_toArray, List.map_cons, List.map_nil]); first | done | rfl | (simp only [List.length_drop, List.length_take]; rfl)) ?_
          with_reducible refine (marchlandref03_within.calls ((rd_T40 l0 x3_1).f2) false _ A24.out).mono ?_
          rintro e w' ⟨rfl, ⟨nd, rfl⟩⟩
          refine ⟨_, rfl, ?_⟩
          refine hK.out _ _ ⟨(blk_cell BK258.out 0).trans rfl, (blk_cell BK258.out 1).trans rfl, (blk_cell BK258.out 2).trans rfl⟩ (fun hHeld => ?_)
          clear hK K
          refine norm_ (a' := ?_) ?_ ?_
          rotate_left
          ·show Act.put _ (some 36) _ = _
           simp only [Act.put, List.setIfInBounds_toArray, List.set_cons_zero, List.set_cons_succ, i64_w, i32_w]
           rfl
          refine pv_ 22 37 (mk_ 23 15) HT_ ?_
          refine pv_ 23 38 (mk_ 24 14) HT_ ?_
          refine pv_ 24 39 (mk_ 25 13) HT_ ?_
          refine pu_ 25 40 (mk_ 26 12) HT_ ?_
          refine pu_ 26 41 (mk_ 27 11) HT_ ?_
          refine pu_ 27 42 (mk_ 28 10) HT_ ?_
          refine pu_ 28 43 (mk_ 29 9) HT_ ?_
          refine pu_ 29 44 (mk_ 30 8) HT_ ?_
          refine pu_ 30 45 (mk_ 31 7) HT_ ?_
          refine pu_ 31 46 (mk_ 32 6) HT_ ?_
          refine pu_ 32 47 (mk_ 33 5) HT_ ?_
          refine pu_ 33 48 (mk_ 34 4) HT_ ?_
          refine pu_ 34 49 (mk_ 35 3) HT_ ?_
          refine pu_ 35 50 (mk_ 36 2) HT_ ?_
          refine pu_ 36 51 (mk_ 37 1) HT_ ?_
          refine pv_ 37 52 (mk_ 38 0) HT_ ?_
          refine done_ (done_of HT_.out (by kernel_rfl)) ?_
          try go_wp2
          go_ret
          exact ⟨by first | rfl | (simp [errW_none, errW_some] <;> rfl) | (simp [*, errW_none, errW_some] <;> rfl), by repeat (first | (with_reducible first | exact HB.out | apply below_alloc | apply pw_below_drewN | apply below_drew1 | refine below_set ?_ GE258.out) | exact HB.out)⟩
    ·rw [if_neg c3] at H
     exact absurd H (by simp)
   ·rw [if_neg c2] at H
    have c2b0 : decide (x3_1 < (l0.length : Int)) = false := decide_eq_false c2
    clear c2
    obtain rfl := Option.some.inj H
    go_wp2
    go_ret
    exact ⟨by first | rfl | (simp [errW_none, errW_some] <;> rfl) | (simp [*, errW_none, errW_some] <;> rfl), by repeat (first | (with_reducible first | exact HB.out | apply below_alloc | apply pw_below_drewN | apply below_drew1) | exact HB.out)⟩

end Go.Proofs.Ytgeldmhgbnamcaa.P
end
