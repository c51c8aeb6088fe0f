/- Walks and laws of several statements of this seat, joined into one text; no condition. -/
import Derived.Test.YtgeldmhgbnamcaaProg
import Derived.Below
import Derived.Deep.Draws
import Derived.Deep.AppendLies
import Derived.Maps.AppendAt
import Derived.OwnWalk
import Derived.Laws.BytesArg
import Derived.Laws.MakeOwn
import Derived.Laws.OwnMore
import Derived.Deep.OwnRows
import Derived.Tactics
import Derived.Lib.ConvBytes
import Derived.Laws.Slices
import Derived.WalkKit
import Derived.KernelRfl
import Derived.RowKit3
import Derived.Deep.LoopGhost
import Derived.Deep.QuietTactic
import Derived.BigQuiet
import Derived.WideLaws
import Derived.Deep.DeepCutAuto
import Derived.Deep.CutBlock
import Derived.Deep.RegionHeld3
import Derived.Laws.Rows
import Derived.Lib.AppendStr
import Derived.ArgAppend
import Derived.Laws.IdiomCopy
import Derived.OrdersHeld
import Derived.Laws.BitsLemmas
import Derived.RowKit
import Derived.Laws.StructEq
import Derived.Laws.CopyOwn
import Derived.Deep.RegionLaw
import Derived.LoopTactic
import Derived.Outline
import Derived.IntWalk
import Derived.Test.YtgeldmhgbnamcaaFWa0
import Derived.Test.YtgeldmhgbnamcaaFWa1
import Derived.Test.YtgeldmhgbnamcaaFWa2
import Derived.Test.YtgeldmhgbnamcaaFWa4
section
-- Printed by the session's own turn of the print (wip/tools/print2.sh): some callees are proved by hand.
namespace Go.Proofs.Ytgeldmhgbnamcaa.P
open Go.RowKit Go.Proofs.YtgeldmhgbnamcaaW.PrintWords Go.Proofs.YtgeldmhgbnamcaaW.PrintLast Go.Proofs.YtgeldmhgbnamcaaW.PrintMore
attribute [local go_sem] max2_int min2_int max_two min_two max_three min_three max_four min_four   -- for this text's walks alone
set_option linter.unusedVariables false
set_option linter.unusedSimpArgs false
/-! ### graph_Graph_cycle: function 82 -/
def graph_Graph_cycle.l0 : Nat → List (List Int) → Int → List (S95) → Int → Int → Option (Int)
 | 0, _, _, _, _, _ => none
 | k + 1, x1, x5, x9, x10, x11 => if x11 < x10 then (if 0 ≤ x11 then (if x11 < (x9.length : Int) then (if ((rd_T95 x9 x11).f2) = 0 then (if 0 ≤ ((rd_T95 x9 x11).f1) then (if ((rd_T95 x9 x11).f1) < (x1.length : Int) then (if 0 ≤ ((rd_T95 x9 x11).f0) then (if ((rd_T95 x9 x11).f0) < ((rd_L7 x1 ((rd_T95 x9 x11).f1)).length : Int) then (if (rd (rd_L7 x1 ((rd_T95 x9 x11).f1)) ((rd_T95 x9 x11).f0)) = 0 then (if x5 < 0 then (graph_Graph_cycle.l0 k x1 ((rd_T95 x9 x11).f0) x9 x10 (wrap64 (x11 + 1))) else (if ((rd_T95 x9 x11).f0) < x5 then (graph_Graph_cycle.l0 k x1 ((rd_T95 x9 x11).f0) x9 x10 (wrap64 (x11 + 1))) else (graph_Graph_cycle.l0 k x1 x5 x9 x10 (wrap64 (x11 + 1))))) else (graph_Graph_cycle.l0 k x1 x5 x9 x10 (wrap64 (x11 + 1)))) else (none)) else (none)) else (none)) else (none)) else (graph_Graph_cycle.l0 k x1 x5 x9 x10 (wrap64 (x11 + 1)))) else (none)) else (none)) else (some x5)
def graph_Graph_cycle.f (k : Nat) (a0_0 : Int) (l0_1 : List (S95)) (l0_2 : List Int) (l1 : List (List Int)) : Option (Int) := graph_Graph_cycle.l0 k l1 (-1) l0_1 (l0_1.length : Int) 0
set_option maxHeartbeats 8000000 in
set_option maxRecDepth 100000 in
theorem graph_Graph_cycle.calls (k : Nat) (a0_0 : Int) (A0_1 : Option Addr) (c0_1 : Nat) (l0_1 : List (S95)) (A0_2 : Option Addr) (c0_2 : Nat) (l0_2 : List Int) (A1 : Option Addr) (c1 : Nat) (l1 : List (List Int)) (r : Int) (w : World) (hr0_1 : Kd.C k95 w A0_1 l0_1.length l0_1) (hc0_1 : l0_1.length ≤ c0_1) (hr0_2 : Kd.C (Kd.int .i64) w A0_2 l0_2.length l0_2) (hc0_2 : l0_2.length ≤ c0_2) (hr1 : Kd.C (Kd.slice 38 (Kd.int .u64)) w A1 l1.length l1) (hc1 : l1.length ≤ c1) (h : graph_Graph_cycle.f k a0_0 l0_1 l0_2 l1 = some r) :
  Calls Try.prog 82 #[.agg #[.int .i64 a0_0, .slice A0_1 l0_1.length c0_1, .slice A0_2 l0_2.length c0_2], .slice A1 l1.length c1] w fun e w' => e = .returned (.int .i64 r) ∧ Below w.heap.size w w' := by
 have hu64 := Try.underlying64
 have hu95 := Try.underlying95
 have HR0_1 := Aside0.mk hr0_1
 have HC0_1 := Aside0.mk hc0_1
 clear hr0_1 hc0_1
 have HR0_2 := Aside0.mk hr0_2
 have HC0_2 := Aside0.mk hc0_2
 clear hr0_2 hc0_2
 have HR1 := Aside0.mk hr1
 have HC1 := Aside0.mk hc1
 clear hr1 hc1
 have HB := Aside0.mk (Below.refl w.heap.size w)
 have H : (graph_Graph_cycle.l0 k l1 (-1) l0_1 (l0_1.length : Int) 0) = some r := h
 clear h
 have H' := Aside0.mk H
 clear H
 go_enter Try.func82, Try.ntmps82
 go_wp2_with (first | ((with_reducible refine gate_dst (N := 2) rfl ?_); refine box_event ?hg (N := 2) ?hd (cs := #[.int .i64 a0_0, .slice A0_1 l0_1.length c0_1, .slice A0_2 l0_2.length c0_2]) (t := 64) ?hr ?_; (case hd => rfl); (case hg => rfl); (case hr => first | (go_simp; done) | (go_simp; rfl)); intro gb713 hg w3 hbox hb; have n1_ := Aside0.mk (hbox); have n2_ := Aside0.mk ((by rw [hg]; exact (below_size (bn HB)) : w.heap.size ≤ gb713)); have n3_ := Aside0.mk ((by rw [hg]; exact (below_size (bn HB)) : w.heap.size ≤ gb713)); replace HB := bb HB hb; have BK713 := n1_; have GW713 := n2_; have GE713 := n3_; clear n1_ n2_ n3_; clear hb hbox hg; have hcz4_0 : w3.cell? ⟨gb713, 0, none⟩ = some (.int .i64 a0_0) := (blk_cell BK713.out 0).trans rfl; have hcz4_1 : w3.cell? ⟨gb713, 1, none⟩ = some (.slice A0_1 l0_1.length c0_1) := (blk_cell BK713.out 1).trans rfl; have hcz4_2 : w3.cell? ⟨gb713, 2, none⟩ = some (.slice A0_2 l0_2.length c0_2) := (blk_cell BK713.out 2).trans rfl; have hfz4_0 := blk_frozen BK713.out 0; have hfz4_1 := blk_frozen BK713.out 1; have hfz4_2 := blk_frozen BK713.out 2))
 repeat (go_quiet (first | ((with_reducible refine gate_dst (N := 2) rfl ?_); refine box_event ?hg (N := 2) ?hd (cs := #[.int .i64 a0_0, .slice A0_1 l0_1.length c0_1, .slice A0_2 l0_2.length c0_2]) (t := 64) ?hr ?_; (case hd => rfl); (case hg => rfl); (case hr => first | (go_simp; done) | (go_simp; rfl)); intro gb713 hg w3 hbox hb; have n1_ := Aside0.mk (hbox); have n2_ := Aside0.mk ((by rw [hg]; exact (below_size (bn HB)) : w.heap.size ≤ gb713)); have n3_ := Aside0.mk ((by rw [hg]; exact (below_size (bn HB)) : w.heap.size ≤ gb713)); replace HB := bb HB hb; have BK713 := n1_; have GW713 := n2_; have GE713 := n3_; clear n1_ n2_ n3_; clear hb hbox hg; have hcz4_0 : w3.cell? ⟨gb713, 0, none⟩ = some (.int .i64 a0_0) := (blk_cell BK713.out 0).trans rfl; have hcz4_1 : w3.cell? ⟨gb713, 1, none⟩ = some (.slice A0_1 l0_1.length c0_1) := (blk_cell BK713.out 1).trans rfl; have hcz4_2 : w3.cell? ⟨gb713, 2, none⟩ = some (.slice A0_2 l0_2.length c0_2) := (blk_cell BK713.out 2).trans rfl; have hfz4_0 := blk_frozen BK713.out 0; have hfz4_1 := blk_frozen BK713.out 1; have hfz4_2 := blk_frozen BK713.out 2)); try go_wp2_with (first | ((with_reducible refine gate_dst (N := 2) rfl ?_); refine box_event ?hg (N := 2) ?hd (cs := #[.int .i64 a0_0, .slice A0_1 l0_1.length c0_1, .slice A0_2 l0_2.length c0_2]) (t := 64) ?hr ?_; (case hd => rfl); (case hg => rfl); (case hr => first | (go_simp; done) | (go_simp; rfl)); intro gb713 hg w3 hbox hb; have n1_ := Aside0.mk (hbox); have n2_ := Aside0.mk ((by rw [hg]; exact (below_size (bn HB)) : w.heap.size ≤ gb713)); have n3_ := Aside0.mk ((by rw [hg]; exact (below_size (bn HB)) : w.heap.size ≤ gb713)); replace HB := bb HB hb; have BK713 := n1_; have GW713 := n2_; have GE713 := n3_; clear n1_ n2_ n3_; clear hb hbox hg; have hcz4_0 : w3.cell? ⟨gb713, 0, none⟩ = some (.int .i64 a0_0) := (blk_cell BK713.out 0).trans rfl; have hcz4_1 : w3.cell? ⟨gb713, 1, none⟩ = some (.slice A0_1 l0_1.length c0_1) := (blk_cell BK713.out 1).trans rfl; have hcz4_2 : w3.cell? ⟨gb713, 2, none⟩ = some (.slice A0_2 l0_2.length c0_2) := (blk_cell BK713.out 2).trans rfl; have hfz4_0 := blk_frozen BK713.out 0; have hfz4_1 := blk_frozen BK713.out 1; have hfz4_2 := blk_frozen BK713.out 2)))
 go_loopg [5, 11] k (fun kq v5 v11 w' => ∃ (x5_1 : Int) (x11_1 : Int), v5 = .int .i64 x5_1 ∧ v11 = .int .i64 x11_1 ∧ Aside0 (graph_Graph_cycle.l0 kq l1 x5_1 l0_1 (l0_1.length : Int) x11_1 = some r) ∧ Aside0 (kq ≤ k) ∧ Aside0 (w'.heap[gb713]? = some (.cells #[.int .i64 a0_0, (.slice A0_1 l0_1.length c0_1), (.slice A0_2 l0_2.length c0_2)] 64 (0, 0))) ∧ Aside0 (Below w.heap.size w w'))
 case atStart => exact ⟨((-1)), (0), (by first | rfl | (simp; done) | (simp [*]; done)), (by first | rfl | (simp; done) | (simp [*]; done)), H', ⟨Nat.le_refl _⟩, ⟨bk BK713⟩, ⟨bn1 HB GE713⟩⟩
 case round =>
  clear H'
  (try clear c1); (try clear p2); (try clear hcz4_0); (try clear hcz4_1); (try clear hcz4_2); (try clear hfz4_0); (try clear hfz4_1); (try clear hfz4_2)
  obtain ⟨x5_1, x11_1, rfl, rfl, HA, HK1, BK713, HB⟩ := hrel
  cases gk with
  | zero => exact absurd HA.out (by simp [graph_Graph_cycle.l0])
  | succ k1 =>
   have H := HA.out
   clear HA
   simp only [graph_Graph_cycle.l0] at H
   by_cases c5 : x11_1 < (l0_1.length : Int)
   ·rw [if_pos c5] at H
    have c5b0 : decide (x11_1 < (l0_1.length : Int)) = true := decide_eq_true c5
    clear c5
    by_cases c6 : 0 ≤ x11_1
    ·rw [if_pos c6] at H
     have c6b0 : decide (0 ≤ x11_1) = true := decide_eq_true c6
     clear c6
     by_cases c7 : x11_1 < (l0_1.length : Int)
     ·rw [if_pos c7] at H
      have c7b0 : decide (x11_1 < (l0_1.length : Int)) = true := decide_eq_true c7
      clear c7
      by_cases c8 : ((rd_T95 l0_1 x11_1).f2) = 0
      ·rw [if_pos c8] at H
       have c8b0 : (((rd_T95 l0_1 x11_1).f2) == 0) = true := beq_iff_eq.mpr c8
       have c8b1 : (((rd_T95 l0_1 x11_1).f2) != 0) = false := bne_eq_false_iff_eq.mpr c8
       clear c8
       by_cases c9 : 0 ≤ ((rd_T95 l0_1 x11_1).f1)
       ·rw [if_pos c9] at H
        have c9b0 : decide (0 ≤ ((rd_T95 l0_1 x11_1).f1)) = true := decide_eq_true c9
        clear c9
        by_cases c10 : ((rd_T95 l0_1 x11_1).f1) < (l1.length : Int)
        ·rw [if_pos c10] at H
         have c10b0 : decide (((rd_T95 l0_1 x11_1).f1) < (l1.length : Int)) = true := decide_eq_true c10
         clear c10
         by_cases c11 : 0 ≤ ((rd_T95 l0_1 x11_1).f0)
         ·rw [if_pos c11] at H
          have c11b0 : decide (0 ≤ ((rd_T95 l0_1 x11_1).f0)) = true := decide_eq_true c11
          clear c11
          by_cases c12 : ((rd_T95 l0_1 x11_1).f0) < ((rd_L7 l1 ((rd_T95 l0_1 x11_1).f1)).length : Int)
          ·rw [if_pos c12] at H
           have c12b0 : decide (((rd_T95 l0_1 x11_1).f0) < ((rd_L7 l1 ((rd_T95 l0_1 x11_1).f1)).length : Int)) = true := decide_eq_true c12
           clear c12
           by_cases c13 : (rd (rd_L7 l1 ((rd_T95 l0_1 x11_1).f1)) ((rd_T95 l0_1 x11_1).f0)) = 0
           ·rw [if_pos c13] at H
            have c13b0 : ((rd (rd_L7 l1 ((rd_T95 l0_1 x11_1).f1)) ((rd_T95 l0_1 x11_1).f0)) == 0) = true := beq_iff_eq.mpr c13
            have c13b1 : ((rd (rd_L7 l1 ((rd_T95 l0_1 x11_1).f1)) ((rd_T95 l0_1 x11_1).f0)) != 0) = false := bne_eq_false_iff_eq.mpr c13
            clear c13
            by_cases c14 : x5_1 < 0
            ·rw [if_pos c14] at H
             have c14b0 : decide (x5_1 < 0) = true := decide_eq_true c14
             clear c14
             have H' := Aside0.mk H
             clear H
             have p714 : 0 ≤ (x11_1 : Int) := of_decide_eq_true (by assumption)
             have q714 : x11_1 < (l0_1.length : Int) := of_decide_eq_true (by assumption)
             obtain ⟨ad714, e714, hx714_0, hx714_1, hx714_2⟩ := at_T95 HR0_1.out x11_1 p714 q714
             cases e714
             replace hx714_0 := ct HB hx714_0
             replace hx714_1 := ct HB hx714_1
             replace hx714_2 := ct HB hx714_2
             replace p714 := eq_true p714
             replace q714 := eq_true q714
             go_wp2_with (first | ((with_reducible refine gate_dst (N := 7) rfl ?_); refine box_event ?hg (N := 7) ?hd (cs := #[.int .i64 0, .int .i64 0, .int .u64 0]) (t := 95) ?hr ?_; (case hd => rfl); (case hg => rfl); (case hr => first | (go_simp; done) | (go_simp; rfl)); intro gb715 hg w15 hbox hb; have n0_ := Aside0.mk (bkb BK713 hb); have n1_ := Aside0.mk (below_step (bn1 HB GE713) hb); have n2_ := Aside0.mk (hbox); have n3_ := Aside0.mk ((by rw [hg]; exact (below_size (bn1 HB GE713)) : w.heap.size ≤ gb715)); have n4_ := Aside0.mk ((by rw [hg]; exact (below_size (bn1 HB GE713)) : w.heap.size ≤ gb715)); have n5_ := Aside0.mk ((by rw [hg]; exact Nat.ne_of_lt (bkl BK713) : gb713 ≠ gb715)); have n6_ := Aside0.mk ((by rw [hg]; exact Nat.ne_of_gt (bkl BK713) : gb715 ≠ gb713)); clear BK713; clear HB; have BK713 := n0_; have HB := n1_; have BK715 := n2_; have GW715 := n3_; have GE715 := n4_; have NB713_715 := n5_; have NB715_713 := n6_; clear n0_ n1_ n2_ n3_ n4_ n5_ n6_; clear hb hbox hg; have hnb16 := NB715_713.out; have hnc16 := NB713_715.out; have hcz17_0 : w15.cell? ⟨gb715, 0, none⟩ = some (.int .i64 0) := (blk_cell BK715.out 0).trans rfl; have hcz17_1 : w15.cell? ⟨gb715, 1, none⟩ = some (.int .i64 0) := (blk_cell BK715.out 1).trans rfl; have hcz17_2 : w15.cell? ⟨gb715, 2, none⟩ = some (.int .u64 0) := (blk_cell BK715.out 2).trans rfl; have hfz17_0 := blk_frozen BK715.out 0; have hfz17_1 := blk_frozen BK715.out 1; have hfz17_2 := blk_frozen BK715.out 2; have p716 : 0 ≤ (((rd_T95 l0_1 x11_1).f1) : Int) := of_decide_eq_true (by assumption); have q716 : ((rd_T95 l0_1 x11_1).f1) < (l1.length : Int) := of_decide_eq_true (by assumption); obtain ⟨ad716, A716_0, c716_0, e716, hx716_0, hl716_0, hi716_0⟩ := at_L7 HR1.out ((rd_T95 l0_1 x11_1).f1) p716 q716; cases e716; have hn716_0 : ad716.block ≠ gb715 := bnq hx716_0 GW715; have hn716_1 : ad716.block ≠ gb715 := bnq hx716_0 GW715; have hn716_2 : ad716.block ≠ gb715 := bnq hx716_0 GW715; replace hx716_0 := ct HB hx716_0; have HR716_0 := Aside0.mk hi716_0; have HC716_0 := Aside0.mk hl716_0; clear hi716_0 hl716_0; replace hx716_0 := (cell_far (p := ⟨gb715, 0, none⟩) (by first | (rw [add_block]; exact hn716_0) | (show (Addr.add _ _).block ≠ _; rw [add_block]; exact hn716_0) | exact hn716_0) (.int .i64 ((rd_T95 l0_1 x11_1).f0))).trans hx716_0; replace hx716_0 := (cell_far (p := ⟨gb715, 1, none⟩) (by first | (rw [add_block]; exact hn716_1) | (show (Addr.add _ _).block ≠ _; rw [add_block]; exact hn716_1) | exact hn716_1) (.int .i64 ((rd_T95 l0_1 x11_1).f1))).trans hx716_0; replace hx716_0 := (cell_far (p := ⟨gb715, 2, none⟩) (by first | (rw [add_block]; exact hn716_2) | (show (Addr.add _ _).block ≠ _; rw [add_block]; exact hn716_2) | exact hn716_2) (.int .u64 ((rd_T95 l0_1 x11_1).f2))).trans hx716_0; (try have hy716_0 := fun (n_ : Nat) => (show (((((w15.drewN n_).setCell ⟨gb715, 0, none⟩ (.int .i64 ((rd_T95 l0_1 x11_1).f0))).setCell ⟨gb715, 1, none⟩ (.int .i64 ((rd_T95 l0_1 x11_1).f1))).setCell ⟨gb715, 2, none⟩ (.int .u64 ((rd_T95 l0_1 x11_1).f2)))).cell? _ = some _ from hx716_0)); clear hn716_0; clear hn716_1; clear hn716_2; replace p716 := eq_true p716; replace q716 := eq_true q716; have p717 : 0 ≤ (((rd_T95 l0_1 x11_1).f0) : Int) := of_decide_eq_true (by assumption); have q717 : ((rd_T95 l0_1 x11_1).f0) < ((rd_L7 l1 ((rd_T95 l0_1 x11_1).f1)).length : Int) := of_decide_eq_true (by assumption); obtain ⟨ad717, e717, hx717_0⟩ := Kd.at_int HR716_0.out ((rd_T95 l0_1 x11_1).f0) p717 q717; cases e717; have hn717_0 : ad717.block ≠ gb715 := bnq hx717_0 GW715; have hn717_1 : ad717.block ≠ gb715 := bnq hx717_0 GW715; have hn717_2 : ad717.block ≠ gb715 := bnq hx717_0 GW715; replace hx717_0 := ct HB hx717_0; replace hx717_0 := (cell_far (p := ⟨gb715, 0, none⟩) (by first | (rw [add_block]; exact hn717_0) | (show (Addr.add _ _).block ≠ _; rw [add_block]; exact hn717_0) | exact hn717_0) (.int .i64 ((rd_T95 l0_1 x11_1).f0))).trans hx717_0; replace hx717_0 := (cell_far (p := ⟨gb715, 1, none⟩) (by first | (rw [add_block]; exact hn717_1) | (show (Addr.add _ _).block ≠ _; rw [add_block]; exact hn717_1) | exact hn717_1) (.int .i64 ((rd_T95 l0_1 x11_1).f1))).trans hx717_0; replace hx717_0 := (cell_far (p := ⟨gb715, 2, none⟩) (by first | (rw [add_block]; exact hn717_2) | (show (Addr.add _ _).block ≠ _; rw [add_block]; exact hn717_2) | exact hn717_2) (.int .u64 ((rd_T95 l0_1 x11_1).f2))).trans hx717_0; (try have hy717_0 := fun (n_ : Nat) => (show (((((w15.drewN n_).setCell ⟨gb715, 0, none⟩ (.int .i64 ((rd_T95 l0_1 x11_1).f0))).setCell ⟨gb715, 1, none⟩ (.int .i64 ((rd_T95 l0_1 x11_1).f1))).setCell ⟨gb715, 2, none⟩ (.int .u64 ((rd_T95 l0_1 x11_1).f2)))).cell? _ = some _ from hx717_0)); clear hn717_0; clear hn717_1; clear hn717_2; replace p717 := eq_true p717; replace q717 := eq_true q717))
             repeat (go_quiet (first | ((with_reducible refine gate_dst (N := 7) rfl ?_); refine box_event ?hg (N := 7) ?hd (cs := #[.int .i64 0, .int .i64 0, .int .u64 0]) (t := 95) ?hr ?_; (case hd => rfl); (case hg => rfl); (case hr => first | (go_simp; done) | (go_simp; rfl)); intro gb715 hg w15 hbox hb; have n0_ := Aside0.mk (bkb BK713 hb); have n1_ := Aside0.mk (below_step (bn1 HB GE713) hb); have n2_ := Aside0.mk (hbox); have n3_ := Aside0.mk ((by rw [hg]; exact (below_size (bn1 HB GE713)) : w.heap.size ≤ gb715)); have n4_ := Aside0.mk ((by rw [hg]; exact (below_size (bn1 HB GE713)) : w.heap.size ≤ gb715)); have n5_ := Aside0.mk ((by rw [hg]; exact Nat.ne_of_lt (bkl BK713) : gb713 ≠ gb715)); have n6_ := Aside0.mk ((by rw [hg]; exact Nat.ne_of_gt (bkl BK713) : gb715 ≠ gb713)); clear BK713; clear HB; have BK713 := n0_; have HB := n1_; have BK715 := n2_; have GW715 := n3_; have GE715 := n4_; have NB713_715 := n5_; have NB715_713 := n6_; clear n0_ n1_ n2_ n3_ n4_ n5_ n6_; clear hb hbox hg; have hnb16 := NB715_713.out; have hnc16 := NB713_715.out; have hcz17_0 : w15.cell? ⟨gb715, 0, none⟩ = some (.int .i64 0) := (blk_cell BK715.out 0).trans rfl; have hcz17_1 : w15.cell? ⟨gb715, 1, none⟩ = some (.int .i64 0) := (blk_cell BK715.out 1).trans rfl; have hcz17_2 : w15.cell? ⟨gb715, 2, none⟩ = some (.int .u64 0) := (blk_cell BK715.out 2).trans rfl; have hfz17_0 := blk_frozen BK715.out 0; have hfz17_1 := blk_frozen BK715.out 1; have hfz17_2 := blk_frozen BK715.out 2; have p716 : 0 ≤ (((rd_T95 l0_1 x11_1).f1) : Int) := of_decide_eq_true (by assumption); have q716 : ((rd_T95 l0_1 x11_1).f1) < (l1.length : Int) := of_decide_eq_true (by assumption); obtain ⟨ad716, A716_0, c716_0, e716, hx716_0, hl716_0, hi716_0⟩ := at_L7 HR1.out ((rd_T95 l0_1 x11_1).f1) p716 q716; cases e716; have hn716_0 : ad716.block ≠ gb715 := bnq hx716_0 GW715; have hn716_1 : ad716.block ≠ gb715 := bnq hx716_0 GW715; have hn716_2 : ad716.block ≠ gb715 := bnq hx716_0 GW715; replace hx716_0 := ct HB hx716_0; have HR716_0 := Aside0.mk hi716_0; have HC716_0 := Aside0.mk hl716_0; clear hi716_0 hl716_0; replace hx716_0 := (cell_far (p := ⟨gb715, 0, none⟩) (by first | (rw [add_block]; exact hn716_0) | (show (Addr.add _ _).block ≠ _; rw [add_block]; exact hn716_0) | exact hn716_0) (.int .i64 ((rd_T95 l0_1 x11_1).f0))).trans hx716_0; replace hx716_0 := (cell_far (p := ⟨gb715, 1, none⟩) (by first | (rw [add_block]; exact hn716_1) | (show (Addr.add _ _).block ≠ _; rw [add_block]; exact hn716_1) | exact hn716_1) (.int .i64 ((rd_T95 l0_1 x11_1).f1))).trans hx716_0; replace hx716_0 := (cell_far (p := ⟨gb715, 2, none⟩) (by first | (rw [add_block]; exact hn716_2) | (show (Addr.add _ _).block ≠ _; rw [add_block]; exact hn716_2) | exact hn716_2) (.int .u64 ((rd_T95 l0_1 x11_1).f2))).trans hx716_0; (try have hy716_0 := fun (n_ : Nat) => (show (((((w15.drewN n_).setCell ⟨gb715, 0, none⟩ (.int .i64 ((rd_T95 l0_1 x11_1).f0))).setCell ⟨gb715, 1, none⟩ (.int .i64 ((rd_T95 l0_1 x11_1).f1))).setCell ⟨gb715, 2, none⟩ (.int .u64 ((rd_T95 l0_1 x11_1).f2)))).cell? _ = some _ from hx716_0)); clear hn716_0; clear hn716_1; clear hn716_2; replace p716 := eq_true p716; replace q716 := eq_true q716; have p717 : 0 ≤ (((rd_T95 l0_1 x11_1).f0) : Int) := of_decide_eq_true (by assumption); have q717 : ((rd_T95 l0_1 x11_1).f0) < ((rd_L7 l1 ((rd_T95 l0_1 x11_1).f1)).length : Int) := of_decide_eq_true (by assumption); obtain ⟨ad717, e717, hx717_0⟩ := Kd.at_int HR716_0.out ((rd_T95 l0_1 x11_1).f0) p717 q717; cases e717; have hn717_0 : ad717.block ≠ gb715 := bnq hx717_0 GW715; have hn717_1 : ad717.block ≠ gb715 := bnq hx717_0 GW715; have hn717_2 : ad717.block ≠ gb715 := bnq hx717_0 GW715; replace hx717_0 := ct HB hx717_0; replace hx717_0 := (cell_far (p := ⟨gb715, 0, none⟩) (by first | (rw [add_block]; exact hn717_0) | (show (Addr.add _ _).block ≠ _; rw [add_block]; exact hn717_0) | exact hn717_0) (.int .i64 ((rd_T95 l0_1 x11_1).f0))).trans hx717_0; replace hx717_0 := (cell_far (p := ⟨gb715, 1, none⟩) (by first | (rw [add_block]; exact hn717_1) | (show (Addr.add _ _).block ≠ _; rw [add_block]; exact hn717_1) | exact hn717_1) (.int .i64 ((rd_T95 l0_1 x11_1).f1))).trans hx717_0; replace hx717_0 := (cell_far (p := ⟨gb715, 2, none⟩) (by first | (rw [add_block]; exact hn717_2) | (show (Addr.add _ _).block ≠ _; rw [add_block]; exact hn717_2) | exact hn717_2) (.int .u64 ((rd_T95 l0_1 x11_1).f2))).trans hx717_0; (try have hy717_0 := fun (n_ : Nat) => (show (((((w15.drewN n_).setCell ⟨gb715, 0, none⟩ (.int .i64 ((rd_T95 l0_1 x11_1).f0))).setCell ⟨gb715, 1, none⟩ (.int .i64 ((rd_T95 l0_1 x11_1).f1))).setCell ⟨gb715, 2, none⟩ (.int .u64 ((rd_T95 l0_1 x11_1).f2)))).cell? _ = some _ from hx717_0)); clear hn717_0; clear hn717_1; clear hn717_2; replace p717 := eq_true p717; replace q717 := eq_true q717)); try go_wp2_with (first | ((with_reducible refine gate_dst (N := 7) rfl ?_); refine box_event ?hg (N := 7) ?hd (cs := #[.int .i64 0, .int .i64 0, .int .u64 0]) (t := 95) ?hr ?_; (case hd => rfl); (case hg => rfl); (case hr => first | (go_simp; done) | (go_simp; rfl)); intro gb715 hg w15 hbox hb; have n0_ := Aside0.mk (bkb BK713 hb); have n1_ := Aside0.mk (below_step (bn1 HB GE713) hb); have n2_ := Aside0.mk (hbox); have n3_ := Aside0.mk ((by rw [hg]; exact (below_size (bn1 HB GE713)) : w.heap.size ≤ gb715)); have n4_ := Aside0.mk ((by rw [hg]; exact (below_size (bn1 HB GE713)) : w.heap.size ≤ gb715)); have n5_ := Aside0.mk ((by rw [hg]; exact Nat.ne_of_lt (bkl BK713) : gb713 ≠ gb715)); have n6_ := Aside0.mk ((by rw [hg]; exact Nat.ne_of_gt (bkl BK713) : gb715 ≠ gb713)); clear BK713; clear HB; have BK713 := n0_; have HB := n1_; have BK715 := n2_; have GW715 := n3_; have GE715 := n4_; have NB713_715 := n5_; have NB715_713 := n6_; clear n0_ n1_ n2_ n3_ n4_ n5_ n6_; clear hb hbox hg; have hnb16 := NB715_713.out; have hnc16 := NB713_715.out; have hcz17_0 : w15.cell? ⟨gb715, 0, none⟩ = some (.int .i64 0) := (blk_cell BK715.out 0).trans rfl; have hcz17_1 : w15.cell? ⟨gb715, 1, none⟩ = some (.int .i64 0) := (blk_cell BK715.out 1).trans rfl; have hcz17_2 : w15.cell? ⟨gb715, 2, none⟩ = some (.int .u64 0) := (blk_cell BK715.out 2).trans rfl; have hfz17_0 := blk_frozen BK715.out 0; have hfz17_1 := blk_frozen BK715.out 1; have hfz17_2 := blk_frozen BK715.out 2; have p716 : 0 ≤ (((rd_T95 l0_1 x11_1).f1) : Int) := of_decide_eq_true (by assumption); have q716 : ((rd_T95 l0_1 x11_1).f1) < (l1.length : Int) := of_decide_eq_true (by assumption); obtain ⟨ad716, A716_0, c716_0, e716, hx716_0, hl716_0, hi716_0⟩ := at_L7 HR1.out ((rd_T95 l0_1 x11_1).f1) p716 q716; cases e716; have hn716_0 : ad716.block ≠ gb715 := bnq hx716_0 GW715; have hn716_1 : ad716.block ≠ gb715 := bnq hx716_0 GW715; have hn716_2 : ad716.block ≠ gb715 := bnq hx716_0 GW715; replace hx716_0 := ct HB hx716_0; have HR716_0 := Aside0.mk hi716_0; have HC716_0 := Aside0.mk hl716_0; clear hi716_0 hl716_0; replace hx716_0 := (cell_far (p := ⟨gb715, 0, none⟩) (by first | (rw [add_block]; exact hn716_0) | (show (Addr.add _ _).block ≠ _; rw [add_block]; exact hn716_0) | exact hn716_0) (.int .i64 ((rd_T95 l0_1 x11_1).f0))).trans hx716_0; replace hx716_0 := (cell_far (p := ⟨gb715, 1, none⟩) (by first | (rw [add_block]; exact hn716_1) | (show (Addr.add _ _).block ≠ _; rw [add_block]; exact hn716_1) | exact hn716_1) (.int .i64 ((rd_T95 l0_1 x11_1).f1))).trans hx716_0; replace hx716_0 := (cell_far (p := ⟨gb715, 2, none⟩) (by first | (rw [add_block]; exact hn716_2) | (show (Addr.add _ _).block ≠ _; rw [add_block]; exact hn716_2) | exact hn716_2) (.int .u64 ((rd_T95 l0_1 x11_1).f2))).trans hx716_0; (try have hy716_0 := fun (n_ : Nat) => (show (((((w15.drewN n_).setCell ⟨gb715, 0, none⟩ (.int .i64 ((rd_T95 l0_1 x11_1).f0))).setCell ⟨gb715, 1, none⟩ (.int .i64 ((rd_T95 l0_1 x11_1).f1))).setCell ⟨gb715, 2, none⟩ (.int .u64 ((rd_T95 l0_1 x11_1).f2)))).cell? _ = some _ from hx716_0)); clear hn716_0; clear hn716_1; clear hn716_2; replace p716 := eq_true p716; replace q716 := eq_true q716; have p717 : 0 ≤ (((rd_T95 l0_1 x11_1).f0) : Int) := of_decide_eq_true (by assumption); have q717 : ((rd_T95 l0_1 x11_1).f0) < ((rd_L7 l1 ((rd_T95 l0_1 x11_1).f1)).length : Int) := of_decide_eq_true (by assumption); obtain ⟨ad717, e717, hx717_0⟩ := Kd.at_int HR716_0.out ((rd_T95 l0_1 x11_1).f0) p717 q717; cases e717; have hn717_0 : ad717.block ≠ gb715 := bnq hx717_0 GW715; have hn717_1 : ad717.block ≠ gb715 := bnq hx717_0 GW715; have hn717_2 : ad717.block ≠ gb715 := bnq hx717_0 GW715; replace hx717_0 := ct HB hx717_0; replace hx717_0 := (cell_far (p := ⟨gb715, 0, none⟩) (by first | (rw [add_block]; exact hn717_0) | (show (Addr.add _ _).block ≠ _; rw [add_block]; exact hn717_0) | exact hn717_0) (.int .i64 ((rd_T95 l0_1 x11_1).f0))).trans hx717_0; replace hx717_0 := (cell_far (p := ⟨gb715, 1, none⟩) (by first | (rw [add_block]; exact hn717_1) | (show (Addr.add _ _).block ≠ _; rw [add_block]; exact hn717_1) | exact hn717_1) (.int .i64 ((rd_T95 l0_1 x11_1).f1))).trans hx717_0; replace hx717_0 := (cell_far (p := ⟨gb715, 2, none⟩) (by first | (rw [add_block]; exact hn717_2) | (show (Addr.add _ _).block ≠ _; rw [add_block]; exact hn717_2) | exact hn717_2) (.int .u64 ((rd_T95 l0_1 x11_1).f2))).trans hx717_0; (try have hy717_0 := fun (n_ : Nat) => (show (((((w15.drewN n_).setCell ⟨gb715, 0, none⟩ (.int .i64 ((rd_T95 l0_1 x11_1).f0))).setCell ⟨gb715, 1, none⟩ (.int .i64 ((rd_T95 l0_1 x11_1).f1))).setCell ⟨gb715, 2, none⟩ (.int .u64 ((rd_T95 l0_1 x11_1).f2)))).cell? _ = some _ from hx717_0)); clear hn717_0; clear hn717_1; clear hn717_2; replace p717 := eq_true p717; replace q717 := eq_true q717)))
             go_roundg k1
             case measure => have := HK1.out; omega
             case rel => exact ⟨((rd_T95 l0_1 x11_1).f0), (wrap64 (x11_1 + 1)), (by first | rfl | (simp; done) | (simp [*]; done)), (by first | rfl | (simp; done) | (simp [*]; done)), H', ⟨by have := HK1.out; omega⟩, ⟨by (with_reducible repeat (first | refine blk_drewN ?_ _ | refine blk_drew ?_ | refine blk_alloc ?_ _)); refine blk_far ?_ NB713_715.out _; (with_reducible repeat (first | refine blk_drewN ?_ _ | refine blk_drew ?_ | refine blk_alloc ?_ _)); refine blk_far ?_ NB713_715.out _; (with_reducible repeat (first | refine blk_drewN ?_ _ | refine blk_drew ?_ | refine blk_alloc ?_ _)); refine blk_far ?_ NB713_715.out _; (with_reducible repeat (first | refine blk_drewN ?_ _ | refine blk_drew ?_ | refine blk_alloc ?_ _)); exact BK713.out⟩, ⟨bn2 HB GE713 GE715⟩⟩
            ·rw [if_neg c14] at H
             have c14b0 : decide (x5_1 < 0) = false := decide_eq_false c14
             clear c14
             by_cases c18 : ((rd_T95 l0_1 x11_1).f0) < x5_1
             ·rw [if_pos c18] at H
              have c18b0 : decide (((rd_T95 l0_1 x11_1).f0) < x5_1) = true := decide_eq_true c18
              clear c18
              have H' := Aside0.mk H
              clear H
              have p714 : 0 ≤ (x11_1 : Int) := of_decide_eq_true (by assumption)
              have q714 : x11_1 < (l0_1.length : Int) := of_decide_eq_true (by assumption)
              obtain ⟨ad714, e714, hx714_0, hx714_1, hx714_2⟩ := at_T95 HR0_1.out x11_1 p714 q714
              cases e714
              replace hx714_0 := ct HB hx714_0
              replace hx714_1 := ct HB hx714_1
              replace hx714_2 := ct HB hx714_2
              replace p714 := eq_true p714
              replace q714 := eq_true q714
              go_wp2_with (first | ((with_reducible refine gate_dst (N := 7) rfl ?_); refine box_event ?hg (N := 7) ?hd (cs := #[.int .i64 0, .int .i64 0, .int .u64 0]) (t := 95) ?hr ?_; (case hd => rfl); (case hg => rfl); (case hr => first | (go_simp; done) | (go_simp; rfl)); intro gb715 hg w19 hbox hb; have n0_ := Aside0.mk (bkb BK713 hb); have n1_ := Aside0.mk (below_step (bn1 HB GE713) hb); have n2_ := Aside0.mk (hbox); have n3_ := Aside0.mk ((by rw [hg]; exact (below_size (bn1 HB GE713)) : w.heap.size ≤ gb715)); have n4_ := Aside0.mk ((by rw [hg]; exact (below_size (bn1 HB GE713)) : w.heap.size ≤ gb715)); have n5_ := Aside0.mk ((by rw [hg]; exact Nat.ne_of_lt (bkl BK713) : gb713 ≠ gb715)); have n6_ := Aside0.mk ((by rw [hg]; exact Nat.ne_of_gt (bkl BK713) : gb715 ≠ gb713)); clear BK713; clear HB; have BK713 := n0_; have HB := n1_; have BK715 := n2_; have GW715 := n3_; have GE715 := n4_; have NB713_715 := n5_; have NB715_713 := n6_; clear n0_ n1_ n2_ n3_ n4_ n5_ n6_; clear hb hbox hg; have hnb20 := NB715_713.out; have hnc20 := NB713_715.out; have hcz21_0 : w19.cell? ⟨gb715, 0, none⟩ = some (.int .i64 0) := (blk_cell BK715.out 0).trans rfl; have hcz21_1 : w19.cell? ⟨gb715, 1, none⟩ = some (.int .i64 0) := (blk_cell BK715.out 1).trans rfl; have hcz21_2 : w19.cell? ⟨gb715, 2, none⟩ = some (.int .u64 0) := (blk_cell BK715.out 2).trans rfl; have hfz21_0 := blk_frozen BK715.out 0; have hfz21_1 := blk_frozen BK715.out 1; have hfz21_2 := blk_frozen BK715.out 2; have p716 : 0 ≤ (((rd_T95 l0_1 x11_1).f1) : Int) := of_decide_eq_true (by assumption); have q716 : ((rd_T95 l0_1 x11_1).f1) < (l1.length : Int) := of_decide_eq_true (by assumption); obtain ⟨ad716, A716_0, c716_0, e716, hx716_0, hl716_0, hi716_0⟩ := at_L7 HR1.out ((rd_T95 l0_1 x11_1).f1) p716 q716; cases e716; have hn716_0 : ad716.block ≠ gb715 := bnq hx716_0 GW715; have hn716_1 : ad716.block ≠ gb715 := bnq hx716_0 GW715; have hn716_2 : ad716.block ≠ gb715 := bnq hx716_0 GW715; replace hx716_0 := ct HB hx716_0; have HR716_0 := Aside0.mk hi716_0; have HC716_0 := Aside0.mk hl716_0; clear hi716_0 hl716_0; replace hx716_0 := (cell_far (p := ⟨gb715, 0, none⟩) (by first | (rw [add_block]; exact hn716_0) | (show (Addr.add _ _).block ≠ _; rw [add_block]; exact hn716_0) | exact hn716_0) (.int .i64 ((rd_T95 l0_1 x11_1).f0))).trans hx716_0; replace hx716_0 := (cell_far (p := ⟨gb715, 1, none⟩) (by first | (rw [add_block]; exact hn716_1) | (show (Addr.add _ _).block ≠ _; rw [add_block]; exact hn716_1) | exact hn716_1) (.int .i64 ((rd_T95 l0_1 x11_1).f1))).trans hx716_0; replace hx716_0 := (cell_far (p := ⟨gb715, 2, none⟩) (by first | (rw [add_block]; exact hn716_2) | (show (Addr.add _ _).block ≠ _; rw [add_block]; exact hn716_2) | exact hn716_2) (.int .u64 ((rd_T95 l0_1 x11_1).f2))).trans hx716_0; (try have hy716_0 := fun (n_ : Nat) => (show (((((w19.drewN n_).setCell ⟨gb715, 0, none⟩ (.int .i64 ((rd_T95 l0_1 x11_1).f0))).setCell ⟨gb715, 1, none⟩ (.int .i64 ((rd_T95 l0_1 x11_1).f1))).setCell ⟨gb715, 2, none⟩ (.int .u64 ((rd_T95 l0_1 x11_1).f2)))).cell? _ = some _ from hx716_0)); clear hn716_0; clear hn716_1; clear hn716_2; replace p716 := eq_true p716; replace q716 := eq_true q716; have p717 : 0 ≤ (((rd_T95 l0_1 x11_1).f0) : Int) := of_decide_eq_true (by assumption); have q717 : ((rd_T95 l0_1 x11_1).f0) < ((rd_L7 l1 ((rd_T95 l0_1 x11_1).f1)).length : Int) := of_decide_eq_true (by assumption); obtain ⟨ad717, e717, hx717_0⟩ := Kd.at_int HR716_0.out ((rd_T95 l0_1 x11_1).f0) p717 q717; cases e717; have hn717_0 : ad717.block ≠ gb715 := bnq hx717_0 GW715; have hn717_1 : ad717.block ≠ gb715 := bnq hx717_0 GW715; have hn717_2 : ad717.block ≠ gb715 := bnq hx717_0 GW715; replace hx717_0 := ct HB hx717_0; replace hx717_0 := (cell_far (p := ⟨gb715, 0, none⟩) (by first | (rw [add_block]; exact hn717_0) | (show (Addr.add _ _).block ≠ _; rw [add_block]; exact hn717_0) | exact hn717_0) (.int .i64 ((rd_T95 l0_1 x11_1).f0))).trans hx717_0; replace hx717_0 := (cell_far (p := ⟨gb715, 1, none⟩) (by first | (rw [add_block]; exact hn717_1) | (show (Addr.add _ _).block ≠ _; rw [add_block]; exact hn717_1) | exact hn717_1) (.int .i64 ((rd_T95 l0_1 x11_1).f1))).trans hx717_0; replace hx717_0 := (cell_far (p := ⟨gb715, 2, none⟩) (by first | (rw [add_block]; exact hn717_2) | (show (Addr.add _ _).block ≠ _; rw [add_block]; exact hn717_2) | exact hn717_2) (.int .u64 ((rd_T95 l0_1 x11_1).f2))).trans hx717_0; (try have hy717_0 := fun (n_ : Nat) => (show (((((w19.drewN n_).setCell ⟨gb715, 0, none⟩ (.int .i64 ((rd_T95 l0_1 x11_1).f0))).setCell ⟨gb715, 1, none⟩ (.int .i64 ((rd_T95 l0_1 x11_1).f1))).setCell ⟨gb715, 2, none⟩ (.int .u64 ((rd_T95 l0_1 x11_1).f2)))).cell? _ = some _ from hx717_0)); clear hn717_0; clear hn717_1; clear hn717_2; replace p717 := eq_true p717; replace q717 := eq_true q717))
              repeat (go_quiet (first | ((with_reducible refine gate_dst (N := 7) rfl ?_); refine box_event ?hg (N := 7) ?hd (cs := #[.int .i64 0, .int .i64 0, .int .u64 0]) (t := 95) ?hr ?_; (case hd => rfl); (case hg => rfl); (case hr => first | (go_simp; done) | (go_simp; rfl)); intro gb715 hg w19 hbox hb; have n0_ := Aside0.mk (bkb BK713 hb); have n1_ := Aside0.mk (below_step (bn1 HB GE713) hb); have n2_ := Aside0.mk (hbox); have n3_ := Aside0.mk ((by rw [hg]; exact (below_size (bn1 HB GE713)) : w.heap.size ≤ gb715)); have n4_ := Aside0.mk ((by rw [hg]; exact (below_size (bn1 HB GE713)) : w.heap.size ≤ gb715)); have n5_ := Aside0.mk ((by rw [hg]; exact Nat.ne_of_lt (bkl BK713) : gb713 ≠ gb715)); have n6_ := Aside0.mk ((by rw [hg]; exact Nat.ne_of_gt (bkl BK713) : gb715 ≠ gb713)); clear BK713; clear HB; have BK713 := n0_; have HB := n1_; have BK715 := n2_; have GW715 := n3_; have GE715 := n4_; have NB713_715 := n5_; have NB715_713 := n6_; clear n0_ n1_ n2_ n3_ n4_ n5_ n6_; clear hb hbox hg; have hnb20 := NB715_713.out; have hnc20 := NB713_715.out; have hcz21_0 : w19.cell? ⟨gb715, 0, none⟩ = some (.int .i64 0) := (blk_cell BK715.out 0).trans rfl; have hcz21_1 : w19.cell? ⟨gb715, 1, none⟩ = some (.int .i64 0) := (blk_cell BK715.out 1).trans rfl; have hcz21_2 : w19.cell? ⟨gb715, 2, none⟩ = some (.int .u64 0) := (blk_cell BK715.out 2).trans rfl; have hfz21_0 := blk_frozen BK715.out 0; have hfz21_1 := blk_frozen BK715.out 1; have hfz21_2 := blk_frozen BK715.out 2; have p716 : 0 ≤ (((rd_T95 l0_1 x11_1).f1) : Int) := of_decide_eq_true (by assumption); have q716 : ((rd_T95 l0_1 x11_1).f1) < (l1.length : Int) := of_decide_eq_true (by assumption); obtain ⟨ad716, A716_0, c716_0, e716, hx716_0, hl716_0, hi716_0⟩ := at_L7 HR1.out ((rd_T95 l0_1 x11_1).f1) p716 q716; cases e716; have hn716_0 : ad716.block ≠ gb715 := bnq hx716_0 GW715; have hn716_1 : ad716.block ≠ gb715 := bnq hx716_0 GW715; have hn716_2 : ad716.block ≠ gb715 := bnq hx716_0 GW715; replace hx716_0 := ct HB hx716_0; have HR716_0 := Aside0.mk hi716_0; have HC716_0 := Aside0.mk hl716_0; clear hi716_0 hl716_0; replace hx716_0 := (cell_far (p := ⟨gb715, 0, none⟩) (by first | (rw [add_block]; exact hn716_0) | (show (Addr.add _ _).block ≠ _; rw [add_block]; exact hn716_0) | exact hn716_0) (.int .i64 ((rd_T95 l0_1 x11_1).f0))).trans hx716_0; replace hx716_0 := (cell_far (p := ⟨gb715, 1, none⟩) (by first | (rw [add_block]; exact hn716_1) | (show (Addr.add _ _).block ≠ _; rw [add_block]; exact hn716_1) | exact hn716_1) (.int .i64 ((rd_T95 l0_1 x11_1).f1))).trans hx716_0; replace hx716_0 := (cell_far (p := ⟨gb715, 2, none⟩) (by first | (rw [add_block]; exact hn716_2) | (show (Addr.add _ _).block ≠ _; rw [add_block]; exact hn716_2) | exact hn716_2) (.int .u64 ((rd_T95 l0_1 x11_1).f2))).trans hx716_0; (try have hy716_0 := fun (n_ : Nat) => (show (((((w19.drewN n_).setCell ⟨gb715, 0, none⟩ (.int .i64 ((rd_T95 l0_1 x11_1).f0))).setCell ⟨gb715, 1, none⟩ (.int .i64 ((rd_T95 l0_1 x11_1).f1))).setCell ⟨gb715, 2, none⟩ (.int .u64 ((rd_T95 l0_1 x11_1).f2)))).cell? _ = some _ from hx716_0)); clear hn716_0; clear hn716_1; clear hn716_2; replace p716 := eq_true p716; replace q716 := eq_true q716; have p717 : 0 ≤ (((rd_T95 l0_1 x11_1).f0) : Int) := of_decide_eq_true (by assumption); have q717 : ((rd_T95 l0_1 x11_1).f0) < ((rd_L7 l1 ((rd_T95 l0_1 x11_1).f1)).length : Int) := of_decide_eq_true (by assumption); obtain ⟨ad717, e717, hx717_0⟩ := Kd.at_int HR716_0.out ((rd_T95 l0_1 x11_1).f0) p717 q717; cases e717; have hn717_0 : ad717.block ≠ gb715 := bnq hx717_0 GW715; have hn717_1 : ad717.block ≠ gb715 := bnq hx717_0 GW715; have hn717_2 : ad717.block ≠ gb715 := bnq hx717_0 GW715; replace hx717_0 := ct HB hx717_0; replace hx717_0 := (cell_far (p := ⟨gb715, 0, none⟩) (by first | (rw [add_block]; exact hn717_0) | (show (Addr.add _ _).block ≠ _; rw [add_block]; exact hn717_0) | exact hn717_0) (.int .i64 ((rd_T95 l0_1 x11_1).f0))).trans hx717_0; replace hx717_0 := (cell_far (p := ⟨gb715, 1, none⟩) (by first | (rw [add_block]; exact hn717_1) | (show (Addr.add _ _).block ≠ _; rw [add_block]; exact hn717_1) | exact hn717_1) (.int .i64 ((rd_T95 l0_1 x11_1).f1))).trans hx717_0; replace hx717_0 := (cell_far (p := ⟨gb715, 2, none⟩) (by first | (rw [add_block]; exact hn717_2) | (show (Addr.add _ _).block ≠ _; rw [add_block]; exact hn717_2) | exact hn717_2) (.int .u64 ((rd_T95 l0_1 x11_1).f2))).trans hx717_0; (try have hy717_0 := fun (n_ : Nat) => (show (((((w19.drewN n_).setCell ⟨gb715, 0, none⟩ (.int .i64 ((rd_T95 l0_1 x11_1).f0))).setCell ⟨gb715, 1, none⟩ (.int .i64 ((rd_T95 l0_1 x11_1).f1))).setCell ⟨gb715, 2, none⟩ (.int .u64 ((rd_T95 l0_1 x11_1).f2)))).cell? _ = some _ from hx717_0)); clear hn717_0; clear hn717_1; clear hn717_2; replace p717 := eq_true p717; replace q717 := eq_true q717)); try go_wp2_with (first | ((with_reducible refine gate_dst (N := 7) rfl ?_); refine box_event ?hg (N := 7) ?hd (cs := #[.int .i64 0, .int .i64 0, .int .u64 0]) (t := 95) ?hr ?_; (case hd => rfl); (case hg => rfl); (case hr => first | (go_simp; done) | (go_simp; rfl)); intro gb715 hg w19 hbox hb; have n0_ := Aside0.mk (bkb BK713 hb); have n1_ := Aside0.mk (below_step (bn1 HB GE713) hb); have n2_ := Aside0.mk (hbox); have n3_ := Aside0.mk ((by rw [hg]; exact (below_size (bn1 HB GE713)) : w.heap.size ≤ gb715)); have n4_ := Aside0.mk ((by rw [hg]; exact (below_size (bn1 HB GE713)) : w.heap.size ≤ gb715)); have n5_ := Aside0.mk ((by rw [hg]; exact Nat.ne_of_lt (bkl BK713) : gb713 ≠ gb715)); have n6_ := Aside0.mk ((by rw [hg]; exact Nat.ne_of_gt (bkl BK713) : gb715 ≠ gb713)); clear BK713; clear HB; have BK713 := n0_; have HB := n1_; have BK715 := n2_; have GW715 := n3_; have GE715 := n4_; have NB713_715 := n5_; have NB715_713 := n6_; clear n0_ n1_ n2_ n3_ n4_ n5_ n6_; clear hb hbox hg; have hnb20 := NB715_713.out; have hnc20 := NB713_715.out; have hcz21_0 : w19.cell? ⟨gb715, 0, none⟩ = some (.int .i64 0) := (blk_cell BK715.out 0).trans rfl; have hcz21_1 : w19.cell? ⟨gb715, 1, none⟩ = some (.int .i64 0) := (blk_cell BK715.out 1).trans rfl; have hcz21_2 : w19.cell? ⟨gb715, 2, none⟩ = some (.int .u64 0) := (blk_cell BK715.out 2).trans rfl; have hfz21_0 := blk_frozen BK715.out 0; have hfz21_1 := blk_frozen BK715.out 1; have hfz21_2 := blk_frozen BK715.out 2; have p716 : 0 ≤ (((rd_T95 l0_1 x11_1).f1) : Int) := of_decide_eq_true (by assumption); have q716 : ((rd_T95 l0_1 x11_1).f1) < (l1.length : Int) := of_decide_eq_true (by assumption); obtain ⟨ad716, A716_0, c716_0, e716, hx716_0, hl716_0, hi716_0⟩ := at_L7 HR1.out ((rd_T95 l0_1 x11_1).f1) p716 q716; cases e716; have hn716_0 : ad716.block ≠ gb715 := bnq hx716_0 GW715; have hn716_1 : ad716.block ≠ gb715 := bnq hx716_0 GW715; have hn716_2 : ad716.block ≠ gb715 := bnq hx716_0 GW715; replace hx716_0 := ct HB hx716_0; have HR716_0 := Aside0.mk hi716_0; have HC716_0 := Aside0.mk hl716_0; clear hi716_0 hl716_0; replace hx716_0 := (cell_far (p := ⟨gb715, 0, none⟩) (by first | (rw [add_block]; exact hn716_0) | (show (Addr.add _ _).block ≠ _; rw [add_block]; exact hn716_0) | exact hn716_0) (.int .i64 ((rd_T95 l0_1 x11_1).f0))).trans hx716_0; replace hx716_0 := (cell_far (p := ⟨gb715, 1, none⟩) (by first | (rw [add_block]; exact hn716_1) | (show (Addr.add _ _).block ≠ _; rw [add_block]; exact hn716_1) | exact hn716_1) (.int .i64 ((rd_T95 l0_1 x11_1).f1))).trans hx716_0; replace hx716_0 := (cell_far (p := ⟨gb715, 2, none⟩) (by first | (rw [add_block]; exact hn716_2) | (show (Addr.add _ _).block ≠ _; rw [add_block]; exact hn716_2) | exact hn716_2) (.int .u64 ((rd_T95 l0_1 x11_1).f2))).trans hx716_0; (try have hy716_0 := fun (n_ : Nat) => (show (((((w19.drewN n_).setCell ⟨gb715, 0, none⟩ (.int .i64 ((rd_T95 l0_1 x11_1).f0))).setCell ⟨gb715, 1, none⟩ (.int .i64 ((rd_T95 l0_1 x11_1).f1))).setCell ⟨gb715, 2, none⟩ (.int .u64 ((rd_T95 l0_1 x11_1).f2)))).cell? _ = some _ from hx716_0)); clear hn716_0; clear hn716_1; clear hn716_2; replace p716 := eq_true p716; replace q716 := eq_true q716; have p717 : 0 ≤ (((rd_T95 l0_1 x11_1).f0) : Int) := of_decide_eq_true (by assumption); have q717 : ((rd_T95 l0_1 x11_1).f0) < ((rd_L7 l1 ((rd_T95 l0_1 x11_1).f1)).length : Int) := of_decide_eq_true (by assumption); obtain ⟨ad717, e717, hx717_0⟩ := Kd.at_int HR716_0.out ((rd_T95 l0_1 x11_1).f0) p717 q717; cases e717; have hn717_0 : ad717.block ≠ gb715 := bnq hx717_0 GW715; have hn717_1 : ad717.block ≠ gb715 := bnq hx717_0 GW715; have hn717_2 : ad717.block ≠ gb715 := bnq hx717_0 GW715; replace hx717_0 := ct HB hx717_0; replace hx717_0 := (cell_far (p := ⟨gb715, 0, none⟩) (by first | (rw [add_block]; exact hn717_0) | (show (Addr.add _ _).block ≠ _; rw [add_block]; exact hn717_0) | exact hn717_0) (.int .i64 ((rd_T95 l0_1 x11_1).f0))).trans hx717_0; replace hx717_0 := (cell_far (p := ⟨gb715, 1, none⟩) (by first | (rw [add_block]; exact hn717_1) | (show (Addr.add _ _).block ≠ _; rw [add_block]; exact hn717_1) | exact hn717_1) (.int .i64 ((rd_T95 l0_1 x11_1).f1))).trans hx717_0; replace hx717_0 := (cell_far (p := ⟨gb715, 2, none⟩) (by first | (rw [add_block]; exact hn717_2) | (show (Addr.add _ _).block ≠ _; rw [add_block]; exact hn717_2) | exact hn717_2) (.int .u64 ((rd_T95 l0_1 x11_1).f2))).trans hx717_0; (try have hy717_0 := fun (n_ : Nat) => (show (((((w19.drewN n_).setCell ⟨gb715, 0, none⟩ (.int .i64 ((rd_T95 l0_1 x11_1).f0))).setCell ⟨gb715, 1, none⟩ (.int .i64 ((rd_T95 l0_1 x11_1).f1))).setCell ⟨gb715, 2, none⟩ (.int .u64 ((rd_T95 l0_1 x11_1).f2)))).cell? _ = some _ from hx717_0)); clear hn717_0; clear hn717_1; clear hn717_2; replace p717 := eq_true p717; replace q717 := eq_true q717)))
              go_roundg k1
              case measure => have := HK1.out; omega
              case rel => exact ⟨((rd_T95 l0_1 x11_1).f0), (wrap64 (x11_1 + 1)), (by first | rfl | (simp; done) | (simp [*]; done)), (by first | rfl | (simp; done) | (simp [*]; done)), H', ⟨by have := HK1.out; omega⟩, ⟨by (with_reducible repeat (first | refine blk_drewN ?_ _ | refine blk_drew ?_ | refine blk_alloc ?_ _)); refine blk_far ?_ NB713_715.out _; (with_reducible repeat (first | refine blk_drewN ?_ _ | refine blk_drew ?_ | refine blk_alloc ?_ _)); refine blk_far ?_ NB713_715.out _; (with_reducible repeat (first | refine blk_drewN ?_ _ | refine blk_drew ?_ | refine blk_alloc ?_ _)); refine blk_far ?_ NB713_715.out _; (with_reducible repeat (first | refine blk_drewN ?_ _ | refine blk_drew ?_ | refine blk_alloc ?_ _)); exact BK713.out⟩, ⟨bn2 HB GE713 GE715⟩⟩
             ·rw [if_neg c18] at H
              have c18b0 : decide (((rd_T95 l0_1 x11_1).f0) < x5_1) = false := decide_eq_false c18
              clear c18
              have H' := Aside0.mk H
              clear H
              have p714 : 0 ≤ (x11_1 : Int) := of_decide_eq_true (by assumption)
              have q714 : x11_1 < (l0_1.length : Int) := of_decide_eq_true (by assumption)
              obtain ⟨ad714, e714, hx714_0, hx714_1, hx714_2⟩ := at_T95 HR0_1.out x11_1 p714 q714
              cases e714
              replace hx714_0 := ct HB hx714_0
              replace hx714_1 := ct HB hx714_1
              replace hx714_2 := ct HB hx714_2
              replace p714 := eq_true p714
              replace q714 := eq_true q714
              go_wp2_with (first | ((with_reducible refine gate_dst (N := 7) rfl ?_); refine box_event ?hg (N := 7) ?hd (cs := #[.int .i64 0, .int .i64 0, .int .u64 0]) (t := 95) ?hr ?_; (case hd => rfl); (case hg => rfl); (case hr => first | (go_simp; done) | (go_simp; rfl)); intro gb715 hg w22 hbox hb; have n0_ := Aside0.mk (bkb BK713 hb); have n1_ := Aside0.mk (below_step (bn1 HB GE713) hb); have n2_ := Aside0.mk (hbox); have n3_ := Aside0.mk ((by rw [hg]; exact (below_size (bn1 HB GE713)) : w.heap.size ≤ gb715)); have n4_ := Aside0.mk ((by rw [hg]; exact (below_size (bn1 HB GE713)) : w.heap.size ≤ gb715)); have n5_ := Aside0.mk ((by rw [hg]; exact Nat.ne_of_lt (bkl BK713) : gb713 ≠ gb715)); have n6_ := Aside0.mk ((by rw [hg]; exact Nat.ne_of_gt (bkl BK713) : gb715 ≠ gb713)); clear BK713; clear HB; have BK713 := n0_; have HB := n1_; have BK715 := n2_; have GW715 := n3_; have GE715 := n4_; have NB713_715 := n5_; have NB715_713 := n6_; clear n0_ n1_ n2_ n3_ n4_ n5_ n6_; clear hb hbox hg; have hnb23 := NB715_713.out; have hnc23 := NB713_715.out; have hcz24_0 : w22.cell? ⟨gb715, 0, none⟩ = some (.int .i64 0) := (blk_cell BK715.out 0).trans rfl; have hcz24_1 : w22.cell? ⟨gb715, 1, none⟩ = some (.int .i64 0) := (blk_cell BK715.out 1).trans rfl; have hcz24_2 : w22.cell? ⟨gb715, 2, none⟩ = some (.int .u64 0) := (blk_cell BK715.out 2).trans rfl; have hfz24_0 := blk_frozen BK715.out 0; have hfz24_1 := blk_frozen BK715.out 1; have hfz24_2 := blk_frozen BK715.out 2; have p716 : 0 ≤ (((rd_T95 l0_1 x11_1).f1) : Int) := of_decide_eq_true (by assumption); have q716 : ((rd_T95 l0_1 x11_1).f1) < (l1.length : Int) := of_decide_eq_true (by assumption); obtain ⟨ad716, A716_0, c716_0, e716, hx716_0, hl716_0, hi716_0⟩ := at_L7 HR1.out ((rd_T95 l0_1 x11_1).f1) p716 q716; cases e716; have hn716_0 : ad716.block ≠ gb715 := bnq hx716_0 GW715; have hn716_1 : ad716.block ≠ gb715 := bnq hx716_0 GW715; have hn716_2 : ad716.block ≠ gb715 := bnq hx716_0 GW715; replace hx716_0 := ct HB hx716_0; have HR716_0 := Aside0.mk hi716_0; have HC716_0 := Aside0.mk hl716_0; clear hi716_0 hl716_0; replace hx716_0 := (cell_far (p := ⟨gb715, 0, none⟩) (by first | (rw [add_block]; exact hn716_0) | (show (Addr.add _ _).block ≠ _; rw [add_block]; exact hn716_0) | exact hn716_0) (.int .i64 ((rd_T95 l0_1 x11_1).f0))).trans hx716_0; replace hx716_0 := (cell_far (p := ⟨gb715, 1, none⟩) (by first | (rw [add_block]; exact hn716_1) | (show (Addr.add _ _).block ≠ _; rw [add_block]; exact hn716_1) | exact hn716_1) (.int .i64 ((rd_T95 l0_1 x11_1).f1))).trans hx716_0; replace hx716_0 := (cell_far (p := ⟨gb715, 2, none⟩) (by first | (rw [add_block]; exact hn716_2) | (show (Addr.add _ _).block ≠ _; rw [add_block]; exact hn716_2) | exact hn716_2) (.int .u64 ((rd_T95 l0_1 x11_1).f2))).trans hx716_0; (try have hy716_0 := fun (n_ : Nat) => (show (((((w22.drewN n_).setCell ⟨gb715, 0, none⟩ (.int .i64 ((rd_T95 l0_1 x11_1).f0))).setCell ⟨gb715, 1, none⟩ (.int .i64 ((rd_T95 l0_1 x11_1).f1))).setCell ⟨gb715, 2, none⟩ (.int .u64 ((rd_T95 l0_1 x11_1).f2)))).cell? _ = some _ from hx716_0)); clear hn716_0; clear hn716_1; clear hn716_2; replace p716 := eq_true p716; replace q716 := eq_true q716; have p717 : 0 ≤ (((rd_T95 l0_1 x11_1).f0) : Int) := of_decide_eq_true (by assumption); have q717 : ((rd_T95 l0_1 x11_1).f0) < ((rd_L7 l1 ((rd_T95 l0_1 x11_1).f1)).length : Int) := of_decide_eq_true (by assumption); obtain ⟨ad717, e717, hx717_0⟩ := Kd.at_int HR716_0.out ((rd_T95 l0_1 x11_1).f0) p717 q717; cases e717; have hn717_0 : ad717.block ≠ gb715 := bnq hx717_0 GW715; have hn717_1 : ad717.block ≠ gb715 := bnq hx717_0 GW715; have hn717_2 : ad717.block ≠ gb715 := bnq hx717_0 GW715; replace hx717_0 := ct HB hx717_0; replace hx717_0 := (cell_far (p := ⟨gb715, 0, none⟩) (by first | (rw [add_block]; exact hn717_0) | (show (Addr.add _ _).block ≠ _; rw [add_block]; exact hn717_0) | exact hn717_0) (.int .i64 ((rd_T95 l0_1 x11_1).f0))).trans hx717_0; replace hx717_0 := (cell_far (p := ⟨gb715, 1, none⟩) (by first | (rw [add_block]; exact hn717_1) | (show (Addr.add _ _).block ≠ _; rw [add_block]; exact hn717_1) | exact hn717_1) (.int .i64 ((rd_T95 l0_1 x11_1).f1))).trans hx717_0; replace hx717_0 := (cell_far (p := ⟨gb715, 2, none⟩) (by first | (rw [add_block]; exact hn717_2) | (show (Addr.add _ _).block ≠ _; rw [add_block]; exact hn717_2) | exact hn717_2) (.int .u64 ((rd_T95 l0_1 x11_1).f2))).trans hx717_0; (try have hy717_0 := fun (n_ : Nat) => (show (((((w22.drewN n_).setCell ⟨gb715, 0, none⟩ (.int .i64 ((rd_T95 l0_1 x11_1).f0))).setCell ⟨gb715, 1, none⟩ (.int .i64 ((rd_T95 l0_1 x11_1).f1))).setCell ⟨gb715, 2, none⟩ (.int .u64 ((rd_T95 l0_1 x11_1).f2)))).cell? _ = some _ from hx717_0)); clear hn717_0; clear hn717_1; clear hn717_2; replace p717 := eq_true p717; replace q717 := eq_true q717))
              repeat (go_quiet (first | ((with_reducible refine gate_dst (N := 7) rfl ?_); refine box_event ?hg (N := 7) ?hd (cs := #[.int .i64 0, .int .i64 0, .int .u64 0]) (t := 95) ?hr ?_; (case hd => rfl); (case hg => rfl); (case hr => first | (go_simp; done) | (go_simp; rfl)); intro gb715 hg w22 hbox hb; have n0_ := Aside0.mk (bkb BK713 hb); have n1_ := Aside0.mk (below_step (bn1 HB GE713) hb); have n2_ := Aside0.mk (hbox); have n3_ := Aside0.mk ((by rw [hg]; exact (below_size (bn1 HB GE713)) : w.heap.size ≤ gb715)); have n4_ := Aside0.mk ((by rw [hg]; exact (below_size (bn1 HB GE713)) : w.heap.size ≤ gb715)); have n5_ := Aside0.mk ((by rw [hg]; exact Nat.ne_of_lt (bkl BK713) : gb713 ≠ gb715)); have n6_ := Aside0.mk ((by rw [hg]; exact Nat.ne_of_gt (bkl BK713) : gb715 ≠ gb713)); clear BK713; clear HB; have BK713 := n0_; have HB := n1_; have BK715 := n2_; have GW715 := n3_; have GE715 := n4_; have NB713_715 := n5_; have NB715_713 := n6_; clear n0_ n1_ n2_ n3_ n4_ n5_ n6_; clear hb hbox hg; have hnb23 := NB715_713.out; have hnc23 := NB713_715.out; have hcz24_0 : w22.cell? ⟨gb715, 0, none⟩ = some (.int .i64 0) := (blk_cell BK715.out 0).trans rfl; have hcz24_1 : w22.cell? ⟨gb715, 1, none⟩ = some (.int .i64 0) := (blk_cell BK715.out 1).trans rfl; have hcz24_2 : w22.cell? ⟨gb715, 2, none⟩ = some (.int .u64 0) := (blk_cell BK715.out 2).trans rfl; have hfz24_0 := blk_frozen BK715.out 0; have hfz24_1 := blk_frozen BK715.out 1; have hfz24_2 := blk_frozen BK715.out 2; have p716 : 0 ≤ (((rd_T95 l0_1 x11_1).f1) : Int) := of_decide_eq_true (by assumption); have q716 : ((rd_T95 l0_1 x11_1).f1) < (l1.length : Int) := of_decide_eq_true (by assumption); obtain ⟨ad716, A716_0, c716_0, e716, hx716_0, hl716_0, hi716_0⟩ := at_L7 HR1.out ((rd_T95 l0_1 x11_1).f1) p716 q716; cases e716; have hn716_0 : ad716.block ≠ gb715 := bnq hx716_0 GW715; have hn716_1 : ad716.block ≠ gb715 := bnq hx716_0 GW715; have hn716_2 : ad716.block ≠ gb715 := bnq hx716_0 GW715; replace hx716_0 := ct HB hx716_0; have HR716_0 := Aside0.mk hi716_0; have HC716_0 := Aside0.mk hl716_0; clear hi716_0 hl716_0; replace hx716_0 := (cell_far (p := ⟨gb715, 0, none⟩) (by first | (rw [add_block]; exact hn716_0) | (show (Addr.add _ _).block ≠ _; rw [add_block]; exact hn716_0) | exact hn716_0) (.int .i64 ((rd_T95 l0_1 x11_1).f0))).trans hx716_0; replace hx716_0 := (cell_far (p := ⟨gb715, 1, none⟩) (by first | (rw [add_block]; exact hn716_1) | (show (Addr.add _ _).block ≠ _; rw [add_block]; exact hn716_1) | exact hn716_1) (.int .i64 ((rd_T95 l0_1 x11_1).f1))).trans hx716_0; replace hx716_0 := (cell_far (p := ⟨gb715, 2, none⟩) (by first | (rw [add_block]; exact hn716_2) | (show (Addr.add _ _).block ≠ _; rw [add_block]; exact hn716_2) | exact hn716_2) (.int .u64 ((rd_T95 l0_1 x11_1).f2))).trans hx716_0; (try have hy716_0 := fun (n_ : Nat) => (show (((((w22.drewN n_).setCell ⟨gb715, 0, none⟩ (.int .i64 ((rd_T95 l0_1 x11_1).f0))).setCell ⟨gb715, 1, none⟩ (.int .i64 ((rd_T95 l0_1 x11_1).f1))).setCell ⟨gb715, 2, none⟩ (.int .u64 ((rd_T95 l0_1 x11_1).f2)))).cell? _ = some _ from hx716_0)); clear hn716_0; clear hn716_1; clear hn716_2; replace p716 := eq_true p716; replace q716 := eq_true q716; have p717 : 0 ≤ (((rd_T95 l0_1 x11_1).f0) : Int) := of_decide_eq_true (by assumption); have q717 : ((rd_T95 l0_1 x11_1).f0) < ((rd_L7 l1 ((rd_T95 l0_1 x11_1).f1)).length : Int) := of_decide_eq_true (by assumption); obtain ⟨ad717, e717, hx717_0⟩ := Kd.at_int HR716_0.out ((rd_T95 l0_1 x11_1).f0) p717 q717; cases e717; have hn717_0 : ad717.block ≠ gb715 := bnq hx717_0 GW715; have hn717_1 : ad717.block ≠ gb715 := bnq hx717_0 GW715; have hn717_2 : ad717.block ≠ gb715 := bnq hx717_0 GW715; replace hx717_0 := ct HB hx717_0; replace hx717_0 := (cell_far (p := ⟨gb715, 0, none⟩) (by first | (rw [add_block]; exact hn717_0) | (show (Addr.add _ _).block ≠ _; rw [add_block]; exact hn717_0) | exact hn717_0) (.int .i64 ((rd_T95 l0_1 x11_1).f0))).trans hx717_0; replace hx717_0 := (cell_far (p := ⟨gb715, 1, none⟩) (by first | (rw [add_block]; exact hn717_1) | (show (Addr.add _ _).block ≠ _; rw [add_block]; exact hn717_1) | exact hn717_1) (.int .i64 ((rd_T95 l0_1 x11_1).f1))).trans hx717_0; replace hx717_0 := (cell_far (p := ⟨gb715, 2, none⟩) (by first | (rw [add_block]; exact hn717_2) | (show (Addr.add _ _).block ≠ _; rw [add_block]; exact hn717_2) | exact hn717_2) (.int .u64 ((rd_T95 l0_1 x11_1).f2))).trans hx717_0; (try have hy717_0 := fun (n_ : Nat) => (show (((((w22.drewN n_).setCell ⟨gb715, 0, none⟩ (.int .i64 ((rd_T95 l0_1 x11_1).f0))).setCell ⟨gb715, 1, none⟩ (.int .i64 ((rd_T95 l0_1 x11_1).f1))).setCell ⟨gb715, 2, none⟩ (.int .u64 ((rd_T95 l0_1 x11_1).f2)))).cell? _ = some _ from hx717_0)); clear hn717_0; clear hn717_1; clear hn717_2; replace p717 := eq_true p717; replace q717 := eq_true q717)); try go_wp2_with (first | ((with_reducible refine gate_dst (N := 7) rfl ?_); refine box_event ?hg (N := 7) ?hd (cs := #[.int .i64 0, .int .i64 0, .int .u64 0]) (t := 95) ?hr ?_; (case hd => rfl); (case hg => rfl); (case hr => first | (go_simp; done) | (go_simp; rfl)); intro gb715 hg w22 hbox hb; have n0_ := Aside0.mk (bkb BK713 hb); have n1_ := Aside0.mk (below_step (bn1 HB GE713) hb); have n2_ := Aside0.mk (hbox); have n3_ := Aside0.mk ((by rw [hg]; exact (below_size (bn1 HB GE713)) : w.heap.size ≤ gb715)); have n4_ := Aside0.mk ((by rw [hg]; exact (below_size (bn1 HB GE713)) : w.heap.size ≤ gb715)); have n5_ := Aside0.mk ((by rw [hg]; exact Nat.ne_of_lt (bkl BK713) : gb713 ≠ gb715)); have n6_ := Aside0.mk ((by rw [hg]; exact Nat.ne_of_gt (bkl BK713) : gb715 ≠ gb713)); clear BK713; clear HB; have BK713 := n0_; have HB := n1_; have BK715 := n2_; have GW715 := n3_; have GE715 := n4_; have NB713_715 := n5_; have NB715_713 := n6_; clear n0_ n1_ n2_ n3_ n4_ n5_ n6_; clear hb hbox hg; have hnb23 := NB715_713.out; have hnc23 := NB713_715.out; have hcz24_0 : w22.cell? ⟨gb715, 0, none⟩ = some (.int .i64 0) := (blk_cell BK715.out 0).trans rfl; have hcz24_1 : w22.cell? ⟨gb715, 1, none⟩ = some (.int .i64 0) := (blk_cell BK715.out 1).trans rfl; have hcz24_2 : w22.cell? ⟨gb715, 2, none⟩ = some (.int .u64 0) := (blk_cell BK715.out 2).trans rfl; have hfz24_0 := blk_frozen BK715.out 0; have hfz24_1 := blk_frozen BK715.out 1; have hfz24_2 := blk_frozen BK715.out 2; have p716 : 0 ≤ (((rd_T95 l0_1 x11_1).f1) : Int) := of_decide_eq_true (by assumption); have q716 : ((rd_T95 l0_1 x11_1).f1) < (l1.length : Int) := of_decide_eq_true (by assumption); obtain ⟨ad716, A716_0, c716_0, e716, hx716_0, hl716_0, hi716_0⟩ := at_L7 HR1.out ((rd_T95 l0_1 x11_1).f1) p716 q716; cases e716; have hn716_0 : ad716.block ≠ gb715 := bnq hx716_0 GW715; have hn716_1 : ad716.block ≠ gb715 := bnq hx716_0 GW715; have hn716_2 : ad716.block ≠ gb715 := bnq hx716_0 GW715; replace hx716_0 := ct HB hx716_0; have HR716_0 := Aside0.mk hi716_0; have HC716_0 := Aside0.mk hl716_0; clear hi716_0 hl716_0; replace hx716_0 := (cell_far (p := ⟨gb715, 0, none⟩) (by first | (rw [add_block]; exact hn716_0) | (show (Addr.add _ _).block ≠ _; rw [add_block]; exact hn716_0) | exact hn716_0) (.int .i64 ((rd_T95 l0_1 x11_1).f0))).trans hx716_0; replace hx716_0 := (cell_far (p := ⟨gb715, 1, none⟩) (by first | (rw [add_block]; exact hn716_1) | (show (Addr.add _ _).block ≠ _; rw [add_block]; exact hn716_1) | exact hn716_1) (.int .i64 ((rd_T95 l0_1 x11_1).f1))).trans hx716_0; replace hx716_0 := (cell_far (p := ⟨gb715, 2, none⟩) (by first | (rw [add_block]; exact hn716_2) | (show (Addr.add _ _).block ≠ _; rw [add_block]; exact hn716_2) | exact hn716_2) (.int .u64 ((rd_T95 l0_1 x11_1).f2))).trans hx716_0; (try have hy716_0 := fun (n_ : Nat) => (show (((((w22.drewN n_).setCell ⟨gb715, 0, none⟩ (.int .i64 ((rd_T95 l0_1 x11_1).f0))).setCell ⟨gb715, 1, none⟩ (.int .i64 ((rd_T95 l0_1 x11_1).f1))).setCell ⟨gb715, 2, none⟩ (.int .u64 ((rd_T95 l0_1 x11_1).f2)))).cell? _ = some _ from hx716_0)); clear hn716_0; clear hn716_1; clear hn716_2; replace p716 := eq_true p716; replace q716 := eq_true q716; have p717 : 0 ≤ (((rd_T95 l0_1 x11_1).f0) : Int) := of_decide_eq_true (by assumption); have q717 : ((rd_T95 l0_1 x11_1).f0) < ((rd_L7 l1 ((rd_T95 l0_1 x11_1).f1)).length : Int) := of_decide_eq_true (by assumption); obtain ⟨ad717, e717, hx717_0⟩ := Kd.at_int HR716_0.out ((rd_T95 l0_1 x11_1).f0) p717 q717; cases e717; have hn717_0 : ad717.block ≠ gb715 := bnq hx717_0 GW715; have hn717_1 : ad717.block ≠ gb715 := bnq hx717_0 GW715; have hn717_2 : ad717.block ≠ gb715 := bnq hx717_0 GW715; replace hx717_0 := ct HB hx717_0; replace hx717_0 := (cell_far (p := ⟨gb715, 0, none⟩) (by first | (rw [add_block]; exact hn717_0) | (show (Addr.add _ _).block ≠ _; rw [add_block]; exact hn717_0) | exact hn717_0) (.int .i64 ((rd_T95 l0_1 x11_1).f0))).trans hx717_0; replace hx717_0 := (cell_far (p := ⟨gb715, 1, none⟩) (by first | (rw [add_block]; exact hn717_1) | (show (Addr.add _ _).block ≠ _; rw [add_block]; exact hn717_1) | exact hn717_1) (.int .i64 ((rd_T95 l0_1 x11_1).f1))).trans hx717_0; replace hx717_0 := (cell_far (p := ⟨gb715, 2, none⟩) (by first | (rw [add_block]; exact hn717_2) | (show (Addr.add _ _).block ≠ _; rw [add_block]; exact hn717_2) | exact hn717_2) (.int .u64 ((rd_T95 l0_1 x11_1).f2))).trans hx717_0; (try have hy717_0 := fun (n_ : Nat) => (show (((((w22.drewN n_).setCell ⟨gb715, 0, none⟩ (.int .i64 ((rd_T95 l0_1 x11_1).f0))).setCell ⟨gb715, 1, none⟩ (.int .i64 ((rd_T95 l0_1 x11_1).f1))).setCell ⟨gb715, 2, none⟩ (.int .u64 ((rd_T95 l0_1 x11_1).f2)))).cell? _ = some _ from hx717_0)); clear hn717_0; clear hn717_1; clear hn717_2; replace p717 := eq_true p717; replace q717 := eq_true q717)))
              go_roundg k1
              case measure => have := HK1.out; omega
              case rel => exact ⟨(x5_1), (wrap64 (x11_1 + 1)), (by first | rfl | (simp; done) | (simp [*]; done)), (by first | rfl | (simp; done) | (simp [*]; done)), H', ⟨by have := HK1.out; omega⟩, ⟨by (with_reducible repeat (first | refine blk_drewN ?_ _ | refine blk_drew ?_ | refine blk_alloc ?_ _)); refine blk_far ?_ NB713_715.out _; (with_reducible repeat (first | refine blk_drewN ?_ _ | refine blk_drew ?_ | refine blk_alloc ?_ _)); refine blk_far ?_ NB713_715.out _; (with_reducible repeat (first | refine blk_drewN ?_ _ | refine blk_drew ?_ | refine blk_alloc ?_ _)); refine blk_far ?_ NB713_715.out _; (with_reducible repeat (first | refine blk_drewN ?_ _ | refine blk_drew ?_ | refine blk_alloc ?_ _)); exact BK713.out⟩, ⟨bn2 HB GE713 GE715⟩⟩
           ·rw [if_neg c13] at H
            have c13b0 : ((rd (rd_L7 l1 ((rd_T95 l0_1 x11_1).f1)) ((rd_T95 l0_1 x11_1).f0)) == 0) = false := beq_eq_false_iff_ne.mpr c13
            have c13b1 : ((rd (rd_L7 l1 ((rd_T95 l0_1 x11_1).f1)) ((rd_T95 l0_1 x11_1).f0)) != 0) = true := bne_iff_ne.mpr c13
            have H' := Aside0.mk H
            clear H
            have p714 : 0 ≤ (x11_1 : Int) := of_decide_eq_true (by assumption)
            have q714 : x11_1 < (l0_1.length : Int) := of_decide_eq_true (by assumption)
            obtain ⟨ad714, e714, hx714_0, hx714_1, hx714_2⟩ := at_T95 HR0_1.out x11_1 p714 q714
            cases e714
            replace hx714_0 := ct HB hx714_0
            replace hx714_1 := ct HB hx714_1
            replace hx714_2 := ct HB hx714_2
            replace p714 := eq_true p714
            replace q714 := eq_true q714
            go_wp2_with (first | ((with_reducible refine gate_dst (N := 7) rfl ?_); refine box_event ?hg (N := 7) ?hd (cs := #[.int .i64 0, .int .i64 0, .int .u64 0]) (t := 95) ?hr ?_; (case hd => rfl); (case hg => rfl); (case hr => first | (go_simp; done) | (go_simp; rfl)); intro gb715 hg w25 hbox hb; have n0_ := Aside0.mk (bkb BK713 hb); have n1_ := Aside0.mk (below_step (bn1 HB GE713) hb); have n2_ := Aside0.mk (hbox); have n3_ := Aside0.mk ((by rw [hg]; exact (below_size (bn1 HB GE713)) : w.heap.size ≤ gb715)); have n4_ := Aside0.mk ((by rw [hg]; exact (below_size (bn1 HB GE713)) : w.heap.size ≤ gb715)); have n5_ := Aside0.mk ((by rw [hg]; exact Nat.ne_of_lt (bkl BK713) : gb713 ≠ gb715)); have n6_ := Aside0.mk ((by rw [hg]; exact Nat.ne_of_gt (bkl BK713) : gb715 ≠ gb713)); clear BK713; clear HB; have BK713 := n0_; have HB := n1_; have BK715 := n2_; have GW715 := n3_; have GE715 := n4_; have NB713_715 := n5_; have NB715_713 := n6_; clear n0_ n1_ n2_ n3_ n4_ n5_ n6_; clear hb hbox hg; have hnb26 := NB715_713.out; have hnc26 := NB713_715.out; have hcz27_0 : w25.cell? ⟨gb715, 0, none⟩ = some (.int .i64 0) := (blk_cell BK715.out 0).trans rfl; have hcz27_1 : w25.cell? ⟨gb715, 1, none⟩ = some (.int .i64 0) := (blk_cell BK715.out 1).trans rfl; have hcz27_2 : w25.cell? ⟨gb715, 2, none⟩ = some (.int .u64 0) := (blk_cell BK715.out 2).trans rfl; have hfz27_0 := blk_frozen BK715.out 0; have hfz27_1 := blk_frozen BK715.out 1; have hfz27_2 := blk_frozen BK715.out 2; have p716 : 0 ≤ (((rd_T95 l0_1 x11_1).f1) : Int) := of_decide_eq_true (by assumption); have q716 : ((rd_T95 l0_1 x11_1).f1) < (l1.length : Int) := of_decide_eq_true (by assumption); obtain ⟨ad716, A716_0, c716_0, e716, hx716_0, hl716_0, hi716_0⟩ := at_L7 HR1.out ((rd_T95 l0_1 x11_1).f1) p716 q716; cases e716; have hn716_0 : ad716.block ≠ gb715 := bnq hx716_0 GW715; have hn716_1 : ad716.block ≠ gb715 := bnq hx716_0 GW715; have hn716_2 : ad716.block ≠ gb715 := bnq hx716_0 GW715; replace hx716_0 := ct HB hx716_0; have HR716_0 := Aside0.mk hi716_0; have HC716_0 := Aside0.mk hl716_0; clear hi716_0 hl716_0; replace hx716_0 := (cell_far (p := ⟨gb715, 0, none⟩) (by first | (rw [add_block]; exact hn716_0) | (show (Addr.add _ _).block ≠ _; rw [add_block]; exact hn716_0) | exact hn716_0) (.int .i64 ((rd_T95 l0_1 x11_1).f0))).trans hx716_0; replace hx716_0 := (cell_far (p := ⟨gb715, 1, none⟩) (by first | (rw [add_block]; exact hn716_1) | (show (Addr.add _ _).block ≠ _; rw [add_block]; exact hn716_1) | exact hn716_1) (.int .i64 ((rd_T95 l0_1 x11_1).f1))).trans hx716_0; replace hx716_0 := (cell_far (p := ⟨gb715, 2, none⟩) (by first | (rw [add_block]; exact hn716_2) | (show (Addr.add _ _).block ≠ _; rw [add_block]; exact hn716_2) | exact hn716_2) (.int .u64 ((rd_T95 l0_1 x11_1).f2))).trans hx716_0; (try have hy716_0 := fun (n_ : Nat) => (show (((((w25.drewN n_).setCell ⟨gb715, 0, none⟩ (.int .i64 ((rd_T95 l0_1 x11_1).f0))).setCell ⟨gb715, 1, none⟩ (.int .i64 ((rd_T95 l0_1 x11_1).f1))).setCell ⟨gb715, 2, none⟩ (.int .u64 ((rd_T95 l0_1 x11_1).f2)))).cell? _ = some _ from hx716_0)); clear hn716_0; clear hn716_1; clear hn716_2; replace p716 := eq_true p716; replace q716 := eq_true q716; have p717 : 0 ≤ (((rd_T95 l0_1 x11_1).f0) : Int) := of_decide_eq_true (by assumption); have q717 : ((rd_T95 l0_1 x11_1).f0) < ((rd_L7 l1 ((rd_T95 l0_1 x11_1).f1)).length : Int) := of_decide_eq_true (by assumption); obtain ⟨ad717, e717, hx717_0⟩ := Kd.at_int HR716_0.out ((rd_T95 l0_1 x11_1).f0) p717 q717; cases e717; have hn717_0 : ad717.block ≠ gb715 := bnq hx717_0 GW715; have hn717_1 : ad717.block ≠ gb715 := bnq hx717_0 GW715; have hn717_2 : ad717.block ≠ gb715 := bnq hx717_0 GW715; replace hx717_0 := ct HB hx717_0; replace hx717_0 := (cell_far (p := ⟨gb715, 0, none⟩) (by first | (rw [add_block]; exact hn717_0) | (show (Addr.add _ _).block ≠ _; rw [add_block]; exact hn717_0) | exact hn717_0) (.int .i64 ((rd_T95 l0_1 x11_1).f0))).trans hx717_0; replace hx717_0 := (cell_far (p := ⟨gb715, 1, none⟩) (by first | (rw [add_block]; exact hn717_1) | (show (Addr.add _ _).block ≠ _; rw [add_block]; exact hn717_1) | exact hn717_1) (.int .i64 ((rd_T95 l0_1 x11_1).f1))).trans hx717_0; replace hx717_0 := (cell_far (p := ⟨gb715, 2, none⟩) (by first | (rw [add_block]; exact hn717_2) | (show (Addr.add _ _).block ≠ _; rw [add_block]; exact hn717_2) | exact hn717_2) (.int .u64 ((rd_T95 l0_1 x11_1).f2))).trans hx717_0; (try have hy717_0 := fun (n_ : Nat) => (show (((((w25.drewN n_).setCell ⟨gb715, 0, none⟩ (.int .i64 ((rd_T95 l0_1 x11_1).f0))).setCell ⟨gb715, 1, none⟩ (.int .i64 ((rd_T95 l0_1 x11_1).f1))).setCell ⟨gb715, 2, none⟩ (.int .u64 ((rd_T95 l0_1 x11_1).f2)))).cell? _ = some _ from hx717_0)); clear hn717_0; clear hn717_1; clear hn717_2; replace p717 := eq_true p717; replace q717 := eq_true q717))
            repeat (go_quiet (first | ((with_reducible refine gate_dst (N := 7) rfl ?_); refine box_event ?hg (N := 7) ?hd (cs := #[.int .i64 0, .int .i64 0, .int .u64 0]) (t := 95) ?hr ?_; (case hd => rfl); (case hg => rfl); (case hr => first | (go_simp; done) | (go_simp; rfl)); intro gb715 hg w25 hbox hb; have n0_ := Aside0.mk (bkb BK713 hb); have n1_ := Aside0.mk (below_step (bn1 HB GE713) hb); have n2_ := Aside0.mk (hbox); have n3_ := Aside0.mk ((by rw [hg]; exact (below_size (bn1 HB GE713)) : w.heap.size ≤ gb715)); have n4_ := Aside0.mk ((by rw [hg]; exact (below_size (bn1 HB GE713)) : w.heap.size ≤ gb715)); have n5_ := Aside0.mk ((by rw [hg]; exact Nat.ne_of_lt (bkl BK713) : gb713 ≠ gb715)); have n6_ := Aside0.mk ((by rw [hg]; exact Nat.ne_of_gt (bkl BK713) : gb715 ≠ gb713)); clear BK713; clear HB; have BK713 := n0_; have HB := n1_; have BK715 := n2_; have GW715 := n3_; have GE715 := n4_; have NB713_715 := n5_; have NB715_713 := n6_; clear n0_ n1_ n2_ n3_ n4_ n5_ n6_; clear hb hbox hg; have hnb26 := NB715_713.out; have hnc26 := NB713_715.out; have hcz27_0 : w25.cell? ⟨gb715, 0, none⟩ = some (.int .i64 0) := (blk_cell BK715.out 0).trans rfl; have hcz27_1 : w25.cell? ⟨gb715, 1, none⟩ = some (.int .i64 0) := (blk_cell BK715.out 1).trans rfl; have hcz27_2 : w25.cell? ⟨gb715, 2, none⟩ = some (.int .u64 0) := (blk_cell BK715.out 2).trans rfl; have hfz27_0 := blk_frozen BK715.out 0; have hfz27_1 := blk_frozen BK715.out 1; have hfz27_2 := blk_frozen BK715.out 2; have p716 : 0 ≤ (((rd_T95 l0_1 x11_1).f1) : Int) := of_decide_eq_true (by assumption); have q716 : ((rd_T95 l0_1 x11_1).f1) < (l1.length : Int) := of_decide_eq_true (by assumption); obtain ⟨ad716, A716_0, c716_0, e716, hx716_0, hl716_0, hi716_0⟩ := at_L7 HR1.out ((rd_T95 l0_1 x11_1).f1) p716 q716; cases e716; have hn716_0 : ad716.block ≠ gb715 := bnq hx716_0 GW715; have hn716_1 : ad716.block ≠ gb715 := bnq hx716_0 GW715; have hn716_2 : ad716.block ≠ gb715 := bnq hx716_0 GW715; replace hx716_0 := ct HB hx716_0; have HR716_0 := Aside0.mk hi716_0; have HC716_0 := Aside0.mk hl716_0; clear hi716_0 hl716_0; replace hx716_0 := (cell_far (p := ⟨gb715, 0, none⟩) (by first | (rw [add_block]; exact hn716_0) | (show (Addr.add _ _).block ≠ _; rw [add_block]; exact hn716_0) | exact hn716_0) (.int .i64 ((rd_T95 l0_1 x11_1).f0))).trans hx716_0; replace hx716_0 := (cell_far (p := ⟨gb715, 1, none⟩) (by first | (rw [add_block]; exact hn716_1) | (show (Addr.add _ _).block ≠ _; rw [add_block]; exact hn716_1) | exact hn716_1) (.int .i64 ((rd_T95 l0_1 x11_1).f1))).trans hx716_0; replace hx716_0 := (cell_far (p := ⟨gb715, 2, none⟩) (by first | (rw [add_block]; exact hn716_2) | (show (Addr.add _ _).block ≠ _; rw [add_block]; exact hn716_2) | exact hn716_2) (.int .u64 ((rd_T95 l0_1 x11_1).f2))).trans hx716_0; (try have hy716_0 := fun (n_ : Nat) => (show (((((w25.drewN n_).setCell ⟨gb715, 0, none⟩ (.int .i64 ((rd_T95 l0_1 x11_1).f0))).setCell ⟨gb715, 1, none⟩ (.int .i64 ((rd_T95 l0_1 x11_1).f1))).setCell ⟨gb715, 2, none⟩ (.int .u64 ((rd_T95 l0_1 x11_1).f2)))).cell? _ = some _ from hx716_0)); clear hn716_0; clear hn716_1; clear hn716_2; replace p716 := eq_true p716; replace q716 := eq_true q716; have p717 : 0 ≤ (((rd_T95 l0_1 x11_1).f0) : Int) := of_decide_eq_true (by assumption); have q717 : ((rd_T95 l0_1 x11_1).f0) < ((rd_L7 l1 ((rd_T95 l0_1 x11_1).f1)).length : Int) := of_decide_eq_true (by assumption); obtain ⟨ad717, e717, hx717_0⟩ := Kd.at_int HR716_0.out ((rd_T95 l0_1 x11_1).f0) p717 q717; cases e717; have hn717_0 : ad717.block ≠ gb715 := bnq hx717_0 GW715; have hn717_1 : ad717.block ≠ gb715 := bnq hx717_0 GW715; have hn717_2 : ad717.block ≠ gb715 := bnq hx717_0 GW715; replace hx717_0 := ct HB hx717_0; replace hx717_0 := (cell_far (p := ⟨gb715, 0, none⟩) (by first | (rw [add_block]; exact hn717_0) | (show (Addr.add _ _).block ≠ _; rw [add_block]; exact hn717_0) | exact hn717_0) (.int .i64 ((rd_T95 l0_1 x11_1).f0))).trans hx717_0; replace hx717_0 := (cell_far (p := ⟨gb715, 1, none⟩) (by first | (rw [add_block]; exact hn717_1) | (show (Addr.add _ _).block ≠ _; rw [add_block]; exact hn717_1) | exact hn717_1) (.int .i64 ((rd_T95 l0_1 x11_1).f1))).trans hx717_0; replace hx717_0 := (cell_far (p := ⟨gb715, 2, none⟩) (by first | (rw [add_block]; exact hn717_2) | (show (Addr.add _ _).block ≠ _; rw [add_block]; exact hn717_2) | exact hn717_2) (.int .u64 ((rd_T95 l0_1 x11_1).f2))).trans hx717_0; (try have hy717_0 := fun (n_ : Nat) => (show (((((w25.drewN n_).setCell ⟨gb715, 0, none⟩ (.int .i64 ((rd_T95 l0_1 x11_1).f0))).setCell ⟨gb715, 1, none⟩ (.int .i64 ((rd_T95 l0_1 x11_1).f1))).setCell ⟨gb715, 2, none⟩ (.int .u64 ((rd_T95 l0_1 x11_1).f2)))).cell? _ = some _ from hx717_0)); clear hn717_0; clear hn717_1; clear hn717_2; replace p717 := eq_true p717; replace q717 := eq_true q717)); try go_wp2_with (first | ((with_reducible refine gate_dst (N := 7) rfl ?_); refine box_event ?hg (N := 7) ?hd (cs := #[.int .i64 0, .int .i64 0, .int .u64 0]) (t := 95) ?hr ?_; (case hd => rfl); (case hg => rfl); (case hr => first | (go_simp; done) | (go_simp; rfl)); intro gb715 hg w25 hbox hb; have n0_ := Aside0.mk (bkb BK713 hb); have n1_ := Aside0.mk (below_step (bn1 HB GE713) hb); have n2_ := Aside0.mk (hbox); have n3_ := Aside0.mk ((by rw [hg]; exact (below_size (bn1 HB GE713)) : w.heap.size ≤ gb715)); have n4_ := Aside0.mk ((by rw [hg]; exact (below_size (bn1 HB GE713)) : w.heap.size ≤ gb715)); have n5_ := Aside0.mk ((by rw [hg]; exact Nat.ne_of_lt (bkl BK713) : gb713 ≠ gb715)); have n6_ := Aside0.mk ((by rw [hg]; exact Nat.ne_of_gt (bkl BK713) : gb715 ≠ gb713)); clear BK713; clear HB; have BK713 := n0_; have HB := n1_; have BK715 := n2_; have GW715 := n3_; have GE715 := n4_; have NB713_715 := n5_; have NB715_713 := n6_; clear n0_ n1_ n2_ n3_ n4_ n5_ n6_; clear hb hbox hg; have hnb26 := NB715_713.out; have hnc26 := NB713_715.out; have hcz27_0 : w25.cell? ⟨gb715, 0, none⟩ = some (.int .i64 0) := (blk_cell BK715.out 0).trans rfl; have hcz27_1 : w25.cell? ⟨gb715, 1, none⟩ = some (.int .i64 0) := (blk_cell BK715.out 1).trans rfl; have hcz27_2 : w25.cell? ⟨gb715, 2, none⟩ = some (.int .u64 0) := (blk_cell BK715.out 2).trans rfl; have hfz27_0 := blk_frozen BK715.out 0; have hfz27_1 := blk_frozen BK715.out 1; have hfz27_2 := blk_frozen BK715.out 2; have p716 : 0 ≤ (((rd_T95 l0_1 x11_1).f1) : Int) := of_decide_eq_true (by assumption); have q716 : ((rd_T95 l0_1 x11_1).f1) < (l1.length : Int) := of_decide_eq_true (by assumption); obtain ⟨ad716, A716_0, c716_0, e716, hx716_0, hl716_0, hi716_0⟩ := at_L7 HR1.out ((rd_T95 l0_1 x11_1).f1) p716 q716; cases e716; have hn716_0 : ad716.block ≠ gb715 := bnq hx716_0 GW715; have hn716_1 : ad716.block ≠ gb715 := bnq hx716_0 GW715; have hn716_2 : ad716.block ≠ gb715 := bnq hx716_0 GW715; replace hx716_0 := ct HB hx716_0; have HR716_0 := Aside0.mk hi716_0; have HC716_0 := Aside0.mk hl716_0; clear hi716_0 hl716_0; replace hx716_0 := (cell_far (p := ⟨gb715, 0, none⟩) (by first | (rw [add_block]; exact hn716_0) | (show (Addr.add _ _).block ≠ _; rw [add_block]; exact hn716_0) | exact hn716_0) (.int .i64 ((rd_T95 l0_1 x11_1).f0))).trans hx716_0; replace hx716_0 := (cell_far (p := ⟨gb715, 1, none⟩) (by first | (rw [add_block]; exact hn716_1) | (show (Addr.add _ _).block ≠ _; rw [add_block]; exact hn716_1) | exact hn716_1) (.int .i64 ((rd_T95 l0_1 x11_1).f1))).trans hx716_0; replace hx716_0 := (cell_far (p := ⟨gb715, 2, none⟩) (by first | (rw [add_block]; exact hn716_2) | (show (Addr.add _ _).block ≠ _; rw [add_block]; exact hn716_2) | exact hn716_2) (.int .u64 ((rd_T95 l0_1 x11_1).f2))).trans hx716_0; (try have hy716_0 := fun (n_ : Nat) => (show (((((w25.drewN n_).setCell ⟨gb715, 0, none⟩ (.int .i64 ((rd_T95 l0_1 x11_1).f0))).setCell ⟨gb715, 1, none⟩ (.int .i64 ((rd_T95 l0_1 x11_1).f1))).setCell ⟨gb715, 2, none⟩ (.int .u64 ((rd_T95 l0_1 x11_1).f2)))).cell? _ = some _ from hx716_0)); clear hn716_0; clear hn716_1; clear hn716_2; replace p716 := eq_true p716; replace q716 := eq_true q716; have p717 : 0 ≤ (((rd_T95 l0_1 x11_1).f0) : Int) := of_decide_eq_true (by assumption); have q717 : ((rd_T95 l0_1 x11_1).f0) < ((rd_L7 l1 ((rd_T95 l0_1 x11_1).f1)).length : Int) := of_decide_eq_true (by assumption); obtain ⟨ad717, e717, hx717_0⟩ := Kd.at_int HR716_0.out ((rd_T95 l0_1 x11_1).f0) p717 q717; cases e717; have hn717_0 : ad717.block ≠ gb715 := bnq hx717_0 GW715; have hn717_1 : ad717.block ≠ gb715 := bnq hx717_0 GW715; have hn717_2 : ad717.block ≠ gb715 := bnq hx717_0 GW715; replace hx717_0 := ct HB hx717_0; replace hx717_0 := (cell_far (p := ⟨gb715, 0, none⟩) (by first | (rw [add_block]; exact hn717_0) | (show (Addr.add _ _).block ≠ _; rw [add_block]; exact hn717_0) | exact hn717_0) (.int .i64 ((rd_T95 l0_1 x11_1).f0))).trans hx717_0; replace hx717_0 := (cell_far (p := ⟨gb715, 1, none⟩) (by first | (rw [add_block]; exact hn717_1) | (show (Addr.add _ _).block ≠ _; rw [add_block]; exact hn717_1) | exact hn717_1) (.int .i64 ((rd_T95 l0_1 x11_1).f1))).trans hx717_0; replace hx717_0 := (cell_far (p := ⟨gb715, 2, none⟩) (by first | (rw [add_block]; exact hn717_2) | (show (Addr.add _ _).block ≠ _; rw [add_block]; exact hn717_2) | exact hn717_2) (.int .u64 ((rd_T95 l0_1 x11_1).f2))).trans hx717_0; (try have hy717_0 := fun (n_ : Nat) => (show (((((w25.drewN n_).setCell ⟨gb715, 0, none⟩ (.int .i64 ((rd_T95 l0_1 x11_1).f0))).setCell ⟨gb715, 1, none⟩ (.int .i64 ((rd_T95 l0_1 x11_1).f1))).setCell ⟨gb715, 2, none⟩ (.int .u64 ((rd_T95 l0_1 x11_1).f2)))).cell? _ = some _ from hx717_0)); clear hn717_0; clear hn717_1; clear hn717_2; replace p717 := eq_true p717; replace q717 := eq_true q717)))
            go_roundg k1
            case measure => have := HK1.out; omega
            case rel => exact ⟨(x5_1), (wrap64 (x11_1 + 1)), (by first | rfl | (simp; done) | (simp [*]; done)), (by first | rfl | (simp; done) | (simp [*]; done)), H', ⟨by have := HK1.out; omega⟩, ⟨by (with_reducible repeat (first | refine blk_drewN ?_ _ | refine blk_drew ?_ | refine blk_alloc ?_ _)); refine blk_far ?_ NB713_715.out _; (with_reducible repeat (first | refine blk_drewN ?_ _ | refine blk_drew ?_ | refine blk_alloc ?_ _)); refine blk_far ?_ NB713_715.out _; (with_reducible repeat (first | refine blk_drewN ?_ _ | refine blk_drew ?_ | refine blk_alloc ?_ _)); refine blk_far ?_ NB713_715.out _; (with_reducible repeat (first | refine blk_drewN ?_ _ | refine blk_drew ?_ | refine blk_alloc ?_ _)); exact BK713.out⟩, ⟨bn2 HB GE713 GE715⟩⟩
          ·rw [if_neg c12] at H
           exact absurd H (by simp)
         ·rw [if_neg c11] at H
          exact absurd H (by simp)
        ·rw [if_neg c10] at H
         exact absurd H (by simp)
       ·rw [if_neg c9] at H
        exact absurd H (by simp)
      ·rw [if_neg c8] at H
       have c8b0 : (((rd_T95 l0_1 x11_1).f2) == 0) = false := beq_eq_false_iff_ne.mpr c8
       have c8b1 : (((rd_T95 l0_1 x11_1).f2) != 0) = true := bne_iff_ne.mpr c8
       have H' := Aside0.mk H
       clear H
       have p714 : 0 ≤ (x11_1 : Int) := of_decide_eq_true (by assumption)
       have q714 : x11_1 < (l0_1.length : Int) := of_decide_eq_true (by assumption)
       obtain ⟨ad714, e714, hx714_0, hx714_1, hx714_2⟩ := at_T95 HR0_1.out x11_1 p714 q714
       cases e714
       replace hx714_0 := ct HB hx714_0
       replace hx714_1 := ct HB hx714_1
       replace hx714_2 := ct HB hx714_2
       replace p714 := eq_true p714
       replace q714 := eq_true q714
       go_wp2_with (first | ((with_reducible refine gate_dst (N := 7) rfl ?_); refine box_event ?hg (N := 7) ?hd (cs := #[.int .i64 0, .int .i64 0, .int .u64 0]) (t := 95) ?hr ?_; (case hd => rfl); (case hg => rfl); (case hr => first | (go_simp; done) | (go_simp; rfl)); intro gb715 hg w28 hbox hb; have n0_ := Aside0.mk (bkb BK713 hb); have n1_ := Aside0.mk (below_step (bn1 HB GE713) hb); have n2_ := Aside0.mk (hbox); have n3_ := Aside0.mk ((by rw [hg]; exact (below_size (bn1 HB GE713)) : w.heap.size ≤ gb715)); have n4_ := Aside0.mk ((by rw [hg]; exact (below_size (bn1 HB GE713)) : w.heap.size ≤ gb715)); have n5_ := Aside0.mk ((by rw [hg]; exact Nat.ne_of_lt (bkl BK713) : gb713 ≠ gb715)); have n6_ := Aside0.mk ((by rw [hg]; exact Nat.ne_of_gt (bkl BK713) : gb715 ≠ gb713)); clear BK713; clear HB; have BK713 := n0_; have HB := n1_; have BK715 := n2_; have GW715 := n3_; have GE715 := n4_; have NB713_715 := n5_; have NB715_713 := n6_; clear n0_ n1_ n2_ n3_ n4_ n5_ n6_; clear hb hbox hg; have hnb29 := NB715_713.out; have hnc29 := NB713_715.out; have hcz30_0 : w28.cell? ⟨gb715, 0, none⟩ = some (.int .i64 0) := (blk_cell BK715.out 0).trans rfl; have hcz30_1 : w28.cell? ⟨gb715, 1, none⟩ = some (.int .i64 0) := (blk_cell BK715.out 1).trans rfl; have hcz30_2 : w28.cell? ⟨gb715, 2, none⟩ = some (.int .u64 0) := (blk_cell BK715.out 2).trans rfl; have hfz30_0 := blk_frozen BK715.out 0; have hfz30_1 := blk_frozen BK715.out 1; have hfz30_2 := blk_frozen BK715.out 2))
       repeat (go_quiet (first | ((with_reducible refine gate_dst (N := 7) rfl ?_); refine box_event ?hg (N := 7) ?hd (cs := #[.int .i64 0, .int .i64 0, .int .u64 0]) (t := 95) ?hr ?_; (case hd => rfl); (case hg => rfl); (case hr => first | (go_simp; done) | (go_simp; rfl)); intro gb715 hg w28 hbox hb; have n0_ := Aside0.mk (bkb BK713 hb); have n1_ := Aside0.mk (below_step (bn1 HB GE713) hb); have n2_ := Aside0.mk (hbox); have n3_ := Aside0.mk ((by rw [hg]; exact (below_size (bn1 HB GE713)) : w.heap.size ≤ gb715)); have n4_ := Aside0.mk ((by rw [hg]; exact (below_size (bn1 HB GE713)) : w.heap.size ≤ gb715)); have n5_ := Aside0.mk ((by rw [hg]; exact Nat.ne_of_lt (bkl BK713) : gb713 ≠ gb715)); have n6_ := Aside0.mk ((by rw [hg]; exact Nat.ne_of_gt (bkl BK713) : gb715 ≠ gb713)); clear BK713; clear HB; have BK713 := n0_; have HB := n1_; have BK715 := n2_; have GW715 := n3_; have GE715 := n4_; have NB713_715 := n5_; have NB715_713 := n6_; clear n0_ n1_ n2_ n3_ n4_ n5_ n6_; clear hb hbox hg; have hnb29 := NB715_713.out; have hnc29 := NB713_715.out; have hcz30_0 : w28.cell? ⟨gb715, 0, none⟩ = some (.int .i64 0) := (blk_cell BK715.out 0).trans rfl; have hcz30_1 : w28.cell? ⟨gb715, 1, none⟩ = some (.int .i64 0) := (blk_cell BK715.out 1).trans rfl; have hcz30_2 : w28.cell? ⟨gb715, 2, none⟩ = some (.int .u64 0) := (blk_cell BK715.out 2).trans rfl; have hfz30_0 := blk_frozen BK715.out 0; have hfz30_1 := blk_frozen BK715.out 1; have hfz30_2 := blk_frozen BK715.out 2)); try go_wp2_with (first | ((with_reducible refine gate_dst (N := 7) rfl ?_); refine box_event ?hg (N := 7) ?hd (cs := #[.int .i64 0, .int .i64 0, .int .u64 0]) (t := 95) ?hr ?_; (case hd => rfl); (case hg => rfl); (case hr => first | (go_simp; done) | (go_simp; rfl)); intro gb715 hg w28 hbox hb; have n0_ := Aside0.mk (bkb BK713 hb); have n1_ := Aside0.mk (below_step (bn1 HB GE713) hb); have n2_ := Aside0.mk (hbox); have n3_ := Aside0.mk ((by rw [hg]; exact (below_size (bn1 HB GE713)) : w.heap.size ≤ gb715)); have n4_ := Aside0.mk ((by rw [hg]; exact (below_size (bn1 HB GE713)) : w.heap.size ≤ gb715)); have n5_ := Aside0.mk ((by rw [hg]; exact Nat.ne_of_lt (bkl BK713) : gb713 ≠ gb715)); have n6_ := Aside0.mk ((by rw [hg]; exact Nat.ne_of_gt (bkl BK713) : gb715 ≠ gb713)); clear BK713; clear HB; have BK713 := n0_; have HB := n1_; have BK715 := n2_; have GW715 := n3_; have GE715 := n4_; have NB713_715 := n5_; have NB715_713 := n6_; clear n0_ n1_ n2_ n3_ n4_ n5_ n6_; clear hb hbox hg; have hnb29 := NB715_713.out; have hnc29 := NB713_715.out; have hcz30_0 : w28.cell? ⟨gb715, 0, none⟩ = some (.int .i64 0) := (blk_cell BK715.out 0).trans rfl; have hcz30_1 : w28.cell? ⟨gb715, 1, none⟩ = some (.int .i64 0) := (blk_cell BK715.out 1).trans rfl; have hcz30_2 : w28.cell? ⟨gb715, 2, none⟩ = some (.int .u64 0) := (blk_cell BK715.out 2).trans rfl; have hfz30_0 := blk_frozen BK715.out 0; have hfz30_1 := blk_frozen BK715.out 1; have hfz30_2 := blk_frozen BK715.out 2)))
       go_roundg k1
       case measure => have := HK1.out; omega
       case rel => exact ⟨(x5_1), (wrap64 (x11_1 + 1)), (by first | rfl | (simp; done) | (simp [*]; done)), (by first | rfl | (simp; done) | (simp [*]; done)), H', ⟨by have := HK1.out; omega⟩, ⟨by (with_reducible repeat (first | refine blk_drewN ?_ _ | refine blk_drew ?_ | refine blk_alloc ?_ _)); refine blk_far ?_ NB713_715.out _; (with_reducible repeat (first | refine blk_drewN ?_ _ | refine blk_drew ?_ | refine blk_alloc ?_ _)); refine blk_far ?_ NB713_715.out _; (with_reducible repeat (first | refine blk_drewN ?_ _ | refine blk_drew ?_ | refine blk_alloc ?_ _)); refine blk_far ?_ NB713_715.out _; (with_reducible repeat (first | refine blk_drewN ?_ _ | refine blk_drew ?_ | refine blk_alloc ?_ _)); exact BK713.out⟩, ⟨bn2 HB GE713 GE715⟩⟩
     ·rw [if_neg c7] at H
      exact absurd H (by simp)
    ·rw [if_neg c6] at H
     exact absurd H (by simp)
   ·rw [if_neg c5] at H
    have c5b0 : decide (x11_1 < (l0_1.length : Int)) = false := decide_eq_false c5
    clear c5
    obtain rfl := Option.some.inj H
    go_wp2
    repeat (go_quiet (fail); try go_wp2)
    go_ret
    exact ⟨by first | rfl | (simp [errW_none, errW_some] <;> rfl) | (simp [*, errW_none, errW_some] <;> rfl), bn1 HB GE713⟩
end Go.Proofs.Ytgeldmhgbnamcaa.P
end
section
-- Printed by the session's own turn of the print (wip/tools/print2.sh): some callees are proved by hand.
namespace Go.Proofs.Ytgeldmhgbnamcaa.P
open Go.RowKit Go.Proofs.YtgeldmhgbnamcaaW.PrintWords Go.Proofs.YtgeldmhgbnamcaaW.PrintLast Go.Proofs.YtgeldmhgbnamcaaW.PrintMore
attribute [local go_sem] max2_int min2_int max_two min_two max_three min_three max_four min_four   -- for this text's walks alone
set_option linter.unusedVariables false
set_option linter.unusedSimpArgs false
/-! ### graph_Check: function 63 -/
def graph_Check.j0 : Nat → Bool → Int → List (S95) → List Int → Option (Option Int)
 | 0, _, _, _, _ => none
 | k + 1, x6, x719000, x719001, x719002 => if x6 = true then (some (some 2)) else (if (x719001.length : Int) > 256 then (some (some 4)) else ((graph_Graph_edges.f k x719000 x719001 x719002).bind fun t719 => (if t719.isNone = true then ((graph_Graph_inputs.f k x719000 x719001 x719002).bind fun t721 => (if t721.isNone = true then ((graph_Graph_ways.f k x719000 x719001 x719002).bind fun t723 => ((graph_Graph_cycle.f k x719000 x719001 x719002 t723).bind fun t726 => (if t726 ≥ 0 then (none) else (some none)))) else (some (some (t721.getD 0))))) else (some (some (t719.getD 0))))))
def graph_Check.f (k : Nat) (a0_0 : Int) (l0_1 : List (S95)) (l0_2 : List Int) : Option (Option Int) := if a0_0 < 1 then (graph_Check.j0 k true a0_0 l0_1 l0_2) else (graph_Check.j0 k (decide (a0_0 > 64)) a0_0 l0_1 l0_2)
set_option maxHeartbeats 8000000 in
set_option maxRecDepth 100000 in
theorem graph_Check.calls (k : Nat) (a0_0 : Int) (A0_1 : Option Addr) (c0_1 : Nat) (l0_1 : List (S95)) (A0_2 : Option Addr) (c0_2 : Nat) (l0_2 : List Int) (r : Option Int) (w : World) (hr0_1 : Kd.C k95 w A0_1 l0_1.length l0_1) (hc0_1 : l0_1.length ≤ c0_1) (hr0_2 : Kd.C (Kd.int .i64) w A0_2 l0_2.length l0_2) (hc0_2 : l0_2.length ≤ c0_2) (h : graph_Check.f k a0_0 l0_1 l0_2 = some r) :
  Calls Try.prog 63 #[.agg #[.int .i64 a0_0, .slice A0_1 l0_1.length c0_1, .slice A0_2 l0_2.length c0_2]] w fun e w' => e = .returned (errW r) ∧ Below w.heap.size w w' := by
 have hu64 := Try.underlying64
 have hu92 := Try.underlying92
 have hu26 := Try.underlying26
 have HR0_1 := Aside0.mk hr0_1
 have HC0_1 := Aside0.mk hc0_1
 clear hr0_1 hc0_1
 have HR0_2 := Aside0.mk hr0_2
 have HC0_2 := Aside0.mk hc0_2
 clear hr0_2 hc0_2
 have HB := Aside0.mk (Below.refl w.heap.size w)
 have H : (if a0_0 < 1 then (graph_Check.j0 k true a0_0 l0_1 l0_2) else (graph_Check.j0 k (decide (a0_0 > 64)) a0_0 l0_1 l0_2)) = some r := h
 clear h
 have HC2 := Aside0.mk H
 clear H
 go_enter Try.func63, Try.ntmps63
 go_upto_region 1 with (first | ((with_reducible refine gate_dst (N := 1) rfl ?_); refine box_event ?hg (N := 1) ?hd (cs := #[.int .i64 a0_0, .slice A0_1 l0_1.length c0_1, .slice A0_2 l0_2.length c0_2]) (t := 64) ?hr ?_; (case hd => rfl); (case hg => rfl); (case hr => first | (go_simp; done) | (go_simp; rfl)); intro gb718 hg w3 hbox hb; have n1_ := Aside0.mk (hbox); have n2_ := Aside0.mk ((by rw [hg]; exact (below_size (bn HB)) : w.heap.size ≤ gb718)); have n3_ := Aside0.mk ((by rw [hg]; exact (below_size (bn HB)) : w.heap.size ≤ gb718)); replace HB := bb HB hb; have BK718 := n1_; have GW718 := n2_; have GE718 := n3_; clear n1_ n2_ n3_; clear hb hbox hg))
 (try simp only [Act.put, List.setIfInBounds_toArray, List.set_cons_zero, List.set_cons_succ])
 go_cut [6] (fun v6 wc => ∃ (kq : Nat) (x6_1 : Bool), v6 = .bool x6_1 ∧ Aside0 (graph_Check.j0 kq x6_1 a0_0 l0_1 l0_2 = some r) ∧ Aside0 (kq ≤ k) ∧ Aside0 (wc.heap[gb718]? = some (.cells #[.int .i64 a0_0, (.slice A0_1 l0_1.length c0_1), (.slice A0_2 l0_2.length c0_2)] 64 (0, 0))) ∧ Aside0 (Below w.heap.size w wc))
 case first =>
  have H := HC2.out
  clear HC2
  by_cases c4 : a0_0 < 1
  ·rw [if_pos c4] at H
   have c4b0 : decide (a0_0 < 1) = true := decide_eq_true c4
   clear c4
   (first | rw [c4b0] | (simp only [i64_w, i32_w]; rw [c4b0]) | skip)
   have H' := Aside0.mk H
   clear H
   have hcz5_0 : w3.cell? ⟨gb718, 0, none⟩ = some (.int .i64 a0_0) := (blk_cell BK718.out 0).trans rfl
   have hcz5_1 : w3.cell? ⟨gb718, 1, none⟩ = some (.slice A0_1 l0_1.length c0_1) := (blk_cell BK718.out 1).trans rfl
   have hcz5_2 : w3.cell? ⟨gb718, 2, none⟩ = some (.slice A0_2 l0_2.length c0_2) := (blk_cell BK718.out 2).trans rfl
   have hfz5_0 := blk_frozen BK718.out 0
   have hfz5_1 := blk_frozen BK718.out 1
   have hfz5_2 := blk_frozen BK718.out 2
   go_wp2
   go_meet
   case rel => exact ⟨_, (true), (by first | rfl | (simp; done) | (simp [*]; done)), H', ⟨by first | omega | exact Nat.le_refl _⟩, ⟨bk BK718⟩, ⟨bn1 HB GE718⟩⟩
  ·rw [if_neg c4] at H
   have c4b0 : decide (a0_0 < 1) = false := decide_eq_false c4
   clear c4
   (first | rw [c4b0] | (simp only [i64_w, i32_w]; rw [c4b0]) | skip)
   have H' := Aside0.mk H
   clear H
   have hcz6_0 : w3.cell? ⟨gb718, 0, none⟩ = some (.int .i64 a0_0) := (blk_cell BK718.out 0).trans rfl
   have hcz6_1 : w3.cell? ⟨gb718, 1, none⟩ = some (.slice A0_1 l0_1.length c0_1) := (blk_cell BK718.out 1).trans rfl
   have hcz6_2 : w3.cell? ⟨gb718, 2, none⟩ = some (.slice A0_2 l0_2.length c0_2) := (blk_cell BK718.out 2).trans rfl
   have hfz6_0 := blk_frozen BK718.out 0
   have hfz6_1 := blk_frozen BK718.out 1
   have hfz6_2 := blk_frozen BK718.out 2
   go_wp2
   go_meet
   case rel => exact ⟨_, (decide (a0_0 > 64)), (by first | rfl | (simp; done) | (simp [*]; done)), H', ⟨by first | omega | exact Nat.le_refl _⟩, ⟨bk BK718⟩, ⟨bn1 HB GE718⟩⟩
 case rest =>
  clear HC2
  (try clear p2); (try clear c4); (try clear c4b0); (try clear c6); (try clear hcz5_0); (try clear hcz5_1); (try clear hcz5_2); (try clear hcz6_0); (try clear hcz6_1); (try clear hcz6_2); (try clear hfz5_0); (try clear hfz5_1); (try clear hfz5_2); (try clear hfz6_0); (try clear hfz6_1); (try clear hfz6_2)
  obtain ⟨kq, x6_1, rfl, HA, HJ1, BK718, HB⟩ := hcut
  cases kq with
  | zero => exact absurd HA.out (by simp [graph_Check.j0])
  | succ kj1 =>
   have H := HA.out
   clear HA
   simp only [graph_Check.j0] at H
   by_cases c7 : x6_1 = true
   ·subst c7
    have H1 : (some (some 2)) = some r := by rw [if_pos rfl] at H; exact H
    clear H
    have H := H1
    clear H1
    obtain rfl := Option.some.inj H
    go_wp2
    go_ret
    exact ⟨by first | rfl | (simp [errW_none, errW_some] <;> rfl) | (simp [*, errW_none, errW_some] <;> rfl), bn1 HB GE718⟩
   ·replace c7 := Bool.eq_false_iff.mpr c7
    subst c7
    have H1 : (if (l0_1.length : Int) > 256 then (some (some 4)) else ((graph_Graph_edges.f kj1 a0_0 l0_1 l0_2).bind fun t719 => (if t719.isNone = true then ((graph_Graph_inputs.f kj1 a0_0 l0_1 l0_2).bind fun t721 => (if t721.isNone = true then ((graph_Graph_ways.f kj1 a0_0 l0_1 l0_2).bind fun t723 => ((graph_Graph_cycle.f kj1 a0_0 l0_1 l0_2 t723).bind fun t726 => (if t726 ≥ 0 then (none) else (some none)))) else (some (some (t721.getD 0))))) else (some (some (t719.getD 0)))))) = some r := by rw [if_neg (show ¬ (false = true) by decide)] at H; exact H
    clear H
    have H := H1
    clear H1
    by_cases c8 : (l0_1.length : Int) > 256
    ·rw [if_pos c8] at H
     have c8b0 : decide (256 < (l0_1.length : Int)) = true := decide_eq_true c8
     have c8b1 : decide (256 < l0_1.length) = true := decide_eq_true (by omega)
     clear c8
     obtain rfl := Option.some.inj H
     have hcz9_0 : wc.cell? ⟨gb718, 0, none⟩ = some (.int .i64 a0_0) := (blk_cell BK718.out 0).trans rfl
     have hcz9_1 : wc.cell? ⟨gb718, 1, none⟩ = some (.slice A0_1 l0_1.length c0_1) := (blk_cell BK718.out 1).trans rfl
     have hcz9_2 : wc.cell? ⟨gb718, 2, none⟩ = some (.slice A0_2 l0_2.length c0_2) := (blk_cell BK718.out 2).trans rfl
     have hfz9_0 := blk_frozen BK718.out 0
     have hfz9_1 := blk_frozen BK718.out 1
     have hfz9_2 := blk_frozen BK718.out 2
     go_wp2
     go_ret
     exact ⟨by first | rfl | (simp [errW_none, errW_some] <;> rfl) | (simp [*, errW_none, errW_some] <;> rfl), bn1 HB GE718⟩
    ·rw [if_neg c8] at H
     have c8b0 : decide (256 < (l0_1.length : Int)) = false := decide_eq_false c8
     have c8b1 : decide (256 < l0_1.length) = false := decide_eq_false (by omega)
     clear c8
     replace H := Option.bind_eq_some_iff.mp H
     obtain ⟨t719, A100, H⟩ := H
     replace H : (if t719.isNone = true then ((graph_Graph_inputs.f kj1 a0_0 l0_1 l0_2).bind fun t721 => (if t721.isNone = true then ((graph_Graph_ways.f kj1 a0_0 l0_1 l0_2).bind fun t723 => ((graph_Graph_cycle.f kj1 a0_0 l0_1 l0_2 t723).bind fun t726 => (if t726 ≥ 0 then (none) else (some none)))) else (some (some (t721.getD 0))))) else (some (some (t719.getD 0)))) = some r := H
     have A10 := Aside0.mk A100
     clear A100
     rcases t719 with _ | q720
     ·have H1 : ((graph_Graph_inputs.f kj1 a0_0 l0_1 l0_2).bind fun t721 => (if t721.isNone = true then ((graph_Graph_ways.f kj1 a0_0 l0_1 l0_2).bind fun t723 => ((graph_Graph_cycle.f kj1 a0_0 l0_1 l0_2 t723).bind fun t726 => (if t726 ≥ 0 then (none) else (some none)))) else (some (some (t721.getD 0))))) = some r := by rw [if_pos (show (none : Option Int).isNone = true by rfl)] at H; exact H
      clear H
      have H := H1
      clear H1
      try simp only [errW_none, errW_some]
      replace H := Option.bind_eq_some_iff.mp H
      obtain ⟨t721, A110, H⟩ := H
      replace H : (if t721.isNone = true then ((graph_Graph_ways.f kj1 a0_0 l0_1 l0_2).bind fun t723 => ((graph_Graph_cycle.f kj1 a0_0 l0_1 l0_2 t723).bind fun t726 => (if t726 ≥ 0 then (none) else (some none)))) else (some (some (t721.getD 0)))) = some r := H
      have A11 := Aside0.mk A110
      clear A110
      rcases t721 with _ | q722
      ·have H1 : ((graph_Graph_ways.f kj1 a0_0 l0_1 l0_2).bind fun t723 => ((graph_Graph_cycle.f kj1 a0_0 l0_1 l0_2 t723).bind fun t726 => (if t726 ≥ 0 then (none) else (some none)))) = some r := by rw [if_pos (show (none : Option Int).isNone = true by rfl)] at H; exact H
       clear H
       have H := H1
       clear H1
       try simp only [errW_none, errW_some]
       replace H := Option.bind_eq_some_iff.mp H
       obtain ⟨t723, A120, H⟩ := H
       replace H : ((graph_Graph_cycle.f kj1 a0_0 l0_1 l0_2 t723).bind fun t726 => (if t726 ≥ 0 then (none) else (some none))) = some r := H
       have A12 := Aside0.mk A120
       clear A120
       replace H := Option.bind_eq_some_iff.mp H
       obtain ⟨t726, A130, H⟩ := H
       replace H : (if t726 ≥ 0 then (none) else (some none)) = some r := H
       have A13 := Aside0.mk A130
       clear A130
       by_cases c14 : t726 ≥ 0
       ·rw [if_pos c14] at H
        exact absurd H (by simp)
       ·rw [if_neg c14] at H
        have c14b0 : decide (0 ≤ t726) = false := decide_eq_false c14
        clear c14
        obtain rfl := Option.some.inj H
        have hcz15_0 : wc.cell? ⟨gb718, 0, none⟩ = some (.int .i64 a0_0) := (blk_cell BK718.out 0).trans rfl
        have hcz15_1 : wc.cell? ⟨gb718, 1, none⟩ = some (.slice A0_1 l0_1.length c0_1) := (blk_cell BK718.out 1).trans rfl
        have hcz15_2 : wc.cell? ⟨gb718, 2, none⟩ = some (.slice A0_2 l0_2.length c0_2) := (blk_cell BK718.out 2).trans rfl
        have hfz15_0 := blk_frozen BK718.out 0
        have hfz15_1 := blk_frozen BK718.out 1
        have hfz15_2 := blk_frozen BK718.out 2
        try go_wp2_with (first | ((with_reducible refine gate_callee (f := 80) rfl ?_); refine gl (some 23) Try.func80 #[.agg #[.int .i64 a0_0, .slice A0_1 l0_1.length c0_1, .slice A0_2 l0_2.length c0_2]] ?_; (with_reducible refine (graph_Graph_edges.calls kj1 a0_0 _ _ l0_1 _ _ l0_2 none _ ?side1 ?side2 ?side3 ?side4 A10.out).mono ?_); (case side1 => repeat (first | exact (Kd.C_below HR0_1.out HB.out) | (with_reducible refine Kd.C_alloc ?_ _) | (with_reducible refine Kd.C_drewN ?_ _) | (with_reducible refine Kd.C_drew ?_))); (case side2 => exact HC0_1.out); (case side3 => repeat (first | exact (Kd.C_below HR0_2.out HB.out) | (with_reducible refine Kd.C_alloc ?_ _) | (with_reducible refine Kd.C_drewN ?_ _) | (with_reducible refine Kd.C_drew ?_))); (case side4 => exact HC0_2.out); rintro e w16 ⟨rfl, hb⟩; refine ⟨_, rfl, ?_⟩; have n0_ := Aside0.mk (bkb BK718 hb); have n1_ := Aside0.mk (below_step (bn1 HB GE718) hb); clear BK718; clear HB; have BK718 := n0_; have HB := n1_; clear n0_ n1_; (try clear hb); (try simp only [errW_none, errW_some]); have hcz17_0 : w16.cell? ⟨gb718, 0, none⟩ = some (.int .i64 a0_0) := (blk_cell BK718.out 0).trans rfl; have hcz17_1 : w16.cell? ⟨gb718, 1, none⟩ = some (.slice A0_1 l0_1.length c0_1) := (blk_cell BK718.out 1).trans rfl; have hcz17_2 : w16.cell? ⟨gb718, 2, none⟩ = some (.slice A0_2 l0_2.length c0_2) := (blk_cell BK718.out 2).trans rfl; have hfz17_0 := blk_frozen BK718.out 0; have hfz17_1 := blk_frozen BK718.out 1; have hfz17_2 := blk_frozen BK718.out 2) | ((with_reducible refine gate_callee (f := 81) rfl ?_); refine gl (some 28) Try.func81 #[.agg #[.int .i64 a0_0, .slice A0_1 l0_1.length c0_1, .slice A0_2 l0_2.length c0_2]] ?_; (with_reducible refine (graph_Graph_inputs.calls kj1 a0_0 _ _ l0_1 _ _ l0_2 none _ ?side1 ?side2 ?side3 ?side4 A11.out).mono ?_); (case side1 => repeat (first | exact (Kd.C_below HR0_1.out HB.out) | (with_reducible refine Kd.C_alloc ?_ _) | (with_reducible refine Kd.C_drewN ?_ _) | (with_reducible refine Kd.C_drew ?_))); (case side2 => exact HC0_1.out); (case side3 => repeat (first | exact (Kd.C_below HR0_2.out HB.out) | (with_reducible refine Kd.C_alloc ?_ _) | (with_reducible refine Kd.C_drewN ?_ _) | (with_reducible refine Kd.C_drew ?_))); (case side4 => exact HC0_2.out); rintro e w18 ⟨rfl, hb⟩; refine ⟨_, rfl, ?_⟩; have n0_ := Aside0.mk (bkb BK718 hb); have n1_ := Aside0.mk (below_step (bn1 HB GE718) hb); clear BK718; clear HB; have BK718 := n0_; have HB := n1_; clear n0_ n1_; (try clear hb); (try simp only [errW_none, errW_some])))
        have n0_ := Aside0.mk (blk_drew BK718.out)
        have n1_ := Aside0.mk (below_drew1 HB.out)
        clear BK718
        clear HB
        have BK718 := n0_
        have HB := n1_
        clear n0_ n1_
        refine start_ (n := 5) (S := fun w' => w'.cell? ⟨gb718, 0, none⟩ = some (.int .i64 a0_0) ∧ w'.cell? ⟨gb718, 1, none⟩ = some (.slice A0_1 l0_1.length c0_1) ∧ w'.cell? ⟨gb718, 2, none⟩ = some (.slice A0_2 l0_2.length c0_2)) (ds := []) (mk_ 0 5) (by kernel_rfl) rfl rfl ⟨(blk_cell BK718.out 0).trans rfl, (blk_cell BK718.out 1).trans rfl, (blk_cell BK718.out 2).trans rfl⟩ (fun hHeld => ?_)
        generalize w18.drew = w19 at BK718 HB hHeld ⊢
        refine take_ (i := 0) (N := some 32) (v := ?_) (a' := ?_) (mk_ 1 4) rfl rfl (by kernel_rfl) (fun _ _ _ h => h) (Or.inl ⟨by rfl, ?_⟩) hHeld ?_ ?_
        rotate_left
        ·rintro w' ⟨s0, s1, s2⟩
         go_simp
         with_reducible rfl
        rotate_left
        ·simp only [Act.put, List.setIfInBounds_toArray, List.set_cons_zero, List.set_cons_succ, i64_w, i32_w]
         rfl
        refine take_ (i := 1) (N := some 33) (v := ?_) (a' := ?_) (mk_ 2 3) rfl rfl (by kernel_rfl) (fun _ _ _ h => h) (Or.inl ⟨by rfl, ?_⟩) hHeld ?_ ?_
        rotate_left
        ·rintro w' ⟨s0, s1, s2⟩
         go_simp
         with_reducible rfl
        rotate_left
        ·simp only [Act.put, List.setIfInBounds_toArray, List.set_cons_zero, List.set_cons_succ, i64_w, i32_w]
         rfl
        refine one_ (i := 2) (N := some 34) (mk_ 3 2) rfl rfl (by kernel_rfl) (by decide) (fun K hK => ?_)
        refine goes_ Try.func64 (by kernel_rfl) rfl #[.agg #[.int .i64 a0_0, .slice A0_1 l0_1.length c0_1, .slice A0_2 l0_2.length c0_2]] (by rfl) rfl rfl (by (try simp only [List.map_toArray, List.map_cons, List.map_nil]); first | done | rfl | (simp only [List.length_drop, List.length_take]; rfl)) ?_
        with_reducible refine (graph_Graph_ways.calls kj1 a0_0 _ _ l0_1 _ _ l0_2 t723 _ ?side1 ?side2 ?side3 ?side4 A12.out).mono ?_
        (case side1 => repeat (first | exact (Kd.C_below HR0_1.out HB.out) | (with_reducible refine Kd.C_alloc ?_ _) | (with_reducible refine Kd.C_drewN ?_ _) | (with_reducible refine Kd.C_drew ?_)))
        (case side2 => exact HC0_1.out)
        (case side3 => repeat (first | exact (Kd.C_below HR0_2.out HB.out) | (with_reducible refine Kd.C_alloc ?_ _) | (with_reducible refine Kd.C_drewN ?_ _) | (with_reducible refine Kd.C_drew ?_)))
        (case side4 => exact HC0_2.out)
        rintro e w20 ⟨v724, rfl, ho0, hb⟩
        refine ⟨_, rfl, ?_⟩
        have n0_ := Aside0.mk (Kd.S_lower ho0 (below_size (bn1 HB GE718)))
        have n1_ := Aside0.mk (bkb BK718 hb)
        have n2_ := Aside0.mk (below_step (bn1 HB GE718) hb)
        clear BK718
        clear HB
        have HO725 := n0_
        have BK718 := n1_
        have HB := n2_
        clear n0_ n1_ n2_
        (try clear hb)
        (try clear hb2)
        (try clear hk)
        (try clear hi)
        (try clear ho0)
        obtain ⟨Ao21, co21, eo21⟩ := Kd.S_slice HO725.out
        (first | subst eo21 | (injection eo21 with f1_ f2_ f3_; have f4_ := f1_.symm; have f5_ := f3_.symm; clear f1_ f2_ f3_; subst f4_; subst f5_))
        refine hK.out _ _ ⟨(blk_cell BK718.out 0).trans rfl, (blk_cell BK718.out 1).trans rfl, (blk_cell BK718.out 2).trans rfl⟩ (fun hHeld => ?_)
        clear hK K
        refine norm_ (a' := ?_) ?_ ?_
        rotate_left
        ·show Act.put _ (some 34) _ = _
         simp only [Act.put, List.setIfInBounds_toArray, List.set_cons_zero, List.set_cons_succ, i64_w, i32_w]
         rfl
        refine one_ (i := 3) (N := some 35) (mk_ 4 1) rfl rfl (by kernel_rfl) (by decide) (fun K hK => ?_)
        refine goes_ Try.func82 (by kernel_rfl) rfl #[.agg #[.int .i64 a0_0, .slice A0_1 l0_1.length c0_1, .slice A0_2 l0_2.length c0_2], .slice Ao21 t723.length co21] (by rfl) rfl rfl (by (try simp only [List.map_toArray, List.map_cons, List.map_nil]); first | done | rfl | (simp only [List.length_drop, List.length_take]; rfl)) ?_
        with_reducible refine (graph_Graph_cycle.calls kj1 a0_0 _ _ l0_1 _ _ l0_2 _ _ t723 t726 _ ?side1 ?side2 ?side3 ?side4 ?side5 ?side6 A13.out).mono ?_
        (case side1 => repeat (first | exact (Kd.C_below HR0_1.out HB.out) | (with_reducible refine Kd.C_alloc ?_ _) | (with_reducible refine Kd.C_drewN ?_ _) | (with_reducible refine Kd.C_drew ?_)))
        (case side2 => exact HC0_1.out)
        (case side3 => repeat (first | exact (Kd.C_below HR0_2.out HB.out) | (with_reducible refine Kd.C_alloc ?_ _) | (with_reducible refine Kd.C_drewN ?_ _) | (with_reducible refine Kd.C_drew ?_)))
        (case side4 => exact HC0_2.out)
        (case side5 => repeat (first | exact (Kd.S_reads' HO725.out).2.2 | (with_reducible refine Kd.C_alloc ?_ _) | (with_reducible refine Kd.C_drewN ?_ _) | (with_reducible refine Kd.C_drew ?_)))
        (case side6 => exact (Kd.S_reads' HO725.out).2.1)
        rintro e w22 ⟨rfl, hb⟩
        refine ⟨_, rfl, ?_⟩
        have n0_ := Aside0.mk (Kd.S_below (sn HO725) hb)
        have n1_ := Aside0.mk (bkb BK718 hb)
        have n2_ := Aside0.mk (below_step (bn1 HB GE718) hb)
        clear HO725
        clear BK718
        clear HB
        have HO725 := n0_
        have BK718 := n1_
        have HB := n2_
        clear n0_ n1_ n2_
        (try clear hb)
        (try clear hb2)
        (try clear hk)
        (try clear hi)
        refine hK.out _ _ ⟨(blk_cell BK718.out 0).trans rfl, (blk_cell BK718.out 1).trans rfl, (blk_cell BK718.out 2).trans rfl⟩ (fun hHeld => ?_)
        clear hK K
        refine norm_ (a' := ?_) ?_ ?_
        rotate_left
        ·show Act.put _ (some 35) _ = _
         simp only [Act.put, List.setIfInBounds_toArray, List.set_cons_zero, List.set_cons_succ, i64_w, i32_w]
         rfl
        refine pure_ (i := 4) (N := some 5) (v := ?_) (a' := ?_) (mk_ 5 0) rfl rfl (by kernel_rfl) (fun _ _ _ h => h) (Or.inl ⟨by rfl, ?_⟩) ?_ ?_
        rotate_left
        ·intro w'
         go_simp
         with_reducible rfl
        rotate_left
        ·simp only [Act.put, List.setIfInBounds_toArray, List.set_cons_zero, List.set_cons_succ, i64_w, i32_w]
         rfl
        refine done_ (by kernel_rfl) ?_
        try go_wp2
        go_ret
        exact ⟨by first | rfl | (simp [errW_none, errW_some] <;> rfl) | (simp [*, errW_none, errW_some] <;> rfl), bn1 HB GE718⟩
      ·have H1 : (some (some q722)) = some r := by rw [if_neg (show ¬ (some q722).isNone = true by simp)] at H; exact H
       clear H
       have H := H1
       clear H1
       try simp only [errW_none, errW_some]
       obtain rfl := Option.some.inj H
       have hcz23_0 : wc.cell? ⟨gb718, 0, none⟩ = some (.int .i64 a0_0) := (blk_cell BK718.out 0).trans rfl
       have hcz23_1 : wc.cell? ⟨gb718, 1, none⟩ = some (.slice A0_1 l0_1.length c0_1) := (blk_cell BK718.out 1).trans rfl
       have hcz23_2 : wc.cell? ⟨gb718, 2, none⟩ = some (.slice A0_2 l0_2.length c0_2) := (blk_cell BK718.out 2).trans rfl
       have hfz23_0 := blk_frozen BK718.out 0
       have hfz23_1 := blk_frozen BK718.out 1
       have hfz23_2 := blk_frozen BK718.out 2
       go_wp2_with (first | ((with_reducible refine gate_callee (f := 80) rfl ?_); refine gl (some 23) Try.func80 #[.agg #[.int .i64 a0_0, .slice A0_1 l0_1.length c0_1, .slice A0_2 l0_2.length c0_2]] ?_; (with_reducible refine (graph_Graph_edges.calls kj1 a0_0 _ _ l0_1 _ _ l0_2 none _ ?side1 ?side2 ?side3 ?side4 A10.out).mono ?_); (case side1 => repeat (first | exact (Kd.C_below HR0_1.out HB.out) | (with_reducible refine Kd.C_alloc ?_ _) | (with_reducible refine Kd.C_drewN ?_ _) | (with_reducible refine Kd.C_drew ?_))); (case side2 => exact HC0_1.out); (case side3 => repeat (first | exact (Kd.C_below HR0_2.out HB.out) | (with_reducible refine Kd.C_alloc ?_ _) | (with_reducible refine Kd.C_drewN ?_ _) | (with_reducible refine Kd.C_drew ?_))); (case side4 => exact HC0_2.out); rintro e w24 ⟨rfl, hb⟩; refine ⟨_, rfl, ?_⟩; have n0_ := Aside0.mk (bkb BK718 hb); have n1_ := Aside0.mk (below_step (bn1 HB GE718) hb); clear BK718; clear HB; have BK718 := n0_; have HB := n1_; clear n0_ n1_; (try clear hb); (try simp only [errW_none, errW_some]); have hcz25_0 : w24.cell? ⟨gb718, 0, none⟩ = some (.int .i64 a0_0) := (blk_cell BK718.out 0).trans rfl; have hcz25_1 : w24.cell? ⟨gb718, 1, none⟩ = some (.slice A0_1 l0_1.length c0_1) := (blk_cell BK718.out 1).trans rfl; have hcz25_2 : w24.cell? ⟨gb718, 2, none⟩ = some (.slice A0_2 l0_2.length c0_2) := (blk_cell BK718.out 2).trans rfl; have hfz25_0 := blk_frozen BK718.out 0; have hfz25_1 := blk_frozen BK718.out 1; have hfz25_2 := blk_frozen BK718.out 2) | ((with_reducible refine gate_callee (f := 81) rfl ?_); refine gl (some 28) Try.func81 #[.agg #[.int .i64 a0_0, .slice A0_1 l0_1.length c0_1, .slice A0_2 l0_2.length c0_2]] ?_; (with_reducible refine (graph_Graph_inputs.calls kj1 a0_0 _ _ l0_1 _ _ l0_2 (some q722) _ ?side1 ?side2 ?side3 ?side4 A11.out).mono ?_); (case side1 => repeat (first | exact (Kd.C_below HR0_1.out HB.out) | (with_reducible refine Kd.C_alloc ?_ _) | (with_reducible refine Kd.C_drewN ?_ _) | (with_reducible refine Kd.C_drew ?_))); (case side2 => exact HC0_1.out); (case side3 => repeat (first | exact (Kd.C_below HR0_2.out HB.out) | (with_reducible refine Kd.C_alloc ?_ _) | (with_reducible refine Kd.C_drewN ?_ _) | (with_reducible refine Kd.C_drew ?_))); (case side4 => exact HC0_2.out); rintro e w26 ⟨rfl, hb⟩; refine ⟨_, rfl, ?_⟩; have n0_ := Aside0.mk (bkb BK718 hb); have n1_ := Aside0.mk (below_step (bn1 HB GE718) hb); clear BK718; clear HB; have BK718 := n0_; have HB := n1_; clear n0_ n1_; (try clear hb); (try simp only [errW_none, errW_some])))
       go_ret
       exact ⟨by first | rfl | (simp [errW_none, errW_some] <;> rfl) | (simp [*, errW_none, errW_some] <;> rfl), bn1 HB GE718⟩
     ·have H1 : (some (some q720)) = some r := by rw [if_neg (show ¬ (some q720).isNone = true by simp)] at H; exact H
      clear H
      have H := H1
      clear H1
      try simp only [errW_none, errW_some]
      obtain rfl := Option.some.inj H
      have hcz27_0 : wc.cell? ⟨gb718, 0, none⟩ = some (.int .i64 a0_0) := (blk_cell BK718.out 0).trans rfl
      have hcz27_1 : wc.cell? ⟨gb718, 1, none⟩ = some (.slice A0_1 l0_1.length c0_1) := (blk_cell BK718.out 1).trans rfl
      have hcz27_2 : wc.cell? ⟨gb718, 2, none⟩ = some (.slice A0_2 l0_2.length c0_2) := (blk_cell BK718.out 2).trans rfl
      have hfz27_0 := blk_frozen BK718.out 0
      have hfz27_1 := blk_frozen BK718.out 1
      have hfz27_2 := blk_frozen BK718.out 2
      go_wp2_with (first | ((with_reducible refine gate_callee (f := 80) rfl ?_); refine gl (some 23) Try.func80 #[.agg #[.int .i64 a0_0, .slice A0_1 l0_1.length c0_1, .slice A0_2 l0_2.length c0_2]] ?_; (with_reducible refine (graph_Graph_edges.calls kj1 a0_0 _ _ l0_1 _ _ l0_2 (some q720) _ ?side1 ?side2 ?side3 ?side4 A10.out).mono ?_); (case side1 => repeat (first | exact (Kd.C_below HR0_1.out HB.out) | (with_reducible refine Kd.C_alloc ?_ _) | (with_reducible refine Kd.C_drewN ?_ _) | (with_reducible refine Kd.C_drew ?_))); (case side2 => exact HC0_1.out); (case side3 => repeat (first | exact (Kd.C_below HR0_2.out HB.out) | (with_reducible refine Kd.C_alloc ?_ _) | (with_reducible refine Kd.C_drewN ?_ _) | (with_reducible refine Kd.C_drew ?_))); (case side4 => exact HC0_2.out); rintro e w28 ⟨rfl, hb⟩; refine ⟨_, rfl, ?_⟩; have n0_ := Aside0.mk (bkb BK718 hb); have n1_ := Aside0.mk (below_step (bn1 HB GE718) hb); clear BK718; clear HB; have BK718 := n0_; have HB := n1_; clear n0_ n1_; (try clear hb); (try simp only [errW_none, errW_some])))
      go_ret
      exact ⟨by first | rfl | (simp [errW_none, errW_some] <;> rfl) | (simp [*, errW_none, errW_some] <;> rfl), bn1 HB GE718⟩
end Go.Proofs.Ytgeldmhgbnamcaa.P
end
section
-- Printed by the session's own turn of the print (wip/tools/print2.sh): some callees are proved by hand.
namespace Go.Proofs.Ytgeldmhgbnamcaa.P
open Go.RowKit Go.Proofs.YtgeldmhgbnamcaaW.PrintWords Go.Proofs.YtgeldmhgbnamcaaW.PrintLast Go.Proofs.YtgeldmhgbnamcaaW.PrintMore
attribute [local go_sem] max2_int min2_int max_two min_two max_three min_three max_four min_four   -- for this text's walks alone
set_option linter.unusedVariables false
set_option linter.unusedSimpArgs false
/-! ### graph_Paths: function 39 -/
def graph_Paths.f (k : Nat) (a0_0 : Int) (l0_1 : List (S95)) (l0_2 : List Int) : Option ((List (List Int))) := (graph_Check.f k a0_0 l0_1 l0_2).bind fun t728 => (if t728.isNone = true then ((graph_Graph_ways.f k a0_0 l0_1 l0_2).bind fun t730 => (some t730)) else (some ([] : List (List Int))))
set_option maxHeartbeats 8000000 in
set_option maxRecDepth 100000 in
theorem graph_Paths.calls (k : Nat) (a0_0 : Int) (A0_1 : Option Addr) (c0_1 : Nat) (l0_1 : List (S95)) (A0_2 : Option Addr) (c0_2 : Nat) (l0_2 : List Int) (r : List (List Int)) (w : World) (hr0_1 : Kd.C k95 w A0_1 l0_1.length l0_1) (hc0_1 : l0_1.length ≤ c0_1) (hr0_2 : Kd.C (Kd.int .i64) w A0_2 l0_2.length l0_2) (hc0_2 : l0_2.length ≤ c0_2) (h : graph_Paths.f k a0_0 l0_1 l0_2 = some r) :
  Calls Try.prog 39 #[.agg #[.int .i64 a0_0, .slice A0_1 l0_1.length c0_1, .slice A0_2 l0_2.length c0_2]] w fun e w' => ∃ v0_ : Value, e = .returned (v0_) ∧ Kd.S (Kd.slice 38 (Kd.int .u64)) 67 w' w.heap.size (fun _ => True) v0_ r ∧ Below w.heap.size w w' := by
 have hu64 := Try.underlying64
 have hu92 := Try.underlying92
 have hu26 := Try.underlying26
 have HR0_1 := Aside0.mk hr0_1
 have HC0_1 := Aside0.mk hc0_1
 clear hr0_1 hc0_1
 have HR0_2 := Aside0.mk hr0_2
 have HC0_2 := Aside0.mk hc0_2
 clear hr0_2 hc0_2
 have HB := Aside0.mk (Below.refl w.heap.size w)
 have H : ((graph_Check.f k a0_0 l0_1 l0_2).bind fun t728 => (if t728.isNone = true then ((graph_Graph_ways.f k a0_0 l0_1 l0_2).bind fun t730 => (some t730)) else (some ([] : List (List Int))))) = some r := h
 clear h
 replace H := Option.bind_eq_some_iff.mp H
 obtain ⟨t728, A20, H⟩ := H
 replace H : (if t728.isNone = true then ((graph_Graph_ways.f k a0_0 l0_1 l0_2).bind fun t730 => (some t730)) else (some ([] : List (List Int)))) = some r := H
 have A2 := Aside0.mk A20
 clear A20
 rcases t728 with _ | q729
 ·have H1 : ((graph_Graph_ways.f k a0_0 l0_1 l0_2).bind fun t730 => (some t730)) = some r := by rw [if_pos (show (none : Option Int).isNone = true by rfl)] at H; exact H
  clear H
  have H := H1
  clear H1
  try simp only [errW_none, errW_some]
  replace H := Option.bind_eq_some_iff.mp H
  obtain ⟨t730, A30, H⟩ := H
  replace H : (some t730) = some r := H
  have A3 := Aside0.mk A30
  clear A30
  obtain rfl := Option.some.inj H
  go_enter Try.func39, Try.ntmps39
  go_wp2_with (first | ((with_reducible refine gate_dst (N := 1) rfl ?_); refine box_event ?hg (N := 1) ?hd (cs := #[.int .i64 a0_0, .slice A0_1 l0_1.length c0_1, .slice A0_2 l0_2.length c0_2]) (t := 64) ?hr ?_; (case hd => rfl); (case hg => rfl); (case hr => first | (go_simp; done) | (go_simp; rfl)); intro gb727 hg w4 hbox hb; have n1_ := Aside0.mk (hbox); have n2_ := Aside0.mk ((by rw [hg]; exact (below_size (bn HB)) : w.heap.size ≤ gb727)); have n3_ := Aside0.mk ((by rw [hg]; exact (below_size (bn HB)) : w.heap.size ≤ gb727)); replace HB := bb HB hb; have BK727 := n1_; have GW727 := n2_; have GE727 := n3_; clear n1_ n2_ n3_; clear hb hbox hg; have hcz5_0 : w4.cell? ⟨gb727, 0, none⟩ = some (.int .i64 a0_0) := (blk_cell BK727.out 0).trans rfl; have hcz5_1 : w4.cell? ⟨gb727, 1, none⟩ = some (.slice A0_1 l0_1.length c0_1) := (blk_cell BK727.out 1).trans rfl; have hcz5_2 : w4.cell? ⟨gb727, 2, none⟩ = some (.slice A0_2 l0_2.length c0_2) := (blk_cell BK727.out 2).trans rfl; have hfz5_0 := blk_frozen BK727.out 0; have hfz5_1 := blk_frozen BK727.out 1; have hfz5_2 := blk_frozen BK727.out 2) | ((with_reducible refine gate_callee (f := 63) rfl ?_); refine gl (some 4) Try.func63 #[.agg #[.int .i64 a0_0, .slice A0_1 l0_1.length c0_1, .slice A0_2 l0_2.length c0_2]] ?_; (with_reducible refine (graph_Check.calls k a0_0 _ _ l0_1 _ _ l0_2 none _ ?side1 ?side2 ?side3 ?side4 A2.out).mono ?_); (case side1 => repeat (first | exact (Kd.C_below HR0_1.out HB.out) | (with_reducible refine Kd.C_alloc ?_ _) | (with_reducible refine Kd.C_drewN ?_ _) | (with_reducible refine Kd.C_drew ?_))); (case side2 => exact HC0_1.out); (case side3 => repeat (first | exact (Kd.C_below HR0_2.out HB.out) | (with_reducible refine Kd.C_alloc ?_ _) | (with_reducible refine Kd.C_drewN ?_ _) | (with_reducible refine Kd.C_drew ?_))); (case side4 => exact HC0_2.out); rintro e w6 ⟨rfl, hb⟩; refine ⟨_, rfl, ?_⟩; have n0_ := Aside0.mk (bkb BK727 hb); have n1_ := Aside0.mk (below_step (bn1 HB GE727) hb); clear BK727; clear HB; have BK727 := n0_; have HB := n1_; clear n0_ n1_; (try clear hb); (try simp only [errW_none, errW_some]); have hcz7_0 : w6.cell? ⟨gb727, 0, none⟩ = some (.int .i64 a0_0) := (blk_cell BK727.out 0).trans rfl; have hcz7_1 : w6.cell? ⟨gb727, 1, none⟩ = some (.slice A0_1 l0_1.length c0_1) := (blk_cell BK727.out 1).trans rfl; have hcz7_2 : w6.cell? ⟨gb727, 2, none⟩ = some (.slice A0_2 l0_2.length c0_2) := (blk_cell BK727.out 2).trans rfl; have hfz7_0 := blk_frozen BK727.out 0; have hfz7_1 := blk_frozen BK727.out 1; have hfz7_2 := blk_frozen BK727.out 2) | ((with_reducible refine gate_callee (f := 64) rfl ?_); refine gl (some 7) Try.func64 #[.agg #[.int .i64 a0_0, .slice A0_1 l0_1.length c0_1, .slice A0_2 l0_2.length c0_2]] ?_; (with_reducible refine (graph_Graph_ways.calls k a0_0 _ _ l0_1 _ _ l0_2 t730 _ ?side1 ?side2 ?side3 ?side4 A3.out).mono ?_); (case side1 => repeat (first | exact (Kd.C_below HR0_1.out HB.out) | (with_reducible refine Kd.C_alloc ?_ _) | (with_reducible refine Kd.C_drewN ?_ _) | (with_reducible refine Kd.C_drew ?_))); (case side2 => exact HC0_1.out); (case side3 => repeat (first | exact (Kd.C_below HR0_2.out HB.out) | (with_reducible refine Kd.C_alloc ?_ _) | (with_reducible refine Kd.C_drewN ?_ _) | (with_reducible refine Kd.C_drew ?_))); (case side4 => exact HC0_2.out); rintro e w8 ⟨v731, rfl, ho0, hb⟩; refine ⟨_, rfl, ?_⟩; have n0_ := Aside0.mk (Kd.S_lower ho0 (below_size (bn1 HB GE727))); have n1_ := Aside0.mk (bkb BK727 hb); have n2_ := Aside0.mk (below_step (bn1 HB GE727) hb); clear BK727; clear HB; have HO732 := n0_; have BK727 := n1_; have HB := n2_; clear n0_ n1_ n2_; (try clear hb); (try clear ho0)))
  go_ret
  exact ⟨_, by first | rfl | (simp [errW_none, errW_some] <;> rfl) | (simp [*, errW_none, errW_some] <;> rfl), sn HO732, bn1 HB GE727⟩
 ·have H1 : (some ([] : List (List Int))) = some r := by rw [if_neg (show ¬ (some q729).isNone = true by simp)] at H; exact H
  clear H
  have H := H1
  clear H1
  try simp only [errW_none, errW_some]
  obtain rfl := Option.some.inj H
  go_enter Try.func39, Try.ntmps39
  go_wp2_with (first | ((with_reducible refine gate_dst (N := 1) rfl ?_); refine box_event ?hg (N := 1) ?hd (cs := #[.int .i64 a0_0, .slice A0_1 l0_1.length c0_1, .slice A0_2 l0_2.length c0_2]) (t := 64) ?hr ?_; (case hd => rfl); (case hg => rfl); (case hr => first | (go_simp; done) | (go_simp; rfl)); intro gb727 hg w9 hbox hb; have n1_ := Aside0.mk (hbox); have n2_ := Aside0.mk ((by rw [hg]; exact (below_size (bn HB)) : w.heap.size ≤ gb727)); have n3_ := Aside0.mk ((by rw [hg]; exact (below_size (bn HB)) : w.heap.size ≤ gb727)); replace HB := bb HB hb; have BK727 := n1_; have GW727 := n2_; have GE727 := n3_; clear n1_ n2_ n3_; clear hb hbox hg; have hcz10_0 : w9.cell? ⟨gb727, 0, none⟩ = some (.int .i64 a0_0) := (blk_cell BK727.out 0).trans rfl; have hcz10_1 : w9.cell? ⟨gb727, 1, none⟩ = some (.slice A0_1 l0_1.length c0_1) := (blk_cell BK727.out 1).trans rfl; have hcz10_2 : w9.cell? ⟨gb727, 2, none⟩ = some (.slice A0_2 l0_2.length c0_2) := (blk_cell BK727.out 2).trans rfl; have hfz10_0 := blk_frozen BK727.out 0; have hfz10_1 := blk_frozen BK727.out 1; have hfz10_2 := blk_frozen BK727.out 2) | ((with_reducible refine gate_callee (f := 63) rfl ?_); refine gl (some 4) Try.func63 #[.agg #[.int .i64 a0_0, .slice A0_1 l0_1.length c0_1, .slice A0_2 l0_2.length c0_2]] ?_; (with_reducible refine (graph_Check.calls k a0_0 _ _ l0_1 _ _ l0_2 (some q729) _ ?side1 ?side2 ?side3 ?side4 A2.out).mono ?_); (case side1 => repeat (first | exact (Kd.C_below HR0_1.out HB.out) | (with_reducible refine Kd.C_alloc ?_ _) | (with_reducible refine Kd.C_drewN ?_ _) | (with_reducible refine Kd.C_drew ?_))); (case side2 => exact HC0_1.out); (case side3 => repeat (first | exact (Kd.C_below HR0_2.out HB.out) | (with_reducible refine Kd.C_alloc ?_ _) | (with_reducible refine Kd.C_drewN ?_ _) | (with_reducible refine Kd.C_drew ?_))); (case side4 => exact HC0_2.out); rintro e w11 ⟨rfl, hb⟩; refine ⟨_, rfl, ?_⟩; have n0_ := Aside0.mk (bkb BK727 hb); have n1_ := Aside0.mk (below_step (bn1 HB GE727) hb); clear BK727; clear HB; have BK727 := n0_; have HB := n1_; clear n0_ n1_; (try clear hb); (try simp only [errW_none, errW_some])))
  go_ret
  exact ⟨_, by first | rfl | (simp [errW_none, errW_some] <;> rfl) | (simp [*, errW_none, errW_some] <;> rfl), by first | exact Kd.S_nil _ _ _ _ _ | exact Kd.N_nil _ _ _ _ _ | exact Kd.V_nil _ _ _ _ _ | exact Kd.Q_nil _ _ _ _ _ | exact Kd.R_nil _ _ _ _ _, bn1 HB GE727⟩
end Go.Proofs.Ytgeldmhgbnamcaa.P
end
