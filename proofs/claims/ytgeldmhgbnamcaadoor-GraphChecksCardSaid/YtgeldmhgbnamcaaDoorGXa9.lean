/- Walks and laws of several statements of this seat, joined into one text; no condition. -/
import Derived.Test.YtgeldmhgbnamcaaDoorProg
import Derived.Below
import Derived.Deep.Draws
import Derived.Deep.AppendLies
import Derived.Maps.AppendAt
import Derived.OwnWalk
import Derived.Laws.BytesArg
import Derived.Laws.MakeOwn
import Derived.Laws.OwnMore
import Derived.Deep.OwnRows
import Derived.Tactics
import Derived.Lib.ConvBytes
import Derived.Laws.Slices
import Derived.WalkKit
import Derived.KernelRfl
import Derived.RowKit3
import Derived.Deep.LoopGhost
import Derived.Deep.QuietTactic
import Derived.BigQuiet
import Derived.WideLaws
import Derived.Deep.DeepCutAuto
import Derived.Deep.CutBlock
import Derived.Deep.RegionHeld3
import Derived.Laws.Rows
import Derived.Lib.AppendStr
import Derived.ArgAppend
import Derived.Laws.IdiomCopy
import Derived.OrdersHeld
import Derived.Laws.BitsLemmas
import Derived.RowKit
import Derived.Laws.StructEq
import Derived.Laws.CopyOwn
import Derived.Deep.RegionLaw
import Derived.LoopTactic
import Derived.Outline
import Derived.IntWalk
import Derived.LaidEql
import Derived.Stop.Asserts
import Derived.RowKitTokens
import Derived.Elder7
import Derived.Test.YtgeldmhgbnamcaaDoorGXa0
import Derived.Test.YtgeldmhgbnamcaaDoorGXa1
import Derived.Test.YtgeldmhgbnamcaaDoorGXa2
import Derived.Test.YtgeldmhgbnamcaaDoorGXa3
import Derived.Test.YtgeldmhgbnamcaaDoorGXa4
import Derived.Test.YtgeldmhgbnamcaaDoorGXa5
import Derived.Test.YtgeldmhgbnamcaaDoorGXa6
import Derived.Test.YtgeldmhgbnamcaaDoorGXa7
import Derived.Test.YtgeldmhgbnamcaaDoorGXa8
section
namespace Go.Proofs.YtgeldmhgbnamcaaDoor.Q
open Go.RowKit Go.Proofs.YtgeldmhgbnamcaaDoorW.PrintWords Go.Proofs.YtgeldmhgbnamcaaDoorW.PrintLast Go.Proofs.YtgeldmhgbnamcaaDoorW.PrintMore
attribute [local go_sem] max2_int min2_int max_two min_two max_three min_three max_four min_four
set_option linter.unusedVariables false
set_option linter.unusedSimpArgs false
def graph_Graph_cycle.l0 : Nat → List (List Int) → Int → List (S127) → Int → Int → Option (Int)
  | 0, _, _, _, _, _ => none
  | k + 1, x1, x5, x9, x10, x11 => if x11 < x10 then (if 0 ≤ x11 then (if x11 < (x9.length : Int) then (if ((rd_T127 x9 x11).f2) = 0 then (if 0 ≤ ((rd_T127 x9 x11).f1) then (if ((rd_T127 x9 x11).f1) < (x1.length : Int) then (if 0 ≤ ((rd_T127 x9 x11).f0) then (if ((rd_T127 x9 x11).f0) < ((rd_L8 x1 ((rd_T127 x9 x11).f1)).length : Int) then (if (rd (rd_L8 x1 ((rd_T127 x9 x11).f1)) ((rd_T127 x9 x11).f0)) = 0 then (if x5 < 0 then (graph_Graph_cycle.l0 k x1 ((rd_T127 x9 x11).f0) x9 x10 (wrap64 (x11 + 1))) else (if ((rd_T127 x9 x11).f0) < x5 then (graph_Graph_cycle.l0 k x1 ((rd_T127 x9 x11).f0) x9 x10 (wrap64 (x11 + 1))) else (graph_Graph_cycle.l0 k x1 x5 x9 x10 (wrap64 (x11 + 1))))) else (graph_Graph_cycle.l0 k x1 x5 x9 x10 (wrap64 (x11 + 1)))) else (none)) else (none)) else (none)) else (none)) else (graph_Graph_cycle.l0 k x1 x5 x9 x10 (wrap64 (x11 + 1)))) else (none)) else (none)) else (some x5)
def graph_Graph_cycle.f (k : Nat) (a0_0 : Int) (l0_1 : List (S127)) (l0_2 : List Int) (l1 : List (List Int)) : Option (Int) := graph_Graph_cycle.l0 k l1 (-1) l0_1 (l0_1.length : Int) 0
set_option maxHeartbeats 8000000 in
set_option maxRecDepth 100000 in
theorem graph_Graph_cycle.calls (k : Nat) (a0_0 : Int) (A0_1 : Option Addr) (c0_1 : Nat) (l0_1 : List (S127)) (A0_2 : Option Addr) (c0_2 : Nat) (l0_2 : List Int) (A1 : Option Addr) (c1 : Nat) (l1 : List (List Int)) (r : Int) (w : World) (hr0_1 : Kd.C k127 w A0_1 l0_1.length l0_1) (hc0_1 : l0_1.length ≤ c0_1) (hr0_2 : Kd.C (Kd.int .i64) w A0_2 l0_2.length l0_2) (hc0_2 : l0_2.length ≤ c0_2) (hr1 : Kd.C (Kd.slice 22 (Kd.int .u64)) w A1 l1.length l1) (hc1 : l1.length ≤ c1) (h : graph_Graph_cycle.f k a0_0 l0_1 l0_2 l1 = some r) :
    Calls Tryd.prog 69 #[.agg #[.int .i64 a0_0, .slice A0_1 l0_1.length c0_1, .slice A0_2 l0_2.length c0_2], .slice A1 l1.length c1] w fun e w' => e = .returned (.int .i64 r) ∧ Below w.heap.size w w' := by
  have hu64 := Tryd.underlying64
  have hu127 := Tryd.underlying127
  have HR0_1 := Aside0.mk hr0_1
  have HC0_1 := Aside0.mk hc0_1
  clear hr0_1 hc0_1
  have HR0_2 := Aside0.mk hr0_2
  have HC0_2 := Aside0.mk hc0_2
  clear hr0_2 hc0_2
  have HR1 := Aside0.mk hr1
  have HC1 := Aside0.mk hc1
  clear hr1 hc1
  have HB := Aside0.mk (Below.refl w.heap.size w)
  have H : (graph_Graph_cycle.l0 k l1 (-1) l0_1 (l0_1.length : Int) 0) = some r := h
  clear h
  have H' := Aside0.mk H
  clear H
  go_enter Tryd.func69, Tryd.ntmps69
  go_wp2_with (first | ((with_reducible refine gate_dst (N := 2) rfl ?_); refine box_event ?hg (N := 2) ?hd (cs := #[.int .i64 a0_0, .slice A0_1 l0_1.length c0_1, .slice A0_2 l0_2.length c0_2]) (t := 64) ?hr ?_; (case hd => rfl); (case hg => rfl); (case hr => first | (go_simp; done) | (go_simp; rfl)); intro gb192 hg w3 hbox hb; have n0_ := Aside0.mk (below_step (by repeat (first | (with_reducible first | exact HB.out | apply below_alloc | apply pw_below_drewN | apply below_drew1) | exact HB.out)) hb); have n1_ := Aside0.mk (hbox); have n2_ := Aside0.mk ((by rw [hg]; exact (below_size (by repeat (first | (with_reducible first | exact HB.out | apply below_alloc | apply pw_below_drewN | apply below_drew1) | exact HB.out))) : w.heap.size ≤ gb192)); have n3_ := Aside0.mk ((by rw [hg]; exact (below_size (by repeat (first | (with_reducible first | exact HB.out | apply below_alloc | apply pw_below_drewN | apply below_drew1) | exact HB.out))) : w.heap.size ≤ gb192)); clear HB; have HB := n0_; have BK192 := n1_; have GW192 := n2_; have GE192 := n3_; clear n0_ n1_ n2_ n3_; clear hb hbox hg; have hcz4_0 : w3.cell? ⟨gb192, 0, none⟩ = some (.int .i64 a0_0) := (blk_cell BK192.out 0).trans rfl; have hcz4_1 : w3.cell? ⟨gb192, 1, none⟩ = some (.slice A0_1 l0_1.length c0_1) := (blk_cell BK192.out 1).trans rfl; have hcz4_2 : w3.cell? ⟨gb192, 2, none⟩ = some (.slice A0_2 l0_2.length c0_2) := (blk_cell BK192.out 2).trans rfl; have hfz4_0 := blk_frozen BK192.out 0; have hfz4_1 := blk_frozen BK192.out 1; have hfz4_2 := blk_frozen BK192.out 2))
  repeat (go_quiet (first | ((with_reducible refine gate_dst (N := 2) rfl ?_); refine box_event ?hg (N := 2) ?hd (cs := #[.int .i64 a0_0, .slice A0_1 l0_1.length c0_1, .slice A0_2 l0_2.length c0_2]) (t := 64) ?hr ?_; (case hd => rfl); (case hg => rfl); (case hr => first | (go_simp; done) | (go_simp; rfl)); intro gb192 hg w3 hbox hb; have n0_ := Aside0.mk (below_step (by repeat (first | (with_reducible first | exact HB.out | apply below_alloc | apply pw_below_drewN | apply below_drew1) | exact HB.out)) hb); have n1_ := Aside0.mk (hbox); have n2_ := Aside0.mk ((by rw [hg]; exact (below_size (by repeat (first | (with_reducible first | exact HB.out | apply below_alloc | apply pw_below_drewN | apply below_drew1) | exact HB.out))) : w.heap.size ≤ gb192)); have n3_ := Aside0.mk ((by rw [hg]; exact (below_size (by repeat (first | (with_reducible first | exact HB.out | apply below_alloc | apply pw_below_drewN | apply below_drew1) | exact HB.out))) : w.heap.size ≤ gb192)); clear HB; have HB := n0_; have BK192 := n1_; have GW192 := n2_; have GE192 := n3_; clear n0_ n1_ n2_ n3_; clear hb hbox hg; have hcz4_0 : w3.cell? ⟨gb192, 0, none⟩ = some (.int .i64 a0_0) := (blk_cell BK192.out 0).trans rfl; have hcz4_1 : w3.cell? ⟨gb192, 1, none⟩ = some (.slice A0_1 l0_1.length c0_1) := (blk_cell BK192.out 1).trans rfl; have hcz4_2 : w3.cell? ⟨gb192, 2, none⟩ = some (.slice A0_2 l0_2.length c0_2) := (blk_cell BK192.out 2).trans rfl; have hfz4_0 := blk_frozen BK192.out 0; have hfz4_1 := blk_frozen BK192.out 1; have hfz4_2 := blk_frozen BK192.out 2)); try go_wp2_with (first | ((with_reducible refine gate_dst (N := 2) rfl ?_); refine box_event ?hg (N := 2) ?hd (cs := #[.int .i64 a0_0, .slice A0_1 l0_1.length c0_1, .slice A0_2 l0_2.length c0_2]) (t := 64) ?hr ?_; (case hd => rfl); (case hg => rfl); (case hr => first | (go_simp; done) | (go_simp; rfl)); intro gb192 hg w3 hbox hb; have n0_ := Aside0.mk (below_step (by repeat (first | (with_reducible first | exact HB.out | apply below_alloc | apply pw_below_drewN | apply below_drew1) | exact HB.out)) hb); have n1_ := Aside0.mk (hbox); have n2_ := Aside0.mk ((by rw [hg]; exact (below_size (by repeat (first | (with_reducible first | exact HB.out | apply below_alloc | apply pw_below_drewN | apply below_drew1) | exact HB.out))) : w.heap.size ≤ gb192)); have n3_ := Aside0.mk ((by rw [hg]; exact (below_size (by repeat (first | (with_reducible first | exact HB.out | apply below_alloc | apply pw_below_drewN | apply below_drew1) | exact HB.out))) : w.heap.size ≤ gb192)); clear HB; have HB := n0_; have BK192 := n1_; have GW192 := n2_; have GE192 := n3_; clear n0_ n1_ n2_ n3_; clear hb hbox hg; have hcz4_0 : w3.cell? ⟨gb192, 0, none⟩ = some (.int .i64 a0_0) := (blk_cell BK192.out 0).trans rfl; have hcz4_1 : w3.cell? ⟨gb192, 1, none⟩ = some (.slice A0_1 l0_1.length c0_1) := (blk_cell BK192.out 1).trans rfl; have hcz4_2 : w3.cell? ⟨gb192, 2, none⟩ = some (.slice A0_2 l0_2.length c0_2) := (blk_cell BK192.out 2).trans rfl; have hfz4_0 := blk_frozen BK192.out 0; have hfz4_1 := blk_frozen BK192.out 1; have hfz4_2 := blk_frozen BK192.out 2)))
  go_loopg [5, 11] k (fun kq v5 v11 w' => ∃ (x5_1 : Int) (x11_1 : Int), v5 = .int .i64 x5_1 ∧ v11 = .int .i64 x11_1 ∧ Aside0 (graph_Graph_cycle.l0 kq l1 x5_1 l0_1 (l0_1.length : Int) x11_1 = some r) ∧ Aside0 (kq ≤ k) ∧ Aside0 (w'.heap[gb192]? = some (.cells #[.int .i64 a0_0, (.slice A0_1 l0_1.length c0_1), (.slice A0_2 l0_2.length c0_2)] 64 (0, 0))) ∧ Aside0 (Below w.heap.size w w'))
  case atStart => exact ⟨((-1)), (0), (by first | rfl | (simp; done) | (simp [*]; done)), (by first | rfl | (simp; done) | (simp [*]; done)), H', ⟨Nat.le_refl _⟩, ⟨by (with_reducible repeat (first | refine blk_drewN ?_ _ | refine blk_drew ?_ | refine blk_alloc ?_ _)); exact BK192.out⟩, ⟨by repeat (first | (with_reducible first | exact HB.out | apply below_alloc | apply pw_below_drewN | apply below_drew1 | refine below_set ?_ GE192.out) | exact HB.out)⟩⟩
  case round =>
    clear H'
    try clear c1
    try clear p2
    try clear hcz4_0
    try clear hcz4_1
    try clear hcz4_2
    try clear hfz4_0
    try clear hfz4_1
    try clear hfz4_2
    obtain ⟨x5_1, x11_1, rfl, rfl, HA, HK1, BK192, HB⟩ := hrel
    cases gk with
    | zero => exact absurd HA.out (by simp [graph_Graph_cycle.l0])
    | succ k1 =>
      have H := HA.out
      clear HA
      simp only [graph_Graph_cycle.l0] at H
      by_cases c5 : x11_1 < (l0_1.length : Int)
      · rw [if_pos c5] at H
        have c5b0 : decide (x11_1 < (l0_1.length : Int)) = true := decide_eq_true c5
        clear c5
        by_cases c6 : 0 ≤ x11_1
        · rw [if_pos c6] at H
          have c6b0 : decide (0 ≤ x11_1) = true := decide_eq_true c6
          clear c6
          by_cases c7 : x11_1 < (l0_1.length : Int)
          · rw [if_pos c7] at H
            have c7b0 : decide (x11_1 < (l0_1.length : Int)) = true := decide_eq_true c7
            clear c7
            by_cases c8 : ((rd_T127 l0_1 x11_1).f2) = 0
            · rw [if_pos c8] at H
              have c8b0 : (((rd_T127 l0_1 x11_1).f2) == 0) = true := beq_iff_eq.mpr c8
              have c8b1 : (((rd_T127 l0_1 x11_1).f2) != 0) = false := bne_eq_false_iff_eq.mpr c8
              clear c8
              by_cases c9 : 0 ≤ ((rd_T127 l0_1 x11_1).f1)
              · rw [if_pos c9] at H
                have c9b0 : decide (0 ≤ ((rd_T127 l0_1 x11_1).f1)) = true := decide_eq_true c9
                clear c9
                by_cases c10 : ((rd_T127 l0_1 x11_1).f1) < (l1.length : Int)
                · rw [if_pos c10] at H
                  have c10b0 : decide (((rd_T127 l0_1 x11_1).f1) < (l1.length : Int)) = true := decide_eq_true c10
                  clear c10
                  by_cases c11 : 0 ≤ ((rd_T127 l0_1 x11_1).f0)
                  · rw [if_pos c11] at H
                    have c11b0 : decide (0 ≤ ((rd_T127 l0_1 x11_1).f0)) = true := decide_eq_true c11
                    clear c11
                    by_cases c12 : ((rd_T127 l0_1 x11_1).f0) < ((rd_L8 l1 ((rd_T127 l0_1 x11_1).f1)).length : Int)
                    · rw [if_pos c12] at H
                      have c12b0 : decide (((rd_T127 l0_1 x11_1).f0) < ((rd_L8 l1 ((rd_T127 l0_1 x11_1).f1)).length : Int)) = true := decide_eq_true c12
                      clear c12
                      by_cases c13 : (rd (rd_L8 l1 ((rd_T127 l0_1 x11_1).f1)) ((rd_T127 l0_1 x11_1).f0)) = 0
                      · rw [if_pos c13] at H
                        have c13b0 : ((rd (rd_L8 l1 ((rd_T127 l0_1 x11_1).f1)) ((rd_T127 l0_1 x11_1).f0)) == 0) = true := beq_iff_eq.mpr c13
                        have c13b1 : ((rd (rd_L8 l1 ((rd_T127 l0_1 x11_1).f1)) ((rd_T127 l0_1 x11_1).f0)) != 0) = false := bne_eq_false_iff_eq.mpr c13
                        clear c13
                        by_cases c14 : x5_1 < 0
                        · rw [if_pos c14] at H
                          have c14b0 : decide (x5_1 < 0) = true := decide_eq_true c14
                          clear c14
                          have H' := Aside0.mk H
                          clear H
                          have p193 : 0 ≤ (x11_1 : Int) := of_decide_eq_true (by first | (with_reducible assumption) | assumption)
                          have q193 : x11_1 < (l0_1.length : Int) := of_decide_eq_true (by first | (with_reducible assumption) | assumption)
                          obtain ⟨ad193, e193, hx193_0, hx193_1, hx193_2⟩ := at_T127 HR0_1.out x11_1 p193 q193
                          cases e193
                          replace hx193_0 := (HB.out.cell (World.block_lt_of_cell? w _ hx193_0)).trans hx193_0
                          replace hx193_1 := (HB.out.cell (World.block_lt_of_cell? w _ hx193_1)).trans hx193_1
                          replace hx193_2 := (HB.out.cell (World.block_lt_of_cell? w _ hx193_2)).trans hx193_2
                          replace p193 := eq_true p193
                          replace q193 := eq_true q193
                          go_wp2_with (first | ((with_reducible refine gate_dst (N := 7) rfl ?_); refine box_event ?hg (N := 7) ?hd (cs := #[.int .i64 0, .int .i64 0, .int .u64 0]) (t := 127) ?hr ?_; (case hd => rfl); (case hg => rfl); (case hr => first | (go_simp; done) | (go_simp; rfl)); intro gb194 hg w15 hbox hb; have n0_ := Aside0.mk (blk_below (g := gb192) (o := .cells #[.int .i64 a0_0, .slice (some ad193) l0_1.length c0_1, .slice A0_2 l0_2.length c0_2] 64 (0, 0)) (by (with_reducible repeat (first | refine blk_drewN ?_ _ | refine blk_drew ?_ | refine blk_alloc ?_ _)); exact BK192.out) hb); have n1_ := Aside0.mk (below_step (by repeat (first | (with_reducible first | exact HB.out | apply below_alloc | apply pw_below_drewN | apply below_drew1 | refine below_set ?_ GE192.out) | exact HB.out)) hb); have n2_ := Aside0.mk (hbox); have n3_ := Aside0.mk ((by rw [hg]; exact (below_size (by repeat (first | (with_reducible first | exact HB.out | apply below_alloc | apply pw_below_drewN | apply below_drew1 | refine below_set ?_ GE192.out) | exact HB.out))) : w.heap.size ≤ gb194)); have n4_ := Aside0.mk ((by rw [hg]; exact (below_size (by repeat (first | (with_reducible first | exact HB.out | apply below_alloc | apply pw_below_drewN | apply below_drew1 | refine below_set ?_ GE192.out) | exact HB.out))) : w.heap.size ≤ gb194)); have n5_ := Aside0.mk ((by rw [hg]; exact Nat.ne_of_lt (blk_lt (g := gb192) (o := .cells #[.int .i64 a0_0, .slice (some ad193) l0_1.length c0_1, .slice A0_2 l0_2.length c0_2] 64 (0, 0)) (by (with_reducible repeat (first | refine blk_drewN ?_ _ | refine blk_drew ?_ | refine blk_alloc ?_ _)); exact BK192.out)) : gb192 ≠ gb194)); have n6_ := Aside0.mk ((by rw [hg]; exact Nat.ne_of_gt (blk_lt (g := gb192) (o := .cells #[.int .i64 a0_0, .slice (some ad193) l0_1.length c0_1, .slice A0_2 l0_2.length c0_2] 64 (0, 0)) (by (with_reducible repeat (first | refine blk_drewN ?_ _ | refine blk_drew ?_ | refine blk_alloc ?_ _)); exact BK192.out)) : gb194 ≠ gb192)); clear BK192; clear HB; have BK192 := n0_; have HB := n1_; have BK194 := n2_; have GW194 := n3_; have GE194 := n4_; have NB192_194 := n5_; have NB194_192 := n6_; clear n0_ n1_ n2_ n3_ n4_ n5_ n6_; clear hb hbox hg; have hnb16 := NB194_192.out; have hnc16 := NB192_194.out; have hcz17_0 : w15.cell? ⟨gb194, 0, none⟩ = some (.int .i64 0) := (blk_cell BK194.out 0).trans rfl; have hcz17_1 : w15.cell? ⟨gb194, 1, none⟩ = some (.int .i64 0) := (blk_cell BK194.out 1).trans rfl; have hcz17_2 : w15.cell? ⟨gb194, 2, none⟩ = some (.int .u64 0) := (blk_cell BK194.out 2).trans rfl; have hfz17_0 := blk_frozen BK194.out 0; have hfz17_1 := blk_frozen BK194.out 1; have hfz17_2 := blk_frozen BK194.out 2; have p195 : 0 ≤ (((rd_T127 l0_1 x11_1).f1) : Int) := of_decide_eq_true (by first | (with_reducible assumption) | assumption); have q195 : ((rd_T127 l0_1 x11_1).f1) < (l1.length : Int) := of_decide_eq_true (by first | (with_reducible assumption) | assumption); obtain ⟨ad195, A195_0, c195_0, e195, hx195_0, hl195_0, hi195_0⟩ := at_L8 HR1.out ((rd_T127 l0_1 x11_1).f1) p195 q195; cases e195; have hn195_0 : ad195.block ≠ gb194 := Nat.ne_of_lt (Nat.lt_of_lt_of_le (by have := World.block_lt_of_cell? _ _ hx195_0; first | rwa [add_block] at this | exact this) GW194.out); have hn195_1 : ad195.block ≠ gb194 := Nat.ne_of_lt (Nat.lt_of_lt_of_le (by have := World.block_lt_of_cell? _ _ hx195_0; first | rwa [add_block] at this | exact this) GW194.out); have hn195_2 : ad195.block ≠ gb194 := Nat.ne_of_lt (Nat.lt_of_lt_of_le (by have := World.block_lt_of_cell? _ _ hx195_0; first | rwa [add_block] at this | exact this) GW194.out); replace hx195_0 := (HB.out.cell (World.block_lt_of_cell? w _ hx195_0)).trans hx195_0; have HR195_0 := Aside0.mk hi195_0; have HC195_0 := Aside0.mk hl195_0; clear hi195_0 hl195_0; replace hx195_0 := (cell_far (p := ⟨gb194, 0, none⟩) (by first | (rw [add_block]; exact hn195_0) | (show (Addr.add _ _).block ≠ _; rw [add_block]; exact hn195_0) | exact hn195_0) (.int .i64 ((rd_T127 l0_1 x11_1).f0))).trans hx195_0; replace hx195_0 := (cell_far (p := ⟨gb194, 1, none⟩) (by first | (rw [add_block]; exact hn195_1) | (show (Addr.add _ _).block ≠ _; rw [add_block]; exact hn195_1) | exact hn195_1) (.int .i64 ((rd_T127 l0_1 x11_1).f1))).trans hx195_0; replace hx195_0 := (cell_far (p := ⟨gb194, 2, none⟩) (by first | (rw [add_block]; exact hn195_2) | (show (Addr.add _ _).block ≠ _; rw [add_block]; exact hn195_2) | exact hn195_2) (.int .u64 ((rd_T127 l0_1 x11_1).f2))).trans hx195_0; (try have hy195_0 := fun (n_ : Nat) => (show (((((w15.drewN n_).setCell ⟨gb194, 0, none⟩ (.int .i64 ((rd_T127 l0_1 x11_1).f0))).setCell ⟨gb194, 1, none⟩ (.int .i64 ((rd_T127 l0_1 x11_1).f1))).setCell ⟨gb194, 2, none⟩ (.int .u64 ((rd_T127 l0_1 x11_1).f2)))).cell? _ = some _ from hx195_0)); clear hn195_0; clear hn195_1; clear hn195_2; replace p195 := eq_true p195; replace q195 := eq_true q195; have p196 : 0 ≤ (((rd_T127 l0_1 x11_1).f0) : Int) := of_decide_eq_true (by first | (with_reducible assumption) | assumption); have q196 : ((rd_T127 l0_1 x11_1).f0) < ((rd_L8 l1 ((rd_T127 l0_1 x11_1).f1)).length : Int) := of_decide_eq_true (by first | (with_reducible assumption) | assumption); obtain ⟨ad196, e196, hx196_0⟩ := Kd.at_int HR195_0.out ((rd_T127 l0_1 x11_1).f0) p196 q196; cases e196; have hn196_0 : ad196.block ≠ gb194 := Nat.ne_of_lt (Nat.lt_of_lt_of_le (by have := World.block_lt_of_cell? _ _ hx196_0; first | rwa [add_block] at this | exact this) GW194.out); have hn196_1 : ad196.block ≠ gb194 := Nat.ne_of_lt (Nat.lt_of_lt_of_le (by have := World.block_lt_of_cell? _ _ hx196_0; first | rwa [add_block] at this | exact this) GW194.out); have hn196_2 : ad196.block ≠ gb194 := Nat.ne_of_lt (Nat.lt_of_lt_of_le (by have := World.block_lt_of_cell? _ _ hx196_0; first | rwa [add_block] at this | exact this) GW194.out); replace hx196_0 := (HB.out.cell (World.block_lt_of_cell? w _ hx196_0)).trans hx196_0; replace hx196_0 := (cell_far (p := ⟨gb194, 0, none⟩) (by first | (rw [add_block]; exact hn196_0) | (show (Addr.add _ _).block ≠ _; rw [add_block]; exact hn196_0) | exact hn196_0) (.int .i64 ((rd_T127 l0_1 x11_1).f0))).trans hx196_0; replace hx196_0 := (cell_far (p := ⟨gb194, 1, none⟩) (by first | (rw [add_block]; exact hn196_1) | (show (Addr.add _ _).block ≠ _; rw [add_block]; exact hn196_1) | exact hn196_1) (.int .i64 ((rd_T127 l0_1 x11_1).f1))).trans hx196_0; replace hx196_0 := (cell_far (p := ⟨gb194, 2, none⟩) (by first | (rw [add_block]; exact hn196_2) | (show (Addr.add _ _).block ≠ _; rw [add_block]; exact hn196_2) | exact hn196_2) (.int .u64 ((rd_T127 l0_1 x11_1).f2))).trans hx196_0; (try have hy196_0 := fun (n_ : Nat) => (show (((((w15.drewN n_).setCell ⟨gb194, 0, none⟩ (.int .i64 ((rd_T127 l0_1 x11_1).f0))).setCell ⟨gb194, 1, none⟩ (.int .i64 ((rd_T127 l0_1 x11_1).f1))).setCell ⟨gb194, 2, none⟩ (.int .u64 ((rd_T127 l0_1 x11_1).f2)))).cell? _ = some _ from hx196_0)); clear hn196_0; clear hn196_1; clear hn196_2; replace p196 := eq_true p196; replace q196 := eq_true q196))
                          repeat (go_quiet (first | ((with_reducible refine gate_dst (N := 7) rfl ?_); refine box_event ?hg (N := 7) ?hd (cs := #[.int .i64 0, .int .i64 0, .int .u64 0]) (t := 127) ?hr ?_; (case hd => rfl); (case hg => rfl); (case hr => first | (go_simp; done) | (go_simp; rfl)); intro gb194 hg w15 hbox hb; have n0_ := Aside0.mk (blk_below (g := gb192) (o := .cells #[.int .i64 a0_0, .slice (some ad193) l0_1.length c0_1, .slice A0_2 l0_2.length c0_2] 64 (0, 0)) (by (with_reducible repeat (first | refine blk_drewN ?_ _ | refine blk_drew ?_ | refine blk_alloc ?_ _)); exact BK192.out) hb); have n1_ := Aside0.mk (below_step (by repeat (first | (with_reducible first | exact HB.out | apply below_alloc | apply pw_below_drewN | apply below_drew1 | refine below_set ?_ GE192.out) | exact HB.out)) hb); have n2_ := Aside0.mk (hbox); have n3_ := Aside0.mk ((by rw [hg]; exact (below_size (by repeat (first | (with_reducible first | exact HB.out | apply below_alloc | apply pw_below_drewN | apply below_drew1 | refine below_set ?_ GE192.out) | exact HB.out))) : w.heap.size ≤ gb194)); have n4_ := Aside0.mk ((by rw [hg]; exact (below_size (by repeat (first | (with_reducible first | exact HB.out | apply below_alloc | apply pw_below_drewN | apply below_drew1 | refine below_set ?_ GE192.out) | exact HB.out))) : w.heap.size ≤ gb194)); have n5_ := Aside0.mk ((by rw [hg]; exact Nat.ne_of_lt (blk_lt (g := gb192) (o := .cells #[.int .i64 a0_0, .slice (some ad193) l0_1.length c0_1, .slice A0_2 l0_2.length c0_2] 64 (0, 0)) (by (with_reducible repeat (first | refine blk_drewN ?_ _ | refine blk_drew ?_ | refine blk_alloc ?_ _)); exact BK192.out)) : gb192 ≠ gb194)); have n6_ := Aside0.mk ((by rw [hg]; exact Nat.ne_of_gt (blk_lt (g := gb192) (o := .cells #[.int .i64 a0_0, .slice (some ad193) l0_1.length c0_1, .slice A0_2 l0_2.length c0_2] 64 (0, 0)) (by (with_reducible repeat (first | refine blk_drewN ?_ _ | refine blk_drew ?_ | refine blk_alloc ?_ _)); exact BK192.out)) : gb194 ≠ gb192)); clear BK192; clear HB; have BK192 := n0_; have HB := n1_; have BK194 := n2_; have GW194 := n3_; have GE194 := n4_; have NB192_194 := n5_; have NB194_192 := n6_; clear n0_ n1_ n2_ n3_ n4_ n5_ n6_; clear hb hbox hg; have hnb16 := NB194_192.out; have hnc16 := NB192_194.out; have hcz17_0 : w15.cell? ⟨gb194, 0, none⟩ = some (.int .i64 0) := (blk_cell BK194.out 0).trans rfl; have hcz17_1 : w15.cell? ⟨gb194, 1, none⟩ = some (.int .i64 0) := (blk_cell BK194.out 1).trans rfl; have hcz17_2 : w15.cell? ⟨gb194, 2, none⟩ = some (.int .u64 0) := (blk_cell BK194.out 2).trans rfl; have hfz17_0 := blk_frozen BK194.out 0; have hfz17_1 := blk_frozen BK194.out 1; have hfz17_2 := blk_frozen BK194.out 2; have p195 : 0 ≤ (((rd_T127 l0_1 x11_1).f1) : Int) := of_decide_eq_true (by first | (with_reducible assumption) | assumption); have q195 : ((rd_T127 l0_1 x11_1).f1) < (l1.length : Int) := of_decide_eq_true (by first | (with_reducible assumption) | assumption); obtain ⟨ad195, A195_0, c195_0, e195, hx195_0, hl195_0, hi195_0⟩ := at_L8 HR1.out ((rd_T127 l0_1 x11_1).f1) p195 q195; cases e195; have hn195_0 : ad195.block ≠ gb194 := Nat.ne_of_lt (Nat.lt_of_lt_of_le (by have := World.block_lt_of_cell? _ _ hx195_0; first | rwa [add_block] at this | exact this) GW194.out); have hn195_1 : ad195.block ≠ gb194 := Nat.ne_of_lt (Nat.lt_of_lt_of_le (by have := World.block_lt_of_cell? _ _ hx195_0; first | rwa [add_block] at this | exact this) GW194.out); have hn195_2 : ad195.block ≠ gb194 := Nat.ne_of_lt (Nat.lt_of_lt_of_le (by have := World.block_lt_of_cell? _ _ hx195_0; first | rwa [add_block] at this | exact this) GW194.out); replace hx195_0 := (HB.out.cell (World.block_lt_of_cell? w _ hx195_0)).trans hx195_0; have HR195_0 := Aside0.mk hi195_0; have HC195_0 := Aside0.mk hl195_0; clear hi195_0 hl195_0; replace hx195_0 := (cell_far (p := ⟨gb194, 0, none⟩) (by first | (rw [add_block]; exact hn195_0) | (show (Addr.add _ _).block ≠ _; rw [add_block]; exact hn195_0) | exact hn195_0) (.int .i64 ((rd_T127 l0_1 x11_1).f0))).trans hx195_0; replace hx195_0 := (cell_far (p := ⟨gb194, 1, none⟩) (by first | (rw [add_block]; exact hn195_1) | (show (Addr.add _ _).block ≠ _; rw [add_block]; exact hn195_1) | exact hn195_1) (.int .i64 ((rd_T127 l0_1 x11_1).f1))).trans hx195_0; replace hx195_0 := (cell_far (p := ⟨gb194, 2, none⟩) (by first | (rw [add_block]; exact hn195_2) | (show (Addr.add _ _).block ≠ _; rw [add_block]; exact hn195_2) | exact hn195_2) (.int .u64 ((rd_T127 l0_1 x11_1).f2))).trans hx195_0; (try have hy195_0 := fun (n_ : Nat) => (show (((((w15.drewN n_).setCell ⟨gb194, 0, none⟩ (.int .i64 ((rd_T127 l0_1 x11_1).f0))).setCell ⟨gb194, 1, none⟩ (.int .i64 ((rd_T127 l0_1 x11_1).f1))).setCell ⟨gb194, 2, none⟩ (.int .u64 ((rd_T127 l0_1 x11_1).f2)))).cell? _ = some _ from hx195_0)); clear hn195_0; clear hn195_1; clear hn195_2; replace p195 := eq_true p195; replace q195 := eq_true q195; have p196 : 0 ≤ (((rd_T127 l0_1 x11_1).f0) : Int) := of_decide_eq_true (by first | (with_reducible assumption) | assumption); have q196 : ((rd_T127 l0_1 x11_1).f0) < ((rd_L8 l1 ((rd_T127 l0_1 x11_1).f1)).length : Int) := of_decide_eq_true (by first | (with_reducible assumption) | assumption); obtain ⟨ad196, e196, hx196_0⟩ := Kd.at_int HR195_0.out ((rd_T127 l0_1 x11_1).f0) p196 q196; cases e196; have hn196_0 : ad196.block ≠ gb194 := Nat.ne_of_lt (Nat.lt_of_lt_of_le (by have := World.block_lt_of_cell? _ _ hx196_0; first | rwa [add_block] at this | exact this) GW194.out); have hn196_1 : ad196.block ≠ gb194 := Nat.ne_of_lt (Nat.lt_of_lt_of_le (by have := World.block_lt_of_cell? _ _ hx196_0; first | rwa [add_block] at this | exact this) GW194.out); have hn196_2 : ad196.block ≠ gb194 := Nat.ne_of_lt (Nat.lt_of_lt_of_le (by have := World.block_lt_of_cell? _ _ hx196_0; first | rwa [add_block] at this | exact this) GW194.out); replace hx196_0 := (HB.out.cell (World.block_lt_of_cell? w _ hx196_0)).trans hx196_0; replace hx196_0 := (cell_far (p := ⟨gb194, 0, none⟩) (by first | (rw [add_block]; exact hn196_0) | (show (Addr.add _ _).block ≠ _; rw [add_block]; exact hn196_0) | exact hn196_0) (.int .i64 ((rd_T127 l0_1 x11_1).f0))).trans hx196_0; replace hx196_0 := (cell_far (p := ⟨gb194, 1, none⟩) (by first | (rw [add_block]; exact hn196_1) | (show (Addr.add _ _).block ≠ _; rw [add_block]; exact hn196_1) | exact hn196_1) (.int .i64 ((rd_T127 l0_1 x11_1).f1))).trans hx196_0; replace hx196_0 := (cell_far (p := ⟨gb194, 2, none⟩) (by first | (rw [add_block]; exact hn196_2) | (show (Addr.add _ _).block ≠ _; rw [add_block]; exact hn196_2) | exact hn196_2) (.int .u64 ((rd_T127 l0_1 x11_1).f2))).trans hx196_0; (try have hy196_0 := fun (n_ : Nat) => (show (((((w15.drewN n_).setCell ⟨gb194, 0, none⟩ (.int .i64 ((rd_T127 l0_1 x11_1).f0))).setCell ⟨gb194, 1, none⟩ (.int .i64 ((rd_T127 l0_1 x11_1).f1))).setCell ⟨gb194, 2, none⟩ (.int .u64 ((rd_T127 l0_1 x11_1).f2)))).cell? _ = some _ from hx196_0)); clear hn196_0; clear hn196_1; clear hn196_2; replace p196 := eq_true p196; replace q196 := eq_true q196)); try go_wp2_with (first | ((with_reducible refine gate_dst (N := 7) rfl ?_); refine box_event ?hg (N := 7) ?hd (cs := #[.int .i64 0, .int .i64 0, .int .u64 0]) (t := 127) ?hr ?_; (case hd => rfl); (case hg => rfl); (case hr => first | (go_simp; done) | (go_simp; rfl)); intro gb194 hg w15 hbox hb; have n0_ := Aside0.mk (blk_below (g := gb192) (o := .cells #[.int .i64 a0_0, .slice (some ad193) l0_1.length c0_1, .slice A0_2 l0_2.length c0_2] 64 (0, 0)) (by (with_reducible repeat (first | refine blk_drewN ?_ _ | refine blk_drew ?_ | refine blk_alloc ?_ _)); exact BK192.out) hb); have n1_ := Aside0.mk (below_step (by repeat (first | (with_reducible first | exact HB.out | apply below_alloc | apply pw_below_drewN | apply below_drew1 | refine below_set ?_ GE192.out) | exact HB.out)) hb); have n2_ := Aside0.mk (hbox); have n3_ := Aside0.mk ((by rw [hg]; exact (below_size (by repeat (first | (with_reducible first | exact HB.out | apply below_alloc | apply pw_below_drewN | apply below_drew1 | refine below_set ?_ GE192.out) | exact HB.out))) : w.heap.size ≤ gb194)); have n4_ := Aside0.mk ((by rw [hg]; exact (below_size (by repeat (first | (with_reducible first | exact HB.out | apply below_alloc | apply pw_below_drewN | apply below_drew1 | refine below_set ?_ GE192.out) | exact HB.out))) : w.heap.size ≤ gb194)); have n5_ := Aside0.mk ((by rw [hg]; exact Nat.ne_of_lt (blk_lt (g := gb192) (o := .cells #[.int .i64 a0_0, .slice (some ad193) l0_1.length c0_1, .slice A0_2 l0_2.length c0_2] 64 (0, 0)) (by (with_reducible repeat (first | refine blk_drewN ?_ _ | refine blk_drew ?_ | refine blk_alloc ?_ _)); exact BK192.out)) : gb192 ≠ gb194)); have n6_ := Aside0.mk ((by rw [hg]; exact Nat.ne_of_gt (blk_lt (g := gb192) (o := .cells #[.int .i64 a0_0, .slice (some ad193) l0_1.length c0_1, .slice A0_2 l0_2.length c0_2] 64 (0, 0)) (by (with_reducible repeat (first | refine blk_drewN ?_ _ | refine blk_drew ?_ | refine blk_alloc ?_ _)); exact BK192.out)) : gb194 ≠ gb192)); clear BK192; clear HB; have BK192 := n0_; have HB := n1_; have BK194 := n2_; have GW194 := n3_; have GE194 := n4_; have NB192_194 := n5_; have NB194_192 := n6_; clear n0_ n1_ n2_ n3_ n4_ n5_ n6_; clear hb hbox hg; have hnb16 := NB194_192.out; have hnc16 := NB192_194.out; have hcz17_0 : w15.cell? ⟨gb194, 0, none⟩ = some (.int .i64 0) := (blk_cell BK194.out 0).trans rfl; have hcz17_1 : w15.cell? ⟨gb194, 1, none⟩ = some (.int .i64 0) := (blk_cell BK194.out 1).trans rfl; have hcz17_2 : w15.cell? ⟨gb194, 2, none⟩ = some (.int .u64 0) := (blk_cell BK194.out 2).trans rfl; have hfz17_0 := blk_frozen BK194.out 0; have hfz17_1 := blk_frozen BK194.out 1; have hfz17_2 := blk_frozen BK194.out 2; have p195 : 0 ≤ (((rd_T127 l0_1 x11_1).f1) : Int) := of_decide_eq_true (by first | (with_reducible assumption) | assumption); have q195 : ((rd_T127 l0_1 x11_1).f1) < (l1.length : Int) := of_decide_eq_true (by first | (with_reducible assumption) | assumption); obtain ⟨ad195, A195_0, c195_0, e195, hx195_0, hl195_0, hi195_0⟩ := at_L8 HR1.out ((rd_T127 l0_1 x11_1).f1) p195 q195; cases e195; have hn195_0 : ad195.block ≠ gb194 := Nat.ne_of_lt (Nat.lt_of_lt_of_le (by have := World.block_lt_of_cell? _ _ hx195_0; first | rwa [add_block] at this | exact this) GW194.out); have hn195_1 : ad195.block ≠ gb194 := Nat.ne_of_lt (Nat.lt_of_lt_of_le (by have := World.block_lt_of_cell? _ _ hx195_0; first | rwa [add_block] at this | exact this) GW194.out); have hn195_2 : ad195.block ≠ gb194 := Nat.ne_of_lt (Nat.lt_of_lt_of_le (by have := World.block_lt_of_cell? _ _ hx195_0; first | rwa [add_block] at this | exact this) GW194.out); replace hx195_0 := (HB.out.cell (World.block_lt_of_cell? w _ hx195_0)).trans hx195_0; have HR195_0 := Aside0.mk hi195_0; have HC195_0 := Aside0.mk hl195_0; clear hi195_0 hl195_0; replace hx195_0 := (cell_far (p := ⟨gb194, 0, none⟩) (by first | (rw [add_block]; exact hn195_0) | (show (Addr.add _ _).block ≠ _; rw [add_block]; exact hn195_0) | exact hn195_0) (.int .i64 ((rd_T127 l0_1 x11_1).f0))).trans hx195_0; replace hx195_0 := (cell_far (p := ⟨gb194, 1, none⟩) (by first | (rw [add_block]; exact hn195_1) | (show (Addr.add _ _).block ≠ _; rw [add_block]; exact hn195_1) | exact hn195_1) (.int .i64 ((rd_T127 l0_1 x11_1).f1))).trans hx195_0; replace hx195_0 := (cell_far (p := ⟨gb194, 2, none⟩) (by first | (rw [add_block]; exact hn195_2) | (show (Addr.add _ _).block ≠ _; rw [add_block]; exact hn195_2) | exact hn195_2) (.int .u64 ((rd_T127 l0_1 x11_1).f2))).trans hx195_0; (try have hy195_0 := fun (n_ : Nat) => (show (((((w15.drewN n_).setCell ⟨gb194, 0, none⟩ (.int .i64 ((rd_T127 l0_1 x11_1).f0))).setCell ⟨gb194, 1, none⟩ (.int .i64 ((rd_T127 l0_1 x11_1).f1))).setCell ⟨gb194, 2, none⟩ (.int .u64 ((rd_T127 l0_1 x11_1).f2)))).cell? _ = some _ from hx195_0)); clear hn195_0; clear hn195_1; clear hn195_2; replace p195 := eq_true p195; replace q195 := eq_true q195; have p196 : 0 ≤ (((rd_T127 l0_1 x11_1).f0) : Int) := of_decide_eq_true (by first | (with_reducible assumption) | assumption); have q196 : ((rd_T127 l0_1 x11_1).f0) < ((rd_L8 l1 ((rd_T127 l0_1 x11_1).f1)).length : Int) := of_decide_eq_true (by first | (with_reducible assumption) | assumption); obtain ⟨ad196, e196, hx196_0⟩ := Kd.at_int HR195_0.out ((rd_T127 l0_1 x11_1).f0) p196 q196; cases e196; have hn196_0 : ad196.block ≠ gb194 := Nat.ne_of_lt (Nat.lt_of_lt_of_le (by have := World.block_lt_of_cell? _ _ hx196_0; first | rwa [add_block] at this | exact this) GW194.out); have hn196_1 : ad196.block ≠ gb194 := Nat.ne_of_lt (Nat.lt_of_lt_of_le (by have := World.block_lt_of_cell? _ _ hx196_0; first | rwa [add_block] at this | exact this) GW194.out); have hn196_2 : ad196.block ≠ gb194 := Nat.ne_of_lt (Nat.lt_of_lt_of_le (by have := World.block_lt_of_cell? _ _ hx196_0; first | rwa [add_block] at this | exact this) GW194.out); replace hx196_0 := (HB.out.cell (World.block_lt_of_cell? w _ hx196_0)).trans hx196_0; replace hx196_0 := (cell_far (p := ⟨gb194, 0, none⟩) (by first | (rw [add_block]; exact hn196_0) | (show (Addr.add _ _).block ≠ _; rw [add_block]; exact hn196_0) | exact hn196_0) (.int .i64 ((rd_T127 l0_1 x11_1).f0))).trans hx196_0; replace hx196_0 := (cell_far (p := ⟨gb194, 1, none⟩) (by first | (rw [add_block]; exact hn196_1) | (show (Addr.add _ _).block ≠ _; rw [add_block]; exact hn196_1) | exact hn196_1) (.int .i64 ((rd_T127 l0_1 x11_1).f1))).trans hx196_0; replace hx196_0 := (cell_far (p := ⟨gb194, 2, none⟩) (by first | (rw [add_block]; exact hn196_2) | (show (Addr.add _ _).block ≠ _; rw [add_block]; exact hn196_2) | exact hn196_2) (.int .u64 ((rd_T127 l0_1 x11_1).f2))).trans hx196_0; (try have hy196_0 := fun (n_ : Nat) => (show (((((w15.drewN n_).setCell ⟨gb194, 0, none⟩ (.int .i64 ((rd_T127 l0_1 x11_1).f0))).setCell ⟨gb194, 1, none⟩ (.int .i64 ((rd_T127 l0_1 x11_1).f1))).setCell ⟨gb194, 2, none⟩ (.int .u64 ((rd_T127 l0_1 x11_1).f2)))).cell? _ = some _ from hx196_0)); clear hn196_0; clear hn196_1; clear hn196_2; replace p196 := eq_true p196; replace q196 := eq_true q196)))
                          go_roundg k1
                          case measure => have := HK1.out; omega
                          case rel => exact ⟨((rd_T127 l0_1 x11_1).f0), (wrap64 (x11_1 + 1)), (by first | rfl | (simp; done) | (simp [*]; done)), (by first | rfl | (simp; done) | (simp [*]; done)), H', ⟨by have := HK1.out; omega⟩, ⟨by (with_reducible repeat (first | refine blk_drewN ?_ _ | refine blk_drew ?_ | refine blk_alloc ?_ _)); refine blk_far ?_ NB192_194.out _; (with_reducible repeat (first | refine blk_drewN ?_ _ | refine blk_drew ?_ | refine blk_alloc ?_ _)); refine blk_far ?_ NB192_194.out _; (with_reducible repeat (first | refine blk_drewN ?_ _ | refine blk_drew ?_ | refine blk_alloc ?_ _)); refine blk_far ?_ NB192_194.out _; (with_reducible repeat (first | refine blk_drewN ?_ _ | refine blk_drew ?_ | refine blk_alloc ?_ _)); exact BK192.out⟩, ⟨by repeat (first | (with_reducible first | exact HB.out | apply below_alloc | apply pw_below_drewN | apply below_drew1 | refine below_set ?_ GE192.out | refine below_set ?_ GE194.out) | exact HB.out)⟩⟩
                        · rw [if_neg c14] at H
                          have c14b0 : decide (x5_1 < 0) = false := decide_eq_false c14
                          clear c14
                          by_cases c18 : ((rd_T127 l0_1 x11_1).f0) < x5_1
                          · rw [if_pos c18] at H
                            have c18b0 : decide (((rd_T127 l0_1 x11_1).f0) < x5_1) = true := decide_eq_true c18
                            clear c18
                            have H' := Aside0.mk H
                            clear H
                            have p193 : 0 ≤ (x11_1 : Int) := of_decide_eq_true (by first | (with_reducible assumption) | assumption)
                            have q193 : x11_1 < (l0_1.length : Int) := of_decide_eq_true (by first | (with_reducible assumption) | assumption)
                            obtain ⟨ad193, e193, hx193_0, hx193_1, hx193_2⟩ := at_T127 HR0_1.out x11_1 p193 q193
                            cases e193
                            replace hx193_0 := (HB.out.cell (World.block_lt_of_cell? w _ hx193_0)).trans hx193_0
                            replace hx193_1 := (HB.out.cell (World.block_lt_of_cell? w _ hx193_1)).trans hx193_1
                            replace hx193_2 := (HB.out.cell (World.block_lt_of_cell? w _ hx193_2)).trans hx193_2
                            replace p193 := eq_true p193
                            replace q193 := eq_true q193
                            go_wp2_with (first | ((with_reducible refine gate_dst (N := 7) rfl ?_); refine box_event ?hg (N := 7) ?hd (cs := #[.int .i64 0, .int .i64 0, .int .u64 0]) (t := 127) ?hr ?_; (case hd => rfl); (case hg => rfl); (case hr => first | (go_simp; done) | (go_simp; rfl)); intro gb194 hg w19 hbox hb; have n0_ := Aside0.mk (blk_below (g := gb192) (o := .cells #[.int .i64 a0_0, .slice (some ad193) l0_1.length c0_1, .slice A0_2 l0_2.length c0_2] 64 (0, 0)) (by (with_reducible repeat (first | refine blk_drewN ?_ _ | refine blk_drew ?_ | refine blk_alloc ?_ _)); exact BK192.out) hb); have n1_ := Aside0.mk (below_step (by repeat (first | (with_reducible first | exact HB.out | apply below_alloc | apply pw_below_drewN | apply below_drew1 | refine below_set ?_ GE192.out) | exact HB.out)) hb); have n2_ := Aside0.mk (hbox); have n3_ := Aside0.mk ((by rw [hg]; exact (below_size (by repeat (first | (with_reducible first | exact HB.out | apply below_alloc | apply pw_below_drewN | apply below_drew1 | refine below_set ?_ GE192.out) | exact HB.out))) : w.heap.size ≤ gb194)); have n4_ := Aside0.mk ((by rw [hg]; exact (below_size (by repeat (first | (with_reducible first | exact HB.out | apply below_alloc | apply pw_below_drewN | apply below_drew1 | refine below_set ?_ GE192.out) | exact HB.out))) : w.heap.size ≤ gb194)); have n5_ := Aside0.mk ((by rw [hg]; exact Nat.ne_of_lt (blk_lt (g := gb192) (o := .cells #[.int .i64 a0_0, .slice (some ad193) l0_1.length c0_1, .slice A0_2 l0_2.length c0_2] 64 (0, 0)) (by (with_reducible repeat (first | refine blk_drewN ?_ _ | refine blk_drew ?_ | refine blk_alloc ?_ _)); exact BK192.out)) : gb192 ≠ gb194)); have n6_ := Aside0.mk ((by rw [hg]; exact Nat.ne_of_gt (blk_lt (g := gb192) (o := .cells #[.int .i64 a0_0, .slice (some ad193) l0_1.length c0_1, .slice A0_2 l0_2.length c0_2] 64 (0, 0)) (by (with_reducible repeat (first | refine blk_drewN ?_ _ | refine blk_drew ?_ | refine blk_alloc ?_ _)); exact BK192.out)) : gb194 ≠ gb192)); clear BK192; clear HB; have BK192 := n0_; have HB := n1_; have BK194 := n2_; have GW194 := n3_; have GE194 := n4_; have NB192_194 := n5_; have NB194_192 := n6_; clear n0_ n1_ n2_ n3_ n4_ n5_ n6_; clear hb hbox hg; have hnb20 := NB194_192.out; have hnc20 := NB192_194.out; have hcz21_0 : w19.cell? ⟨gb194, 0, none⟩ = some (.int .i64 0) := (blk_cell BK194.out 0).trans rfl; have hcz21_1 : w19.cell? ⟨gb194, 1, none⟩ = some (.int .i64 0) := (blk_cell BK194.out 1).trans rfl; have hcz21_2 : w19.cell? ⟨gb194, 2, none⟩ = some (.int .u64 0) := (blk_cell BK194.out 2).trans rfl; have hfz21_0 := blk_frozen BK194.out 0; have hfz21_1 := blk_frozen BK194.out 1; have hfz21_2 := blk_frozen BK194.out 2; have p195 : 0 ≤ (((rd_T127 l0_1 x11_1).f1) : Int) := of_decide_eq_true (by first | (with_reducible assumption) | assumption); have q195 : ((rd_T127 l0_1 x11_1).f1) < (l1.length : Int) := of_decide_eq_true (by first | (with_reducible assumption) | assumption); obtain ⟨ad195, A195_0, c195_0, e195, hx195_0, hl195_0, hi195_0⟩ := at_L8 HR1.out ((rd_T127 l0_1 x11_1).f1) p195 q195; cases e195; have hn195_0 : ad195.block ≠ gb194 := Nat.ne_of_lt (Nat.lt_of_lt_of_le (by have := World.block_lt_of_cell? _ _ hx195_0; first | rwa [add_block] at this | exact this) GW194.out); have hn195_1 : ad195.block ≠ gb194 := Nat.ne_of_lt (Nat.lt_of_lt_of_le (by have := World.block_lt_of_cell? _ _ hx195_0; first | rwa [add_block] at this | exact this) GW194.out); have hn195_2 : ad195.block ≠ gb194 := Nat.ne_of_lt (Nat.lt_of_lt_of_le (by have := World.block_lt_of_cell? _ _ hx195_0; first | rwa [add_block] at this | exact this) GW194.out); replace hx195_0 := (HB.out.cell (World.block_lt_of_cell? w _ hx195_0)).trans hx195_0; have HR195_0 := Aside0.mk hi195_0; have HC195_0 := Aside0.mk hl195_0; clear hi195_0 hl195_0; replace hx195_0 := (cell_far (p := ⟨gb194, 0, none⟩) (by first | (rw [add_block]; exact hn195_0) | (show (Addr.add _ _).block ≠ _; rw [add_block]; exact hn195_0) | exact hn195_0) (.int .i64 ((rd_T127 l0_1 x11_1).f0))).trans hx195_0; replace hx195_0 := (cell_far (p := ⟨gb194, 1, none⟩) (by first | (rw [add_block]; exact hn195_1) | (show (Addr.add _ _).block ≠ _; rw [add_block]; exact hn195_1) | exact hn195_1) (.int .i64 ((rd_T127 l0_1 x11_1).f1))).trans hx195_0; replace hx195_0 := (cell_far (p := ⟨gb194, 2, none⟩) (by first | (rw [add_block]; exact hn195_2) | (show (Addr.add _ _).block ≠ _; rw [add_block]; exact hn195_2) | exact hn195_2) (.int .u64 ((rd_T127 l0_1 x11_1).f2))).trans hx195_0; (try have hy195_0 := fun (n_ : Nat) => (show (((((w19.drewN n_).setCell ⟨gb194, 0, none⟩ (.int .i64 ((rd_T127 l0_1 x11_1).f0))).setCell ⟨gb194, 1, none⟩ (.int .i64 ((rd_T127 l0_1 x11_1).f1))).setCell ⟨gb194, 2, none⟩ (.int .u64 ((rd_T127 l0_1 x11_1).f2)))).cell? _ = some _ from hx195_0)); clear hn195_0; clear hn195_1; clear hn195_2; replace p195 := eq_true p195; replace q195 := eq_true q195; have p196 : 0 ≤ (((rd_T127 l0_1 x11_1).f0) : Int) := of_decide_eq_true (by first | (with_reducible assumption) | assumption); have q196 : ((rd_T127 l0_1 x11_1).f0) < ((rd_L8 l1 ((rd_T127 l0_1 x11_1).f1)).length : Int) := of_decide_eq_true (by first | (with_reducible assumption) | assumption); obtain ⟨ad196, e196, hx196_0⟩ := Kd.at_int HR195_0.out ((rd_T127 l0_1 x11_1).f0) p196 q196; cases e196; have hn196_0 : ad196.block ≠ gb194 := Nat.ne_of_lt (Nat.lt_of_lt_of_le (by have := World.block_lt_of_cell? _ _ hx196_0; first | rwa [add_block] at this | exact this) GW194.out); have hn196_1 : ad196.block ≠ gb194 := Nat.ne_of_lt (Nat.lt_of_lt_of_le (by have := World.block_lt_of_cell? _ _ hx196_0; first | rwa [add_block] at this | exact this) GW194.out); have hn196_2 : ad196.block ≠ gb194 := Nat.ne_of_lt (Nat.lt_of_lt_of_le (by have := World.block_lt_of_cell? _ _ hx196_0; first | rwa [add_block] at this | exact this) GW194.out); replace hx196_0 := (HB.out.cell (World.block_lt_of_cell? w _ hx196_0)).trans hx196_0; replace hx196_0 := (cell_far (p := ⟨gb194, 0, none⟩) (by first | (rw [add_block]; exact hn196_0) | (show (Addr.add _ _).block ≠ _; rw [add_block]; exact hn196_0) | exact hn196_0) (.int .i64 ((rd_T127 l0_1 x11_1).f0))).trans hx196_0; replace hx196_0 := (cell_far (p := ⟨gb194, 1, none⟩) (by first | (rw [add_block]; exact hn196_1) | (show (Addr.add _ _).block ≠ _; rw [add_block]; exact hn196_1) | exact hn196_1) (.int .i64 ((rd_T127 l0_1 x11_1).f1))).trans hx196_0; replace hx196_0 := (cell_far (p := ⟨gb194, 2, none⟩) (by first | (rw [add_block]; exact hn196_2) | (show (Addr.add _ _).block ≠ _; rw [add_block]; exact hn196_2) | exact hn196_2) (.int .u64 ((rd_T127 l0_1 x11_1).f2))).trans hx196_0; (try have hy196_0 := fun (n_ : Nat) => (show (((((w19.drewN n_).setCell ⟨gb194, 0, none⟩ (.int .i64 ((rd_T127 l0_1 x11_1).f0))).setCell ⟨gb194, 1, none⟩ (.int .i64 ((rd_T127 l0_1 x11_1).f1))).setCell ⟨gb194, 2, none⟩ (.int .u64 ((rd_T127 l0_1 x11_1).f2)))).cell? _ = some _ from hx196_0)); clear hn196_0; clear hn196_1; clear hn196_2; replace p196 := eq_true p196; replace q196 := eq_true q196))
                            repeat (go_quiet (first | ((with_reducible refine gate_dst (N := 7) rfl ?_); refine box_event ?hg (N := 7) ?hd (cs := #[.int .i64 0, .int .i64 0, .int .u64 0]) (t := 127) ?hr ?_; (case hd => rfl); (case hg => rfl); (case hr => first | (go_simp; done) | (go_simp; rfl)); intro gb194 hg w19 hbox hb; have n0_ := Aside0.mk (blk_below (g := gb192) (o := .cells #[.int .i64 a0_0, .slice (some ad193) l0_1.length c0_1, .slice A0_2 l0_2.length c0_2] 64 (0, 0)) (by (with_reducible repeat (first | refine blk_drewN ?_ _ | refine blk_drew ?_ | refine blk_alloc ?_ _)); exact BK192.out) hb); have n1_ := Aside0.mk (below_step (by repeat (first | (with_reducible first | exact HB.out | apply below_alloc | apply pw_below_drewN | apply below_drew1 | refine below_set ?_ GE192.out) | exact HB.out)) hb); have n2_ := Aside0.mk (hbox); have n3_ := Aside0.mk ((by rw [hg]; exact (below_size (by repeat (first | (with_reducible first | exact HB.out | apply below_alloc | apply pw_below_drewN | apply below_drew1 | refine below_set ?_ GE192.out) | exact HB.out))) : w.heap.size ≤ gb194)); have n4_ := Aside0.mk ((by rw [hg]; exact (below_size (by repeat (first | (with_reducible first | exact HB.out | apply below_alloc | apply pw_below_drewN | apply below_drew1 | refine below_set ?_ GE192.out) | exact HB.out))) : w.heap.size ≤ gb194)); have n5_ := Aside0.mk ((by rw [hg]; exact Nat.ne_of_lt (blk_lt (g := gb192) (o := .cells #[.int .i64 a0_0, .slice (some ad193) l0_1.length c0_1, .slice A0_2 l0_2.length c0_2] 64 (0, 0)) (by (with_reducible repeat (first | refine blk_drewN ?_ _ | refine blk_drew ?_ | refine blk_alloc ?_ _)); exact BK192.out)) : gb192 ≠ gb194)); have n6_ := Aside0.mk ((by rw [hg]; exact Nat.ne_of_gt (blk_lt (g := gb192) (o := .cells #[.int .i64 a0_0, .slice (some ad193) l0_1.length c0_1, .slice A0_2 l0_2.length c0_2] 64 (0, 0)) (by (with_reducible repeat (first | refine blk_drewN ?_ _ | refine blk_drew ?_ | refine blk_alloc ?_ _)); exact BK192.out)) : gb194 ≠ gb192)); clear BK192; clear HB; have BK192 := n0_; have HB := n1_; have BK194 := n2_; have GW194 := n3_; have GE194 := n4_; have NB192_194 := n5_; have NB194_192 := n6_; clear n0_ n1_ n2_ n3_ n4_ n5_ n6_; clear hb hbox hg; have hnb20 := NB194_192.out; have hnc20 := NB192_194.out; have hcz21_0 : w19.cell? ⟨gb194, 0, none⟩ = some (.int .i64 0) := (blk_cell BK194.out 0).trans rfl; have hcz21_1 : w19.cell? ⟨gb194, 1, none⟩ = some (.int .i64 0) := (blk_cell BK194.out 1).trans rfl; have hcz21_2 : w19.cell? ⟨gb194, 2, none⟩ = some (.int .u64 0) := (blk_cell BK194.out 2).trans rfl; have hfz21_0 := blk_frozen BK194.out 0; have hfz21_1 := blk_frozen BK194.out 1; have hfz21_2 := blk_frozen BK194.out 2; have p195 : 0 ≤ (((rd_T127 l0_1 x11_1).f1) : Int) := of_decide_eq_true (by first | (with_reducible assumption) | assumption); have q195 : ((rd_T127 l0_1 x11_1).f1) < (l1.length : Int) := of_decide_eq_true (by first | (with_reducible assumption) | assumption); obtain ⟨ad195, A195_0, c195_0, e195, hx195_0, hl195_0, hi195_0⟩ := at_L8 HR1.out ((rd_T127 l0_1 x11_1).f1) p195 q195; cases e195; have hn195_0 : ad195.block ≠ gb194 := Nat.ne_of_lt (Nat.lt_of_lt_of_le (by have := World.block_lt_of_cell? _ _ hx195_0; first | rwa [add_block] at this | exact this) GW194.out); have hn195_1 : ad195.block ≠ gb194 := Nat.ne_of_lt (Nat.lt_of_lt_of_le (by have := World.block_lt_of_cell? _ _ hx195_0; first | rwa [add_block] at this | exact this) GW194.out); have hn195_2 : ad195.block ≠ gb194 := Nat.ne_of_lt (Nat.lt_of_lt_of_le (by have := World.block_lt_of_cell? _ _ hx195_0; first | rwa [add_block] at this | exact this) GW194.out); replace hx195_0 := (HB.out.cell (World.block_lt_of_cell? w _ hx195_0)).trans hx195_0; have HR195_0 := Aside0.mk hi195_0; have HC195_0 := Aside0.mk hl195_0; clear hi195_0 hl195_0; replace hx195_0 := (cell_far (p := ⟨gb194, 0, none⟩) (by first | (rw [add_block]; exact hn195_0) | (show (Addr.add _ _).block ≠ _; rw [add_block]; exact hn195_0) | exact hn195_0) (.int .i64 ((rd_T127 l0_1 x11_1).f0))).trans hx195_0; replace hx195_0 := (cell_far (p := ⟨gb194, 1, none⟩) (by first | (rw [add_block]; exact hn195_1) | (show (Addr.add _ _).block ≠ _; rw [add_block]; exact hn195_1) | exact hn195_1) (.int .i64 ((rd_T127 l0_1 x11_1).f1))).trans hx195_0; replace hx195_0 := (cell_far (p := ⟨gb194, 2, none⟩) (by first | (rw [add_block]; exact hn195_2) | (show (Addr.add _ _).block ≠ _; rw [add_block]; exact hn195_2) | exact hn195_2) (.int .u64 ((rd_T127 l0_1 x11_1).f2))).trans hx195_0; (try have hy195_0 := fun (n_ : Nat) => (show (((((w19.drewN n_).setCell ⟨gb194, 0, none⟩ (.int .i64 ((rd_T127 l0_1 x11_1).f0))).setCell ⟨gb194, 1, none⟩ (.int .i64 ((rd_T127 l0_1 x11_1).f1))).setCell ⟨gb194, 2, none⟩ (.int .u64 ((rd_T127 l0_1 x11_1).f2)))).cell? _ = some _ from hx195_0)); clear hn195_0; clear hn195_1; clear hn195_2; replace p195 := eq_true p195; replace q195 := eq_true q195; have p196 : 0 ≤ (((rd_T127 l0_1 x11_1).f0) : Int) := of_decide_eq_true (by first | (with_reducible assumption) | assumption); have q196 : ((rd_T127 l0_1 x11_1).f0) < ((rd_L8 l1 ((rd_T127 l0_1 x11_1).f1)).length : Int) := of_decide_eq_true (by first | (with_reducible assumption) | assumption); obtain ⟨ad196, e196, hx196_0⟩ := Kd.at_int HR195_0.out ((rd_T127 l0_1 x11_1).f0) p196 q196; cases e196; have hn196_0 : ad196.block ≠ gb194 := Nat.ne_of_lt (Nat.lt_of_lt_of_le (by have := World.block_lt_of_cell? _ _ hx196_0; first | rwa [add_block] at this | exact this) GW194.out); have hn196_1 : ad196.block ≠ gb194 := Nat.ne_of_lt (Nat.lt_of_lt_of_le (by have := World.block_lt_of_cell? _ _ hx196_0; first | rwa [add_block] at this | exact this) GW194.out); have hn196_2 : ad196.block ≠ gb194 := Nat.ne_of_lt (Nat.lt_of_lt_of_le (by have := World.block_lt_of_cell? _ _ hx196_0; first | rwa [add_block] at this | exact this) GW194.out); replace hx196_0 := (HB.out.cell (World.block_lt_of_cell? w _ hx196_0)).trans hx196_0; replace hx196_0 := (cell_far (p := ⟨gb194, 0, none⟩) (by first | (rw [add_block]; exact hn196_0) | (show (Addr.add _ _).block ≠ _; rw [add_block]; exact hn196_0) | exact hn196_0) (.int .i64 ((rd_T127 l0_1 x11_1).f0))).trans hx196_0; replace hx196_0 := (cell_far (p := ⟨gb194, 1, none⟩) (by first | (rw [add_block]; exact hn196_1) | (show (Addr.add _ _).block ≠ _; rw [add_block]; exact hn196_1) | exact hn196_1) (.int .i64 ((rd_T127 l0_1 x11_1).f1))).trans hx196_0; replace hx196_0 := (cell_far (p := ⟨gb194, 2, none⟩) (by first | (rw [add_block]; exact hn196_2) | (show (Addr.add _ _).block ≠ _; rw [add_block]; exact hn196_2) | exact hn196_2) (.int .u64 ((rd_T127 l0_1 x11_1).f2))).trans hx196_0; (try have hy196_0 := fun (n_ : Nat) => (show (((((w19.drewN n_).setCell ⟨gb194, 0, none⟩ (.int .i64 ((rd_T127 l0_1 x11_1).f0))).setCell ⟨gb194, 1, none⟩ (.int .i64 ((rd_T127 l0_1 x11_1).f1))).setCell ⟨gb194, 2, none⟩ (.int .u64 ((rd_T127 l0_1 x11_1).f2)))).cell? _ = some _ from hx196_0)); clear hn196_0; clear hn196_1; clear hn196_2; replace p196 := eq_true p196; replace q196 := eq_true q196)); try go_wp2_with (first | ((with_reducible refine gate_dst (N := 7) rfl ?_); refine box_event ?hg (N := 7) ?hd (cs := #[.int .i64 0, .int .i64 0, .int .u64 0]) (t := 127) ?hr ?_; (case hd => rfl); (case hg => rfl); (case hr => first | (go_simp; done) | (go_simp; rfl)); intro gb194 hg w19 hbox hb; have n0_ := Aside0.mk (blk_below (g := gb192) (o := .cells #[.int .i64 a0_0, .slice (some ad193) l0_1.length c0_1, .slice A0_2 l0_2.length c0_2] 64 (0, 0)) (by (with_reducible repeat (first | refine blk_drewN ?_ _ | refine blk_drew ?_ | refine blk_alloc ?_ _)); exact BK192.out) hb); have n1_ := Aside0.mk (below_step (by repeat (first | (with_reducible first | exact HB.out | apply below_alloc | apply pw_below_drewN | apply below_drew1 | refine below_set ?_ GE192.out) | exact HB.out)) hb); have n2_ := Aside0.mk (hbox); have n3_ := Aside0.mk ((by rw [hg]; exact (below_size (by repeat (first | (with_reducible first | exact HB.out | apply below_alloc | apply pw_below_drewN | apply below_drew1 | refine below_set ?_ GE192.out) | exact HB.out))) : w.heap.size ≤ gb194)); have n4_ := Aside0.mk ((by rw [hg]; exact (below_size (by repeat (first | (with_reducible first | exact HB.out | apply below_alloc | apply pw_below_drewN | apply below_drew1 | refine below_set ?_ GE192.out) | exact HB.out))) : w.heap.size ≤ gb194)); have n5_ := Aside0.mk ((by rw [hg]; exact Nat.ne_of_lt (blk_lt (g := gb192) (o := .cells #[.int .i64 a0_0, .slice (some ad193) l0_1.length c0_1, .slice A0_2 l0_2.length c0_2] 64 (0, 0)) (by (with_reducible repeat (first | refine blk_drewN ?_ _ | refine blk_drew ?_ | refine blk_alloc ?_ _)); exact BK192.out)) : gb192 ≠ gb194)); have n6_ := Aside0.mk ((by rw [hg]; exact Nat.ne_of_gt (blk_lt (g := gb192) (o := .cells #[.int .i64 a0_0, .slice (some ad193) l0_1.length c0_1, .slice A0_2 l0_2.length c0_2] 64 (0, 0)) (by (with_reducible repeat (first | refine blk_drewN ?_ _ | refine blk_drew ?_ | refine blk_alloc ?_ _)); exact BK192.out)) : gb194 ≠ gb192)); clear BK192; clear HB; have BK192 := n0_; have HB := n1_; have BK194 := n2_; have GW194 := n3_; have GE194 := n4_; have NB192_194 := n5_; have NB194_192 := n6_; clear n0_ n1_ n2_ n3_ n4_ n5_ n6_; clear hb hbox hg; have hnb20 := NB194_192.out; have hnc20 := NB192_194.out; have hcz21_0 : w19.cell? ⟨gb194, 0, none⟩ = some (.int .i64 0) := (blk_cell BK194.out 0).trans rfl; have hcz21_1 : w19.cell? ⟨gb194, 1, none⟩ = some (.int .i64 0) := (blk_cell BK194.out 1).trans rfl; have hcz21_2 : w19.cell? ⟨gb194, 2, none⟩ = some (.int .u64 0) := (blk_cell BK194.out 2).trans rfl; have hfz21_0 := blk_frozen BK194.out 0; have hfz21_1 := blk_frozen BK194.out 1; have hfz21_2 := blk_frozen BK194.out 2; have p195 : 0 ≤ (((rd_T127 l0_1 x11_1).f1) : Int) := of_decide_eq_true (by first | (with_reducible assumption) | assumption); have q195 : ((rd_T127 l0_1 x11_1).f1) < (l1.length : Int) := of_decide_eq_true (by first | (with_reducible assumption) | assumption); obtain ⟨ad195, A195_0, c195_0, e195, hx195_0, hl195_0, hi195_0⟩ := at_L8 HR1.out ((rd_T127 l0_1 x11_1).f1) p195 q195; cases e195; have hn195_0 : ad195.block ≠ gb194 := Nat.ne_of_lt (Nat.lt_of_lt_of_le (by have := World.block_lt_of_cell? _ _ hx195_0; first | rwa [add_block] at this | exact this) GW194.out); have hn195_1 : ad195.block ≠ gb194 := Nat.ne_of_lt (Nat.lt_of_lt_of_le (by have := World.block_lt_of_cell? _ _ hx195_0; first | rwa [add_block] at this | exact this) GW194.out); have hn195_2 : ad195.block ≠ gb194 := Nat.ne_of_lt (Nat.lt_of_lt_of_le (by have := World.block_lt_of_cell? _ _ hx195_0; first | rwa [add_block] at this | exact this) GW194.out); replace hx195_0 := (HB.out.cell (World.block_lt_of_cell? w _ hx195_0)).trans hx195_0; have HR195_0 := Aside0.mk hi195_0; have HC195_0 := Aside0.mk hl195_0; clear hi195_0 hl195_0; replace hx195_0 := (cell_far (p := ⟨gb194, 0, none⟩) (by first | (rw [add_block]; exact hn195_0) | (show (Addr.add _ _).block ≠ _; rw [add_block]; exact hn195_0) | exact hn195_0) (.int .i64 ((rd_T127 l0_1 x11_1).f0))).trans hx195_0; replace hx195_0 := (cell_far (p := ⟨gb194, 1, none⟩) (by first | (rw [add_block]; exact hn195_1) | (show (Addr.add _ _).block ≠ _; rw [add_block]; exact hn195_1) | exact hn195_1) (.int .i64 ((rd_T127 l0_1 x11_1).f1))).trans hx195_0; replace hx195_0 := (cell_far (p := ⟨gb194, 2, none⟩) (by first | (rw [add_block]; exact hn195_2) | (show (Addr.add _ _).block ≠ _; rw [add_block]; exact hn195_2) | exact hn195_2) (.int .u64 ((rd_T127 l0_1 x11_1).f2))).trans hx195_0; (try have hy195_0 := fun (n_ : Nat) => (show (((((w19.drewN n_).setCell ⟨gb194, 0, none⟩ (.int .i64 ((rd_T127 l0_1 x11_1).f0))).setCell ⟨gb194, 1, none⟩ (.int .i64 ((rd_T127 l0_1 x11_1).f1))).setCell ⟨gb194, 2, none⟩ (.int .u64 ((rd_T127 l0_1 x11_1).f2)))).cell? _ = some _ from hx195_0)); clear hn195_0; clear hn195_1; clear hn195_2; replace p195 := eq_true p195; replace q195 := eq_true q195; have p196 : 0 ≤ (((rd_T127 l0_1 x11_1).f0) : Int) := of_decide_eq_true (by first | (with_reducible assumption) | assumption); have q196 : ((rd_T127 l0_1 x11_1).f0) < ((rd_L8 l1 ((rd_T127 l0_1 x11_1).f1)).length : Int) := of_decide_eq_true (by first | (with_reducible assumption) | assumption); obtain ⟨ad196, e196, hx196_0⟩ := Kd.at_int HR195_0.out ((rd_T127 l0_1 x11_1).f0) p196 q196; cases e196; have hn196_0 : ad196.block ≠ gb194 := Nat.ne_of_lt (Nat.lt_of_lt_of_le (by have := World.block_lt_of_cell? _ _ hx196_0; first | rwa [add_block] at this | exact this) GW194.out); have hn196_1 : ad196.block ≠ gb194 := Nat.ne_of_lt (Nat.lt_of_lt_of_le (by have := World.block_lt_of_cell? _ _ hx196_0; first | rwa [add_block] at this | exact this) GW194.out); have hn196_2 : ad196.block ≠ gb194 := Nat.ne_of_lt (Nat.lt_of_lt_of_le (by have := World.block_lt_of_cell? _ _ hx196_0; first | rwa [add_block] at this | exact this) GW194.out); replace hx196_0 := (HB.out.cell (World.block_lt_of_cell? w _ hx196_0)).trans hx196_0; replace hx196_0 := (cell_far (p := ⟨gb194, 0, none⟩) (by first | (rw [add_block]; exact hn196_0) | (show (Addr.add _ _).block ≠ _; rw [add_block]; exact hn196_0) | exact hn196_0) (.int .i64 ((rd_T127 l0_1 x11_1).f0))).trans hx196_0; replace hx196_0 := (cell_far (p := ⟨gb194, 1, none⟩) (by first | (rw [add_block]; exact hn196_1) | (show (Addr.add _ _).block ≠ _; rw [add_block]; exact hn196_1) | exact hn196_1) (.int .i64 ((rd_T127 l0_1 x11_1).f1))).trans hx196_0; replace hx196_0 := (cell_far (p := ⟨gb194, 2, none⟩) (by first | (rw [add_block]; exact hn196_2) | (show (Addr.add _ _).block ≠ _; rw [add_block]; exact hn196_2) | exact hn196_2) (.int .u64 ((rd_T127 l0_1 x11_1).f2))).trans hx196_0; (try have hy196_0 := fun (n_ : Nat) => (show (((((w19.drewN n_).setCell ⟨gb194, 0, none⟩ (.int .i64 ((rd_T127 l0_1 x11_1).f0))).setCell ⟨gb194, 1, none⟩ (.int .i64 ((rd_T127 l0_1 x11_1).f1))).setCell ⟨gb194, 2, none⟩ (.int .u64 ((rd_T127 l0_1 x11_1).f2)))).cell? _ = some _ from hx196_0)); clear hn196_0; clear hn196_1; clear hn196_2; replace p196 := eq_true p196; replace q196 := eq_true q196)))
                            go_roundg k1
                            case measure => have := HK1.out; omega
                            case rel => exact ⟨((rd_T127 l0_1 x11_1).f0), (wrap64 (x11_1 + 1)), (by first | rfl | (simp; done) | (simp [*]; done)), (by first | rfl | (simp; done) | (simp [*]; done)), H', ⟨by have := HK1.out; omega⟩, ⟨by (with_reducible repeat (first | refine blk_drewN ?_ _ | refine blk_drew ?_ | refine blk_alloc ?_ _)); refine blk_far ?_ NB192_194.out _; (with_reducible repeat (first | refine blk_drewN ?_ _ | refine blk_drew ?_ | refine blk_alloc ?_ _)); refine blk_far ?_ NB192_194.out _; (with_reducible repeat (first | refine blk_drewN ?_ _ | refine blk_drew ?_ | refine blk_alloc ?_ _)); refine blk_far ?_ NB192_194.out _; (with_reducible repeat (first | refine blk_drewN ?_ _ | refine blk_drew ?_ | refine blk_alloc ?_ _)); exact BK192.out⟩, ⟨by repeat (first | (with_reducible first | exact HB.out | apply below_alloc | apply pw_below_drewN | apply below_drew1 | refine below_set ?_ GE192.out | refine below_set ?_ GE194.out) | exact HB.out)⟩⟩
                          · rw [if_neg c18] at H
                            have c18b0 : decide (((rd_T127 l0_1 x11_1).f0) < x5_1) = false := decide_eq_false c18
                            clear c18
                            have H' := Aside0.mk H
                            clear H
                            have p193 : 0 ≤ (x11_1 : Int) := of_decide_eq_true (by first | (with_reducible assumption) | assumption)
                            have q193 : x11_1 < (l0_1.length : Int) := of_decide_eq_true (by first | (with_reducible assumption) | assumption)
                            obtain ⟨ad193, e193, hx193_0, hx193_1, hx193_2⟩ := at_T127 HR0_1.out x11_1 p193 q193
                            cases e193
                            replace hx193_0 := (HB.out.cell (World.block_lt_of_cell? w _ hx193_0)).trans hx193_0
                            replace hx193_1 := (HB.out.cell (World.block_lt_of_cell? w _ hx193_1)).trans hx193_1
                            replace hx193_2 := (HB.out.cell (World.block_lt_of_cell? w _ hx193_2)).trans hx193_2
                            replace p193 := eq_true p193
                            replace q193 := eq_true q193
                            go_wp2_with (first | ((with_reducible refine gate_dst (N := 7) rfl ?_); refine box_event ?hg (N := 7) ?hd (cs := #[.int .i64 0, .int .i64 0, .int .u64 0]) (t := 127) ?hr ?_; (case hd => rfl); (case hg => rfl); (case hr => first | (go_simp; done) | (go_simp; rfl)); intro gb194 hg w22 hbox hb; have n0_ := Aside0.mk (blk_below (g := gb192) (o := .cells #[.int .i64 a0_0, .slice (some ad193) l0_1.length c0_1, .slice A0_2 l0_2.length c0_2] 64 (0, 0)) (by (with_reducible repeat (first | refine blk_drewN ?_ _ | refine blk_drew ?_ | refine blk_alloc ?_ _)); exact BK192.out) hb); have n1_ := Aside0.mk (below_step (by repeat (first | (with_reducible first | exact HB.out | apply below_alloc | apply pw_below_drewN | apply below_drew1 | refine below_set ?_ GE192.out) | exact HB.out)) hb); have n2_ := Aside0.mk (hbox); have n3_ := Aside0.mk ((by rw [hg]; exact (below_size (by repeat (first | (with_reducible first | exact HB.out | apply below_alloc | apply pw_below_drewN | apply below_drew1 | refine below_set ?_ GE192.out) | exact HB.out))) : w.heap.size ≤ gb194)); have n4_ := Aside0.mk ((by rw [hg]; exact (below_size (by repeat (first | (with_reducible first | exact HB.out | apply below_alloc | apply pw_below_drewN | apply below_drew1 | refine below_set ?_ GE192.out) | exact HB.out))) : w.heap.size ≤ gb194)); have n5_ := Aside0.mk ((by rw [hg]; exact Nat.ne_of_lt (blk_lt (g := gb192) (o := .cells #[.int .i64 a0_0, .slice (some ad193) l0_1.length c0_1, .slice A0_2 l0_2.length c0_2] 64 (0, 0)) (by (with_reducible repeat (first | refine blk_drewN ?_ _ | refine blk_drew ?_ | refine blk_alloc ?_ _)); exact BK192.out)) : gb192 ≠ gb194)); have n6_ := Aside0.mk ((by rw [hg]; exact Nat.ne_of_gt (blk_lt (g := gb192) (o := .cells #[.int .i64 a0_0, .slice (some ad193) l0_1.length c0_1, .slice A0_2 l0_2.length c0_2] 64 (0, 0)) (by (with_reducible repeat (first | refine blk_drewN ?_ _ | refine blk_drew ?_ | refine blk_alloc ?_ _)); exact BK192.out)) : gb194 ≠ gb192)); clear BK192; clear HB; have BK192 := n0_; have HB := n1_; have BK194 := n2_; have GW194 := n3_; have GE194 := n4_; have NB192_194 := n5_; have NB194_192 := n6_; clear n0_ n1_ n2_ n3_ n4_ n5_ n6_; clear hb hbox hg; have hnb23 := NB194_192.out; have hnc23 := NB192_194.out; have hcz24_0 : w22.cell? ⟨gb194, 0, none⟩ = some (.int .i64 0) := (blk_cell BK194.out 0).trans rfl; have hcz24_1 : w22.cell? ⟨gb194, 1, none⟩ = some (.int .i64 0) := (blk_cell BK194.out 1).trans rfl; have hcz24_2 : w22.cell? ⟨gb194, 2, none⟩ = some (.int .u64 0) := (blk_cell BK194.out 2).trans rfl; have hfz24_0 := blk_frozen BK194.out 0; have hfz24_1 := blk_frozen BK194.out 1; have hfz24_2 := blk_frozen BK194.out 2; have p195 : 0 ≤ (((rd_T127 l0_1 x11_1).f1) : Int) := of_decide_eq_true (by first | (with_reducible assumption) | assumption); have q195 : ((rd_T127 l0_1 x11_1).f1) < (l1.length : Int) := of_decide_eq_true (by first | (with_reducible assumption) | assumption); obtain ⟨ad195, A195_0, c195_0, e195, hx195_0, hl195_0, hi195_0⟩ := at_L8 HR1.out ((rd_T127 l0_1 x11_1).f1) p195 q195; cases e195; have hn195_0 : ad195.block ≠ gb194 := Nat.ne_of_lt (Nat.lt_of_lt_of_le (by have := World.block_lt_of_cell? _ _ hx195_0; first | rwa [add_block] at this | exact this) GW194.out); have hn195_1 : ad195.block ≠ gb194 := Nat.ne_of_lt (Nat.lt_of_lt_of_le (by have := World.block_lt_of_cell? _ _ hx195_0; first | rwa [add_block] at this | exact this) GW194.out); have hn195_2 : ad195.block ≠ gb194 := Nat.ne_of_lt (Nat.lt_of_lt_of_le (by have := World.block_lt_of_cell? _ _ hx195_0; first | rwa [add_block] at this | exact this) GW194.out); replace hx195_0 := (HB.out.cell (World.block_lt_of_cell? w _ hx195_0)).trans hx195_0; have HR195_0 := Aside0.mk hi195_0; have HC195_0 := Aside0.mk hl195_0; clear hi195_0 hl195_0; replace hx195_0 := (cell_far (p := ⟨gb194, 0, none⟩) (by first | (rw [add_block]; exact hn195_0) | (show (Addr.add _ _).block ≠ _; rw [add_block]; exact hn195_0) | exact hn195_0) (.int .i64 ((rd_T127 l0_1 x11_1).f0))).trans hx195_0; replace hx195_0 := (cell_far (p := ⟨gb194, 1, none⟩) (by first | (rw [add_block]; exact hn195_1) | (show (Addr.add _ _).block ≠ _; rw [add_block]; exact hn195_1) | exact hn195_1) (.int .i64 ((rd_T127 l0_1 x11_1).f1))).trans hx195_0; replace hx195_0 := (cell_far (p := ⟨gb194, 2, none⟩) (by first | (rw [add_block]; exact hn195_2) | (show (Addr.add _ _).block ≠ _; rw [add_block]; exact hn195_2) | exact hn195_2) (.int .u64 ((rd_T127 l0_1 x11_1).f2))).trans hx195_0; (try have hy195_0 := fun (n_ : Nat) => (show (((((w22.drewN n_).setCell ⟨gb194, 0, none⟩ (.int .i64 ((rd_T127 l0_1 x11_1).f0))).setCell ⟨gb194, 1, none⟩ (.int .i64 ((rd_T127 l0_1 x11_1).f1))).setCell ⟨gb194, 2, none⟩ (.int .u64 ((rd_T127 l0_1 x11_1).f2)))).cell? _ = some _ from hx195_0)); clear hn195_0; clear hn195_1; clear hn195_2; replace p195 := eq_true p195; replace q195 := eq_true q195; have p196 : 0 ≤ (((rd_T127 l0_1 x11_1).f0) : Int) := of_decide_eq_true (by first | (with_reducible assumption) | assumption); have q196 : ((rd_T127 l0_1 x11_1).f0) < ((rd_L8 l1 ((rd_T127 l0_1 x11_1).f1)).length : Int) := of_decide_eq_true (by first | (with_reducible assumption) | assumption); obtain ⟨ad196, e196, hx196_0⟩ := Kd.at_int HR195_0.out ((rd_T127 l0_1 x11_1).f0) p196 q196; cases e196; have hn196_0 : ad196.block ≠ gb194 := Nat.ne_of_lt (Nat.lt_of_lt_of_le (by have := World.block_lt_of_cell? _ _ hx196_0; first | rwa [add_block] at this | exact this) GW194.out); have hn196_1 : ad196.block ≠ gb194 := Nat.ne_of_lt (Nat.lt_of_lt_of_le (by have := World.block_lt_of_cell? _ _ hx196_0; first | rwa [add_block] at this | exact this) GW194.out); have hn196_2 : ad196.block ≠ gb194 := Nat.ne_of_lt (Nat.lt_of_lt_of_le (by have := World.block_lt_of_cell? _ _ hx196_0; first | rwa [add_block] at this | exact this) GW194.out); replace hx196_0 := (HB.out.cell (World.block_lt_of_cell? w _ hx196_0)).trans hx196_0; replace hx196_0 := (cell_far (p := ⟨gb194, 0, none⟩) (by first | (rw [add_block]; exact hn196_0) | (show (Addr.add _ _).block ≠ _; rw [add_block]; exact hn196_0) | exact hn196_0) (.int .i64 ((rd_T127 l0_1 x11_1).f0))).trans hx196_0; replace hx196_0 := (cell_far (p := ⟨gb194, 1, none⟩) (by first | (rw [add_block]; exact hn196_1) | (show (Addr.add _ _).block ≠ _; rw [add_block]; exact hn196_1) | exact hn196_1) (.int .i64 ((rd_T127 l0_1 x11_1).f1))).trans hx196_0; replace hx196_0 := (cell_far (p := ⟨gb194, 2, none⟩) (by first | (rw [add_block]; exact hn196_2) | (show (Addr.add _ _).block ≠ _; rw [add_block]; exact hn196_2) | exact hn196_2) (.int .u64 ((rd_T127 l0_1 x11_1).f2))).trans hx196_0; (try have hy196_0 := fun (n_ : Nat) => (show (((((w22.drewN n_).setCell ⟨gb194, 0, none⟩ (.int .i64 ((rd_T127 l0_1 x11_1).f0))).setCell ⟨gb194, 1, none⟩ (.int .i64 ((rd_T127 l0_1 x11_1).f1))).setCell ⟨gb194, 2, none⟩ (.int .u64 ((rd_T127 l0_1 x11_1).f2)))).cell? _ = some _ from hx196_0)); clear hn196_0; clear hn196_1; clear hn196_2; replace p196 := eq_true p196; replace q196 := eq_true q196))
                            repeat (go_quiet (first | ((with_reducible refine gate_dst (N := 7) rfl ?_); refine box_event ?hg (N := 7) ?hd (cs := #[.int .i64 0, .int .i64 0, .int .u64 0]) (t := 127) ?hr ?_; (case hd => rfl); (case hg => rfl); (case hr => first | (go_simp; done) | (go_simp; rfl)); intro gb194 hg w22 hbox hb; have n0_ := Aside0.mk (blk_below (g := gb192) (o := .cells #[.int .i64 a0_0, .slice (some ad193) l0_1.length c0_1, .slice A0_2 l0_2.length c0_2] 64 (0, 0)) (by (with_reducible repeat (first | refine blk_drewN ?_ _ | refine blk_drew ?_ | refine blk_alloc ?_ _)); exact BK192.out) hb); have n1_ := Aside0.mk (below_step (by repeat (first | (with_reducible first | exact HB.out | apply below_alloc | apply pw_below_drewN | apply below_drew1 | refine below_set ?_ GE192.out) | exact HB.out)) hb); have n2_ := Aside0.mk (hbox); have n3_ := Aside0.mk ((by rw [hg]; exact (below_size (by repeat (first | (with_reducible first | exact HB.out | apply below_alloc | apply pw_below_drewN | apply below_drew1 | refine below_set ?_ GE192.out) | exact HB.out))) : w.heap.size ≤ gb194)); have n4_ := Aside0.mk ((by rw [hg]; exact (below_size (by repeat (first | (with_reducible first | exact HB.out | apply below_alloc | apply pw_below_drewN | apply below_drew1 | refine below_set ?_ GE192.out) | exact HB.out))) : w.heap.size ≤ gb194)); have n5_ := Aside0.mk ((by rw [hg]; exact Nat.ne_of_lt (blk_lt (g := gb192) (o := .cells #[.int .i64 a0_0, .slice (some ad193) l0_1.length c0_1, .slice A0_2 l0_2.length c0_2] 64 (0, 0)) (by (with_reducible repeat (first | refine blk_drewN ?_ _ | refine blk_drew ?_ | refine blk_alloc ?_ _)); exact BK192.out)) : gb192 ≠ gb194)); have n6_ := Aside0.mk ((by rw [hg]; exact Nat.ne_of_gt (blk_lt (g := gb192) (o := .cells #[.int .i64 a0_0, .slice (some ad193) l0_1.length c0_1, .slice A0_2 l0_2.length c0_2] 64 (0, 0)) (by (with_reducible repeat (first | refine blk_drewN ?_ _ | refine blk_drew ?_ | refine blk_alloc ?_ _)); exact BK192.out)) : gb194 ≠ gb192)); clear BK192; clear HB; have BK192 := n0_; have HB := n1_; have BK194 := n2_; have GW194 := n3_; have GE194 := n4_; have NB192_194 := n5_; have NB194_192 := n6_; clear n0_ n1_ n2_ n3_ n4_ n5_ n6_; clear hb hbox hg; have hnb23 := NB194_192.out; have hnc23 := NB192_194.out; have hcz24_0 : w22.cell? ⟨gb194, 0, none⟩ = some (.int .i64 0) := (blk_cell BK194.out 0).trans rfl; have hcz24_1 : w22.cell? ⟨gb194, 1, none⟩ = some (.int .i64 0) := (blk_cell BK194.out 1).trans rfl; have hcz24_2 : w22.cell? ⟨gb194, 2, none⟩ = some (.int .u64 0) := (blk_cell BK194.out 2).trans rfl; have hfz24_0 := blk_frozen BK194.out 0; have hfz24_1 := blk_frozen BK194.out 1; have hfz24_2 := blk_frozen BK194.out 2; have p195 : 0 ≤ (((rd_T127 l0_1 x11_1).f1) : Int) := of_decide_eq_true (by first | (with_reducible assumption) | assumption); have q195 : ((rd_T127 l0_1 x11_1).f1) < (l1.length : Int) := of_decide_eq_true (by first | (with_reducible assumption) | assumption); obtain ⟨ad195, A195_0, c195_0, e195, hx195_0, hl195_0, hi195_0⟩ := at_L8 HR1.out ((rd_T127 l0_1 x11_1).f1) p195 q195; cases e195; have hn195_0 : ad195.block ≠ gb194 := Nat.ne_of_lt (Nat.lt_of_lt_of_le (by have := World.block_lt_of_cell? _ _ hx195_0; first | rwa [add_block] at this | exact this) GW194.out); have hn195_1 : ad195.block ≠ gb194 := Nat.ne_of_lt (Nat.lt_of_lt_of_le (by have := World.block_lt_of_cell? _ _ hx195_0; first | rwa [add_block] at this | exact this) GW194.out); have hn195_2 : ad195.block ≠ gb194 := Nat.ne_of_lt (Nat.lt_of_lt_of_le (by have := World.block_lt_of_cell? _ _ hx195_0; first | rwa [add_block] at this | exact this) GW194.out); replace hx195_0 := (HB.out.cell (World.block_lt_of_cell? w _ hx195_0)).trans hx195_0; have HR195_0 := Aside0.mk hi195_0; have HC195_0 := Aside0.mk hl195_0; clear hi195_0 hl195_0; replace hx195_0 := (cell_far (p := ⟨gb194, 0, none⟩) (by first | (rw [add_block]; exact hn195_0) | (show (Addr.add _ _).block ≠ _; rw [add_block]; exact hn195_0) | exact hn195_0) (.int .i64 ((rd_T127 l0_1 x11_1).f0))).trans hx195_0; replace hx195_0 := (cell_far (p := ⟨gb194, 1, none⟩) (by first | (rw [add_block]; exact hn195_1) | (show (Addr.add _ _).block ≠ _; rw [add_block]; exact hn195_1) | exact hn195_1) (.int .i64 ((rd_T127 l0_1 x11_1).f1))).trans hx195_0; replace hx195_0 := (cell_far (p := ⟨gb194, 2, none⟩) (by first | (rw [add_block]; exact hn195_2) | (show (Addr.add _ _).block ≠ _; rw [add_block]; exact hn195_2) | exact hn195_2) (.int .u64 ((rd_T127 l0_1 x11_1).f2))).trans hx195_0; (try have hy195_0 := fun (n_ : Nat) => (show (((((w22.drewN n_).setCell ⟨gb194, 0, none⟩ (.int .i64 ((rd_T127 l0_1 x11_1).f0))).setCell ⟨gb194, 1, none⟩ (.int .i64 ((rd_T127 l0_1 x11_1).f1))).setCell ⟨gb194, 2, none⟩ (.int .u64 ((rd_T127 l0_1 x11_1).f2)))).cell? _ = some _ from hx195_0)); clear hn195_0; clear hn195_1; clear hn195_2; replace p195 := eq_true p195; replace q195 := eq_true q195; have p196 : 0 ≤ (((rd_T127 l0_1 x11_1).f0) : Int) := of_decide_eq_true (by first | (with_reducible assumption) | assumption); have q196 : ((rd_T127 l0_1 x11_1).f0) < ((rd_L8 l1 ((rd_T127 l0_1 x11_1).f1)).length : Int) := of_decide_eq_true (by first | (with_reducible assumption) | assumption); obtain ⟨ad196, e196, hx196_0⟩ := Kd.at_int HR195_0.out ((rd_T127 l0_1 x11_1).f0) p196 q196; cases e196; have hn196_0 : ad196.block ≠ gb194 := Nat.ne_of_lt (Nat.lt_of_lt_of_le (by have := World.block_lt_of_cell? _ _ hx196_0; first | rwa [add_block] at this | exact this) GW194.out); have hn196_1 : ad196.block ≠ gb194 := Nat.ne_of_lt (Nat.lt_of_lt_of_le (by have := World.block_lt_of_cell? _ _ hx196_0; first | rwa [add_block] at this | exact this) GW194.out); have hn196_2 : ad196.block ≠ gb194 := Nat.ne_of_lt (Nat.lt_of_lt_of_le (by have := World.block_lt_of_cell? _ _ hx196_0; first | rwa [add_block] at this | exact this) GW194.out); replace hx196_0 := (HB.out.cell (World.block_lt_of_cell? w _ hx196_0)).trans hx196_0; replace hx196_0 := (cell_far (p := ⟨gb194, 0, none⟩) (by first | (rw [add_block]; exact hn196_0) | (show (Addr.add _ _).block ≠ _; rw [add_block]; exact hn196_0) | exact hn196_0) (.int .i64 ((rd_T127 l0_1 x11_1).f0))).trans hx196_0; replace hx196_0 := (cell_far (p := ⟨gb194, 1, none⟩) (by first | (rw [add_block]; exact hn196_1) | (show (Addr.add _ _).block ≠ _; rw [add_block]; exact hn196_1) | exact hn196_1) (.int .i64 ((rd_T127 l0_1 x11_1).f1))).trans hx196_0; replace hx196_0 := (cell_far (p := ⟨gb194, 2, none⟩) (by first | (rw [add_block]; exact hn196_2) | (show (Addr.add _ _).block ≠ _; rw [add_block]; exact hn196_2) | exact hn196_2) (.int .u64 ((rd_T127 l0_1 x11_1).f2))).trans hx196_0; (try have hy196_0 := fun (n_ : Nat) => (show (((((w22.drewN n_).setCell ⟨gb194, 0, none⟩ (.int .i64 ((rd_T127 l0_1 x11_1).f0))).setCell ⟨gb194, 1, none⟩ (.int .i64 ((rd_T127 l0_1 x11_1).f1))).setCell ⟨gb194, 2, none⟩ (.int .u64 ((rd_T127 l0_1 x11_1).f2)))).cell? _ = some _ from hx196_0)); clear hn196_0; clear hn196_1; clear hn196_2; replace p196 := eq_true p196; replace q196 := eq_true q196)); try go_wp2_with (first | ((with_reducible refine gate_dst (N := 7) rfl ?_); refine box_event ?hg (N := 7) ?hd (cs := #[.int .i64 0, .int .i64 0, .int .u64 0]) (t := 127) ?hr ?_; (case hd => rfl); (case hg => rfl); (case hr => first | (go_simp; done) | (go_simp; rfl)); intro gb194 hg w22 hbox hb; have n0_ := Aside0.mk (blk_below (g := gb192) (o := .cells #[.int .i64 a0_0, .slice (some ad193) l0_1.length c0_1, .slice A0_2 l0_2.length c0_2] 64 (0, 0)) (by (with_reducible repeat (first | refine blk_drewN ?_ _ | refine blk_drew ?_ | refine blk_alloc ?_ _)); exact BK192.out) hb); have n1_ := Aside0.mk (below_step (by repeat (first | (with_reducible first | exact HB.out | apply below_alloc | apply pw_below_drewN | apply below_drew1 | refine below_set ?_ GE192.out) | exact HB.out)) hb); have n2_ := Aside0.mk (hbox); have n3_ := Aside0.mk ((by rw [hg]; exact (below_size (by repeat (first | (with_reducible first | exact HB.out | apply below_alloc | apply pw_below_drewN | apply below_drew1 | refine below_set ?_ GE192.out) | exact HB.out))) : w.heap.size ≤ gb194)); have n4_ := Aside0.mk ((by rw [hg]; exact (below_size (by repeat (first | (with_reducible first | exact HB.out | apply below_alloc | apply pw_below_drewN | apply below_drew1 | refine below_set ?_ GE192.out) | exact HB.out))) : w.heap.size ≤ gb194)); have n5_ := Aside0.mk ((by rw [hg]; exact Nat.ne_of_lt (blk_lt (g := gb192) (o := .cells #[.int .i64 a0_0, .slice (some ad193) l0_1.length c0_1, .slice A0_2 l0_2.length c0_2] 64 (0, 0)) (by (with_reducible repeat (first | refine blk_drewN ?_ _ | refine blk_drew ?_ | refine blk_alloc ?_ _)); exact BK192.out)) : gb192 ≠ gb194)); have n6_ := Aside0.mk ((by rw [hg]; exact Nat.ne_of_gt (blk_lt (g := gb192) (o := .cells #[.int .i64 a0_0, .slice (some ad193) l0_1.length c0_1, .slice A0_2 l0_2.length c0_2] 64 (0, 0)) (by (with_reducible repeat (first | refine blk_drewN ?_ _ | refine blk_drew ?_ | refine blk_alloc ?_ _)); exact BK192.out)) : gb194 ≠ gb192)); clear BK192; clear HB; have BK192 := n0_; have HB := n1_; have BK194 := n2_; have GW194 := n3_; have GE194 := n4_; have NB192_194 := n5_; have NB194_192 := n6_; clear n0_ n1_ n2_ n3_ n4_ n5_ n6_; clear hb hbox hg; have hnb23 := NB194_192.out; have hnc23 := NB192_194.out; have hcz24_0 : w22.cell? ⟨gb194, 0, none⟩ = some (.int .i64 0) := (blk_cell BK194.out 0).trans rfl; have hcz24_1 : w22.cell? ⟨gb194, 1, none⟩ = some (.int .i64 0) := (blk_cell BK194.out 1).trans rfl; have hcz24_2 : w22.cell? ⟨gb194, 2, none⟩ = some (.int .u64 0) := (blk_cell BK194.out 2).trans rfl; have hfz24_0 := blk_frozen BK194.out 0; have hfz24_1 := blk_frozen BK194.out 1; have hfz24_2 := blk_frozen BK194.out 2; have p195 : 0 ≤ (((rd_T127 l0_1 x11_1).f1) : Int) := of_decide_eq_true (by first | (with_reducible assumption) | assumption); have q195 : ((rd_T127 l0_1 x11_1).f1) < (l1.length : Int) := of_decide_eq_true (by first | (with_reducible assumption) | assumption); obtain ⟨ad195, A195_0, c195_0, e195, hx195_0, hl195_0, hi195_0⟩ := at_L8 HR1.out ((rd_T127 l0_1 x11_1).f1) p195 q195; cases e195; have hn195_0 : ad195.block ≠ gb194 := Nat.ne_of_lt (Nat.lt_of_lt_of_le (by have := World.block_lt_of_cell? _ _ hx195_0; first | rwa [add_block] at this | exact this) GW194.out); have hn195_1 : ad195.block ≠ gb194 := Nat.ne_of_lt (Nat.lt_of_lt_of_le (by have := World.block_lt_of_cell? _ _ hx195_0; first | rwa [add_block] at this | exact this) GW194.out); have hn195_2 : ad195.block ≠ gb194 := Nat.ne_of_lt (Nat.lt_of_lt_of_le (by have := World.block_lt_of_cell? _ _ hx195_0; first | rwa [add_block] at this | exact this) GW194.out); replace hx195_0 := (HB.out.cell (World.block_lt_of_cell? w _ hx195_0)).trans hx195_0; have HR195_0 := Aside0.mk hi195_0; have HC195_0 := Aside0.mk hl195_0; clear hi195_0 hl195_0; replace hx195_0 := (cell_far (p := ⟨gb194, 0, none⟩) (by first | (rw [add_block]; exact hn195_0) | (show (Addr.add _ _).block ≠ _; rw [add_block]; exact hn195_0) | exact hn195_0) (.int .i64 ((rd_T127 l0_1 x11_1).f0))).trans hx195_0; replace hx195_0 := (cell_far (p := ⟨gb194, 1, none⟩) (by first | (rw [add_block]; exact hn195_1) | (show (Addr.add _ _).block ≠ _; rw [add_block]; exact hn195_1) | exact hn195_1) (.int .i64 ((rd_T127 l0_1 x11_1).f1))).trans hx195_0; replace hx195_0 := (cell_far (p := ⟨gb194, 2, none⟩) (by first | (rw [add_block]; exact hn195_2) | (show (Addr.add _ _).block ≠ _; rw [add_block]; exact hn195_2) | exact hn195_2) (.int .u64 ((rd_T127 l0_1 x11_1).f2))).trans hx195_0; (try have hy195_0 := fun (n_ : Nat) => (show (((((w22.drewN n_).setCell ⟨gb194, 0, none⟩ (.int .i64 ((rd_T127 l0_1 x11_1).f0))).setCell ⟨gb194, 1, none⟩ (.int .i64 ((rd_T127 l0_1 x11_1).f1))).setCell ⟨gb194, 2, none⟩ (.int .u64 ((rd_T127 l0_1 x11_1).f2)))).cell? _ = some _ from hx195_0)); clear hn195_0; clear hn195_1; clear hn195_2; replace p195 := eq_true p195; replace q195 := eq_true q195; have p196 : 0 ≤ (((rd_T127 l0_1 x11_1).f0) : Int) := of_decide_eq_true (by first | (with_reducible assumption) | assumption); have q196 : ((rd_T127 l0_1 x11_1).f0) < ((rd_L8 l1 ((rd_T127 l0_1 x11_1).f1)).length : Int) := of_decide_eq_true (by first | (with_reducible assumption) | assumption); obtain ⟨ad196, e196, hx196_0⟩ := Kd.at_int HR195_0.out ((rd_T127 l0_1 x11_1).f0) p196 q196; cases e196; have hn196_0 : ad196.block ≠ gb194 := Nat.ne_of_lt (Nat.lt_of_lt_of_le (by have := World.block_lt_of_cell? _ _ hx196_0; first | rwa [add_block] at this | exact this) GW194.out); have hn196_1 : ad196.block ≠ gb194 := Nat.ne_of_lt (Nat.lt_of_lt_of_le (by have := World.block_lt_of_cell? _ _ hx196_0; first | rwa [add_block] at this | exact this) GW194.out); have hn196_2 : ad196.block ≠ gb194 := Nat.ne_of_lt (Nat.lt_of_lt_of_le (by have := World.block_lt_of_cell? _ _ hx196_0; first | rwa [add_block] at this | exact this) GW194.out); replace hx196_0 := (HB.out.cell (World.block_lt_of_cell? w _ hx196_0)).trans hx196_0; replace hx196_0 := (cell_far (p := ⟨gb194, 0, none⟩) (by first | (rw [add_block]; exact hn196_0) | (show (Addr.add _ _).block ≠ _; rw [add_block]; exact hn196_0) | exact hn196_0) (.int .i64 ((rd_T127 l0_1 x11_1).f0))).trans hx196_0; replace hx196_0 := (cell_far (p := ⟨gb194, 1, none⟩) (by first | (rw [add_block]; exact hn196_1) | (show (Addr.add _ _).block ≠ _; rw [add_block]; exact hn196_1) | exact hn196_1) (.int .i64 ((rd_T127 l0_1 x11_1).f1))).trans hx196_0; replace hx196_0 := (cell_far (p := ⟨gb194, 2, none⟩) (by first | (rw [add_block]; exact hn196_2) | (show (Addr.add _ _).block ≠ _; rw [add_block]; exact hn196_2) | exact hn196_2) (.int .u64 ((rd_T127 l0_1 x11_1).f2))).trans hx196_0; (try have hy196_0 := fun (n_ : Nat) => (show (((((w22.drewN n_).setCell ⟨gb194, 0, none⟩ (.int .i64 ((rd_T127 l0_1 x11_1).f0))).setCell ⟨gb194, 1, none⟩ (.int .i64 ((rd_T127 l0_1 x11_1).f1))).setCell ⟨gb194, 2, none⟩ (.int .u64 ((rd_T127 l0_1 x11_1).f2)))).cell? _ = some _ from hx196_0)); clear hn196_0; clear hn196_1; clear hn196_2; replace p196 := eq_true p196; replace q196 := eq_true q196)))
                            go_roundg k1
                            case measure => have := HK1.out; omega
                            case rel => exact ⟨(x5_1), (wrap64 (x11_1 + 1)), (by first | rfl | (simp; done) | (simp [*]; done)), (by first | rfl | (simp; done) | (simp [*]; done)), H', ⟨by have := HK1.out; omega⟩, ⟨by (with_reducible repeat (first | refine blk_drewN ?_ _ | refine blk_drew ?_ | refine blk_alloc ?_ _)); refine blk_far ?_ NB192_194.out _; (with_reducible repeat (first | refine blk_drewN ?_ _ | refine blk_drew ?_ | refine blk_alloc ?_ _)); refine blk_far ?_ NB192_194.out _; (with_reducible repeat (first | refine blk_drewN ?_ _ | refine blk_drew ?_ | refine blk_alloc ?_ _)); refine blk_far ?_ NB192_194.out _; (with_reducible repeat (first | refine blk_drewN ?_ _ | refine blk_drew ?_ | refine blk_alloc ?_ _)); exact BK192.out⟩, ⟨by repeat (first | (with_reducible first | exact HB.out | apply below_alloc | apply pw_below_drewN | apply below_drew1 | refine below_set ?_ GE192.out | refine below_set ?_ GE194.out) | exact HB.out)⟩⟩
                      · rw [if_neg c13] at H
                        have c13b0 : ((rd (rd_L8 l1 ((rd_T127 l0_1 x11_1).f1)) ((rd_T127 l0_1 x11_1).f0)) == 0) = false := beq_eq_false_iff_ne.mpr c13
                        have c13b1 : ((rd (rd_L8 l1 ((rd_T127 l0_1 x11_1).f1)) ((rd_T127 l0_1 x11_1).f0)) != 0) = true := bne_iff_ne.mpr c13
                        have H' := Aside0.mk H
                        clear H
                        have p193 : 0 ≤ (x11_1 : Int) := of_decide_eq_true (by first | (with_reducible assumption) | assumption)
                        have q193 : x11_1 < (l0_1.length : Int) := of_decide_eq_true (by first | (with_reducible assumption) | assumption)
                        obtain ⟨ad193, e193, hx193_0, hx193_1, hx193_2⟩ := at_T127 HR0_1.out x11_1 p193 q193
                        cases e193
                        replace hx193_0 := (HB.out.cell (World.block_lt_of_cell? w _ hx193_0)).trans hx193_0
                        replace hx193_1 := (HB.out.cell (World.block_lt_of_cell? w _ hx193_1)).trans hx193_1
                        replace hx193_2 := (HB.out.cell (World.block_lt_of_cell? w _ hx193_2)).trans hx193_2
                        replace p193 := eq_true p193
                        replace q193 := eq_true q193
                        go_wp2_with (first | ((with_reducible refine gate_dst (N := 7) rfl ?_); refine box_event ?hg (N := 7) ?hd (cs := #[.int .i64 0, .int .i64 0, .int .u64 0]) (t := 127) ?hr ?_; (case hd => rfl); (case hg => rfl); (case hr => first | (go_simp; done) | (go_simp; rfl)); intro gb194 hg w25 hbox hb; have n0_ := Aside0.mk (blk_below (g := gb192) (o := .cells #[.int .i64 a0_0, .slice (some ad193) l0_1.length c0_1, .slice A0_2 l0_2.length c0_2] 64 (0, 0)) (by (with_reducible repeat (first | refine blk_drewN ?_ _ | refine blk_drew ?_ | refine blk_alloc ?_ _)); exact BK192.out) hb); have n1_ := Aside0.mk (below_step (by repeat (first | (with_reducible first | exact HB.out | apply below_alloc | apply pw_below_drewN | apply below_drew1 | refine below_set ?_ GE192.out) | exact HB.out)) hb); have n2_ := Aside0.mk (hbox); have n3_ := Aside0.mk ((by rw [hg]; exact (below_size (by repeat (first | (with_reducible first | exact HB.out | apply below_alloc | apply pw_below_drewN | apply below_drew1 | refine below_set ?_ GE192.out) | exact HB.out))) : w.heap.size ≤ gb194)); have n4_ := Aside0.mk ((by rw [hg]; exact (below_size (by repeat (first | (with_reducible first | exact HB.out | apply below_alloc | apply pw_below_drewN | apply below_drew1 | refine below_set ?_ GE192.out) | exact HB.out))) : w.heap.size ≤ gb194)); have n5_ := Aside0.mk ((by rw [hg]; exact Nat.ne_of_lt (blk_lt (g := gb192) (o := .cells #[.int .i64 a0_0, .slice (some ad193) l0_1.length c0_1, .slice A0_2 l0_2.length c0_2] 64 (0, 0)) (by (with_reducible repeat (first | refine blk_drewN ?_ _ | refine blk_drew ?_ | refine blk_alloc ?_ _)); exact BK192.out)) : gb192 ≠ gb194)); have n6_ := Aside0.mk ((by rw [hg]; exact Nat.ne_of_gt (blk_lt (g := gb192) (o := .cells #[.int .i64 a0_0, .slice (some ad193) l0_1.length c0_1, .slice A0_2 l0_2.length c0_2] 64 (0, 0)) (by (with_reducible repeat (first | refine blk_drewN ?_ _ | refine blk_drew ?_ | refine blk_alloc ?_ _)); exact BK192.out)) : gb194 ≠ gb192)); clear BK192; clear HB; have BK192 := n0_; have HB := n1_; have BK194 := n2_; have GW194 := n3_; have GE194 := n4_; have NB192_194 := n5_; have NB194_192 := n6_; clear n0_ n1_ n2_ n3_ n4_ n5_ n6_; clear hb hbox hg; have hnb26 := NB194_192.out; have hnc26 := NB192_194.out; have hcz27_0 : w25.cell? ⟨gb194, 0, none⟩ = some (.int .i64 0) := (blk_cell BK194.out 0).trans rfl; have hcz27_1 : w25.cell? ⟨gb194, 1, none⟩ = some (.int .i64 0) := (blk_cell BK194.out 1).trans rfl; have hcz27_2 : w25.cell? ⟨gb194, 2, none⟩ = some (.int .u64 0) := (blk_cell BK194.out 2).trans rfl; have hfz27_0 := blk_frozen BK194.out 0; have hfz27_1 := blk_frozen BK194.out 1; have hfz27_2 := blk_frozen BK194.out 2; have p195 : 0 ≤ (((rd_T127 l0_1 x11_1).f1) : Int) := of_decide_eq_true (by first | (with_reducible assumption) | assumption); have q195 : ((rd_T127 l0_1 x11_1).f1) < (l1.length : Int) := of_decide_eq_true (by first | (with_reducible assumption) | assumption); obtain ⟨ad195, A195_0, c195_0, e195, hx195_0, hl195_0, hi195_0⟩ := at_L8 HR1.out ((rd_T127 l0_1 x11_1).f1) p195 q195; cases e195; have hn195_0 : ad195.block ≠ gb194 := Nat.ne_of_lt (Nat.lt_of_lt_of_le (by have := World.block_lt_of_cell? _ _ hx195_0; first | rwa [add_block] at this | exact this) GW194.out); have hn195_1 : ad195.block ≠ gb194 := Nat.ne_of_lt (Nat.lt_of_lt_of_le (by have := World.block_lt_of_cell? _ _ hx195_0; first | rwa [add_block] at this | exact this) GW194.out); have hn195_2 : ad195.block ≠ gb194 := Nat.ne_of_lt (Nat.lt_of_lt_of_le (by have := World.block_lt_of_cell? _ _ hx195_0; first | rwa [add_block] at this | exact this) GW194.out); replace hx195_0 := (HB.out.cell (World.block_lt_of_cell? w _ hx195_0)).trans hx195_0; have HR195_0 := Aside0.mk hi195_0; have HC195_0 := Aside0.mk hl195_0; clear hi195_0 hl195_0; replace hx195_0 := (cell_far (p := ⟨gb194, 0, none⟩) (by first | (rw [add_block]; exact hn195_0) | (show (Addr.add _ _).block ≠ _; rw [add_block]; exact hn195_0) | exact hn195_0) (.int .i64 ((rd_T127 l0_1 x11_1).f0))).trans hx195_0; replace hx195_0 := (cell_far (p := ⟨gb194, 1, none⟩) (by first | (rw [add_block]; exact hn195_1) | (show (Addr.add _ _).block ≠ _; rw [add_block]; exact hn195_1) | exact hn195_1) (.int .i64 ((rd_T127 l0_1 x11_1).f1))).trans hx195_0; replace hx195_0 := (cell_far (p := ⟨gb194, 2, none⟩) (by first | (rw [add_block]; exact hn195_2) | (show (Addr.add _ _).block ≠ _; rw [add_block]; exact hn195_2) | exact hn195_2) (.int .u64 ((rd_T127 l0_1 x11_1).f2))).trans hx195_0; (try have hy195_0 := fun (n_ : Nat) => (show (((((w25.drewN n_).setCell ⟨gb194, 0, none⟩ (.int .i64 ((rd_T127 l0_1 x11_1).f0))).setCell ⟨gb194, 1, none⟩ (.int .i64 ((rd_T127 l0_1 x11_1).f1))).setCell ⟨gb194, 2, none⟩ (.int .u64 ((rd_T127 l0_1 x11_1).f2)))).cell? _ = some _ from hx195_0)); clear hn195_0; clear hn195_1; clear hn195_2; replace p195 := eq_true p195; replace q195 := eq_true q195; have p196 : 0 ≤ (((rd_T127 l0_1 x11_1).f0) : Int) := of_decide_eq_true (by first | (with_reducible assumption) | assumption); have q196 : ((rd_T127 l0_1 x11_1).f0) < ((rd_L8 l1 ((rd_T127 l0_1 x11_1).f1)).length : Int) := of_decide_eq_true (by first | (with_reducible assumption) | assumption); obtain ⟨ad196, e196, hx196_0⟩ := Kd.at_int HR195_0.out ((rd_T127 l0_1 x11_1).f0) p196 q196; cases e196; have hn196_0 : ad196.block ≠ gb194 := Nat.ne_of_lt (Nat.lt_of_lt_of_le (by have := World.block_lt_of_cell? _ _ hx196_0; first | rwa [add_block] at this | exact this) GW194.out); have hn196_1 : ad196.block ≠ gb194 := Nat.ne_of_lt (Nat.lt_of_lt_of_le (by have := World.block_lt_of_cell? _ _ hx196_0; first | rwa [add_block] at this | exact this) GW194.out); have hn196_2 : ad196.block ≠ gb194 := Nat.ne_of_lt (Nat.lt_of_lt_of_le (by have := World.block_lt_of_cell? _ _ hx196_0; first | rwa [add_block] at this | exact this) GW194.out); replace hx196_0 := (HB.out.cell (World.block_lt_of_cell? w _ hx196_0)).trans hx196_0; replace hx196_0 := (cell_far (p := ⟨gb194, 0, none⟩) (by first | (rw [add_block]; exact hn196_0) | (show (Addr.add _ _).block ≠ _; rw [add_block]; exact hn196_0) | exact hn196_0) (.int .i64 ((rd_T127 l0_1 x11_1).f0))).trans hx196_0; replace hx196_0 := (cell_far (p := ⟨gb194, 1, none⟩) (by first | (rw [add_block]; exact hn196_1) | (show (Addr.add _ _).block ≠ _; rw [add_block]; exact hn196_1) | exact hn196_1) (.int .i64 ((rd_T127 l0_1 x11_1).f1))).trans hx196_0; replace hx196_0 := (cell_far (p := ⟨gb194, 2, none⟩) (by first | (rw [add_block]; exact hn196_2) | (show (Addr.add _ _).block ≠ _; rw [add_block]; exact hn196_2) | exact hn196_2) (.int .u64 ((rd_T127 l0_1 x11_1).f2))).trans hx196_0; (try have hy196_0 := fun (n_ : Nat) => (show (((((w25.drewN n_).setCell ⟨gb194, 0, none⟩ (.int .i64 ((rd_T127 l0_1 x11_1).f0))).setCell ⟨gb194, 1, none⟩ (.int .i64 ((rd_T127 l0_1 x11_1).f1))).setCell ⟨gb194, 2, none⟩ (.int .u64 ((rd_T127 l0_1 x11_1).f2)))).cell? _ = some _ from hx196_0)); clear hn196_0; clear hn196_1; clear hn196_2; replace p196 := eq_true p196; replace q196 := eq_true q196))
                        repeat (go_quiet (first | ((with_reducible refine gate_dst (N := 7) rfl ?_); refine box_event ?hg (N := 7) ?hd (cs := #[.int .i64 0, .int .i64 0, .int .u64 0]) (t := 127) ?hr ?_; (case hd => rfl); (case hg => rfl); (case hr => first | (go_simp; done) | (go_simp; rfl)); intro gb194 hg w25 hbox hb; have n0_ := Aside0.mk (blk_below (g := gb192) (o := .cells #[.int .i64 a0_0, .slice (some ad193) l0_1.length c0_1, .slice A0_2 l0_2.length c0_2] 64 (0, 0)) (by (with_reducible repeat (first | refine blk_drewN ?_ _ | refine blk_drew ?_ | refine blk_alloc ?_ _)); exact BK192.out) hb); have n1_ := Aside0.mk (below_step (by repeat (first | (with_reducible first | exact HB.out | apply below_alloc | apply pw_below_drewN | apply below_drew1 | refine below_set ?_ GE192.out) | exact HB.out)) hb); have n2_ := Aside0.mk (hbox); have n3_ := Aside0.mk ((by rw [hg]; exact (below_size (by repeat (first | (with_reducible first | exact HB.out | apply below_alloc | apply pw_below_drewN | apply below_drew1 | refine below_set ?_ GE192.out) | exact HB.out))) : w.heap.size ≤ gb194)); have n4_ := Aside0.mk ((by rw [hg]; exact (below_size (by repeat (first | (with_reducible first | exact HB.out | apply below_alloc | apply pw_below_drewN | apply below_drew1 | refine below_set ?_ GE192.out) | exact HB.out))) : w.heap.size ≤ gb194)); have n5_ := Aside0.mk ((by rw [hg]; exact Nat.ne_of_lt (blk_lt (g := gb192) (o := .cells #[.int .i64 a0_0, .slice (some ad193) l0_1.length c0_1, .slice A0_2 l0_2.length c0_2] 64 (0, 0)) (by (with_reducible repeat (first | refine blk_drewN ?_ _ | refine blk_drew ?_ | refine blk_alloc ?_ _)); exact BK192.out)) : gb192 ≠ gb194)); have n6_ := Aside0.mk ((by rw [hg]; exact Nat.ne_of_gt (blk_lt (g := gb192) (o := .cells #[.int .i64 a0_0, .slice (some ad193) l0_1.length c0_1, .slice A0_2 l0_2.length c0_2] 64 (0, 0)) (by (with_reducible repeat (first | refine blk_drewN ?_ _ | refine blk_drew ?_ | refine blk_alloc ?_ _)); exact BK192.out)) : gb194 ≠ gb192)); clear BK192; clear HB; have BK192 := n0_; have HB := n1_; have BK194 := n2_; have GW194 := n3_; have GE194 := n4_; have NB192_194 := n5_; have NB194_192 := n6_; clear n0_ n1_ n2_ n3_ n4_ n5_ n6_; clear hb hbox hg; have hnb26 := NB194_192.out; have hnc26 := NB192_194.out; have hcz27_0 : w25.cell? ⟨gb194, 0, none⟩ = some (.int .i64 0) := (blk_cell BK194.out 0).trans rfl; have hcz27_1 : w25.cell? ⟨gb194, 1, none⟩ = some (.int .i64 0) := (blk_cell BK194.out 1).trans rfl; have hcz27_2 : w25.cell? ⟨gb194, 2, none⟩ = some (.int .u64 0) := (blk_cell BK194.out 2).trans rfl; have hfz27_0 := blk_frozen BK194.out 0; have hfz27_1 := blk_frozen BK194.out 1; have hfz27_2 := blk_frozen BK194.out 2; have p195 : 0 ≤ (((rd_T127 l0_1 x11_1).f1) : Int) := of_decide_eq_true (by first | (with_reducible assumption) | assumption); have q195 : ((rd_T127 l0_1 x11_1).f1) < (l1.length : Int) := of_decide_eq_true (by first | (with_reducible assumption) | assumption); obtain ⟨ad195, A195_0, c195_0, e195, hx195_0, hl195_0, hi195_0⟩ := at_L8 HR1.out ((rd_T127 l0_1 x11_1).f1) p195 q195; cases e195; have hn195_0 : ad195.block ≠ gb194 := Nat.ne_of_lt (Nat.lt_of_lt_of_le (by have := World.block_lt_of_cell? _ _ hx195_0; first | rwa [add_block] at this | exact this) GW194.out); have hn195_1 : ad195.block ≠ gb194 := Nat.ne_of_lt (Nat.lt_of_lt_of_le (by have := World.block_lt_of_cell? _ _ hx195_0; first | rwa [add_block] at this | exact this) GW194.out); have hn195_2 : ad195.block ≠ gb194 := Nat.ne_of_lt (Nat.lt_of_lt_of_le (by have := World.block_lt_of_cell? _ _ hx195_0; first | rwa [add_block] at this | exact this) GW194.out); replace hx195_0 := (HB.out.cell (World.block_lt_of_cell? w _ hx195_0)).trans hx195_0; have HR195_0 := Aside0.mk hi195_0; have HC195_0 := Aside0.mk hl195_0; clear hi195_0 hl195_0; replace hx195_0 := (cell_far (p := ⟨gb194, 0, none⟩) (by first | (rw [add_block]; exact hn195_0) | (show (Addr.add _ _).block ≠ _; rw [add_block]; exact hn195_0) | exact hn195_0) (.int .i64 ((rd_T127 l0_1 x11_1).f0))).trans hx195_0; replace hx195_0 := (cell_far (p := ⟨gb194, 1, none⟩) (by first | (rw [add_block]; exact hn195_1) | (show (Addr.add _ _).block ≠ _; rw [add_block]; exact hn195_1) | exact hn195_1) (.int .i64 ((rd_T127 l0_1 x11_1).f1))).trans hx195_0; replace hx195_0 := (cell_far (p := ⟨gb194, 2, none⟩) (by first | (rw [add_block]; exact hn195_2) | (show (Addr.add _ _).block ≠ _; rw [add_block]; exact hn195_2) | exact hn195_2) (.int .u64 ((rd_T127 l0_1 x11_1).f2))).trans hx195_0; (try have hy195_0 := fun (n_ : Nat) => (show (((((w25.drewN n_).setCell ⟨gb194, 0, none⟩ (.int .i64 ((rd_T127 l0_1 x11_1).f0))).setCell ⟨gb194, 1, none⟩ (.int .i64 ((rd_T127 l0_1 x11_1).f1))).setCell ⟨gb194, 2, none⟩ (.int .u64 ((rd_T127 l0_1 x11_1).f2)))).cell? _ = some _ from hx195_0)); clear hn195_0; clear hn195_1; clear hn195_2; replace p195 := eq_true p195; replace q195 := eq_true q195; have p196 : 0 ≤ (((rd_T127 l0_1 x11_1).f0) : Int) := of_decide_eq_true (by first | (with_reducible assumption) | assumption); have q196 : ((rd_T127 l0_1 x11_1).f0) < ((rd_L8 l1 ((rd_T127 l0_1 x11_1).f1)).length : Int) := of_decide_eq_true (by first | (with_reducible assumption) | assumption); obtain ⟨ad196, e196, hx196_0⟩ := Kd.at_int HR195_0.out ((rd_T127 l0_1 x11_1).f0) p196 q196; cases e196; have hn196_0 : ad196.block ≠ gb194 := Nat.ne_of_lt (Nat.lt_of_lt_of_le (by have := World.block_lt_of_cell? _ _ hx196_0; first | rwa [add_block] at this | exact this) GW194.out); have hn196_1 : ad196.block ≠ gb194 := Nat.ne_of_lt (Nat.lt_of_lt_of_le (by have := World.block_lt_of_cell? _ _ hx196_0; first | rwa [add_block] at this | exact this) GW194.out); have hn196_2 : ad196.block ≠ gb194 := Nat.ne_of_lt (Nat.lt_of_lt_of_le (by have := World.block_lt_of_cell? _ _ hx196_0; first | rwa [add_block] at this | exact this) GW194.out); replace hx196_0 := (HB.out.cell (World.block_lt_of_cell? w _ hx196_0)).trans hx196_0; replace hx196_0 := (cell_far (p := ⟨gb194, 0, none⟩) (by first | (rw [add_block]; exact hn196_0) | (show (Addr.add _ _).block ≠ _; rw [add_block]; exact hn196_0) | exact hn196_0) (.int .i64 ((rd_T127 l0_1 x11_1).f0))).trans hx196_0; replace hx196_0 := (cell_far (p := ⟨gb194, 1, none⟩) (by first | (rw [add_block]; exact hn196_1) | (show (Addr.add _ _).block ≠ _; rw [add_block]; exact hn196_1) | exact hn196_1) (.int .i64 ((rd_T127 l0_1 x11_1).f1))).trans hx196_0; replace hx196_0 := (cell_far (p := ⟨gb194, 2, none⟩) (by first | (rw [add_block]; exact hn196_2) | (show (Addr.add _ _).block ≠ _; rw [add_block]; exact hn196_2) | exact hn196_2) (.int .u64 ((rd_T127 l0_1 x11_1).f2))).trans hx196_0; (try have hy196_0 := fun (n_ : Nat) => (show (((((w25.drewN n_).setCell ⟨gb194, 0, none⟩ (.int .i64 ((rd_T127 l0_1 x11_1).f0))).setCell ⟨gb194, 1, none⟩ (.int .i64 ((rd_T127 l0_1 x11_1).f1))).setCell ⟨gb194, 2, none⟩ (.int .u64 ((rd_T127 l0_1 x11_1).f2)))).cell? _ = some _ from hx196_0)); clear hn196_0; clear hn196_1; clear hn196_2; replace p196 := eq_true p196; replace q196 := eq_true q196)); try go_wp2_with (first | ((with_reducible refine gate_dst (N := 7) rfl ?_); refine box_event ?hg (N := 7) ?hd (cs := #[.int .i64 0, .int .i64 0, .int .u64 0]) (t := 127) ?hr ?_; (case hd => rfl); (case hg => rfl); (case hr => first | (go_simp; done) | (go_simp; rfl)); intro gb194 hg w25 hbox hb; have n0_ := Aside0.mk (blk_below (g := gb192) (o := .cells #[.int .i64 a0_0, .slice (some ad193) l0_1.length c0_1, .slice A0_2 l0_2.length c0_2] 64 (0, 0)) (by (with_reducible repeat (first | refine blk_drewN ?_ _ | refine blk_drew ?_ | refine blk_alloc ?_ _)); exact BK192.out) hb); have n1_ := Aside0.mk (below_step (by repeat (first | (with_reducible first | exact HB.out | apply below_alloc | apply pw_below_drewN | apply below_drew1 | refine below_set ?_ GE192.out) | exact HB.out)) hb); have n2_ := Aside0.mk (hbox); have n3_ := Aside0.mk ((by rw [hg]; exact (below_size (by repeat (first | (with_reducible first | exact HB.out | apply below_alloc | apply pw_below_drewN | apply below_drew1 | refine below_set ?_ GE192.out) | exact HB.out))) : w.heap.size ≤ gb194)); have n4_ := Aside0.mk ((by rw [hg]; exact (below_size (by repeat (first | (with_reducible first | exact HB.out | apply below_alloc | apply pw_below_drewN | apply below_drew1 | refine below_set ?_ GE192.out) | exact HB.out))) : w.heap.size ≤ gb194)); have n5_ := Aside0.mk ((by rw [hg]; exact Nat.ne_of_lt (blk_lt (g := gb192) (o := .cells #[.int .i64 a0_0, .slice (some ad193) l0_1.length c0_1, .slice A0_2 l0_2.length c0_2] 64 (0, 0)) (by (with_reducible repeat (first | refine blk_drewN ?_ _ | refine blk_drew ?_ | refine blk_alloc ?_ _)); exact BK192.out)) : gb192 ≠ gb194)); have n6_ := Aside0.mk ((by rw [hg]; exact Nat.ne_of_gt (blk_lt (g := gb192) (o := .cells #[.int .i64 a0_0, .slice (some ad193) l0_1.length c0_1, .slice A0_2 l0_2.length c0_2] 64 (0, 0)) (by (with_reducible repeat (first | refine blk_drewN ?_ _ | refine blk_drew ?_ | refine blk_alloc ?_ _)); exact BK192.out)) : gb194 ≠ gb192)); clear BK192; clear HB; have BK192 := n0_; have HB := n1_; have BK194 := n2_; have GW194 := n3_; have GE194 := n4_; have NB192_194 := n5_; have NB194_192 := n6_; clear n0_ n1_ n2_ n3_ n4_ n5_ n6_; clear hb hbox hg; have hnb26 := NB194_192.out; have hnc26 := NB192_194.out; have hcz27_0 : w25.cell? ⟨gb194, 0, none⟩ = some (.int .i64 0) := (blk_cell BK194.out 0).trans rfl; have hcz27_1 : w25.cell? ⟨gb194, 1, none⟩ = some (.int .i64 0) := (blk_cell BK194.out 1).trans rfl; have hcz27_2 : w25.cell? ⟨gb194, 2, none⟩ = some (.int .u64 0) := (blk_cell BK194.out 2).trans rfl; have hfz27_0 := blk_frozen BK194.out 0; have hfz27_1 := blk_frozen BK194.out 1; have hfz27_2 := blk_frozen BK194.out 2; have p195 : 0 ≤ (((rd_T127 l0_1 x11_1).f1) : Int) := of_decide_eq_true (by first | (with_reducible assumption) | assumption); have q195 : ((rd_T127 l0_1 x11_1).f1) < (l1.length : Int) := of_decide_eq_true (by first | (with_reducible assumption) | assumption); obtain ⟨ad195, A195_0, c195_0, e195, hx195_0, hl195_0, hi195_0⟩ := at_L8 HR1.out ((rd_T127 l0_1 x11_1).f1) p195 q195; cases e195; have hn195_0 : ad195.block ≠ gb194 := Nat.ne_of_lt (Nat.lt_of_lt_of_le (by have := World.block_lt_of_cell? _ _ hx195_0; first | rwa [add_block] at this | exact this) GW194.out); have hn195_1 : ad195.block ≠ gb194 := Nat.ne_of_lt (Nat.lt_of_lt_of_le (by have := World.block_lt_of_cell? _ _ hx195_0; first | rwa [add_block] at this | exact this) GW194.out); have hn195_2 : ad195.block ≠ gb194 := Nat.ne_of_lt (Nat.lt_of_lt_of_le (by have := World.block_lt_of_cell? _ _ hx195_0; first | rwa [add_block] at this | exact this) GW194.out); replace hx195_0 := (HB.out.cell (World.block_lt_of_cell? w _ hx195_0)).trans hx195_0; have HR195_0 := Aside0.mk hi195_0; have HC195_0 := Aside0.mk hl195_0; clear hi195_0 hl195_0; replace hx195_0 := (cell_far (p := ⟨gb194, 0, none⟩) (by first | (rw [add_block]; exact hn195_0) | (show (Addr.add _ _).block ≠ _; rw [add_block]; exact hn195_0) | exact hn195_0) (.int .i64 ((rd_T127 l0_1 x11_1).f0))).trans hx195_0; replace hx195_0 := (cell_far (p := ⟨gb194, 1, none⟩) (by first | (rw [add_block]; exact hn195_1) | (show (Addr.add _ _).block ≠ _; rw [add_block]; exact hn195_1) | exact hn195_1) (.int .i64 ((rd_T127 l0_1 x11_1).f1))).trans hx195_0; replace hx195_0 := (cell_far (p := ⟨gb194, 2, none⟩) (by first | (rw [add_block]; exact hn195_2) | (show (Addr.add _ _).block ≠ _; rw [add_block]; exact hn195_2) | exact hn195_2) (.int .u64 ((rd_T127 l0_1 x11_1).f2))).trans hx195_0; (try have hy195_0 := fun (n_ : Nat) => (show (((((w25.drewN n_).setCell ⟨gb194, 0, none⟩ (.int .i64 ((rd_T127 l0_1 x11_1).f0))).setCell ⟨gb194, 1, none⟩ (.int .i64 ((rd_T127 l0_1 x11_1).f1))).setCell ⟨gb194, 2, none⟩ (.int .u64 ((rd_T127 l0_1 x11_1).f2)))).cell? _ = some _ from hx195_0)); clear hn195_0; clear hn195_1; clear hn195_2; replace p195 := eq_true p195; replace q195 := eq_true q195; have p196 : 0 ≤ (((rd_T127 l0_1 x11_1).f0) : Int) := of_decide_eq_true (by first | (with_reducible assumption) | assumption); have q196 : ((rd_T127 l0_1 x11_1).f0) < ((rd_L8 l1 ((rd_T127 l0_1 x11_1).f1)).length : Int) := of_decide_eq_true (by first | (with_reducible assumption) | assumption); obtain ⟨ad196, e196, hx196_0⟩ := Kd.at_int HR195_0.out ((rd_T127 l0_1 x11_1).f0) p196 q196; cases e196; have hn196_0 : ad196.block ≠ gb194 := Nat.ne_of_lt (Nat.lt_of_lt_of_le (by have := World.block_lt_of_cell? _ _ hx196_0; first | rwa [add_block] at this | exact this) GW194.out); have hn196_1 : ad196.block ≠ gb194 := Nat.ne_of_lt (Nat.lt_of_lt_of_le (by have := World.block_lt_of_cell? _ _ hx196_0; first | rwa [add_block] at this | exact this) GW194.out); have hn196_2 : ad196.block ≠ gb194 := Nat.ne_of_lt (Nat.lt_of_lt_of_le (by have := World.block_lt_of_cell? _ _ hx196_0; first | rwa [add_block] at this | exact this) GW194.out); replace hx196_0 := (HB.out.cell (World.block_lt_of_cell? w _ hx196_0)).trans hx196_0; replace hx196_0 := (cell_far (p := ⟨gb194, 0, none⟩) (by first | (rw [add_block]; exact hn196_0) | (show (Addr.add _ _).block ≠ _; rw [add_block]; exact hn196_0) | exact hn196_0) (.int .i64 ((rd_T127 l0_1 x11_1).f0))).trans hx196_0; replace hx196_0 := (cell_far (p := ⟨gb194, 1, none⟩) (by first | (rw [add_block]; exact hn196_1) | (show (Addr.add _ _).block ≠ _; rw [add_block]; exact hn196_1) | exact hn196_1) (.int .i64 ((rd_T127 l0_1 x11_1).f1))).trans hx196_0; replace hx196_0 := (cell_far (p := ⟨gb194, 2, none⟩) (by first | (rw [add_block]; exact hn196_2) | (show (Addr.add _ _).block ≠ _; rw [add_block]; exact hn196_2) | exact hn196_2) (.int .u64 ((rd_T127 l0_1 x11_1).f2))).trans hx196_0; (try have hy196_0 := fun (n_ : Nat) => (show (((((w25.drewN n_).setCell ⟨gb194, 0, none⟩ (.int .i64 ((rd_T127 l0_1 x11_1).f0))).setCell ⟨gb194, 1, none⟩ (.int .i64 ((rd_T127 l0_1 x11_1).f1))).setCell ⟨gb194, 2, none⟩ (.int .u64 ((rd_T127 l0_1 x11_1).f2)))).cell? _ = some _ from hx196_0)); clear hn196_0; clear hn196_1; clear hn196_2; replace p196 := eq_true p196; replace q196 := eq_true q196)))
                        go_roundg k1
                        case measure => have := HK1.out; omega
                        case rel => exact ⟨(x5_1), (wrap64 (x11_1 + 1)), (by first | rfl | (simp; done) | (simp [*]; done)), (by first | rfl | (simp; done) | (simp [*]; done)), H', ⟨by have := HK1.out; omega⟩, ⟨by (with_reducible repeat (first | refine blk_drewN ?_ _ | refine blk_drew ?_ | refine blk_alloc ?_ _)); refine blk_far ?_ NB192_194.out _; (with_reducible repeat (first | refine blk_drewN ?_ _ | refine blk_drew ?_ | refine blk_alloc ?_ _)); refine blk_far ?_ NB192_194.out _; (with_reducible repeat (first | refine blk_drewN ?_ _ | refine blk_drew ?_ | refine blk_alloc ?_ _)); refine blk_far ?_ NB192_194.out _; (with_reducible repeat (first | refine blk_drewN ?_ _ | refine blk_drew ?_ | refine blk_alloc ?_ _)); exact BK192.out⟩, ⟨by repeat (first | (with_reducible first | exact HB.out | apply below_alloc | apply pw_below_drewN | apply below_drew1 | refine below_set ?_ GE192.out | refine below_set ?_ GE194.out) | exact HB.out)⟩⟩
                    · rw [if_neg c12] at H
                      exact absurd H (by simp)
                  · rw [if_neg c11] at H
                    exact absurd H (by simp)
                · rw [if_neg c10] at H
                  exact absurd H (by simp)
              · rw [if_neg c9] at H
                exact absurd H (by simp)
            · rw [if_neg c8] at H
              have c8b0 : (((rd_T127 l0_1 x11_1).f2) == 0) = false := beq_eq_false_iff_ne.mpr c8
              have c8b1 : (((rd_T127 l0_1 x11_1).f2) != 0) = true := bne_iff_ne.mpr c8
              have H' := Aside0.mk H
              clear H
              have p193 : 0 ≤ (x11_1 : Int) := of_decide_eq_true (by first | (with_reducible assumption) | assumption)
              have q193 : x11_1 < (l0_1.length : Int) := of_decide_eq_true (by first | (with_reducible assumption) | assumption)
              obtain ⟨ad193, e193, hx193_0, hx193_1, hx193_2⟩ := at_T127 HR0_1.out x11_1 p193 q193
              cases e193
              replace hx193_0 := (HB.out.cell (World.block_lt_of_cell? w _ hx193_0)).trans hx193_0
              replace hx193_1 := (HB.out.cell (World.block_lt_of_cell? w _ hx193_1)).trans hx193_1
              replace hx193_2 := (HB.out.cell (World.block_lt_of_cell? w _ hx193_2)).trans hx193_2
              replace p193 := eq_true p193
              replace q193 := eq_true q193
              go_wp2_with (first | ((with_reducible refine gate_dst (N := 7) rfl ?_); refine box_event ?hg (N := 7) ?hd (cs := #[.int .i64 0, .int .i64 0, .int .u64 0]) (t := 127) ?hr ?_; (case hd => rfl); (case hg => rfl); (case hr => first | (go_simp; done) | (go_simp; rfl)); intro gb194 hg w28 hbox hb; have n0_ := Aside0.mk (blk_below (g := gb192) (o := .cells #[.int .i64 a0_0, .slice (some ad193) l0_1.length c0_1, .slice A0_2 l0_2.length c0_2] 64 (0, 0)) (by (with_reducible repeat (first | refine blk_drewN ?_ _ | refine blk_drew ?_ | refine blk_alloc ?_ _)); exact BK192.out) hb); have n1_ := Aside0.mk (below_step (by repeat (first | (with_reducible first | exact HB.out | apply below_alloc | apply pw_below_drewN | apply below_drew1 | refine below_set ?_ GE192.out) | exact HB.out)) hb); have n2_ := Aside0.mk (hbox); have n3_ := Aside0.mk ((by rw [hg]; exact (below_size (by repeat (first | (with_reducible first | exact HB.out | apply below_alloc | apply pw_below_drewN | apply below_drew1 | refine below_set ?_ GE192.out) | exact HB.out))) : w.heap.size ≤ gb194)); have n4_ := Aside0.mk ((by rw [hg]; exact (below_size (by repeat (first | (with_reducible first | exact HB.out | apply below_alloc | apply pw_below_drewN | apply below_drew1 | refine below_set ?_ GE192.out) | exact HB.out))) : w.heap.size ≤ gb194)); have n5_ := Aside0.mk ((by rw [hg]; exact Nat.ne_of_lt (blk_lt (g := gb192) (o := .cells #[.int .i64 a0_0, .slice (some ad193) l0_1.length c0_1, .slice A0_2 l0_2.length c0_2] 64 (0, 0)) (by (with_reducible repeat (first | refine blk_drewN ?_ _ | refine blk_drew ?_ | refine blk_alloc ?_ _)); exact BK192.out)) : gb192 ≠ gb194)); have n6_ := Aside0.mk ((by rw [hg]; exact Nat.ne_of_gt (blk_lt (g := gb192) (o := .cells #[.int .i64 a0_0, .slice (some ad193) l0_1.length c0_1, .slice A0_2 l0_2.length c0_2] 64 (0, 0)) (by (with_reducible repeat (first | refine blk_drewN ?_ _ | refine blk_drew ?_ | refine blk_alloc ?_ _)); exact BK192.out)) : gb194 ≠ gb192)); clear BK192; clear HB; have BK192 := n0_; have HB := n1_; have BK194 := n2_; have GW194 := n3_; have GE194 := n4_; have NB192_194 := n5_; have NB194_192 := n6_; clear n0_ n1_ n2_ n3_ n4_ n5_ n6_; clear hb hbox hg; have hnb29 := NB194_192.out; have hnc29 := NB192_194.out; have hcz30_0 : w28.cell? ⟨gb194, 0, none⟩ = some (.int .i64 0) := (blk_cell BK194.out 0).trans rfl; have hcz30_1 : w28.cell? ⟨gb194, 1, none⟩ = some (.int .i64 0) := (blk_cell BK194.out 1).trans rfl; have hcz30_2 : w28.cell? ⟨gb194, 2, none⟩ = some (.int .u64 0) := (blk_cell BK194.out 2).trans rfl; have hfz30_0 := blk_frozen BK194.out 0; have hfz30_1 := blk_frozen BK194.out 1; have hfz30_2 := blk_frozen BK194.out 2))
              repeat (go_quiet (first | ((with_reducible refine gate_dst (N := 7) rfl ?_); refine box_event ?hg (N := 7) ?hd (cs := #[.int .i64 0, .int .i64 0, .int .u64 0]) (t := 127) ?hr ?_; (case hd => rfl); (case hg => rfl); (case hr => first | (go_simp; done) | (go_simp; rfl)); intro gb194 hg w28 hbox hb; have n0_ := Aside0.mk (blk_below (g := gb192) (o := .cells #[.int .i64 a0_0, .slice (some ad193) l0_1.length c0_1, .slice A0_2 l0_2.length c0_2] 64 (0, 0)) (by (with_reducible repeat (first | refine blk_drewN ?_ _ | refine blk_drew ?_ | refine blk_alloc ?_ _)); exact BK192.out) hb); have n1_ := Aside0.mk (below_step (by repeat (first | (with_reducible first | exact HB.out | apply below_alloc | apply pw_below_drewN | apply below_drew1 | refine below_set ?_ GE192.out) | exact HB.out)) hb); have n2_ := Aside0.mk (hbox); have n3_ := Aside0.mk ((by rw [hg]; exact (below_size (by repeat (first | (with_reducible first | exact HB.out | apply below_alloc | apply pw_below_drewN | apply below_drew1 | refine below_set ?_ GE192.out) | exact HB.out))) : w.heap.size ≤ gb194)); have n4_ := Aside0.mk ((by rw [hg]; exact (below_size (by repeat (first | (with_reducible first | exact HB.out | apply below_alloc | apply pw_below_drewN | apply below_drew1 | refine below_set ?_ GE192.out) | exact HB.out))) : w.heap.size ≤ gb194)); have n5_ := Aside0.mk ((by rw [hg]; exact Nat.ne_of_lt (blk_lt (g := gb192) (o := .cells #[.int .i64 a0_0, .slice (some ad193) l0_1.length c0_1, .slice A0_2 l0_2.length c0_2] 64 (0, 0)) (by (with_reducible repeat (first | refine blk_drewN ?_ _ | refine blk_drew ?_ | refine blk_alloc ?_ _)); exact BK192.out)) : gb192 ≠ gb194)); have n6_ := Aside0.mk ((by rw [hg]; exact Nat.ne_of_gt (blk_lt (g := gb192) (o := .cells #[.int .i64 a0_0, .slice (some ad193) l0_1.length c0_1, .slice A0_2 l0_2.length c0_2] 64 (0, 0)) (by (with_reducible repeat (first | refine blk_drewN ?_ _ | refine blk_drew ?_ | refine blk_alloc ?_ _)); exact BK192.out)) : gb194 ≠ gb192)); clear BK192; clear HB; have BK192 := n0_; have HB := n1_; have BK194 := n2_; have GW194 := n3_; have GE194 := n4_; have NB192_194 := n5_; have NB194_192 := n6_; clear n0_ n1_ n2_ n3_ n4_ n5_ n6_; clear hb hbox hg; have hnb29 := NB194_192.out; have hnc29 := NB192_194.out; have hcz30_0 : w28.cell? ⟨gb194, 0, none⟩ = some (.int .i64 0) := (blk_cell BK194.out 0).trans rfl; have hcz30_1 : w28.cell? ⟨gb194, 1, none⟩ = some (.int .i64 0) := (blk_cell BK194.out 1).trans rfl; have hcz30_2 : w28.cell? ⟨gb194, 2, none⟩ = some (.int .u64 0) := (blk_cell BK194.out 2).trans rfl; have hfz30_0 := blk_frozen BK194.out 0; have hfz30_1 := blk_frozen BK194.out 1; have hfz30_2 := blk_frozen BK194.out 2)); try go_wp2_with (first | ((with_reducible refine gate_dst (N := 7) rfl ?_); refine box_event ?hg (N := 7) ?hd (cs := #[.int .i64 0, .int .i64 0, .int .u64 0]) (t := 127) ?hr ?_; (case hd => rfl); (case hg => rfl); (case hr => first | (go_simp; done) | (go_simp; rfl)); intro gb194 hg w28 hbox hb; have n0_ := Aside0.mk (blk_below (g := gb192) (o := .cells #[.int .i64 a0_0, .slice (some ad193) l0_1.length c0_1, .slice A0_2 l0_2.length c0_2] 64 (0, 0)) (by (with_reducible repeat (first | refine blk_drewN ?_ _ | refine blk_drew ?_ | refine blk_alloc ?_ _)); exact BK192.out) hb); have n1_ := Aside0.mk (below_step (by repeat (first | (with_reducible first | exact HB.out | apply below_alloc | apply pw_below_drewN | apply below_drew1 | refine below_set ?_ GE192.out) | exact HB.out)) hb); have n2_ := Aside0.mk (hbox); have n3_ := Aside0.mk ((by rw [hg]; exact (below_size (by repeat (first | (with_reducible first | exact HB.out | apply below_alloc | apply pw_below_drewN | apply below_drew1 | refine below_set ?_ GE192.out) | exact HB.out))) : w.heap.size ≤ gb194)); have n4_ := Aside0.mk ((by rw [hg]; exact (below_size (by repeat (first | (with_reducible first | exact HB.out | apply below_alloc | apply pw_below_drewN | apply below_drew1 | refine below_set ?_ GE192.out) | exact HB.out))) : w.heap.size ≤ gb194)); have n5_ := Aside0.mk ((by rw [hg]; exact Nat.ne_of_lt (blk_lt (g := gb192) (o := .cells #[.int .i64 a0_0, .slice (some ad193) l0_1.length c0_1, .slice A0_2 l0_2.length c0_2] 64 (0, 0)) (by (with_reducible repeat (first | refine blk_drewN ?_ _ | refine blk_drew ?_ | refine blk_alloc ?_ _)); exact BK192.out)) : gb192 ≠ gb194)); have n6_ := Aside0.mk ((by rw [hg]; exact Nat.ne_of_gt (blk_lt (g := gb192) (o := .cells #[.int .i64 a0_0, .slice (some ad193) l0_1.length c0_1, .slice A0_2 l0_2.length c0_2] 64 (0, 0)) (by (with_reducible repeat (first | refine blk_drewN ?_ _ | refine blk_drew ?_ | refine blk_alloc ?_ _)); exact BK192.out)) : gb194 ≠ gb192)); clear BK192; clear HB; have BK192 := n0_; have HB := n1_; have BK194 := n2_; have GW194 := n3_; have GE194 := n4_; have NB192_194 := n5_; have NB194_192 := n6_; clear n0_ n1_ n2_ n3_ n4_ n5_ n6_; clear hb hbox hg; have hnb29 := NB194_192.out; have hnc29 := NB192_194.out; have hcz30_0 : w28.cell? ⟨gb194, 0, none⟩ = some (.int .i64 0) := (blk_cell BK194.out 0).trans rfl; have hcz30_1 : w28.cell? ⟨gb194, 1, none⟩ = some (.int .i64 0) := (blk_cell BK194.out 1).trans rfl; have hcz30_2 : w28.cell? ⟨gb194, 2, none⟩ = some (.int .u64 0) := (blk_cell BK194.out 2).trans rfl; have hfz30_0 := blk_frozen BK194.out 0; have hfz30_1 := blk_frozen BK194.out 1; have hfz30_2 := blk_frozen BK194.out 2)))
              go_roundg k1
              case measure => have := HK1.out; omega
              case rel => exact ⟨(x5_1), (wrap64 (x11_1 + 1)), (by first | rfl | (simp; done) | (simp [*]; done)), (by first | rfl | (simp; done) | (simp [*]; done)), H', ⟨by have := HK1.out; omega⟩, ⟨by (with_reducible repeat (first | refine blk_drewN ?_ _ | refine blk_drew ?_ | refine blk_alloc ?_ _)); refine blk_far ?_ NB192_194.out _; (with_reducible repeat (first | refine blk_drewN ?_ _ | refine blk_drew ?_ | refine blk_alloc ?_ _)); refine blk_far ?_ NB192_194.out _; (with_reducible repeat (first | refine blk_drewN ?_ _ | refine blk_drew ?_ | refine blk_alloc ?_ _)); refine blk_far ?_ NB192_194.out _; (with_reducible repeat (first | refine blk_drewN ?_ _ | refine blk_drew ?_ | refine blk_alloc ?_ _)); exact BK192.out⟩, ⟨by repeat (first | (with_reducible first | exact HB.out | apply below_alloc | apply pw_below_drewN | apply below_drew1 | refine below_set ?_ GE192.out | refine below_set ?_ GE194.out) | exact HB.out)⟩⟩
          · rw [if_neg c7] at H
            exact absurd H (by simp)
        · rw [if_neg c6] at H
          exact absurd H (by simp)
      · rw [if_neg c5] at H
        have c5b0 : decide (x11_1 < (l0_1.length : Int)) = false := decide_eq_false c5
        clear c5
        obtain rfl := Option.some.inj H
        go_wp2
        repeat (go_quiet (fail); try go_wp2)
        go_ret
        exact ⟨by first | rfl | (simp [errW_none, errW_some] <;> rfl) | (simp [*, errW_none, errW_some] <;> rfl), by repeat (first | (with_reducible first | exact HB.out | apply below_alloc | apply pw_below_drewN | apply below_drew1 | refine below_set ?_ GE192.out) | exact HB.out)⟩
end Go.Proofs.YtgeldmhgbnamcaaDoor.Q
end
section
namespace Go.Proofs.YtgeldmhgbnamcaaDoor.PureQ
open Go.RowKit Go.Proofs.YtgeldmhgbnamcaaDoor.Q Go.Proofs.YtgeldmhgbnamcaaDoorW.PrintWords Go.Proofs.YtgeldmhgbnamcaaDoorW.PrintLast Go.Proofs.YtgeldmhgbnamcaaDoorW.PrintMore
open Go.Proofs.YtgeldmhgbnamcaaDoor.Pure.FW
set_option linter.unusedVariables false
set_option linter.unusedSimpArgs false
def c127 (x : S75) : S127 := ⟨x.f0, x.f1, x.f2⟩
theorem ed_c127 (E : List S75) : (E.map c127).map ed = E.map ed9 := by rw [List.map_map]; rfl
theorem we_c127 {n : Nat} {E : List S75} (h : WE9 n E) : WE n (E.map c127) := by
 intro e he
 obtain ⟨x, hx, rfl⟩ := List.mem_map.1 he
 exact h x hx
theorem rd127 {E : List S75} {i : Nat} (h : i < E.length) : rd_T127 (E.map c127) (i : Int) = c127 (E[i]) := by
 unfold rd_T127
 rw [Int.toNat_natCast, List.getD_eq_getElem?_getD, List.getElem?_map, List.getElem?_eq_getElem h]
 rfl
section
variable {a0 : Int} {n : Nat} {E : List S75} {I : List Int}
theorem to5_l0 (hl : E.length ≤ 1000) : ∀ (rest pre : List S75), E = pre ++ rest → Ev (fun k => marchlandlaw05_To.l0 k (pre.length : Int) a0 E I a0 (pre.map c127) I) (a0, E.map c127, I)
 | [], pre, h => by
  rw [List.append_nil] at h
  subst h
  refine Ev.o (fun k => ?_)
  show marchlandlaw05_To.l0 (k + 1) _ _ _ _ _ _ _ = _
  rw [marchlandlaw05_To.l0, if_neg (by omega)]
 | x :: rest, pre, h => by
  have ih := to5_l0 hl rest (pre ++ [x]) (by rw [h]; simp)
  have hlen : pre.length + 1 ≤ E.length := by rw [h, List.length_append, List.length_cons]; omega
  have hr : rd_T75 E (pre.length : Int) = x := by rw [h]; exact rd90 pre x rest rfl
  rw [List.map_append, List.length_append] at ih
  simp only [List.map_cons, List.map_nil, List.length_cons, List.length_nil, Nat.zero_add] at ih
  refine Ev.s (fun k => ?_) ih
  show marchlandlaw05_To.l0 (k + 1) _ _ _ _ _ _ _ = _
  rw [marchlandlaw05_To.l0, if_pos (by omega), if_pos (by omega), if_pos (by rw [List.length_map]; omega), hr, w64 (by omega)]
  rfl
theorem to5_ev (hl : E.length ≤ 1000) (hI : I.length ≤ 1000) : Ev (fun k => marchlandlaw05_To.f k a0 E I) (a0, E.map c127, I) := by
 have h := to5_l0 (a0 := a0) (I := I) hl E [] rfl
 refine Ev.id h (fun k => ?_)
 show _ = marchlandlaw05_To.f k a0 E I
 unfold marchlandlaw05_To.f
 rw [Option.bind_some, if_pos (by simp; omega)]
 rfl
def Zc (M : Mat) (e : S75) : Bool := decide (e.f2 = 0 ∧ M e.f1.toNat e.f0.toNat = 0)
def lst (M : Mat) : Int → List S75 → Int
 | x, [] => x
 | x, e :: r => if Zc M e = true then (if x < 0 then lst M e.f0 r else if e.f0 < x then lst M e.f0 r else lst M x r) else lst M x r
theorem cyc_l0 {M : Mat} (hE : WE9 n E) (hl : E.length ≤ 1000) : ∀ (rest pre : List S75) (x : Int), E = pre ++ rest → Ev (fun k => graph_Graph_cycle.l0 k (mat n M) x (E.map c127) (E.length : Int) (pre.length : Int)) (lst M x rest)
 | [], pre, x, h => by
  rw [List.append_nil] at h
  subst h
  refine Ev.o (fun k => ?_)
  show graph_Graph_cycle.l0 (k + 1) _ _ _ _ _ = _
  rw [graph_Graph_cycle.l0, if_neg (by omega)]
  rfl
 | e :: rest, pre, x, h => by
  have ih := fun y => cyc_l0 (M := M) hE hl rest (pre ++ [e]) y (by rw [h]; simp)
  rw [List.length_append, List.length_singleton] at ih
  have hlen : pre.length + 1 ≤ E.length := by rw [h, List.length_append, List.length_cons]; omega
  have hr : rd_T127 (E.map c127) (pre.length : Int) = c127 e := by
   rw [rd127 (by omega)]
   congr 1
   simp [h]
  have hm : (E.map c127).length = E.length := List.length_map _
  obtain ⟨x0, x1, x2, x3, x4⟩ := hE e (by rw [h]; simp)
  have f0 : e.f0 = ((e.f0.toNat : Nat) : Int) := by omega
  have f1 : e.f1 = ((e.f1.toNat : Nat) : Int) := by omega
  have r1 : rd_L8 (mat n M) e.f1 = Ls n (M e.f1.toNat) := by rw [f1]; exact mat_row n M (by omega)
  have r2 : rd (Ls n (M e.f1.toNat)) e.f0 = M e.f1.toNat e.f0.toNat := by rw [f0]; exact ls_rd n _ (by omega)
  have g0 : (c127 e).f0 = e.f0 := rfl
  have g1 : (c127 e).f1 = e.f1 := rfl
  have g2 : (c127 e).f2 = e.f2 := rfl
  rw [lst]
  by_cases c : Zc M e = true
  ·obtain ⟨c1, c2⟩ := of_decide_eq_true c
   rw [if_pos c]
   by_cases d : x < 0
   ·rw [if_pos d]
    refine Ev.s (fun k => ?_) (ih e.f0)
    show graph_Graph_cycle.l0 (k + 1) _ _ _ _ _ = _
    rw [graph_Graph_cycle.l0, if_pos (by omega), if_pos (by omega), if_pos (by rw [hm]; omega), hr, g0, g1, g2, w64 (by omega), if_pos c1, if_pos x2, mat_len, if_pos x3, if_pos x0, r1, ls_len, if_pos x1, r2, if_pos c2, if_pos d]
   ·rw [if_neg d]
    by_cases d2 : e.f0 < x
    ·rw [if_pos d2]
     refine Ev.s (fun k => ?_) (ih e.f0)
     show graph_Graph_cycle.l0 (k + 1) _ _ _ _ _ = _
     rw [graph_Graph_cycle.l0, if_pos (by omega), if_pos (by omega), if_pos (by rw [hm]; omega), hr, g0, g1, g2, w64 (by omega), if_pos c1, if_pos x2, mat_len, if_pos x3, if_pos x0, r1, ls_len, if_pos x1, r2, if_pos c2, if_neg d, if_pos d2]
    ·rw [if_neg d2]
     refine Ev.s (fun k => ?_) (ih x)
     show graph_Graph_cycle.l0 (k + 1) _ _ _ _ _ = _
     rw [graph_Graph_cycle.l0, if_pos (by omega), if_pos (by omega), if_pos (by rw [hm]; omega), hr, g0, g1, g2, w64 (by omega), if_pos c1, if_pos x2, mat_len, if_pos x3, if_pos x0, r1, ls_len, if_pos x1, r2, if_pos c2, if_neg d, if_neg d2]
  ·rw [if_neg c]
   have cn := of_decide_eq_false (Bool.not_eq_true _ ▸ c)
   refine Ev.s (fun k => ?_) (ih x)
   show graph_Graph_cycle.l0 (k + 1) _ _ _ _ _ = _
   rw [graph_Graph_cycle.l0, if_pos (by omega), if_pos (by omega), if_pos (by rw [hm]; omega), hr, g0, g1, g2, w64 (by omega)]
   by_cases c1 : e.f2 = 0
   ·rw [if_pos c1, if_pos x2, mat_len, if_pos x3, if_pos x0, r1, ls_len, if_pos x1, r2, if_neg (fun q => cn ⟨c1, q⟩)]
   ·rw [if_neg c1]
theorem lst_ok {M : Mat} : ∀ (r : List S75) (x : Int), (∀ e ∈ r, 0 ≤ e.f0) →
  (lst M x r = x ∨ ∃ e ∈ r, Zc M e = true ∧ lst M x r = e.f0) ∧ (∀ e ∈ r, Zc M e = true → 0 ≤ lst M x r ∧ lst M x r ≤ e.f0) ∧ (0 ≤ x → 0 ≤ lst M x r ∧ lst M x r ≤ x)
 | [], x, _ => by
  refine ⟨Or.inl rfl, ?_, fun h => ⟨h, Int.le_refl _⟩⟩
  intro e he
  cases he
 | e :: r, x, h => by
  have h0 := h e (by simp)
  have hr := fun y => lst_ok (M := M) r y (fun z hz => h z (by simp [hz]))
  rw [lst]
  by_cases c : Zc M e = true
  ·rw [if_pos c]
   by_cases d : x < 0
   ·rw [if_pos d]
    obtain ⟨p1, p2, p3⟩ := hr e.f0
    have p3 := p3 h0
    refine ⟨Or.inr ?_, fun z hz hc => ?_, fun q => by omega⟩
    ·rcases p1 with p1 | ⟨z, hz, hc, he⟩
     ·exact ⟨e, by simp, c, p1⟩
     ·exact ⟨z, by simp [hz], hc, he⟩
    ·rcases List.mem_cons.1 hz with rfl | hz
     ·exact p3
     ·exact p2 z hz hc
   ·rw [if_neg d]
    by_cases d2 : e.f0 < x
    ·rw [if_pos d2]
     obtain ⟨p1, p2, p3⟩ := hr e.f0
     have p3 := p3 h0
     refine ⟨Or.inr ?_, fun z hz hc => ?_, fun q => by omega⟩
     ·rcases p1 with p1 | ⟨z, hz, hc, he⟩
      ·exact ⟨e, by simp, c, p1⟩
      ·exact ⟨z, by simp [hz], hc, he⟩
     ·rcases List.mem_cons.1 hz with rfl | hz
      ·exact p3
      ·exact p2 z hz hc
    ·rw [if_neg d2]
     obtain ⟨p1, p2, p3⟩ := hr x
     have p3 := p3 (by omega)
     refine ⟨?_, fun z hz hc => ?_, fun q => p3⟩
     ·rcases p1 with p1 | ⟨z, hz, hc, he⟩
      ·exact Or.inl p1
      ·exact Or.inr ⟨z, by simp [hz], hc, he⟩
     ·rcases List.mem_cons.1 hz with rfl | hz
      ·omega
      ·exact p2 z hz hc
  ·rw [if_neg c]
   obtain ⟨p1, p2, p3⟩ := hr x
   refine ⟨?_, fun z hz hc => ?_, p3⟩
   ·rcases p1 with p1 | ⟨z, hz, hc, he⟩
    ·exact Or.inl p1
    ·exact Or.inr ⟨z, by simp [hz], hc, he⟩
   ·rcases List.mem_cons.1 hz with rfl | hz
    ·exact absurd hc c
    ·exact p2 z hz hc
theorem cycD_none {M : Mat} {E : List S75} : ∀ {d p : Nat}, cycD M E d p = none → ∀ q, p ≤ q → q < p + d → ¬ E.any (Zb M q) = true
 | 0, p, _, q, h1, h2 => by omega
 | d + 1, p, h, q, h1, h2 => by
  rw [cycD] at h
  split at h
  ·cases h
  ·rename_i hn
   rcases Nat.eq_or_lt_of_le h1 with rfl | h1
   ·exact hn
   ·exact cycD_none h q h1 (by omega)
theorem cycD_some {M : Mat} {E : List S75} : ∀ {d p r : Nat}, cycD M E d p = some r → p ≤ r ∧ E.any (Zb M r) = true ∧ ∀ q, p ≤ q → q < r → ¬ E.any (Zb M q) = true
 | 0, p, r, h => by cases h
 | d + 1, p, r, h => by
  rw [cycD] at h
  split at h
  ·rename_i hy
   obtain rfl := Option.some.inj h
   exact ⟨Nat.le_refl _, hy, fun q h1 h2 => by omega⟩
  ·rename_i hn
   obtain ⟨h1, h2, h3⟩ := cycD_some h
   refine ⟨by omega, h2, fun q q1 q2 => ?_⟩
   rcases Nat.eq_or_lt_of_le q1 with rfl | q1
   ·exact hn
   ·exact h3 q q1 q2
theorem Zb_Zc {M : Mat} {e : S75} (h : 0 ≤ e.f0) : Zc M e = Zb M e.f0.toNat e := by
 unfold Zc Zb
 rw [decide_eq_decide]
 constructor
 ·rintro ⟨a, b⟩; exact ⟨by omega, a, b⟩
 ·rintro ⟨_, a, b⟩; exact ⟨a, b⟩
theorem Zb_eq {M : Mat} {e : S75} {q : Nat} (h : Zb M q e = true) : e.f0 = (q : Int) := (of_decide_eq_true h).1
def cycV : Option Nat → Int
 | some q => (q : Int)
 | none => -1
theorem lst_cyc {M : Mat} (hE : WE9 n E) : lst M (-1) E = cycV (cycD M E n 0) := by
 obtain ⟨p1, p2, -⟩ := lst_ok (M := M) E (-1) (fun e he => (hE e he).1)
 cases hc : cycD M E n 0 with
 | none =>
  have hn := cycD_none hc
  rcases p1 with p1 | ⟨e, he, hz, _⟩
  ·exact p1
  ·have := hE e he
   exact absurd (List.any_eq_true.2 ⟨e, he, (Zb_Zc this.1) ▸ hz⟩) (hn e.f0.toNat (by omega) (by omega))
 | some r =>
  obtain ⟨h1, h2, h3⟩ := cycD_some hc
  obtain ⟨e, he, hz⟩ := List.any_eq_true.1 h2
  have h0 := hE e he
  have er := Zb_eq hz
  have hz2 : Zc M e = true := by rw [Zb_Zc h0.1, show e.f0.toNat = r by omega]; exact hz
  obtain ⟨q1, q2⟩ := p2 e he hz2
  show lst M (-1) E = (r : Int)
  rcases p1 with p1 | ⟨e2, he2, hz3, hv⟩
  ·omega
  ·have h02 := hE e2 he2
   rw [Zb_Zc h02.1] at hz3
   rcases Int.lt_or_le e2.f0 (r : Int) with z | z
   ·exact absurd (List.any_eq_true.2 ⟨e2, he2, hz3⟩) (h3 e2.f0.toNat (by omega) (by omega))
   ·omega
theorem cycle_ev {M : Mat} (hE : WE9 n E) (hl : E.length ≤ 1000) : Ev (fun k => graph_Graph_cycle.f k a0 (E.map c127) I (mat n M)) (cycV (cycD M E n 0)) := by
 have h := cyc_l0 (M := M) hE hl E [] (-1) rfl
 rw [lst_cyc hE] at h
 refine Ev.id h (fun k => ?_)
 unfold graph_Graph_cycle.f
 rw [List.length_map]
 rfl
theorem rows_l1 {M : Mat} (hn : n ≤ 1000) {i : Nat} (hi : i < n) (R : Bool) (h : Ev (fun k => marchlandlaw05_Rows.l0 k (mat n M) (mat n M) ((i + 1 : Nat) : Int)) R) : ∀ d j : Nat, j + d = n → Ev (fun k => marchlandlaw05_Rows.l1 k (mat n M) (mat n M) (i : Int) (j : Int)) R
 | 0, j, hj => by
  refine Ev.s (fun k => ?_) h
  show marchlandlaw05_Rows.l1 (k + 1) _ _ _ _ = _
  rw [marchlandlaw05_Rows.l1, if_pos (by omega), mat_len, if_pos (by omega), mat_row n M hi, ls_len, if_neg (by omega), w64 (by omega)]
 | d + 1, j, hj => by
  refine Ev.s (fun k => ?_) (rows_l1 hn hi R h d (j + 1) (by omega))
  show marchlandlaw05_Rows.l1 (k + 1) _ _ _ _ = _
  rw [marchlandlaw05_Rows.l1, if_pos (by omega), mat_len, if_pos (by omega), mat_row n M hi, ls_len, if_pos (by omega), if_pos (by omega), if_pos (by omega), if_pos (by omega), if_pos rfl, w64 (by omega)]
theorem rows_l0 {M : Mat} (hn : n ≤ 1000) : ∀ d i : Nat, i + d = n → Ev (fun k => marchlandlaw05_Rows.l0 k (mat n M) (mat n M) (i : Int)) true
 | 0, i, hi => by
  refine Ev.o (fun k => ?_)
  show marchlandlaw05_Rows.l0 (k + 1) _ _ _ = _
  rw [marchlandlaw05_Rows.l0, mat_len, if_neg (by omega)]
 | d + 1, i, hi => by
  refine Ev.s (fun k => ?_) (rows_l1 (M := M) hn (show i < n by omega) true (rows_l0 hn d (i + 1) (by omega)) n 0 (by omega))
  show marchlandlaw05_Rows.l0 (k + 1) _ _ _ = _
  rw [marchlandlaw05_Rows.l0, mat_len, if_pos (by omega), if_pos (by omega), if_pos (by omega), if_pos rfl]
  rfl
theorem rows_ev (M : Mat) (hn : n ≤ 1000) : Ev (fun k => marchlandlaw05_Rows.f k (mat n M) (mat n M)) true := by
 refine Ev.id (rows_l0 (M := M) hn n 0 (by omega)) (fun k => ?_)
 unfold marchlandlaw05_Rows.f
 rw [if_pos rfl]; rfl
theorem pth_rows : Ev (fun k => marchlandlaw05_Rows.f k (pth a0 E I) (pth a0 E I)) true := by
 unfold pth
 by_cases c : (chk a0 E I).2 = 0
 ·rw [if_pos c]
  exact rows_ev _ (by have := (chk_zero c).1; omega)
 ·rw [if_neg c]
  exact rows_ev (n := 0) (fun _ _ => 0) (by omega)
end
end Go.Proofs.YtgeldmhgbnamcaaDoor.PureQ
end
section
namespace Go.Proofs.YtgeldmhgbnamcaaDoor.Q
open Go.RowKit Go.Proofs.YtgeldmhgbnamcaaDoorW.PrintWords Go.Proofs.YtgeldmhgbnamcaaDoorW.PrintLast Go.Proofs.YtgeldmhgbnamcaaDoorW.PrintMore
attribute [local go_sem] max2_int min2_int max_two min_two max_three min_three max_four min_four
set_option linter.unusedVariables false
set_option linter.unusedSimpArgs false
def marchlandlaw02_few.l0 : Nat → List (S42) → List (S42) → Int → Option ((List (S42)))
  | 0, _, _, _ => none
  | k + 1, x0, x3, x4 => if x4 < (x0.length : Int) then (if x4 < 12 then (if 0 ≤ x4 then (if 0 ≤ (mn (((rd_T42 x0 x4).f0).size : Int) 20) then (if (mn (((rd_T42 x0 x4).f0).size : Int) 20) ≤ (((rd_T42 x0 x4).f0).size : Int) then (if x3.length < 5864062014805 then (marchlandlaw02_few.l0 k x0 (x3 ++ [(⟨((rd_T42 x0 x4).f0).extract 0 ((mn (((rd_T42 x0 x4).f0).size : Int) 20) : Int).toNat, (rd_T42 x0 x4).f1⟩ : S42)]) (wrap64 (x4 + 1))) else (none)) else (none)) else (none)) else (none)) else (some x3)) else (some x3)
def marchlandlaw02_few.f (k : Nat) (l0 : List (S42)) : Option ((List (S42))) := marchlandlaw02_few.l0 k l0 ([] : List (S42)) 0
def marchlandlaw02_few.T5 : Bool × List (List Nat × List Nat) := (true, [([], []), ([], []), ([], []), ([1, 2], [1, 2]), ([3], [3]), ([4], [4]), ([], []), ([], []), ([6, 7], [6, 7]), ([8], [8]), ([9], [9]), ([10], [10]), ([11], [11]), ([5, 12], [5, 12]), ([], []), ([], []), ([14, 15], [14, 15]), ([16], [16]), ([17], [17]), ([13, 18], [13, 18]), ([19], [19]), ([0, 20], [0, 20]), ([21, 21, 0, 1, 2, 3, 4, 5, 6, 7, 8, 9, 10, 11, 12, 13, 14, 15, 16, 17, 18, 19, 20, 21], [0, 21])])
def marchlandlaw02_few.B5 : List Nat := [0, 0, 0, 6, 14, 30, 0, 0, 192, 448, 960, 1984, 4032, 8190, 0, 0, 49152, 114688, 245760, 524286, 1048574, 2097151, 4194303]
theorem marchlandlaw02_few.tab5 : rtab .any (opsOf Tryd.f17 5) = marchlandlaw02_few.T5 := by kernel_rfl
theorem marchlandlaw02_few.bits5 : waitsOk marchlandlaw02_few.T5.2 marchlandlaw02_few.B5 = true := by kernel_rfl
set_option maxHeartbeats 8000000 in
set_option maxRecDepth 100000 in
theorem marchlandlaw02_few.calls (k : Nat) (A0 : Option Addr) (c0 : Nat) (l0 : List (S42)) (r : List (S42)) (w : World) (hr0 : Kd.C k42 w A0 l0.length l0) (hc0 : l0.length ≤ c0) (h : marchlandlaw02_few.f k l0 = some r) :
    Calls Tryd.prog 17 #[.slice A0 l0.length c0] w fun e w' => ∃ v0_ : Value, e = .returned (v0_) ∧ Kd.R k42 42 w' w.heap.size (fun _ => True) v0_ r ∧ Below w.heap.size w w' := by
  have hu42 := Tryd.underlying42
  have HR0 := Aside0.mk hr0
  have HC0 := Aside0.mk hc0
  clear hr0 hc0
  have HB := Aside0.mk (Below.refl w.heap.size w)
  have H : (marchlandlaw02_few.l0 k l0 ([] : List (S42)) 0) = some r := h
  clear h
  have H' := Aside0.mk H
  clear H
  go_enter Tryd.func17, Tryd.ntmps17
  go_wp2
  go_loopg [3, 4] k (fun kq v3 v4 w' => ∃ (x3_1 : List (S42)) (x4_1 : Int), v4 = .int .i64 x4_1 ∧ Aside0 (marchlandlaw02_few.l0 kq l0 x3_1 x4_1 = some r) ∧ Aside0 (kq ≤ k) ∧ Aside0 (Kd.R k42 42 w' w.heap.size (fun _ => True) v3 x3_1) ∧ Aside0 (Below w.heap.size w w'))
  case atStart => exact ⟨(([] : List (S42))), (0), (by first | rfl | (simp; done) | (simp [*]; done)), H', ⟨Nat.le_refl _⟩, ⟨by first | exact Kd.R_nil _ _ _ _ _ | exact Kd.N_nil _ _ _ _ _ | exact Kd.V_nil _ _ _ _ _ | exact Kd.Q_nil _ _ _ _ _ | exact Kd.S_nil _ _ _ _ _⟩, ⟨by repeat (first | (with_reducible first | exact HB.out | apply below_alloc | apply pw_below_drewN | apply below_drew1) | exact HB.out)⟩⟩
  case round =>
    clear H'
    try clear c1
    obtain ⟨x3_1, x4_1, rfl, HA, HK1, HO_3, HB⟩ := hrel
    cases gk with
    | zero => exact absurd HA.out (by simp [marchlandlaw02_few.l0])
    | succ k1 =>
      have H := HA.out
      clear HA
      simp only [marchlandlaw02_few.l0] at H
      by_cases c2 : x4_1 < (l0.length : Int)
      · rw [if_pos c2] at H
        have c2b0 : decide (x4_1 < (l0.length : Int)) = true := decide_eq_true c2
        clear c2
        by_cases c3 : x4_1 < 12
        · rw [if_pos c3] at H
          have c3b0 : decide (x4_1 < 12) = true := decide_eq_true c3
          clear c3
          by_cases c4 : 0 ≤ x4_1
          · rw [if_pos c4] at H
            have c4b0 : decide (0 ≤ x4_1) = true := decide_eq_true c4
            clear c4
            obtain ⟨ji5, hji5⟩ : ∃ j_ : Int, (mn (((rd_T42 l0 x4_1).f0).size : Int) 20) = j_ := ⟨_, rfl⟩
            replace H : (if 0 ≤ (ji5) then (if (ji5) ≤ (((rd_T42 l0 x4_1).f0).size : Int) then (if x3_1.length < 5864062014805 then (marchlandlaw02_few.l0 k1 l0 (x3_1 ++ [(⟨((rd_T42 l0 x4_1).f0).extract 0 ((ji5) : Int).toNat, (rd_T42 l0 x4_1).f1⟩ : S42)]) (wrap64 (x4_1 + 1))) else (none)) else (none)) else (none)) = some r := by first | (rw [hji5] at H; exact H) | (simp only [hji5] at H ⊢; exact H)
            have hji5_ : (if 20 < (((rd_T42 l0 x4_1).f0).size : Int) then 20 else (((rd_T42 l0 x4_1).f0).size : Int)) = ji5 := hji5
            by_cases c6 : 0 ≤ (ji5)
            · rw [if_pos c6] at H
              have c6b0 := eq_true c6
              have c6b1 : decide (0 ≤ (ji5)) = true := decide_eq_true c6
              clear c6
              by_cases c7 : (ji5) ≤ (((rd_T42 l0 x4_1).f0).size : Int)
              · rw [if_pos c7] at H
                have c7b0 := eq_true c7
                have c7b1 : decide ((ji5) ≤ (((rd_T42 l0 x4_1).f0).size : Int)) = true := decide_eq_true c7
                clear c7
                by_cases c8 : x3_1.length < 5864062014805
                · rw [if_pos c8] at H
                  have LMc8 := Aside0.mk c8
                  clear c8
                  obtain ⟨y104, hy104⟩ : ∃ y_ : List (S42), y_ = (x3_1 ++ [(⟨((rd_T42 l0 x4_1).f0).extract 0 ((ji5) : Int).toNat, (rd_T42 l0 x4_1).f1⟩ : S42)]) := ⟨_, rfl⟩
                  replace H : (marchlandlaw02_few.l0 k1 l0 y104 (wrap64 (x4_1 + 1))) = some r := by first | (rw [hy104]; with_reducible exact H) | (have H2_ := (Option.bind_some _ _).symm.trans H; rw [hy104]; with_reducible exact H2_) | (have H2_ := (Option.bind_some _ _).symm.trans H; with_reducible exact H2_) | with_reducible exact H | (rw [hy104]; exact H) | exact H
                  have Ny104 := Aside0.mk hy104
                  clear hy104
                  have H' := Aside0.mk H
                  clear H
                  try go_wp2
                  have n0_ := Aside0.mk (Kd.R_drew HO_3.out)
                  have n1_ := Aside0.mk (below_drew1 HB.out)
                  clear HO_3
                  clear HB
                  have HO_3 := n0_
                  have HB := n1_
                  clear n0_ n1_
                  have p101 : 0 ≤ (x4_1 : Int) := of_decide_eq_true (by first | (with_reducible assumption) | assumption)
                  have q101 : x4_1 < (l0.length : Int) := of_decide_eq_true (by first | (with_reducible assumption) | assumption)
                  obtain ⟨ad101, e101, hx101_0, hx101_1⟩ := at_T42 HR0.out x4_1 p101 q101
                  have hw101_1 := hx101_1
                  have hw101_0 := hx101_0
                  cases e101
                  replace hx101_0 := (HB.out.cell (World.block_lt_of_cell? w _ hx101_0)).trans hx101_0
                  replace hx101_1 := (HB.out.cell (World.block_lt_of_cell? w _ hx101_1)).trans hx101_1
                  replace p101 := eq_true p101
                  replace q101 := eq_true q101
                  have p102 : 0 ≤ (x4_1 : Int) := of_decide_eq_true (by first | (with_reducible assumption) | assumption)
                  have q102 : x4_1 < (l0.length : Int) := of_decide_eq_true (by first | (with_reducible assumption) | assumption)
                  obtain ⟨ad102, e102, hx102_0, hx102_1⟩ := at_T42 HR0.out x4_1 p102 q102
                  have hw102_1 := hx102_1
                  have hw102_0 := hx102_0
                  obtain rfl : ad101 = ad102 := (by injection e102)
                  replace hx102_0 := (HB.out.cell (World.block_lt_of_cell? w _ hx102_0)).trans hx102_0
                  replace hx102_1 := (HB.out.cell (World.block_lt_of_cell? w _ hx102_1)).trans hx102_1
                  replace p102 := eq_true p102
                  replace q102 := eq_true q102
                  have p103 : 0 ≤ (x4_1 : Int) := of_decide_eq_true (by first | (with_reducible assumption) | assumption)
                  have q103 : x4_1 < (l0.length : Int) := of_decide_eq_true (by first | (with_reducible assumption) | assumption)
                  obtain ⟨ad103, e103, hx103_0, hx103_1⟩ := at_T42 HR0.out x4_1 p103 q103
                  have hw103_1 := hx103_1
                  have hw103_0 := hx103_0
                  obtain rfl : ad101 = ad103 := (by injection e103)
                  replace hx103_0 := (HB.out.cell (World.block_lt_of_cell? w _ hx103_0)).trans hx103_0
                  replace hx103_1 := (HB.out.cell (World.block_lt_of_cell? w _ hx103_1)).trans hx103_1
                  replace p103 := eq_true p103
                  replace q103 := eq_true q103
                  refine start_ (n := 23) (S := fun w' => w'.cell? (ad101.add ((x4_1).toNat * 2)) = some (.string ((rd_T42 l0 x4_1).f0)) ∧ w'.cell? ⟨(ad101.add ((x4_1).toNat * 2)).block, (ad101.add ((x4_1).toNat * 2)).off + 1, none⟩ = some (.int .i64 ((rd_T42 l0 x4_1).f1)) ∧ w'.cell? (ad101.add ((x4_1).toNat * 2)) = some (.string ((rd_T42 l0 x4_1).f0)) ∧ w'.cell? ⟨(ad101.add ((x4_1).toNat * 2)).block, (ad101.add ((x4_1).toNat * 2)).off + 1, none⟩ = some (.int .i64 ((rd_T42 l0 x4_1).f1)) ∧ w'.cell? (ad101.add ((x4_1).toNat * 2)) = some (.string ((rd_T42 l0 x4_1).f0)) ∧ w'.cell? ⟨(ad101.add ((x4_1).toNat * 2)).block, (ad101.add ((x4_1).toNat * 2)).off + 1, none⟩ = some (.int .i64 ((rd_T42 l0 x4_1).f1))) (ds := []) #[false, false, false, false, false, false, false, false, false, false, false, false, false, false, false, false, false, false, false, false, false, false, false] (by kernel_rfl) rfl rfl ⟨((HB.out.cell (World.block_lt_of_cell? w _ hw101_0)).trans hw101_0), ((HB.out.cell (World.block_lt_of_cell? w _ hw101_1)).trans hw101_1), ((HB.out.cell (World.block_lt_of_cell? w _ hw102_0)).trans hw102_0), ((HB.out.cell (World.block_lt_of_cell? w _ hw102_1)).trans hw102_1), ((HB.out.cell (World.block_lt_of_cell? w _ hw103_0)).trans hw103_0), ((HB.out.cell (World.block_lt_of_cell? w _ hw103_1)).trans hw103_1)⟩ (fun hHeld => ?_); refine with_tabW marchlandlaw02_few.tab5 marchlandlaw02_few.bits5 (fun HT_ HW_ => ?_)
                  generalize wr.drew = w9 at HO_3 HB hx101_0 hx101_1 hx102_0 hx102_1 hx103_0 hx103_1 hHeld ⊢
                  refine pure_ (i := 0) (N := some 15) (v := ?_) (a' := ?_) #[true, false, false, false, false, false, false, false, false, false, false, false, false, false, false, false, false, false, false, false, false, false, false] rfl rfl (any_of HT_.out (by kernel_rfl)) (fun _ _ _ h => h) (Or.inl ⟨by rfl, ?_⟩) ?_ ?_
                  rotate_left
                  · intro w'
                    go_simp
                    with_reducible rfl
                  rotate_left
                  · simp only [Act.put, List.setIfInBounds_toArray, List.set_cons_zero, List.set_cons_succ, i64_w, i32_w]
                    rfl
                  refine pure_ (i := 1) (N := some 16) (v := ?_) (a' := ?_) #[true, true, false, false, false, false, false, false, false, false, false, false, false, false, false, false, false, false, false, false, false, false, false] rfl rfl (any_of HT_.out (by kernel_rfl)) (fun _ _ _ h => h) (Or.inl ⟨by rfl, ?_⟩) ?_ ?_
                  rotate_left
                  · intro w'
                    go_simp
                    with_reducible rfl
                  rotate_left
                  · simp only [Act.put, List.setIfInBounds_toArray, List.set_cons_zero, List.set_cons_succ, i64_w, i32_w]
                    rfl
                  refine pure_ (i := 2) (N := some 17) (v := ?_) (a' := ?_) #[true, true, true, false, false, false, false, false, false, false, false, false, false, false, false, false, false, false, false, false, false, false, false] rfl rfl (any_of HT_.out (by kernel_rfl)) (fun _ _ _ h => h) (Or.inl ⟨by rfl, ?_⟩) ?_ ?_
                  rotate_left
                  · intro w'
                    go_simp
                    with_reducible rfl
                  rotate_left
                  · simp only [Act.put, List.setIfInBounds_toArray, List.set_cons_zero, List.set_cons_succ, i64_w, i32_w]
                    rfl
                  refine pure_ (i := 3) (N := some 18) (v := ?_) (a' := ?_) #[true, true, true, true, false, false, false, false, false, false, false, false, false, false, false, false, false, false, false, false, false, false, false] rfl rfl (any_of HT_.out (by kernel_rfl)) (fun _ _ _ h => h) (Or.inl ⟨by rfl, ?_⟩) ?_ ?_
                  rotate_left
                  · intro w'
                    go_simp
                    with_reducible rfl
                  rotate_left
                  · simp only [Act.put, List.setIfInBounds_toArray, List.set_cons_zero, List.set_cons_succ, i64_w, i32_w]
                    rfl
                  refine pure_ (i := 4) (N := some 19) (v := ?_) (a' := ?_) #[true, true, true, true, true, false, false, false, false, false, false, false, false, false, false, false, false, false, false, false, false, false, false] rfl rfl (any_of HT_.out (by kernel_rfl)) (fun _ _ _ h => h) (Or.inl ⟨by rfl, ?_⟩) ?_ ?_
                  rotate_left
                  · intro w'
                    go_simp
                    with_reducible rfl
                  rotate_left
                  · simp only [Act.put, List.setIfInBounds_toArray, List.set_cons_zero, List.set_cons_succ, i64_w, i32_w]
                    rfl
                  refine pure_ (i := 6) (N := some 21) (v := ?_) (a' := ?_) #[true, true, true, true, true, false, true, false, false, false, false, false, false, false, false, false, false, false, false, false, false, false, false] rfl rfl (any_of HT_.out (by kernel_rfl)) (fun _ _ _ h => h) (Or.inl ⟨by rfl, ?_⟩) ?_ ?_
                  rotate_left
                  · intro w'
                    go_simp
                    with_reducible rfl
                  rotate_left
                  · simp only [Act.put, List.setIfInBounds_toArray, List.set_cons_zero, List.set_cons_succ, i64_w, i32_w]
                    rfl
                  refine pure_ (i := 7) (N := some 22) (v := ?_) (a' := ?_) #[true, true, true, true, true, false, true, true, false, false, false, false, false, false, false, false, false, false, false, false, false, false, false] rfl rfl (any_of HT_.out (by kernel_rfl)) (fun _ _ _ h => h) (Or.inl ⟨by rfl, ?_⟩) ?_ ?_
                  rotate_left
                  · intro w'
                    go_simp
                    with_reducible rfl
                  rotate_left
                  · simp only [Act.put, List.setIfInBounds_toArray, List.set_cons_zero, List.set_cons_succ, i64_w, i32_w]
                    rfl
                  refine pure_ (i := 8) (N := some 23) (v := ?_) (a' := ?_) #[true, true, true, true, true, false, true, true, true, false, false, false, false, false, false, false, false, false, false, false, false, false, false] rfl rfl (any_of HT_.out (by kernel_rfl)) (fun _ _ _ h => h) (Or.inl ⟨by rfl, ?_⟩) ?_ ?_
                  rotate_left
                  · intro w'
                    go_simp
                    with_reducible rfl
                  rotate_left
                  · simp only [Act.put, List.setIfInBounds_toArray, List.set_cons_zero, List.set_cons_succ, i64_w, i32_w]
                    rfl
                  refine pure_ (i := 9) (N := some 24) (v := ?_) (a' := ?_) #[true, true, true, true, true, false, true, true, true, true, false, false, false, false, false, false, false, false, false, false, false, false, false] rfl rfl (any_of HT_.out (by kernel_rfl)) (fun _ _ _ h => h) (Or.inl ⟨by rfl, ?_⟩) ?_ ?_
                  rotate_left
                  · intro w'
                    go_simp
                    with_reducible rfl
                  rotate_left
                  · simp only [Act.put, List.setIfInBounds_toArray, List.set_cons_zero, List.set_cons_succ, i64_w, i32_w]
                    rfl
                  refine pure_ (i := 14) (N := some 29) (v := ?_) (a' := ?_) #[true, true, true, true, true, false, true, true, true, true, false, false, false, false, true, false, false, false, false, false, false, false, false] rfl rfl (any_of HT_.out (by kernel_rfl)) (fun _ _ _ h => h) (Or.inl ⟨by rfl, ?_⟩) ?_ ?_
                  rotate_left
                  · intro w'
                    go_simp
                    with_reducible rfl
                  rotate_left
                  · simp only [Act.put, List.setIfInBounds_toArray, List.set_cons_zero, List.set_cons_succ, i64_w, i32_w]
                    rfl
                  refine pure_ (i := 15) (N := some 30) (v := ?_) (a' := ?_) #[true, true, true, true, true, false, true, true, true, true, false, false, false, false, true, true, false, false, false, false, false, false, false] rfl rfl (any_of HT_.out (by kernel_rfl)) (fun _ _ _ h => h) (Or.inl ⟨by rfl, ?_⟩) ?_ ?_
                  rotate_left
                  · intro w'
                    go_simp
                    with_reducible rfl
                  rotate_left
                  · simp only [Act.put, List.setIfInBounds_toArray, List.set_cons_zero, List.set_cons_succ, i64_w, i32_w]
                    rfl
                  refine pure_ (i := 16) (N := some 31) (v := ?_) (a' := ?_) #[true, true, true, true, true, false, true, true, true, true, false, false, false, false, true, true, true, false, false, false, false, false, false] rfl rfl (any_of HT_.out (by kernel_rfl)) (fun _ _ _ h => h) (Or.inl ⟨by rfl, ?_⟩) ?_ ?_
                  rotate_left
                  · intro w'
                    go_simp
                    with_reducible rfl
                  rotate_left
                  · simp only [Act.put, List.setIfInBounds_toArray, List.set_cons_zero, List.set_cons_succ, i64_w, i32_w]
                    rfl
                  refine pure_ (i := 17) (N := some 32) (v := ?_) (a' := ?_) #[true, true, true, true, true, false, true, true, true, true, false, false, false, false, true, true, true, true, false, false, false, false, false] rfl rfl (any_of HT_.out (by kernel_rfl)) (fun _ _ _ h => h) (Or.inl ⟨by rfl, ?_⟩) ?_ ?_
                  rotate_left
                  · intro w'
                    go_simp
                    with_reducible rfl
                  rotate_left
                  · simp only [Act.put, List.setIfInBounds_toArray, List.set_cons_zero, List.set_cons_succ, i64_w, i32_w]
                    rfl
                  refine take_ (i := 5) (N := some 20) (v := ?_) (a' := ?_) #[true, true, true, true, true, true, true, true, true, true, false, false, false, false, true, true, true, true, false, false, false, false, false] rfl rfl (take_ofW HT_.out HW_.out (by kernel_rfl)) (fun _ _ _ h => h) (Or.inl ⟨by rfl, ?_⟩) hHeld ?_ ?_
                  rotate_left
                  · rintro w' ⟨s0, s1, s2, s3, s4, s5⟩
                    go_simp
                    with_reducible rfl
                  rotate_left
                  · simp only [Act.put, List.setIfInBounds_toArray, List.set_cons_zero, List.set_cons_succ, i64_w, i32_w]
                    rfl
                  refine take_ (i := 10) (N := some 25) (v := ?_) (a' := ?_) #[true, true, true, true, true, true, true, true, true, true, true, false, false, false, true, true, true, true, false, false, false, false, false] rfl rfl (take_ofW HT_.out HW_.out (by kernel_rfl)) (fun _ _ _ h => h) (Or.inl ⟨by rfl, ?_⟩) hHeld ?_ ?_
                  rotate_left
                  · rintro w' ⟨s0, s1, s2, s3, s4, s5⟩
                    go_simp
                    with_reducible rfl
                  rotate_left
                  · simp only [Act.put, List.setIfInBounds_toArray, List.set_cons_zero, List.set_cons_succ, i64_w, i32_w]
                    rfl
                  refine pure_ (i := 11) (N := some 26) (v := ?_) (a' := ?_) #[true, true, true, true, true, true, true, true, true, true, true, true, false, false, true, true, true, true, false, false, false, false, false] rfl rfl (any_of HT_.out (by kernel_rfl)) (fun _ _ _ h => h) (Or.inl ⟨by rfl, ?_⟩) ?_ ?_
                  rotate_left
                  · intro w'
                    go_simp
                    with_reducible rfl
                  rotate_left
                  · simp only [Act.put, List.setIfInBounds_toArray, List.set_cons_zero, List.set_cons_succ, i64_w, i32_w]
                    rfl
                  refine pure_ (i := 12) (N := some 27) (v := ?_) (a' := ?_) #[true, true, true, true, true, true, true, true, true, true, true, true, true, false, true, true, true, true, false, false, false, false, false] rfl rfl (any_of HT_.out (by kernel_rfl)) (fun _ _ _ h => h) (Or.inl ⟨by rfl, ?_⟩) ?_ ?_
                  rotate_left
                  · intro w'
                    go_simp
                    with_reducible rfl
                  rotate_left
                  · simp only [Act.put, List.setIfInBounds_toArray, List.set_cons_zero, List.set_cons_succ, i64_w, i32_w]
                    rfl
                  refine pure_ (i := 13) (N := some 28) (v := ?_) (a' := ?_) #[true, true, true, true, true, true, true, true, true, true, true, true, true, true, true, true, true, true, false, false, false, false, false] rfl rfl (any_of HT_.out (by kernel_rfl)) (fun _ _ _ h => h) (Or.inl ⟨by rfl, ?_⟩) ?_ ?_
                  rotate_left
                  · intro w'
                    go_simp
                    with_reducible rfl
                  rotate_left
                  · simp only [Act.put, List.setIfInBounds_toArray, List.set_cons_zero, List.set_cons_succ, i64_w, i32_w]
                    rfl
                  refine take_ (i := 18) (N := some 33) (v := ?_) (a' := ?_) #[true, true, true, true, true, true, true, true, true, true, true, true, true, true, true, true, true, true, true, false, false, false, false] rfl rfl (take_ofW HT_.out HW_.out (by kernel_rfl)) (fun _ _ _ h => h) (Or.inl ⟨by rfl, ?_⟩) hHeld ?_ ?_
                  rotate_left
                  · rintro w' ⟨s0, s1, s2, s3, s4, s5⟩
                    go_simp
                    with_reducible rfl
                  rotate_left
                  · simp only [Act.put, List.setIfInBounds_toArray, List.set_cons_zero, List.set_cons_succ, i64_w, i32_w]
                    rfl
                  refine pure_ (i := 19) (N := some 34) (v := ?_) (a' := ?_) #[true, true, true, true, true, true, true, true, true, true, true, true, true, true, true, true, true, true, true, true, false, false, false] rfl rfl (any_of HT_.out (by kernel_rfl)) (fun _ _ _ h => h) (Or.inl ⟨by rfl, ?_⟩) ?_ ?_
                  rotate_left
                  · intro w'
                    go_simp
                    with_reducible rfl
                  rotate_left
                  · simp only [Act.put, List.setIfInBounds_toArray, List.set_cons_zero, List.set_cons_succ, i64_w, i32_w]
                    rfl
                  refine one_ (i := 20) (N := some 35) #[true, true, true, true, true, true, true, true, true, true, true, true, true, true, true, true, true, true, true, true, true, false, false] rfl rfl (one_of HT_.out (by kernel_rfl)) (by decide) (fun K hK => ?_)
                  refine value_ (w1 := ?_) (v := ?_) (by rfl) rfl ?_ ?_
                  rotate_left 2
                  · go_simp
                    constructor
                    · rfl
                    · rfl
                  refine hK.out _ _ ⟨(World.cell?_alloc_lt _ _ _ (World.block_lt_of_cell? _ _ (((HB.out.cell (World.block_lt_of_cell? w _ hw101_0)).trans hw101_0)))).trans (((HB.out.cell (World.block_lt_of_cell? w _ hw101_0)).trans hw101_0)), (World.cell?_alloc_lt _ _ _ (World.block_lt_of_cell? _ _ (((HB.out.cell (World.block_lt_of_cell? w _ hw101_1)).trans hw101_1)))).trans (((HB.out.cell (World.block_lt_of_cell? w _ hw101_1)).trans hw101_1)), (World.cell?_alloc_lt _ _ _ (World.block_lt_of_cell? _ _ (((HB.out.cell (World.block_lt_of_cell? w _ hw102_0)).trans hw102_0)))).trans (((HB.out.cell (World.block_lt_of_cell? w _ hw102_0)).trans hw102_0)), (World.cell?_alloc_lt _ _ _ (World.block_lt_of_cell? _ _ (((HB.out.cell (World.block_lt_of_cell? w _ hw102_1)).trans hw102_1)))).trans (((HB.out.cell (World.block_lt_of_cell? w _ hw102_1)).trans hw102_1)), (World.cell?_alloc_lt _ _ _ (World.block_lt_of_cell? _ _ (((HB.out.cell (World.block_lt_of_cell? w _ hw103_0)).trans hw103_0)))).trans (((HB.out.cell (World.block_lt_of_cell? w _ hw103_0)).trans hw103_0)), (World.cell?_alloc_lt _ _ _ (World.block_lt_of_cell? _ _ (((HB.out.cell (World.block_lt_of_cell? w _ hw103_1)).trans hw103_1)))).trans (((HB.out.cell (World.block_lt_of_cell? w _ hw103_1)).trans hw103_1))⟩ (fun hHeld => ?_)
                  clear hK K
                  refine norm_ (a' := ?_) ?_ ?_
                  rotate_left
                  · show Act.put _ (some 35) _ = _
                    simp only [Act.put, List.setIfInBounds_toArray, List.set_cons_zero, List.set_cons_succ, i64_w, i32_w]
                    rfl
                  refine one_ (i := 21) (N := some 36) #[true, true, true, true, true, true, true, true, true, true, true, true, true, true, true, true, true, true, true, true, true, true, false] rfl rfl (one_of HT_.out (by kernel_rfl)) (by decide) (fun K hK => ?_)
                  refine Kd.R_append_step k42 (w0 := w) w.heap.size (by rfl) (.tmp 15) (.tmp 35) 28 42 (.agg #[(.string ⟨#[]⟩), (.int .i64 0)]) 24 rfl Tryd.underlying28 info42 rfl (by decide) (by omega) u3 x3_1 (⟨((rd_T42 l0 x4_1).f0).extract 0 ((ji5) : Int).toNat, (rd_T42 l0 x4_1).f1⟩ : S42) [.string (((rd_T42 l0 x4_1).f0).extract 0 ((ji5) : Int).toNat), .int .i64 ((rd_T42 l0 x4_1).f1)] (fun _ => True) (fun _ => False) rfl rfl ?aP (fun _ hk => hk.elim) ?aF ?aO ?aB ?aS ?aL ?_
                  (case aP => exact k42_mkM _ _ _ (⟨((rd_T42 l0 x4_1).f0).extract 0 ((ji5) : Int).toNat, (rd_T42 l0 x4_1).f1⟩ : S42))
                  (case aB => exact (by repeat (first | (with_reducible first | exact HB.out | apply below_alloc | apply pw_below_drewN | apply below_drew1) | exact HB.out)))
                  (case aF => exact (fun _ _ => trivial))
                  (case aO => exact (by (with_reducible repeat (first | apply Kd.R_alloc | apply Kd.R_drewN | apply Kd.R_drew)); exact HO_3.out))
                  (case aS => exact (below_size (by repeat (first | (with_reducible first | exact HB.out | apply below_alloc | apply pw_below_drewN | apply below_drew1) | exact HB.out))))
                  (case aL => have := LMc8.out; omega)
                  intro v105 w10 ho hb hg hat
                  rw [← Ny104.out] at ho
                  have n0_ := Aside0.mk (hb)
                  have n1_ := Aside0.mk (ho)
                  clear HB
                  clear HO_3
                  have HB := n0_
                  have HO106 := n1_
                  clear n0_ n1_
                  clear ho hb hg hat
                  refine hK.out _ _ ⟨((HB.out.cell (World.block_lt_of_cell? w _ hw101_0)).trans hw101_0), ((HB.out.cell (World.block_lt_of_cell? w _ hw101_1)).trans hw101_1), ((HB.out.cell (World.block_lt_of_cell? w _ hw102_0)).trans hw102_0), ((HB.out.cell (World.block_lt_of_cell? w _ hw102_1)).trans hw102_1), ((HB.out.cell (World.block_lt_of_cell? w _ hw103_0)).trans hw103_0), ((HB.out.cell (World.block_lt_of_cell? w _ hw103_1)).trans hw103_1)⟩ (fun hHeld => ?_)
                  clear hK K
                  refine norm_ (a' := ?_) ?_ ?_
                  rotate_left
                  · show Act.put _ (some 36) _ = _
                    simp only [Act.put, List.setIfInBounds_toArray, List.set_cons_zero, List.set_cons_succ, i64_w, i32_w]
                    rfl
                  refine pure_ (i := 22) (N := some 3) (v := ?_) (a' := ?_) #[true, true, true, true, true, true, true, true, true, true, true, true, true, true, true, true, true, true, true, true, true, true, true] rfl rfl (any_of HT_.out (by kernel_rfl)) (fun _ _ _ h => h) (Or.inl ⟨by rfl, ?_⟩) ?_ ?_
                  rotate_left
                  · intro w'
                    go_simp
                    with_reducible rfl
                  rotate_left
                  · simp only [Act.put, List.setIfInBounds_toArray, List.set_cons_zero, List.set_cons_succ, i64_w, i32_w]
                    rfl
                  refine done_ (done_of HT_.out (by kernel_rfl)) ?_
                  try go_wp2
                  go_roundg k1
                  case measure => have := HK1.out; omega
                  case rel => exact ⟨(y104), (wrap64 (x4_1 + 1)), (by first | rfl | (simp; done) | (simp [*]; done)), H', ⟨by have := HK1.out; omega⟩, ⟨by (with_reducible repeat (first | apply Kd.R_alloc | apply Kd.R_drewN | apply Kd.R_drew)); exact HO106.out⟩, ⟨by repeat (first | (with_reducible first | exact HB.out | apply below_alloc | apply pw_below_drewN | apply below_drew1) | exact HB.out)⟩⟩
                · rw [if_neg c8] at H
                  exact absurd H (by simp)
              · rw [if_neg c7] at H
                exact absurd H (by simp)
            · rw [if_neg c6] at H
              exact absurd H (by simp)
          · rw [if_neg c4] at H
            exact absurd H (by simp)
        · rw [if_neg c3] at H
          have c3b0 : decide (x4_1 < 12) = false := decide_eq_false c3
          clear c3
          obtain rfl := Option.some.inj H
          go_wp2
          go_ret
          exact ⟨_, by first | rfl | (simp [errW_none, errW_some] <;> rfl) | (simp [*, errW_none, errW_some] <;> rfl), by (with_reducible repeat (first | apply Kd.R_alloc | apply Kd.R_drewN | apply Kd.R_drew)); exact HO_3.out, by repeat (first | (with_reducible first | exact HB.out | apply below_alloc | apply pw_below_drewN | apply below_drew1) | exact HB.out)⟩
      · rw [if_neg c2] at H
        have c2b0 : decide (x4_1 < (l0.length : Int)) = false := decide_eq_false c2
        clear c2
        obtain rfl := Option.some.inj H
        go_wp2
        go_ret
        exact ⟨_, by first | rfl | (simp [errW_none, errW_some] <;> rfl) | (simp [*, errW_none, errW_some] <;> rfl), by (with_reducible repeat (first | apply Kd.R_alloc | apply Kd.R_drewN | apply Kd.R_drew)); exact HO_3.out, by repeat (first | (with_reducible first | exact HB.out | apply below_alloc | apply pw_below_drewN | apply below_drew1) | exact HB.out)⟩
end Go.Proofs.YtgeldmhgbnamcaaDoor.Q
end
section
namespace Go.Proofs.YtgeldmhgbnamcaaDoor.P
open Go.RowKit Go.Proofs.YtgeldmhgbnamcaaDoorW.PrintWords Go.Proofs.YtgeldmhgbnamcaaDoorW.PrintLast Go.Proofs.YtgeldmhgbnamcaaDoorW.PrintMore
open Go.Proofs.YtgeldmhgbnamcaaDoor.Q (S42 k42 z42 rd_T42 at_T42 marchlandlaw02_few.l0 marchlandlaw02_few.f marchlandlaw02_few.calls)
set_option linter.unusedVariables false
set_option linter.unusedSimpArgs false
def few1 (p : S42) : S42 := ⟨p.f0.extract 0 (mn (p.f0.size : Int) 20).toNat, p.f1⟩
def fewL (l : List S42) : List S42 := (l.take 12).map few1
theorem mn_le (n : Nat) : 0 ≤ mn (n : Int) 20 ∧ mn (n : Int) 20 ≤ (n : Int) ∧ mn (n : Int) 20 ≤ 20 := by
 unfold mn
 split <;> omega
theorem few_l0 (l : List S42) : ∀ (d i : Nat) (acc : List S42), min l.length 12 ≤ i + d → i ≤ min l.length 12 → acc.length = i →
  marchlandlaw02_few.l0 (d + 1) l acc (i : Int) = some (acc ++ ((l.take 12).drop i).map few1) := by
 intro d
 induction d with
 | zero =>
  intro i acc h1 h2 h3
  have e : (l.take 12).drop i = [] := List.drop_eq_nil_of_le (by rw [List.length_take]; omega)
  rw [e, List.map_nil, List.append_nil, marchlandlaw02_few.l0]
  by_cases a : (i : Int) < (l.length : Int)
  ·rw [if_pos a, if_neg (by omega)]
  ·rw [if_neg a]
 | succ d ih =>
  intro i acc h1 h2 h3
  by_cases a : i < min l.length 12
  ·have hi : i < l.length := by omega
   have m := mn_le ((rd_T42 l (i : Int)).f0).size
   rw [marchlandlaw02_few.l0, if_pos (by omega), if_pos (by omega), if_pos (by omega), if_pos m.1, if_pos m.2.1, if_pos (by omega)]
   rw [show wrap64 ((i : Int) + 1) = ((i + 1 : Nat) : Int) by unfold wrap64; omega]
   have hr : rd_T42 l (i : Int) = l[i] := by unfold rd_T42; rw [Int.toNat_natCast, List.getD_eq_getElem?_getD, List.getElem?_eq_getElem hi]; rfl
   rw [ih (i + 1) _ (by omega) (by omega) (by rw [List.length_append, h3]; rfl)]
   rw [List.drop_eq_getElem_cons (show i < (l.take 12).length by rw [List.length_take]; omega), List.map_cons, List.append_assoc, List.getElem_take, ← hr]
   rfl
  ·have e : (l.take 12).drop i = [] := List.drop_eq_nil_of_le (by rw [List.length_take]; omega)
   rw [e, List.map_nil, List.append_nil, marchlandlaw02_few.l0]
   by_cases a : (i : Int) < (l.length : Int)
   ·rw [if_pos a, if_neg (by omega)]
   ·rw [if_neg a]
theorem few_ev (l : List S42) : marchlandlaw02_few.f 13 l = some (fewL l) := by
 show marchlandlaw02_few.l0 (12 + 1) l [] ((0 : Nat) : Int) = _
 rw [few_l0 l 12 0 [] (by omega) (by omega) rfl]
 rfl
theorem few_C (A : Option Addr) (c : Nat) (l : List S42) (W : World) (hC : Kd.C k42 W A l.length l) (hc : l.length ≤ c) :
  Calls Tryd.prog 17 #[.slice A l.length c] W fun e w' => ∃ A1 c1, e = .returned (.slice A1 (fewL l).length c1) ∧ Kd.C k42 w' A1 (fewL l).length (fewL l) ∧ (fewL l).length ≤ c1 ∧ Below W.heap.size W w' := by
 refine (marchlandlaw02_few.calls 13 A c l (fewL l) W hC hc (few_ev l)).mono ?_
 rintro e w' ⟨v, rfl, hr, hb⟩
 obtain ⟨A1, c1, rfl⟩ := Kd.R_slice hr
 exact ⟨A1, c1, rfl, (Kd.R_reads' hr).2.2, (Kd.R_reads' hr).2.1, hb⟩
open Go.RowKit Go.Proofs.YtgeldmhgbnamcaaDoorW.PrintWords
def words15 : List ByteArray := [⟨#[111, 107]⟩, ⟨#[97, 114, 103, 117, 109, 101, 110, 116]⟩, ⟨#[112, 111, 114, 116]⟩, ⟨#[99, 121, 99, 108, 101]⟩, ⟨#[109, 97, 110, 121]⟩, ⟨#[117, 110, 106, 117, 115, 116, 105, 102, 105, 101, 100]⟩, ⟨#[98, 97, 99, 107]⟩, ⟨#[115, 116, 97, 108, 101]⟩, ⟨#[99, 108, 111, 115, 101, 100]⟩, ⟨#[102, 117, 108, 108]⟩, ⟨#[111, 118, 101, 114]⟩, ⟨#[115, 116, 97, 116, 101]⟩, ⟨#[102, 111, 114, 109]⟩, ⟨#[119, 111, 114, 100]⟩, ⟨#[110, 111, 110, 101]⟩]
def wordOf (k : Int) : ByteArray := words15.getD k.toNat ⟨#[]⟩
set_option maxHeartbeats 4000000 in
set_option maxRecDepth 100000 in
theorem Error_calls (k : Int) (h0 : 0 ≤ k) (h1 : k < 15) (W : World) : Calls Tryd.prog 55 #[.int .i64 k] W fun e w' => e = .returned (.string (wordOf k)) ∧ Below W.heap.size W w' := by
 have hk : k = 0 ∨ k = 1 ∨ k = 2 ∨ k = 3 ∨ k = 4 ∨ k = 5 ∨ k = 6 ∨ k = 7 ∨ k = 8 ∨ k = 9 ∨ k = 10 ∨ k = 11 ∨ k = 12 ∨ k = 13 ∨ k = 14 := by omega
 rcases hk with rfl | rfl | rfl | rfl | rfl | rfl | rfl | rfl | rfl | rfl | rfl | rfl | rfl | rfl | rfl
 all_goals
  clear h0 h1
  go_enter Tryd.func55, Tryd.ntmps55
  go_wp2
  go_ret
  exact ⟨rfl, below_alloc (Below.refl _ _) _⟩
end Go.Proofs.YtgeldmhgbnamcaaDoor.P
end
