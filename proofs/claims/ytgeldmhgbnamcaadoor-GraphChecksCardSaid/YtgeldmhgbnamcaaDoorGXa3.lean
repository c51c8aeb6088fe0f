/- Walks and laws of several statements of this seat, joined into one text; no condition. -/
import Derived.Test.YtgeldmhgbnamcaaDoorProg
import Derived.Below
import Derived.Deep.Draws
import Derived.Deep.AppendLies
import Derived.Maps.AppendAt
import Derived.OwnWalk
import Derived.Laws.BytesArg
import Derived.Laws.MakeOwn
import Derived.Laws.OwnMore
import Derived.Deep.OwnRows
import Derived.Tactics
import Derived.Lib.ConvBytes
import Derived.Laws.Slices
import Derived.WalkKit
import Derived.KernelRfl
import Derived.RowKit3
import Derived.Deep.LoopGhost
import Derived.Deep.QuietTactic
import Derived.BigQuiet
import Derived.WideLaws
import Derived.Deep.DeepCutAuto
import Derived.Deep.CutBlock
import Derived.Deep.RegionHeld3
import Derived.Laws.Rows
import Derived.Lib.AppendStr
import Derived.ArgAppend
import Derived.Laws.IdiomCopy
import Derived.OrdersHeld
import Derived.Laws.BitsLemmas
import Derived.RowKit
import Derived.Laws.StructEq
import Derived.Laws.CopyOwn
import Derived.Deep.RegionLaw
import Derived.LoopTactic
import Derived.Outline
import Derived.IntWalk
import Derived.Test.YtgeldmhgbnamcaaDoorGXa0
import Derived.Test.YtgeldmhgbnamcaaDoorGXa1
import Derived.Test.YtgeldmhgbnamcaaDoorGXa2
section
namespace Go.Proofs.YtgeldmhgbnamcaaDoor.Q
open Go.Proofs.YtgeldmhgbnamcaaDoor.P (slices_Repeat.f slices_Repeat.calls)
open Go.RowKit Go.Proofs.YtgeldmhgbnamcaaDoorW.PrintWords Go.Proofs.YtgeldmhgbnamcaaDoorW.PrintLast Go.Proofs.YtgeldmhgbnamcaaDoorW.PrintMore
attribute [local go_sem] max2_int min2_int max_two min_two max_three min_three max_four min_four
set_option linter.unusedVariables false
set_option linter.unusedSimpArgs false
mutual
def graph_Graph_ways.l0 : Nat → List (List Int) → Int → Int → Int → List (S127) → List Int → Option ((List (List Int)))
  | 0, _, _, _, _, _, _ => none
  | k + 1, x3, x12, x13, x200000, x200001, x200002 => if x13 < x12 then ((slices_Repeat.f (([18446744073709551615] : List Int)) x200000).bind fun t203 => (if 0 ≤ x13 then (if x13 < (t203.length : Int) then (if x3.length < 5864062014805 then (graph_Graph_ways.l0 k (x3 ++ [(t203.set (x13 : Int).toNat 0)]) x12 (wrap64 (x13 + 1)) x200000 x200001 x200002) else (none)) else (none)) else (none))) else (graph_Graph_ways.l1 k x3 x200001 (x200001.length : Int) 0 x200000 x200001 x200002)
def graph_Graph_ways.l1 : Nat → List (List Int) → List (S127) → Int → Int → Int → List (S127) → List Int → Option ((List (List Int)))
  | 0, _, _, _, _, _, _, _ => none
  | k + 1, x3, x29, x30, x31, x200000, x200001, x200002 => if x31 < x30 then (if 0 ≤ x31 then (if x31 < (x29.length : Int) then (if ((rd_T127 x29 x31).f0) = ((rd_T127 x29 x31).f1) then (graph_Graph_ways.l1 k x3 x29 x30 (wrap64 (x31 + 1)) x200000 x200001 x200002) else (if 0 ≤ ((rd_T127 x29 x31).f0) then (if ((rd_T127 x29 x31).f0) < (x3.length : Int) then (if 0 ≤ ((rd_T127 x29 x31).f1) then (if ((rd_T127 x29 x31).f1) < ((rd_L8 x3 ((rd_T127 x29 x31).f0)).length : Int) then (graph_Graph_ways.l1 k (x3.set (((rd_T127 x29 x31).f0) : Int).toNat ((rd_L8 x3 ((rd_T127 x29 x31).f0)).set (((rd_T127 x29 x31).f1) : Int).toNat (mn (rd (rd_L8 x3 ((rd_T127 x29 x31).f0)) ((rd_T127 x29 x31).f1)) ((rd_T127 x29 x31).f2)))) x29 x30 (wrap64 (x31 + 1)) x200000 x200001 x200002) else (none)) else (none)) else (none)) else (none))) else (none)) else (none)) else (graph_Graph_ways.l2 k x3 x200000 0 x200000 x200001 x200002)
def graph_Graph_ways.l2 : Nat → List (List Int) → Int → Int → Int → List (S127) → List Int → Option ((List (List Int)))
  | 0, _, _, _, _, _, _ => none
  | k + 1, x3, x62, x63, x200000, x200001, x200002 => if x63 < x62 then (graph_Graph_ways.l3 k x3 x63 x62 x63 x200000 0 x200000 x200001 x200002) else (some x3)
def graph_Graph_ways.l3 : Nat → List (List Int) → Int → Int → Int → Int → Int → Int → List (S127) → List Int → Option ((List (List Int)))
  | 0, _, _, _, _, _, _, _, _, _ => none
  | k + 1, x3, x8, x62, x63, x67, x68, x200000, x200001, x200002 => if x68 < x67 then (graph_Graph_ways.l4 k x3 x8 x68 x62 x63 x67 x68 x200000 0 x200000 x200001 x200002) else (graph_Graph_ways.l2 k x3 x62 (wrap64 (x63 + 1)) x200000 x200001 x200002)
def graph_Graph_ways.l4 : Nat → List (List Int) → Int → Int → Int → Int → Int → Int → Int → Int → Int → List (S127) → List Int → Option ((List (List Int)))
  | 0, _, _, _, _, _, _, _, _, _, _, _, _ => none
  | k + 1, x3, x8, x9, x62, x63, x67, x68, x72, x73, x200000, x200001, x200002 => if x73 < x72 then (if 0 ≤ x9 then (if x9 < (x3.length : Int) then (if 0 ≤ x73 then (if x73 < ((rd_L8 x3 x9).length : Int) then (if 0 ≤ x8 then (if x8 < ((rd_L8 x3 x9).length : Int) then (if x8 < (x3.length : Int) then (if x73 < ((rd_L8 x3 x8).length : Int) then ((stamp_Plus.f (rd (rd_L8 x3 x9) x8) (rd (rd_L8 x3 x8) x73)).bind fun t225 => (graph_Graph_ways.l4 k (x3.set (x9 : Int).toNat ((rd_L8 x3 x9).set (x73 : Int).toNat (mn (rd (rd_L8 x3 x9) x73) t225))) x8 x9 x62 x63 x67 x68 x72 (wrap64 (x73 + 1)) x200000 x200001 x200002)) else (none)) else (none)) else (none)) else (none)) else (none)) else (none)) else (none)) else (none)) else (graph_Graph_ways.l3 k x3 x8 x62 x63 x67 (wrap64 (x68 + 1)) x200000 x200001 x200002)
end
def graph_Graph_ways.f (k : Nat) (a0_0 : Int) (l0_1 : List (S127)) (l0_2 : List Int) : Option ((List (List Int))) := graph_Graph_ways.l0 k ([] : List (List Int)) a0_0 0 a0_0 l0_1 l0_2
def graph_Graph_ways.T13 : Bool × List (List Nat × List Nat) := (true, [([], []), ([], []), ([1], [1]), ([0, 2], [0, 2]), ([3], [3]), ([], []), ([5], [5]), ([], []), ([], []), ([8], [8]), ([7, 9], [7, 9]), ([10], [10]), ([], []), ([12], [12]), ([11, 13], [11, 13]), ([14], [14]), ([], []), ([16], [16]), ([15, 17], [15, 17]), ([4, 6, 0, 1, 2, 3, 4, 5, 6, 7, 8, 9, 10, 11, 12, 13, 14, 15, 16, 17, 18], [4, 6]), ([19, 18, 0, 1, 2, 3, 4, 5, 6, 7, 8, 9, 10, 11, 12, 13, 14, 15, 16, 17, 18], [18, 19])])
def graph_Graph_ways.B13 : List Nat := [0, 0, 2, 7, 15, 0, 32, 0, 0, 256, 896, 1920, 0, 4096, 16256, 32640, 0, 65536, 262016, 524287, 1048575]
theorem graph_Graph_ways.tab13 : rtab .any (opsOf Tryd.f70 13) = graph_Graph_ways.T13 := by kernel_rfl
theorem graph_Graph_ways.bits13 : waitsOk graph_Graph_ways.T13.2 graph_Graph_ways.B13 = true := by kernel_rfl
def graph_Graph_ways.T24 : Bool × List (List Nat × List Nat) := (true, [([], []), ([], []), ([0, 1], [0, 1]), ([2], [2]), ([], []), ([], []), ([], []), ([5, 6], [5, 6]), ([7], [7]), ([], []), ([8, 9], [8, 9]), ([10], [10]), ([], []), ([], []), ([12, 13], [12, 13]), ([14], [14]), ([], []), ([15, 16], [15, 16]), ([17], [17]), ([], []), ([], []), ([19, 20], [19, 20]), ([21], [21]), ([], []), ([22, 23], [22, 23]), ([24], [24]), ([18, 25], [18, 25]), ([11, 26], [11, 26]), ([3, 4, 0, 1, 2, 3, 4, 5, 6, 7, 8, 9, 10, 11, 12, 13, 14, 15, 16, 17, 18, 19, 20, 21, 22, 23, 24, 25, 26, 27], [3, 4]), ([28, 27, 26, 0, 1, 2, 3, 4, 5, 6, 7, 8, 9, 10, 11, 12, 13, 14, 15, 16, 17, 18, 19, 20, 21, 22, 23, 24, 25, 26, 27], [27, 28])])
def graph_Graph_ways.B24 : List Nat := [0, 0, 3, 7, 0, 0, 0, 96, 224, 0, 992, 2016, 0, 0, 12288, 28672, 0, 126976, 258048, 0, 0, 1572864, 3670016, 0, 16252928, 33030144, 67104768, 134217696, 268435455, 536870911]
theorem graph_Graph_ways.tab24 : rtab .any (opsOf Tryd.f70 24) = graph_Graph_ways.T24 := by kernel_rfl
theorem graph_Graph_ways.bits24 : waitsOk graph_Graph_ways.T24.2 graph_Graph_ways.B24 = true := by kernel_rfl
set_option maxHeartbeats 8000000 in
set_option maxRecDepth 100000 in
theorem graph_Graph_ways.calls (k : Nat) (a0_0 : Int) (A0_1 : Option Addr) (c0_1 : Nat) (l0_1 : List (S127)) (A0_2 : Option Addr) (c0_2 : Nat) (l0_2 : List Int) (r : List (List Int)) (w : World) (hr0_1 : Kd.C k127 w A0_1 l0_1.length l0_1) (hc0_1 : l0_1.length ≤ c0_1) (hr0_2 : Kd.C (Kd.int .i64) w A0_2 l0_2.length l0_2) (hc0_2 : l0_2.length ≤ c0_2) (h : graph_Graph_ways.f k a0_0 l0_1 l0_2 = some r) :
    Calls Tryd.prog 70 #[.agg #[.int .i64 a0_0, .slice A0_1 l0_1.length c0_1, .slice A0_2 l0_2.length c0_2]] w fun e w' => ∃ v0_ : Value, e = .returned (v0_) ∧ Kd.S (Kd.slice 22 (Kd.int .u64)) 73 w' w.heap.size (fun _ => True) v0_ r ∧ Below w.heap.size w w' := by
  have hu64 := Tryd.underlying64
  have hu127 := Tryd.underlying127
  have HR0_1 := Aside0.mk hr0_1
  have HC0_1 := Aside0.mk hc0_1
  clear hr0_1 hc0_1
  have HR0_2 := Aside0.mk hr0_2
  have HC0_2 := Aside0.mk hc0_2
  clear hr0_2 hc0_2
  have HB := Aside0.mk (Below.refl w.heap.size w)
  have H : (graph_Graph_ways.l0 k ([] : List (List Int)) a0_0 0 a0_0 l0_1 l0_2) = some r := h
  clear h
  have H' := Aside0.mk H
  clear H
  go_enter Tryd.func70, Tryd.ntmps70
  go_wp2_with (first | ((with_reducible refine gate_dst (N := 1) rfl ?_); refine box_event ?hg (N := 1) ?hd (cs := #[.int .i64 a0_0, .slice A0_1 l0_1.length c0_1, .slice A0_2 l0_2.length c0_2]) (t := 64) ?hr ?_; (case hd => rfl); (case hg => rfl); (case hr => first | (go_simp; done) | (go_simp; rfl)); intro gb199 hg w2 hbox hb; have n0_ := Aside0.mk (below_step (by repeat (first | (with_reducible first | exact HB.out | apply below_alloc | apply pw_below_drewN | apply below_drew1) | exact HB.out)) hb); have n1_ := Aside0.mk (hbox); have n2_ := Aside0.mk ((by rw [hg]; exact (below_size (by repeat (first | (with_reducible first | exact HB.out | apply below_alloc | apply pw_below_drewN | apply below_drew1) | exact HB.out))) : w.heap.size ≤ gb199)); have n3_ := Aside0.mk ((by rw [hg]; exact (below_size (by repeat (first | (with_reducible first | exact HB.out | apply below_alloc | apply pw_below_drewN | apply below_drew1) | exact HB.out))) : w.heap.size ≤ gb199)); clear HB; have HB := n0_; have BK199 := n1_; have GW199 := n2_; have GE199 := n3_; clear n0_ n1_ n2_ n3_; clear hb hbox hg; have hcz3_0 : w2.cell? ⟨gb199, 0, none⟩ = some (.int .i64 a0_0) := (blk_cell BK199.out 0).trans rfl; have hcz3_1 : w2.cell? ⟨gb199, 1, none⟩ = some (.slice A0_1 l0_1.length c0_1) := (blk_cell BK199.out 1).trans rfl; have hcz3_2 : w2.cell? ⟨gb199, 2, none⟩ = some (.slice A0_2 l0_2.length c0_2) := (blk_cell BK199.out 2).trans rfl; have hfz3_0 := blk_frozen BK199.out 0; have hfz3_1 := blk_frozen BK199.out 1; have hfz3_2 := blk_frozen BK199.out 2))
  go_loopg [3, 13] k (fun kq v3 v13 w' => ∃ (x3_1 : List (List Int)) (x13_1 : Int), v13 = .int .i64 x13_1 ∧ Aside0 (graph_Graph_ways.l0 kq x3_1 a0_0 x13_1 a0_0 l0_1 l0_2 = some r) ∧ Aside0 (kq ≤ k) ∧ Aside0 (Kd.S (Kd.slice 22 (Kd.int .u64)) 73 w' w.heap.size (fun _ => True) v3 x3_1) ∧ Aside0 (w'.heap[gb199]? = some (.cells #[.int .i64 a0_0, (.slice A0_1 l0_1.length c0_1), (.slice A0_2 l0_2.length c0_2)] 64 (0, 0))) ∧ Aside0 (Below w.heap.size w w'))
  case atStart => exact ⟨(([] : List (List Int))), (0), (by first | rfl | (simp; done) | (simp [*]; done)), H', ⟨Nat.le_refl _⟩, ⟨by first | exact Kd.S_nil _ _ _ _ _ | exact Kd.N_nil _ _ _ _ _ | exact Kd.V_nil _ _ _ _ _ | exact Kd.Q_nil _ _ _ _ _ | exact Kd.R_nil _ _ _ _ _⟩, ⟨by (with_reducible repeat (first | refine blk_drewN ?_ _ | refine blk_drew ?_ | refine blk_alloc ?_ _)); exact BK199.out⟩, ⟨by repeat (first | (with_reducible first | exact HB.out | apply below_alloc | apply pw_below_drewN | apply below_drew1 | refine below_set ?_ GE199.out) | exact HB.out)⟩⟩
  case round =>
    clear H'
    try clear p2
    try clear hcz3_0
    try clear hcz3_1
    try clear hcz3_2
    try clear hfz3_0
    try clear hfz3_1
    try clear hfz3_2
    obtain ⟨x3_1, x13_1, rfl, HA, HK1, HO_3, BK199, HB⟩ := hrel
    cases gk with
    | zero => exact absurd HA.out (by simp [graph_Graph_ways.l0])
    | succ k1 =>
      have H := HA.out
      clear HA
      simp only [graph_Graph_ways.l0] at H
      by_cases c4 : x13_1 < a0_0
      · rw [if_pos c4] at H
        have c4b0 : decide (x13_1 < a0_0) = true := decide_eq_true c4
        clear c4
        obtain ⟨y200, hy200⟩ : ∃ y_ : List Int, y_ = (([18446744073709551615] : List Int)) := ⟨_, rfl⟩
        replace H : ((slices_Repeat.f y200 a0_0).bind fun t203 => (if 0 ≤ x13_1 then (if x13_1 < (t203.length : Int) then (if x3_1.length < 5864062014805 then (graph_Graph_ways.l0 k1 (x3_1 ++ [(t203.set (x13_1 : Int).toNat 0)]) a0_0 (wrap64 (x13_1 + 1)) a0_0 l0_1 l0_2) else (none)) else (none)) else (none))) = some r := by first | (rw [hy200]; with_reducible exact H) | (have H2_ := (Option.bind_some _ _).symm.trans H; rw [hy200]; with_reducible exact H2_) | (have H2_ := (Option.bind_some _ _).symm.trans H; with_reducible exact H2_) | with_reducible exact H | (rw [hy200]; exact H) | exact H
        have Ny200 := Aside0.mk hy200
        clear hy200
        replace H := Option.bind_eq_some_iff.mp H
        obtain ⟨t203, A50, H⟩ := H
        replace H : (if 0 ≤ x13_1 then (if x13_1 < (t203.length : Int) then (if x3_1.length < 5864062014805 then (graph_Graph_ways.l0 k1 (x3_1 ++ [(t203.set (x13_1 : Int).toNat 0)]) a0_0 (wrap64 (x13_1 + 1)) a0_0 l0_1 l0_2) else (none)) else (none)) else (none)) = some r := H
        have A5 := Aside0.mk A50
        clear A50
        by_cases c6 : 0 ≤ x13_1
        · rw [if_pos c6] at H
          have c6b0 : decide (0 ≤ x13_1) = true := decide_eq_true c6
          clear c6
          by_cases c7 : x13_1 < (t203.length : Int)
          · rw [if_pos c7] at H
            have c7b0 : decide (x13_1 < (t203.length : Int)) = true := decide_eq_true c7
            clear c7
            obtain ⟨y206, hy206⟩ : ∃ y_ : List Int, y_ = (t203.set (x13_1 : Int).toNat 0) := ⟨_, rfl⟩
            replace H : (if x3_1.length < 5864062014805 then (graph_Graph_ways.l0 k1 (x3_1 ++ [y206]) a0_0 (wrap64 (x13_1 + 1)) a0_0 l0_1 l0_2) else (none)) = some r := by first | (rw [hy206]; with_reducible exact H) | (have H2_ := (Option.bind_some _ _).symm.trans H; rw [hy206]; with_reducible exact H2_) | (have H2_ := (Option.bind_some _ _).symm.trans H; with_reducible exact H2_) | with_reducible exact H | (rw [hy206]; exact H) | exact H
            have Ny206 := Aside0.mk hy206
            clear hy206
            by_cases c9 : x3_1.length < 5864062014805
            · rw [if_pos c9] at H
              have LMc9 := Aside0.mk c9
              clear c9
              obtain ⟨y207, hy207⟩ : ∃ y_ : List (List Int), y_ = (x3_1 ++ [y206]) := ⟨_, rfl⟩
              replace H : (graph_Graph_ways.l0 k1 y207 a0_0 (wrap64 (x13_1 + 1)) a0_0 l0_1 l0_2) = some r := by first | (rw [hy207]; with_reducible exact H) | (have H2_ := (Option.bind_some _ _).symm.trans H; rw [hy207]; with_reducible exact H2_) | (have H2_ := (Option.bind_some _ _).symm.trans H; with_reducible exact H2_) | with_reducible exact H | (rw [hy207]; exact H) | exact H
              have Ny207 := Aside0.mk hy207
              clear hy207
              have H' := Aside0.mk H
              clear H
              go_wp2_with (first | ((with_reducible refine gate_dst (N := 16) rfl ?_); refine Kd.R_lit (Kd.int .u64) _ 22 ?hg (N := 16) ?hd (xs := ([18446744073709551615] : List Int)) (inner := [.int .u64 18446744073709551615]) (ok := fun _ => True) (okp := fun _ => True) ?hr ?hp (fun _ hk => hk) trivial (Below.refl _ _) (Nat.le_refl _) (by simp) ?_; (case hd => rfl); (case hg => rfl); (case hr => first | (go_simp; done) | (go_simp; rfl)); (case hp => exact (Reps.one (show Kd.M (Kd.int .u64) _ _ _ 18446744073709551615 [.int .u64 18446744073709551615] from rfl) (Reps.none _ _))); intro v201 w10 ho11 hb hg_ hnew_; clear hg_ hnew_; (first | rw [← Ny200.out] at ho11 | (simp only [Int.reduceToNat] at ho11; rw [← Ny200.out] at ho11)); have n0_ := Aside0.mk (Kd.S_elder' (by (with_reducible repeat (first | apply Kd.S_alloc | apply Kd.S_drewN | apply Kd.S_drew)); exact HO_3.out) (Kd.R_base ho11) hb); have n1_ := Aside0.mk (Kd.R_lower ho11 (below_size (by repeat (first | (with_reducible first | exact HB.out | apply below_alloc | apply pw_below_drewN | apply below_drew1 | refine below_set ?_ GE199.out) | exact HB.out)))); have n2_ := Aside0.mk (blk_below (g := gb199) (o := .cells #[.int .i64 a0_0, .slice A0_1 l0_1.length c0_1, .slice A0_2 l0_2.length c0_2] 64 (0, 0)) (by (with_reducible repeat (first | refine blk_drewN ?_ _ | refine blk_drew ?_ | refine blk_alloc ?_ _)); exact BK199.out) hb); have n3_ := Aside0.mk (below_step (by repeat (first | (with_reducible first | exact HB.out | apply below_alloc | apply pw_below_drewN | apply below_drew1 | refine below_set ?_ GE199.out) | exact HB.out)) hb); clear HO_3; clear BK199; clear HB; have HO_3 := n0_; have HO202 := n1_; have BK199 := n2_; have HB := n3_; clear n0_ n1_ n2_ n3_; clear hb ho11; have hcz12_0 : w10.cell? ⟨gb199, 0, none⟩ = some (.int .i64 a0_0) := (blk_cell BK199.out 0).trans rfl; have hcz12_1 : w10.cell? ⟨gb199, 1, none⟩ = some (.slice A0_1 l0_1.length c0_1) := (blk_cell BK199.out 1).trans rfl; have hcz12_2 : w10.cell? ⟨gb199, 2, none⟩ = some (.slice A0_2 l0_2.length c0_2) := (blk_cell BK199.out 2).trans rfl; have hfz12_0 := blk_frozen BK199.out 0; have hfz12_1 := blk_frozen BK199.out 1; have hfz12_2 := blk_frozen BK199.out 2; obtain ⟨Ao13, co13, eo13⟩ := Kd.R_slice HO202.out; subst eo13) | ((with_reducible refine gate_callee (f := 92) rfl ?_); refine goesL_ (some 19) rfl rfl Tryd.func92 (by kernel_rfl) rfl #[.slice Ao13 y200.length co13, .int .i64 a0_0] rfl (by (try simp only [List.map_toArray, List.map_cons, List.map_nil]); first | done | rfl | (simp only [List.length_drop, List.length_take]; rfl)) ?_; (with_reducible refine (slices_Repeat.calls _ _ y200 a0_0 t203 _ ?side1 ?side2 A5.out).mono ?_); (case side1 => repeat (first | exact (Kd.R_reads' HO202.out).2.2 | (with_reducible refine Kd.C_alloc ?_ _) | (with_reducible refine Kd.C_drewN ?_ _) | (with_reducible refine Kd.C_drew ?_))); (case side2 => exact (Kd.R_reads' HO202.out).2.1); rintro e w14 ⟨v204, rfl, ho0, hb⟩; refine ⟨_, rfl, ?_⟩; have n0_ := Aside0.mk (Kd.S_elder' (by (with_reducible repeat (first | apply Kd.S_alloc | apply Kd.S_drewN | apply Kd.S_drew)); exact HO_3.out) (Kd.R_base ho0) hb); have n1_ := Aside0.mk (Kd.R_elder' (by (with_reducible repeat (first | apply Kd.R_alloc | apply Kd.R_drewN | apply Kd.R_drew)); exact HO202.out) (Kd.R_base ho0) hb); have n2_ := Aside0.mk (Kd.R_lower (Kd.R_new' ho0 (Kd.R_lt (by (with_reducible repeat (first | apply Kd.R_alloc | apply Kd.R_drewN | apply Kd.R_drew)); exact HO202.out))) (below_size (by repeat (first | (with_reducible first | exact HB.out | apply below_alloc | apply pw_below_drewN | apply below_drew1 | refine below_set ?_ GE199.out) | exact HB.out)))); have n3_ := Aside0.mk (blk_below (g := gb199) (o := .cells #[.int .i64 a0_0, .slice A0_1 l0_1.length c0_1, .slice A0_2 l0_2.length c0_2] 64 (0, 0)) (by (with_reducible repeat (first | refine blk_drewN ?_ _ | refine blk_drew ?_ | refine blk_alloc ?_ _)); exact BK199.out) hb); have n4_ := Aside0.mk (below_step (by repeat (first | (with_reducible first | exact HB.out | apply below_alloc | apply pw_below_drewN | apply below_drew1 | refine below_set ?_ GE199.out) | exact HB.out)) hb); clear HO_3; clear HO202; clear BK199; clear HB; have HO_3 := n0_; have HO202 := n1_; have HO205 := n2_; have BK199 := n3_; have HB := n4_; clear n0_ n1_ n2_ n3_ n4_; (try clear hb); (try clear hb2); (try clear hk); (try clear hi); (try clear ho0); have p8 : 0 ≤ (x13_1 : Int) := of_decide_eq_true (by first | (with_reducible assumption) | assumption); have q8 : (x13_1 : Int) < ((t203.length : Int) : Int) := of_decide_eq_true (by first | (with_reducible assumption) | assumption); obtain ⟨go8, co8, eo8, gb8, gl8, cl8, HG8⟩ := Kd.R_form HO205.out (by omega); (first | cases eo8 | (injection eo8 with ea_ en_ ec_; (first | subst ea_ | (injection ea_ with ea_; subst ea_)); subst ec_; clear en_)); have GB8 := Aside0.mk gb8; have GG8 := Aside0.mk HG8; clear gb8 gl8 HG8; obtain ⟨hx8_0, hf8_0⟩ := Kd.R_celln 0 HO205.out (x13_1 : Int) p8 q8; replace p8 := eq_true p8; replace q8 := eq_true q8; have n_ := Aside0.mk (Kd.R_mono (ok' := (fun k_ => some k_ ≠ (.slice Ao13 y200.length co13 : Value).ownBlock)) HO205.out (fun k_ hk => hk.2)); clear HO205; have HO205 := n_; clear n_; obtain ⟨hy15_, hz15_⟩ := Kd.R_celln 0 HO205.out (x13_1 : Int) (of_decide_eq_true (by first | (with_reducible assumption) | assumption)) (of_decide_eq_true (by first | (with_reducible assumption) | assumption)); have HP15 := Kd.R_putg HO205.out (x13_1 : Int) 0) | ((with_reducible refine gate_store (t := 22) (p := 22) rfl ?_); refine store_event (t := 22) (p := 22) (v := ?vo_w16) (w1 := (w14.setCell ⟨go8, (x13_1 : Int).toNat, none⟩ (.int .u64 0))) ?hg ?ho ?hn ?hr ?_; (case ho => rfl); (case hg => rfl); (case hn => rfl); (case hr => first | (go_simp; done) | (go_simp; rfl)); intro w16 hw; have hg : w14.grownBy w16 (some go8) := (by rw [hw]; exact HP15.2); have hp_ : Kd.R (Kd.int .u64) 22 w16 w.heap.size (fun k_ => some k_ ≠ (.slice Ao13 y200.length co13 : Value).ownBlock) (.slice (some ⟨go8, 0, none⟩) t203.length co8) y206 := (by rw [hw, Ny206.out]; exact HP15.1); clear HP15; have n0_ := Aside0.mk (Kd.S_after (v := (.slice (some ⟨go8, 0, none⟩) t203.length co8)) (v1 := (.slice (some ⟨go8, 0, none⟩) t203.length co8)) (ok := (fun k_ => some k_ ≠ (.slice Ao13 y200.length co13 : Value).ownBlock)) (by (with_reducible repeat (first | apply Kd.S_alloc | apply Kd.S_drewN | apply Kd.S_drew)); exact Kd.S_mono HO_3.out (fun _ hk => ⟨hk.1.2, hk.2⟩)) hg (.inl rfl)); have n1_ := Aside0.mk (blk_grown (g := gb199) (o := .cells #[.int .i64 a0_0, .slice A0_1 l0_1.length c0_1, .slice A0_2 l0_2.length c0_2] 64 (0, 0)) (by (with_reducible repeat (first | refine blk_drewN ?_ _ | refine blk_drew ?_ | refine blk_alloc ?_ _)); exact BK199.out) hg (Kd.R_ne HO205.out BK199.out (by decide))); have n2_ := Aside0.mk (Kd.R_after (v := (.slice (some ⟨go8, 0, none⟩) t203.length co8)) (v1 := (.slice (some ⟨go8, 0, none⟩) t203.length co8)) (ok := (fun _ => True)) (by (with_reducible repeat (first | apply Kd.R_alloc | apply Kd.R_drewN | apply Kd.R_drew)); exact HO202.out) hg (.inl rfl)); have n3_ := Aside0.mk (hp_); have n4_ := Aside0.mk ((by rw [hw]; exact below_set (HB.out) GB8.out : Below w.heap.size w w16)); clear HO_3; clear BK199; clear HO202; clear HO205; clear HB; have HO_3 := n0_; have BK199 := n1_; have HO202 := n2_; have HO205 := n3_; have HB := n4_; clear n0_ n1_ n2_ n3_ n4_; clear hg hw hp_) | ((with_reducible refine gate_builtin (b := .append) (xs := #[.tmp 23, .tmp 25]) rfl ?_); at_builtin; refine Kd.S_append (Kd.slice 22 (Kd.int .u64)) (w0 := w) w.heap.size rfl (.tmp 23) (.tmp 25) 69 73 (.slice none 0 0) 24 rfl Tryd.underlying69 info73 rfl (by decide) (by omega) u3 x3_1 y206 [.slice (some ⟨go8, 0, none⟩) t203.length co8] (fun k_ => some k_ ≠ (.slice Ao13 y200.length co13 : Value).ownBlock) (fun k_ => some k_ = (.slice (some ⟨go8, 0, none⟩) t203.length co8 : Value).ownBlock) rfl rfl ?aP (fun k_ hk_ => ((Kd.R_mono (ok' := fun k_ => ((fun k_ => some k_ ≠ (.slice Ao13 y200.length co13 : Value).ownBlock)) k_ ∧ some k_ ≠ (u3 : Value).ownBlock) (Kd.R_apart' (HO205.out) (Kd.S_typed HO_3.out) (by decide)) (fun k_ hk => ⟨hk.1, hk.2⟩))).1 k_ hk_.symm) ?aF ?aO ?aB ?aS ?aL ?_; (case aP => exact Kd.M_row (Kd.R_mono (Kd.R_tight rfl (Kd.R_mono (ok' := fun k_ => ((fun k_ => some k_ ≠ (.slice Ao13 y200.length co13 : Value).ownBlock)) k_ ∧ some k_ ≠ (u3 : Value).ownBlock) (Kd.R_apart' (HO205.out) (Kd.S_typed HO_3.out) (by decide)) (fun k_ hk => ⟨hk.1, hk.2⟩))) (fun _ h_ => h_))); (case aB => exact (by repeat (first | (with_reducible first | exact HB.out | apply below_alloc | apply pw_below_drewN | apply below_drew1 | refine below_set ?_ GE199.out) | exact HB.out))); (case aF => exact (fun k_ hk => Kd.fresh' (Kd.R_lt (by (with_reducible repeat (first | apply Kd.R_alloc | apply Kd.R_drewN | apply Kd.R_drew)); exact HO202.out)) k_ hk)); (case aO => exact (by (with_reducible repeat (first | apply Kd.S_alloc | apply Kd.S_drewN | apply Kd.S_drew)); exact Kd.S_mono HO_3.out (fun k_ hk => ⟨hk.1, fun e_ => hk.2 e_⟩))); (case aS => exact (below_size (by repeat (first | (with_reducible first | exact HB.out | apply below_alloc | apply pw_below_drewN | apply below_drew1 | refine below_set ?_ GE199.out) | exact HB.out)))); (case aL => have := LMc9.out; omega); intro v208 w17 ho hb hg hat; rw [← Ny207.out] at ho; have n0_ := Aside0.mk (blk_grown (g := gb199) (o := .cells #[.int .i64 a0_0, .slice A0_1 l0_1.length c0_1, .slice A0_2 l0_2.length c0_2] 64 (0, 0)) (by (with_reducible repeat (first | refine blk_drewN ?_ _ | refine blk_drew ?_ | refine blk_alloc ?_ _)); exact BK199.out) hg (Kd.S_ne HO_3.out BK199.out (by decide))); have n1_ := Aside0.mk (Kd.R_over' (by (with_reducible repeat (first | apply Kd.R_alloc | apply Kd.R_drewN | apply Kd.R_drew)); exact HO202.out) (Kd.S_typed (by (with_reducible repeat (first | apply Kd.S_alloc | apply Kd.S_drewN | apply Kd.S_drew)); exact HO_3.out)) (by decide) hg); have n2_ := Aside0.mk (hb); have n3_ := Aside0.mk (ho); clear BK199; clear HO202; clear HB; clear HO_3; clear HO205; have BK199 := n0_; have HO202 := n1_; have HB := n2_; have HO209 := n3_; clear n0_ n1_ n2_ n3_; clear ho hb hg hat))
              go_roundg k1
              case measure => have := HK1.out; omega
              case rel => exact ⟨(y207), (wrap64 (x13_1 + 1)), (by first | rfl | (simp; done) | (simp [*]; done)), H', ⟨by have := HK1.out; omega⟩, ⟨by (with_reducible repeat (first | apply Kd.S_alloc | apply Kd.S_drewN | apply Kd.S_drew)); exact Kd.S_mono HO209.out (fun _ hk => trivial)⟩, ⟨by (with_reducible repeat (first | refine blk_drewN ?_ _ | refine blk_drew ?_ | refine blk_alloc ?_ _)); exact BK199.out⟩, ⟨by repeat (first | (with_reducible first | exact HB.out | apply below_alloc | apply pw_below_drewN | apply below_drew1 | refine below_set ?_ GE199.out) | exact HB.out)⟩⟩
            · rw [if_neg c9] at H
              exact absurd H (by simp)
          · rw [if_neg c7] at H
            exact absurd H (by simp)
        · rw [if_neg c6] at H
          exact absurd H (by simp)
      · rw [if_neg c4] at H
        have c4b0 : decide (x13_1 < a0_0) = false := decide_eq_false c4
        clear c4
        have H' := Aside0.mk H
        clear H
        have hcz18_0 : wr.cell? ⟨gb199, 0, none⟩ = some (.int .i64 a0_0) := (blk_cell BK199.out 0).trans rfl
        have hcz18_1 : wr.cell? ⟨gb199, 1, none⟩ = some (.slice A0_1 l0_1.length c0_1) := (blk_cell BK199.out 1).trans rfl
        have hcz18_2 : wr.cell? ⟨gb199, 2, none⟩ = some (.slice A0_2 l0_2.length c0_2) := (blk_cell BK199.out 2).trans rfl
        have hfz18_0 := blk_frozen BK199.out 0
        have hfz18_1 := blk_frozen BK199.out 1
        have hfz18_2 := blk_frozen BK199.out 2
        go_wp2
        go_loopg [31] k1 (fun kq v31 w' => ∃ (x3_2 : List (List Int)) (x31_2 : Int), v31 = .int .i64 x31_2 ∧ Aside0 (graph_Graph_ways.l1 kq x3_2 l0_1 (l0_1.length : Int) x31_2 a0_0 l0_1 l0_2 = some r) ∧ Aside0 (kq ≤ k1) ∧ Aside0 (Kd.S (Kd.slice 22 (Kd.int .u64)) 73 w' w.heap.size (fun _ => True) u3 x3_2) ∧ Aside0 (w'.heap[gb199]? = some (.cells #[.int .i64 a0_0, (.slice A0_1 l0_1.length c0_1), (.slice A0_2 l0_2.length c0_2)] 64 (0, 0))) ∧ Aside0 (Below w.heap.size w w'))
        case atStart => exact ⟨(x3_1), (0), (by first | rfl | (simp; done) | (simp [*]; done)), H', ⟨Nat.le_refl _⟩, ⟨by (with_reducible repeat (first | apply Kd.S_alloc | apply Kd.S_drewN | apply Kd.S_drew)); exact HO_3.out⟩, ⟨by (with_reducible repeat (first | refine blk_drewN ?_ _ | refine blk_drew ?_ | refine blk_alloc ?_ _)); exact BK199.out⟩, ⟨by repeat (first | (with_reducible first | exact HB.out | apply below_alloc | apply pw_below_drewN | apply below_drew1 | refine below_set ?_ GE199.out) | exact HB.out)⟩⟩
        case round =>
          clear H'
          try clear p2
          try clear c4
          try clear c4b0
          try clear c6
          try clear c6b0
          try clear p6
          try clear c7
          try clear c7b0
          try clear p8
          try clear q8
          try clear hx8
          try clear hf8
          try clear c9
          try clear hcz12_0
          try clear hcz12_1
          try clear hcz12_2
          try clear hcz18_0
          try clear hcz18_1
          try clear hcz18_2
          try clear hcz3_0
          try clear hcz3_1
          try clear hcz3_2
          try clear hfz12_0
          try clear hfz12_1
          try clear hfz12_2
          try clear hfz18_0
          try clear hfz18_1
          try clear hfz18_2
          try clear hfz3_0
          try clear hfz3_1
          try clear hfz3_2
          try clear hx8_0
          try clear p2
          try clear p8
          try clear q8
          obtain ⟨x3_2, x31_2, rfl, HA, HK2, HO_3, BK199, HB⟩ := hrel
          cases gk with
          | zero => exact absurd HA.out (by simp [graph_Graph_ways.l1])
          | succ k2 =>
            have H := HA.out
            clear HA
            simp only [graph_Graph_ways.l1] at H
            by_cases c19 : x31_2 < (l0_1.length : Int)
            · rw [if_pos c19] at H
              have c19b0 : decide (x31_2 < (l0_1.length : Int)) = true := decide_eq_true c19
              clear c19
              by_cases c20 : 0 ≤ x31_2
              · rw [if_pos c20] at H
                have c20b0 : decide (0 ≤ x31_2) = true := decide_eq_true c20
                clear c20
                by_cases c21 : x31_2 < (l0_1.length : Int)
                · rw [if_pos c21] at H
                  have c21b0 : decide (x31_2 < (l0_1.length : Int)) = true := decide_eq_true c21
                  clear c21
                  by_cases c22 : ((rd_T127 l0_1 x31_2).f0) = ((rd_T127 l0_1 x31_2).f1)
                  · rw [if_pos c22] at H
                    have c22b0 : (((rd_T127 l0_1 x31_2).f0) == ((rd_T127 l0_1 x31_2).f1)) = true := beq_iff_eq.mpr c22
                    have c22b1 : (((rd_T127 l0_1 x31_2).f0) != ((rd_T127 l0_1 x31_2).f1)) = false := bne_eq_false_iff_eq.mpr c22
                    clear c22
                    have H' := Aside0.mk H
                    clear H
                    have p210 : 0 ≤ (x31_2 : Int) := of_decide_eq_true (by first | (with_reducible assumption) | assumption)
                    have q210 : x31_2 < (l0_1.length : Int) := of_decide_eq_true (by first | (with_reducible assumption) | assumption)
                    obtain ⟨ad210, e210, hx210_0, hx210_1, hx210_2⟩ := at_T127 HR0_1.out x31_2 p210 q210
                    cases e210
                    replace hx210_0 := (HB.out.cell (World.block_lt_of_cell? w _ hx210_0)).trans hx210_0
                    replace hx210_1 := (HB.out.cell (World.block_lt_of_cell? w _ hx210_1)).trans hx210_1
                    replace hx210_2 := (HB.out.cell (World.block_lt_of_cell? w _ hx210_2)).trans hx210_2
                    replace p210 := eq_true p210
                    replace q210 := eq_true q210
                    go_wp2_with (first | ((with_reducible refine gate_dst (N := 7) rfl ?_); refine box_event ?hg (N := 7) ?hd (cs := #[.int .i64 0, .int .i64 0, .int .u64 0]) (t := 127) ?hr ?_; (case hd => rfl); (case hg => rfl); (case hr => first | (go_simp; done) | (go_simp; rfl)); intro gb211 hg w23 hbox hb; have n0_ := Aside0.mk (Kd.S_below (by (with_reducible repeat (first | apply Kd.S_alloc | apply Kd.S_drewN | apply Kd.S_drew)); exact HO_3.out) hb); have n1_ := Aside0.mk (blk_below (g := gb199) (o := .cells #[.int .i64 a0_0, .slice (some ad210) l0_1.length c0_1, .slice A0_2 l0_2.length c0_2] 64 (0, 0)) (by (with_reducible repeat (first | refine blk_drewN ?_ _ | refine blk_drew ?_ | refine blk_alloc ?_ _)); exact BK199.out) hb); have n2_ := Aside0.mk (below_step (by repeat (first | (with_reducible first | exact HB.out | apply below_alloc | apply pw_below_drewN | apply below_drew1 | refine below_set ?_ GE199.out) | exact HB.out)) hb); have n3_ := Aside0.mk (hbox); have n4_ := Aside0.mk ((by rw [hg]; exact (below_size (by repeat (first | (with_reducible first | exact HB.out | apply below_alloc | apply pw_below_drewN | apply below_drew1 | refine below_set ?_ GE199.out) | exact HB.out))) : w.heap.size ≤ gb211)); have n5_ := Aside0.mk ((by rw [hg]; exact (below_size (by repeat (first | (with_reducible first | exact HB.out | apply below_alloc | apply pw_below_drewN | apply below_drew1 | refine below_set ?_ GE199.out) | exact HB.out))) : w.heap.size ≤ gb211)); have n6_ := Aside0.mk ((by rw [hg]; exact Nat.ne_of_lt (blk_lt (g := gb199) (o := .cells #[.int .i64 a0_0, .slice (some ad210) l0_1.length c0_1, .slice A0_2 l0_2.length c0_2] 64 (0, 0)) (by (with_reducible repeat (first | refine blk_drewN ?_ _ | refine blk_drew ?_ | refine blk_alloc ?_ _)); exact BK199.out)) : gb199 ≠ gb211)); have n7_ := Aside0.mk ((by rw [hg]; exact Nat.ne_of_gt (blk_lt (g := gb199) (o := .cells #[.int .i64 a0_0, .slice (some ad210) l0_1.length c0_1, .slice A0_2 l0_2.length c0_2] 64 (0, 0)) (by (with_reducible repeat (first | refine blk_drewN ?_ _ | refine blk_drew ?_ | refine blk_alloc ?_ _)); exact BK199.out)) : gb211 ≠ gb199)); clear HO_3; clear BK199; clear HB; have HO_3 := n0_; have BK199 := n1_; have HB := n2_; have BK211 := n3_; have GW211 := n4_; have GE211 := n5_; have NB199_211 := n6_; have NB211_199 := n7_; clear n0_ n1_ n2_ n3_ n4_ n5_ n6_ n7_; clear hb hbox hg; have hnb24 := NB211_199.out; have hnc24 := NB199_211.out; have hcz25_0 : w23.cell? ⟨gb211, 0, none⟩ = some (.int .i64 0) := (blk_cell BK211.out 0).trans rfl; have hcz25_1 : w23.cell? ⟨gb211, 1, none⟩ = some (.int .i64 0) := (blk_cell BK211.out 1).trans rfl; have hcz25_2 : w23.cell? ⟨gb211, 2, none⟩ = some (.int .u64 0) := (blk_cell BK211.out 2).trans rfl; have hfz25_0 := blk_frozen BK211.out 0; have hfz25_1 := blk_frozen BK211.out 1; have hfz25_2 := blk_frozen BK211.out 2))
                    go_roundg k2
                    case measure => have := HK1.out; have := HK2.out; omega
                    case rel => exact ⟨(x3_2), (wrap64 (x31_2 + 1)), (by first | rfl | (simp; done) | (simp [*]; done)), H', ⟨by have := HK1.out; have := HK2.out; omega⟩, ⟨by (with_reducible repeat (first | apply Kd.S_alloc | apply Kd.S_drewN | apply Kd.S_drew)); exact Kd.S_mono (Kd.S_far (p := ⟨gb211, 2, none⟩) (Kd.S_far (p := ⟨gb211, 1, none⟩) (Kd.S_far (p := ⟨gb211, 0, none⟩) (Kd.S_types HO_3.out BK211.out (by decide)) (fun _ hk => hk.2) (.int .i64 ((rd_T127 l0_1 x31_2).f0))) (fun _ hk => hk.2) (.int .i64 ((rd_T127 l0_1 x31_2).f1))) (fun _ hk => hk.2) (.int .u64 ((rd_T127 l0_1 x31_2).f2))) (fun _ hk => trivial)⟩, ⟨by (with_reducible repeat (first | refine blk_drewN ?_ _ | refine blk_drew ?_ | refine blk_alloc ?_ _)); refine blk_far ?_ NB199_211.out _; (with_reducible repeat (first | refine blk_drewN ?_ _ | refine blk_drew ?_ | refine blk_alloc ?_ _)); refine blk_far ?_ NB199_211.out _; (with_reducible repeat (first | refine blk_drewN ?_ _ | refine blk_drew ?_ | refine blk_alloc ?_ _)); refine blk_far ?_ NB199_211.out _; (with_reducible repeat (first | refine blk_drewN ?_ _ | refine blk_drew ?_ | refine blk_alloc ?_ _)); exact BK199.out⟩, ⟨by repeat (first | (with_reducible first | exact HB.out | apply below_alloc | apply pw_below_drewN | apply below_drew1 | refine below_set ?_ GE199.out | refine below_set ?_ GE211.out) | exact HB.out)⟩⟩
                  · rw [if_neg c22] at H
                    have c22b0 : (((rd_T127 l0_1 x31_2).f0) == ((rd_T127 l0_1 x31_2).f1)) = false := beq_eq_false_iff_ne.mpr c22
                    have c22b1 : (((rd_T127 l0_1 x31_2).f0) != ((rd_T127 l0_1 x31_2).f1)) = true := bne_iff_ne.mpr c22
                    by_cases c26 : 0 ≤ ((rd_T127 l0_1 x31_2).f0)
                    · rw [if_pos c26] at H
                      have c26b0 : decide (0 ≤ ((rd_T127 l0_1 x31_2).f0)) = true := decide_eq_true c26
                      clear c26
                      by_cases c27 : ((rd_T127 l0_1 x31_2).f0) < (x3_2.length : Int)
                      · rw [if_pos c27] at H
                        have c27b0 : decide (((rd_T127 l0_1 x31_2).f0) < (x3_2.length : Int)) = true := decide_eq_true c27
                        clear c27
                        by_cases c28 : 0 ≤ ((rd_T127 l0_1 x31_2).f1)
                        · rw [if_pos c28] at H
                          have c28b0 : decide (0 ≤ ((rd_T127 l0_1 x31_2).f1)) = true := decide_eq_true c28
                          clear c28
                          by_cases c29 : ((rd_T127 l0_1 x31_2).f1) < ((rd_L8 x3_2 ((rd_T127 l0_1 x31_2).f0)).length : Int)
                          · rw [if_pos c29] at H
                            have c29b0 : decide (((rd_T127 l0_1 x31_2).f1) < ((rd_L8 x3_2 ((rd_T127 l0_1 x31_2).f0)).length : Int)) = true := decide_eq_true c29
                            clear c29
                            obtain ⟨ji30, hji30⟩ : ∃ j_ : Int, (mn (rd (rd_L8 x3_2 ((rd_T127 l0_1 x31_2).f0)) ((rd_T127 l0_1 x31_2).f1)) ((rd_T127 l0_1 x31_2).f2)) = j_ := ⟨_, rfl⟩
                            replace H : (graph_Graph_ways.l1 k2 (x3_2.set (((rd_T127 l0_1 x31_2).f0) : Int).toNat ((rd_L8 x3_2 ((rd_T127 l0_1 x31_2).f0)).set (((rd_T127 l0_1 x31_2).f1) : Int).toNat (ji30))) l0_1 (l0_1.length : Int) (wrap64 (x31_2 + 1)) a0_0 l0_1 l0_2) = some r := by first | (rw [hji30] at H; exact H) | (simp only [hji30] at H ⊢; exact H)
                            have hji30_ : (if ((rd_T127 l0_1 x31_2).f2) < (rd (rd_L8 x3_2 ((rd_T127 l0_1 x31_2).f0)) ((rd_T127 l0_1 x31_2).f1)) then ((rd_T127 l0_1 x31_2).f2) else (rd (rd_L8 x3_2 ((rd_T127 l0_1 x31_2).f0)) ((rd_T127 l0_1 x31_2).f1))) = ji30 := hji30
                            obtain ⟨y215, hy215⟩ : ∃ y_ : List Int, y_ = ((rd_L8 x3_2 ((rd_T127 l0_1 x31_2).f0)).set (((rd_T127 l0_1 x31_2).f1) : Int).toNat (ji30)) := ⟨_, rfl⟩
                            replace H : (graph_Graph_ways.l1 k2 (x3_2.set (((rd_T127 l0_1 x31_2).f0) : Int).toNat y215) l0_1 (l0_1.length : Int) (wrap64 (x31_2 + 1)) a0_0 l0_1 l0_2) = some r := by first | (rw [hy215]; with_reducible exact H) | (have H2_ := (Option.bind_some _ _).symm.trans H; rw [hy215]; with_reducible exact H2_) | (have H2_ := (Option.bind_some _ _).symm.trans H; with_reducible exact H2_) | with_reducible exact H | (rw [hy215]; exact H) | exact H
                            have Ny215 := Aside0.mk hy215
                            clear hy215
                            obtain ⟨y217, hy217⟩ : ∃ y_ : List (List Int), y_ = (x3_2.set (((rd_T127 l0_1 x31_2).f0) : Int).toNat y215) := ⟨_, rfl⟩
                            replace H : (graph_Graph_ways.l1 k2 y217 l0_1 (l0_1.length : Int) (wrap64 (x31_2 + 1)) a0_0 l0_1 l0_2) = some r := by first | (rw [hy217]; with_reducible exact H) | (have H2_ := (Option.bind_some _ _).symm.trans H; rw [hy217]; with_reducible exact H2_) | (have H2_ := (Option.bind_some _ _).symm.trans H; with_reducible exact H2_) | with_reducible exact H | (rw [hy217]; exact H) | exact H
                            have Ny217 := Aside0.mk hy217
                            clear hy217
                            have H' := Aside0.mk H
                            clear H
                            have p210 : 0 ≤ (x31_2 : Int) := of_decide_eq_true (by first | (with_reducible assumption) | assumption)
                            have q210 : x31_2 < (l0_1.length : Int) := of_decide_eq_true (by first | (with_reducible assumption) | assumption)
                            obtain ⟨ad210, e210, hx210_0, hx210_1, hx210_2⟩ := at_T127 HR0_1.out x31_2 p210 q210
                            cases e210
                            replace hx210_0 := (HB.out.cell (World.block_lt_of_cell? w _ hx210_0)).trans hx210_0
                            replace hx210_1 := (HB.out.cell (World.block_lt_of_cell? w _ hx210_1)).trans hx210_1
                            replace hx210_2 := (HB.out.cell (World.block_lt_of_cell? w _ hx210_2)).trans hx210_2
                            replace p210 := eq_true p210
                            replace q210 := eq_true q210
                            try go_wp2_with (first | ((with_reducible refine gate_dst (N := 7) rfl ?_); refine box_event ?hg (N := 7) ?hd (cs := #[.int .i64 0, .int .i64 0, .int .u64 0]) (t := 127) ?hr ?_; (case hd => rfl); (case hg => rfl); (case hr => first | (go_simp; done) | (go_simp; rfl)); intro gb211 hg w32 hbox hb; have n0_ := Aside0.mk (Kd.S_below (by (with_reducible repeat (first | apply Kd.S_alloc | apply Kd.S_drewN | apply Kd.S_drew)); exact HO_3.out) hb); have n1_ := Aside0.mk (blk_below (g := gb199) (o := .cells #[.int .i64 a0_0, .slice (some ad210) l0_1.length c0_1, .slice A0_2 l0_2.length c0_2] 64 (0, 0)) (by (with_reducible repeat (first | refine blk_drewN ?_ _ | refine blk_drew ?_ | refine blk_alloc ?_ _)); exact BK199.out) hb); have n2_ := Aside0.mk (below_step (by repeat (first | (with_reducible first | exact HB.out | apply below_alloc | apply pw_below_drewN | apply below_drew1 | refine below_set ?_ GE199.out) | exact HB.out)) hb); have n3_ := Aside0.mk (hbox); have n4_ := Aside0.mk ((by rw [hg]; exact (below_size (by repeat (first | (with_reducible first | exact HB.out | apply below_alloc | apply pw_below_drewN | apply below_drew1 | refine below_set ?_ GE199.out) | exact HB.out))) : w.heap.size ≤ gb211)); have n5_ := Aside0.mk ((by rw [hg]; exact (below_size (by repeat (first | (with_reducible first | exact HB.out | apply below_alloc | apply pw_below_drewN | apply below_drew1 | refine below_set ?_ GE199.out) | exact HB.out))) : w.heap.size ≤ gb211)); have n6_ := Aside0.mk ((by rw [hg]; exact Nat.ne_of_lt (blk_lt (g := gb199) (o := .cells #[.int .i64 a0_0, .slice (some ad210) l0_1.length c0_1, .slice A0_2 l0_2.length c0_2] 64 (0, 0)) (by (with_reducible repeat (first | refine blk_drewN ?_ _ | refine blk_drew ?_ | refine blk_alloc ?_ _)); exact BK199.out)) : gb199 ≠ gb211)); have n7_ := Aside0.mk ((by rw [hg]; exact Nat.ne_of_gt (blk_lt (g := gb199) (o := .cells #[.int .i64 a0_0, .slice (some ad210) l0_1.length c0_1, .slice A0_2 l0_2.length c0_2] 64 (0, 0)) (by (with_reducible repeat (first | refine blk_drewN ?_ _ | refine blk_drew ?_ | refine blk_alloc ?_ _)); exact BK199.out)) : gb211 ≠ gb199)); clear HO_3; clear BK199; clear HB; have HO_3 := n0_; have BK199 := n1_; have HB := n2_; have BK211 := n3_; have GW211 := n4_; have GE211 := n5_; have NB199_211 := n6_; have NB211_199 := n7_; clear n0_ n1_ n2_ n3_ n4_ n5_ n6_ n7_; clear hb hbox hg; have hnb33 := NB211_199.out; have hnc33 := NB199_211.out; have hcz34_0 : w32.cell? ⟨gb211, 0, none⟩ = some (.int .i64 0) := (blk_cell BK211.out 0).trans rfl; have hcz34_1 : w32.cell? ⟨gb211, 1, none⟩ = some (.int .i64 0) := (blk_cell BK211.out 1).trans rfl; have hcz34_2 : w32.cell? ⟨gb211, 2, none⟩ = some (.int .u64 0) := (blk_cell BK211.out 2).trans rfl; have hfz34_0 := blk_frozen BK211.out 0; have hfz34_1 := blk_frozen BK211.out 1; have hfz34_2 := blk_frozen BK211.out 2))
                            have n0_ : Aside0 (Kd.S (Kd.slice 22 (Kd.int .u64)) 73 (((w32.setCell ⟨gb211, 0, none⟩ (.int .i64 ((rd_T127 l0_1 x31_2).f0))).setCell ⟨gb211, 1, none⟩ (.int .i64 ((rd_T127 l0_1 x31_2).f1))).setCell ⟨gb211, 2, none⟩ (.int .u64 ((rd_T127 l0_1 x31_2).f2))) w.heap.size (fun _ => True) u3 x3_2) := ⟨by (with_reducible repeat (first | apply Kd.S_alloc | apply Kd.S_drewN | apply Kd.S_drew)); exact Kd.S_mono (Kd.S_far (p := ⟨gb211, 2, none⟩) (Kd.S_far (p := ⟨gb211, 1, none⟩) (Kd.S_far (p := ⟨gb211, 0, none⟩) (Kd.S_types HO_3.out BK211.out (by decide)) (fun _ hk => hk.2) (.int .i64 ((rd_T127 l0_1 x31_2).f0))) (fun _ hk => hk.2) (.int .i64 ((rd_T127 l0_1 x31_2).f1))) (fun _ hk => hk.2) (.int .u64 ((rd_T127 l0_1 x31_2).f2))) (fun _ hk => trivial)⟩
                            have n1_ : Aside0 ((((w32.setCell ⟨gb211, 0, none⟩ (.int .i64 ((rd_T127 l0_1 x31_2).f0))).setCell ⟨gb211, 1, none⟩ (.int .i64 ((rd_T127 l0_1 x31_2).f1))).setCell ⟨gb211, 2, none⟩ (.int .u64 ((rd_T127 l0_1 x31_2).f2))).heap[gb199]? = some (.cells #[.int .i64 a0_0, .slice (some ad210) l0_1.length c0_1, .slice A0_2 l0_2.length c0_2] 64 (0, 0))) := ⟨by (with_reducible repeat (first | refine blk_drewN ?_ _ | refine blk_drew ?_ | refine blk_alloc ?_ _)); refine blk_far ?_ NB199_211.out _; (with_reducible repeat (first | refine blk_drewN ?_ _ | refine blk_drew ?_ | refine blk_alloc ?_ _)); refine blk_far ?_ NB199_211.out _; (with_reducible repeat (first | refine blk_drewN ?_ _ | refine blk_drew ?_ | refine blk_alloc ?_ _)); refine blk_far ?_ NB199_211.out _; (with_reducible repeat (first | refine blk_drewN ?_ _ | refine blk_drew ?_ | refine blk_alloc ?_ _)); exact BK199.out⟩
                            have n2_ : Aside0 ((((w32.setCell ⟨gb211, 0, none⟩ (.int .i64 ((rd_T127 l0_1 x31_2).f0))).setCell ⟨gb211, 1, none⟩ (.int .i64 ((rd_T127 l0_1 x31_2).f1))).setCell ⟨gb211, 2, none⟩ (.int .u64 ((rd_T127 l0_1 x31_2).f2))).heap[gb211]? = some (.cells #[.int .i64 ((rd_T127 l0_1 x31_2).f0), .int .i64 ((rd_T127 l0_1 x31_2).f1), .int .u64 ((rd_T127 l0_1 x31_2).f2)] 127 (0, 0))) := ⟨by (with_reducible repeat (first | refine blk_drewN ?_ _ | refine blk_drew ?_ | refine blk_alloc ?_ _)); refine blk_put (cs := #[.int .i64 ((rd_T127 l0_1 x31_2).f0), .int .i64 ((rd_T127 l0_1 x31_2).f1), .int .u64 0]) ?_ 2 _ rfl; (with_reducible repeat (first | refine blk_drewN ?_ _ | refine blk_drew ?_ | refine blk_alloc ?_ _)); refine blk_put (cs := #[.int .i64 ((rd_T127 l0_1 x31_2).f0), .int .i64 0, .int .u64 0]) ?_ 1 _ rfl; (with_reducible repeat (first | refine blk_drewN ?_ _ | refine blk_drew ?_ | refine blk_alloc ?_ _)); refine blk_put (cs := #[.int .i64 0, .int .i64 0, .int .u64 0]) ?_ 0 _ rfl; (with_reducible repeat (first | refine blk_drewN ?_ _ | refine blk_drew ?_ | refine blk_alloc ?_ _)); exact BK211.out⟩
                            have n3_ : Aside0 (Below w.heap.size w (((w32.setCell ⟨gb211, 0, none⟩ (.int .i64 ((rd_T127 l0_1 x31_2).f0))).setCell ⟨gb211, 1, none⟩ (.int .i64 ((rd_T127 l0_1 x31_2).f1))).setCell ⟨gb211, 2, none⟩ (.int .u64 ((rd_T127 l0_1 x31_2).f2)))) := ⟨by repeat (first | (with_reducible first | exact HB.out | apply below_alloc | apply pw_below_drewN | apply below_drew1 | refine below_set ?_ GE199.out | refine below_set ?_ GE211.out) | exact HB.out)⟩
                            (try clear HO_3)
                            (try clear BK199)
                            (try clear BK211)
                            (try clear HB)
                            generalize (((w32.setCell ⟨gb211, 0, none⟩ (.int .i64 ((rd_T127 l0_1 x31_2).f0))).setCell ⟨gb211, 1, none⟩ (.int .i64 ((rd_T127 l0_1 x31_2).f1))).setCell ⟨gb211, 2, none⟩ (.int .u64 ((rd_T127 l0_1 x31_2).f2))) = w35 at n0_ n1_ n2_ n3_ ⊢
                            have HO_3 := n0_
                            have BK199 := n1_
                            have BK211 := n2_
                            have HB := n3_
                            clear n0_ n1_ n2_ n3_
                            have n0_ := Aside0.mk (Kd.S_drew HO_3.out)
                            have n1_ := Aside0.mk (blk_drew BK199.out)
                            have n2_ := Aside0.mk (blk_drew BK211.out)
                            have n3_ := Aside0.mk (below_drew1 HB.out)
                            clear HO_3
                            clear BK199
                            clear BK211
                            clear HB
                            have HO_3 := n0_
                            have BK199 := n1_
                            have BK211 := n2_
                            have HB := n3_
                            clear n0_ n1_ n2_ n3_
                            obtain ⟨Ao37, co37, eo37⟩ := Kd.S_slice HO_3.out
                            (first | subst eo37 | (injection eo37 with f1_ f2_ f3_; have f4_ := f1_.symm; have f5_ := f3_.symm; clear f1_ f2_ f3_; subst f4_; subst f5_))
                            have p212 : 0 ≤ (((rd_T127 l0_1 x31_2).f0) : Int) := of_decide_eq_true (by first | (with_reducible assumption) | assumption)
                            have q212 : ((rd_T127 l0_1 x31_2).f0) < (x3_2.length : Int) := of_decide_eq_true (by first | (with_reducible assumption) | assumption)
                            obtain ⟨ad212, A212_0, c212_0, e212, hx212_0, hl212_0, hi212_0⟩ := at_L8 (Kd.S_reads' HO_3.out).2.2 ((rd_T127 l0_1 x31_2).f0) p212 q212
                            cases e212
                            obtain ⟨ce212, hce212, hMe212, hcc212⟩ := Kd.S_get HO_3.out [] ((rd_T127 l0_1 x31_2).f0) p212 (by first | exact q212 | exact of_decide_eq_true (by first | (with_reducible assumption) | assumption) | (have e_ := (Kd.S_reads' HO_3.out).1; omega))
                            obtain ⟨ve212_0, rfl, ge212_0⟩ := hMe212
                            have hv212_0 := hcc212 0 _ rfl
                            rw [Nat.add_zero, show ((Kd.slice 22 (Kd.int .u64))).sz = 1 from rfl, Nat.mul_one] at hv212_0
                            replace hv212_0 := Option.some.inj (hv212_0.symm.trans hx212_0)
                            rw [hv212_0] at ge212_0
                            have HL212_0 := Aside0.mk (show Kd.R (Kd.int .u64) 22 _ _ _ _ (rd_L8 x3_2 ((rd_T127 l0_1 x31_2).f0)) from ge212_0)
                            clear hv212_0 ge212_0
                            have HX212_0 := Aside0.mk hx212_0
                            clear hcc212 hce212
                            have HR212_0 := Aside0.mk hi212_0
                            have HC212_0 := Aside0.mk hl212_0
                            clear hi212_0 hl212_0
                            replace p212 := eq_true p212
                            replace q212 := eq_true q212
                            have p213 : 0 ≤ (((rd_T127 l0_1 x31_2).f0) : Int) := of_decide_eq_true (by first | (with_reducible assumption) | assumption)
                            have q213 : ((rd_T127 l0_1 x31_2).f0) < (x3_2.length : Int) := of_decide_eq_true (by first | (with_reducible assumption) | assumption)
                            obtain ⟨ad213, A213_0, c213_0, e213, hx213_0, hl213_0, hi213_0⟩ := at_L8 (Kd.S_reads' HO_3.out).2.2 ((rd_T127 l0_1 x31_2).f0) p213 q213
                            obtain rfl : ad212 = ad213 := (by injection e213)
                            obtain ⟨ce213, hce213, hMe213, hcc213⟩ := Kd.S_get HO_3.out [] ((rd_T127 l0_1 x31_2).f0) p213 (by first | exact q213 | exact of_decide_eq_true (by first | (with_reducible assumption) | assumption) | (have e_ := (Kd.S_reads' HO_3.out).1; omega))
                            obtain ⟨ve213_0, rfl, ge213_0⟩ := hMe213
                            have hv213_0 := hcc213 0 _ rfl
                            rw [Nat.add_zero, show ((Kd.slice 22 (Kd.int .u64))).sz = 1 from rfl, Nat.mul_one] at hv213_0
                            replace hv213_0 := Option.some.inj (hv213_0.symm.trans hx213_0)
                            rw [hv213_0] at ge213_0
                            have HL213_0 := Aside0.mk (show Kd.R (Kd.int .u64) 22 _ _ _ _ (rd_L8 x3_2 ((rd_T127 l0_1 x31_2).f0)) from ge213_0)
                            clear hv213_0 ge213_0
                            have HX213_0 := Aside0.mk hx213_0
                            clear hcc213 hce213
                            have HR213_0 := Aside0.mk hi213_0
                            have HC213_0 := Aside0.mk hl213_0
                            clear hi213_0 hl213_0
                            replace p213 := eq_true p213
                            replace q213 := eq_true q213
                            have ea_ := Option.some.inj (hx212_0.symm.trans hx213_0)
                            injection ea_ with ea_ en_ ec_
                            subst ea_
                            subst ec_
                            clear en_
                            have p214 : 0 ≤ (((rd_T127 l0_1 x31_2).f1) : Int) := of_decide_eq_true (by first | (with_reducible assumption) | assumption)
                            have q214 : ((rd_T127 l0_1 x31_2).f1) < ((rd_L8 x3_2 ((rd_T127 l0_1 x31_2).f0)).length : Int) := of_decide_eq_true (by first | (with_reducible assumption) | assumption)
                            obtain ⟨ad214, e214, hx214_0⟩ := Kd.at_int (by repeat (first | (with_reducible exact HR213_0.out) | (with_reducible refine Kd.C_alloc ?_ _) | (with_reducible refine Kd.C_drewN ?_ _) | (with_reducible refine Kd.C_drew ?_) | exact HR213_0.out)) ((rd_T127 l0_1 x31_2).f1) p214 q214
                            cases e214
                            replace p214 := eq_true p214
                            replace q214 := eq_true q214
                            have p31 : 0 ≤ (((rd_T127 l0_1 x31_2).f1) : Int) := of_decide_eq_true (by first | (with_reducible assumption) | assumption)
                            have q31 : (((rd_T127 l0_1 x31_2).f1) : Int) < (((rd_L8 x3_2 ((rd_T127 l0_1 x31_2).f0)).length : Int) : Int) := of_decide_eq_true (by first | (with_reducible assumption) | assumption)
                            obtain ⟨go31, co31, eo31, gb31, gl31, cl31, HG31⟩ := Kd.R_form HL212_0.out (by omega)
                            (first | cases eo31 | (injection eo31 with ea_ en_ ec_; (first | subst ea_ | (injection ea_ with ea_; subst ea_)); subst ec_; clear en_))
                            have GB31 := Aside0.mk gb31
                            have GG31 := Aside0.mk HG31
                            clear gb31 gl31 HG31
                            (first | simp only [add_plain] at hx214_0 | skip)
                            obtain ⟨hx31_0, hf31_0⟩ := Kd.R_celln 0 HL212_0.out (((rd_T127 l0_1 x31_2).f1) : Int) p31 q31
                            replace p31 := eq_true p31
                            replace q31 := eq_true q31
                            have hq38 : (((rd_T127 l0_1 x31_2).f0) : Int) < (x3_2.length : Int) := (by have h_ : (((rd_T127 l0_1 x31_2).f0) : Int) < ((x3_2.length : Int) : Int) := of_decide_eq_true (by first | (with_reducible assumption) | assumption); first | exact h_ | (have e_ := (Kd.S_reads' HO_3.out).1; omega) | simpa only [List.length_set, List.length_set] using h_)
                            obtain ⟨oki38, ce38, hcl38, hM38, hcc38, hok38, hbk38⟩ := Kd.S_borrow HO_3.out [] (((rd_T127 l0_1 x31_2).f0) : Int) (of_decide_eq_true (by first | (with_reducible assumption) | assumption)) hq38
                            obtain ⟨ve38_0, rfl, ge38_0⟩ := hM38
                            have hv38 := hcc38 0 _ rfl
                            rw [Nat.add_zero, show ((Kd.slice 22 (Kd.int .u64))).sz = 1 from rfl, Nat.mul_one] at hv38
                            replace hv38 := Option.some.inj (hv38.symm.trans HX212_0.out)
                            subst hv38
                            clear hcc38 hcl38
                            replace ge38_0 := (show Kd.R (Kd.int .u64) 22 _ _ _ _ (rd_L8 x3_2 ((rd_T127 l0_1 x31_2).f0)) from ge38_0)
                            have HP38 := Kd.R_putg ge38_0 (((rd_T127 l0_1 x31_2).f1) : Int) ji30
                            rw [← Ny215.out] at HP38
                            have HS38 := hbk38 HP38.2 (fun k_ e_ => by injection e_ with e_; subst e_; exact ge38_0.1 _ rfl) (x' := y215) (Kd.M_row HP38.1)
                            rw [← Ny217.out] at HS38
                            have HQ38 := Aside0.mk HS38
                            clear HP38 HS38 hbk38 hok38
                            refine start_ (n := 21) (S := fun w' => w'.cell? ⟨gb211, 0, none⟩ = some (.int .i64 ((rd_T127 l0_1 x31_2).f0)) ∧ w'.cell? ⟨gb211, 1, none⟩ = some (.int .i64 ((rd_T127 l0_1 x31_2).f1)) ∧ w'.cell? ⟨gb211, 2, none⟩ = some (.int .u64 ((rd_T127 l0_1 x31_2).f2)) ∧ w'.cell? (ad212.add (((rd_T127 l0_1 x31_2).f0)).toNat) = some (.slice (some ⟨go31, 0, none⟩) (rd_L8 x3_2 ((rd_T127 l0_1 x31_2).f0)).length c212_0) ∧ w'.cell? (ad212.add (((rd_T127 l0_1 x31_2).f0)).toNat) = some (.slice (some ⟨go31, 0, none⟩) (rd_L8 x3_2 ((rd_T127 l0_1 x31_2).f0)).length c212_0) ∧ w'.cell? ⟨go31, (((rd_T127 l0_1 x31_2).f1)).toNat, none⟩ = some (.int .u64 (rd (rd_L8 x3_2 ((rd_T127 l0_1 x31_2).f0)) ((rd_T127 l0_1 x31_2).f1)))) (ds := [20]) #[false, false, false, false, false, false, false, false, false, false, false, false, false, false, false, false, false, false, false, false, false] (by kernel_rfl) rfl rfl ⟨(blk_cell BK211.out 0).trans rfl, (blk_cell BK211.out 1).trans rfl, (blk_cell BK211.out 2).trans rfl, hx212_0, hx213_0, hx214_0⟩ (fun hHeld => ?_); refine with_tabW graph_Graph_ways.tab13 graph_Graph_ways.bits13 (fun HT_ HW_ => ?_)
                            generalize w35.drew = w36 at HO_3 BK199 BK211 HB GG31 HL212_0 HL213_0 HQ38 HR212_0 HR213_0 HX212_0 HX213_0 hf31_0 hx212_0 hx213_0 hx214_0 hx31_0 hHeld ⊢
                            refine pure_ (i := 0) (N := some 40) (v := ?_) (a' := ?_) #[true, false, false, false, false, false, false, false, false, false, false, false, false, false, false, false, false, false, false, false, false] rfl rfl (any_of HT_.out (by kernel_rfl)) (fun _ _ _ h => h) (Or.inl ⟨by rfl, ?_⟩) ?_ ?_
                            rotate_left
                            · intro w'
                              go_simp
                              with_reducible rfl
                            rotate_left
                            · simp only [Act.put, List.setIfInBounds_toArray, List.set_cons_zero, List.set_cons_succ, i64_w, i32_w]
                              rfl
                            refine pure_ (i := 1) (N := some 41) (v := ?_) (a' := ?_) #[true, true, false, false, false, false, false, false, false, false, false, false, false, false, false, false, false, false, false, false, false] rfl rfl (any_of HT_.out (by kernel_rfl)) (fun _ _ _ h => h) (Or.inl ⟨by rfl, ?_⟩) ?_ ?_
                            rotate_left
                            · intro w'
                              go_simp
                              with_reducible rfl
                            rotate_left
                            · simp only [Act.put, List.setIfInBounds_toArray, List.set_cons_zero, List.set_cons_succ, i64_w, i32_w]
                              rfl
                            refine pure_ (i := 5) (N := some 45) (v := ?_) (a' := ?_) #[true, true, false, false, false, true, false, false, false, false, false, false, false, false, false, false, false, false, false, false, false] rfl rfl (any_of HT_.out (by kernel_rfl)) (fun _ _ _ h => h) (Or.inl ⟨by rfl, ?_⟩) ?_ ?_
                            rotate_left
                            · intro w'
                              go_simp
                              with_reducible rfl
                            rotate_left
                            · simp only [Act.put, List.setIfInBounds_toArray, List.set_cons_zero, List.set_cons_succ, i64_w, i32_w]
                              rfl
                            refine pure_ (i := 7) (N := some 47) (v := ?_) (a' := ?_) #[true, true, false, false, false, true, false, true, false, false, false, false, false, false, false, false, false, false, false, false, false] rfl rfl (any_of HT_.out (by kernel_rfl)) (fun _ _ _ h => h) (Or.inl ⟨by rfl, ?_⟩) ?_ ?_
                            rotate_left
                            · intro w'
                              go_simp
                              with_reducible rfl
                            rotate_left
                            · simp only [Act.put, List.setIfInBounds_toArray, List.set_cons_zero, List.set_cons_succ, i64_w, i32_w]
                              rfl
                            refine pure_ (i := 8) (N := some 48) (v := ?_) (a' := ?_) #[true, true, false, false, false, true, false, true, true, false, false, false, false, false, false, false, false, false, false, false, false] rfl rfl (any_of HT_.out (by kernel_rfl)) (fun _ _ _ h => h) (Or.inl ⟨by rfl, ?_⟩) ?_ ?_
                            rotate_left
                            · intro w'
                              go_simp
                              with_reducible rfl
                            rotate_left
                            · simp only [Act.put, List.setIfInBounds_toArray, List.set_cons_zero, List.set_cons_succ, i64_w, i32_w]
                              rfl
                            refine pure_ (i := 12) (N := some 52) (v := ?_) (a' := ?_) #[true, true, false, false, false, true, false, true, true, false, false, false, true, false, false, false, false, false, false, false, false] rfl rfl (any_of HT_.out (by kernel_rfl)) (fun _ _ _ h => h) (Or.inl ⟨by rfl, ?_⟩) ?_ ?_
                            rotate_left
                            · intro w'
                              go_simp
                              with_reducible rfl
                            rotate_left
                            · simp only [Act.put, List.setIfInBounds_toArray, List.set_cons_zero, List.set_cons_succ, i64_w, i32_w]
                              rfl
                            refine pure_ (i := 16) (N := some 56) (v := ?_) (a' := ?_) #[true, true, false, false, false, true, false, true, true, false, false, false, true, false, false, false, true, false, false, false, false] rfl rfl (any_of HT_.out (by kernel_rfl)) (fun _ _ _ h => h) (Or.inl ⟨by rfl, ?_⟩) ?_ ?_
                            rotate_left
                            · intro w'
                              go_simp
                              with_reducible rfl
                            rotate_left
                            · simp only [Act.put, List.setIfInBounds_toArray, List.set_cons_zero, List.set_cons_succ, i64_w, i32_w]
                              rfl
                            refine take_ (i := 2) (N := some 42) (v := ?_) (a' := ?_) #[true, true, true, false, false, true, false, true, true, false, false, false, true, false, false, false, true, false, false, false, false] rfl rfl (take_ofW HT_.out HW_.out (by kernel_rfl)) (fun _ _ _ h => h) (Or.inl ⟨by rfl, ?_⟩) hHeld ?_ ?_
                            rotate_left
                            · rintro w' ⟨s0, s1, s2, s3, s4, s5⟩
                              go_simp
                              with_reducible rfl
                            rotate_left
                            · simp only [Act.put, List.setIfInBounds_toArray, List.set_cons_zero, List.set_cons_succ, i64_w, i32_w]
                              rfl
                            refine pure_ (i := 3) (N := some 43) (v := ?_) (a' := ?_) #[true, true, true, true, false, true, false, true, true, false, false, false, true, false, false, false, true, false, false, false, false] rfl rfl (any_of HT_.out (by kernel_rfl)) (fun _ _ _ h => h) (Or.inl ⟨by rfl, ?_⟩) ?_ ?_
                            rotate_left
                            · intro w'
                              go_simp
                              with_reducible rfl
                            rotate_left
                            · simp only [Act.put, List.setIfInBounds_toArray, List.set_cons_zero, List.set_cons_succ, i64_w, i32_w]
                              rfl
                            refine take_ (i := 4) (N := some 44) (v := ?_) (a' := ?_) #[true, true, true, true, true, true, false, true, true, false, false, false, true, false, false, false, true, false, false, false, false] rfl rfl (take_ofW HT_.out HW_.out (by kernel_rfl)) (fun _ _ _ h => h) (Or.inl ⟨by rfl, ?_⟩) hHeld ?_ ?_
                            rotate_left
                            · rintro w' ⟨s0, s1, s2, s3, s4, s5⟩
                              go_simp
                              with_reducible rfl
                            rotate_left
                            · simp only [Act.put, List.setIfInBounds_toArray, List.set_cons_zero, List.set_cons_succ, i64_w, i32_w]
                              rfl
                            refine take_ (i := 6) (N := some 46) (v := ?_) (a' := ?_) #[true, true, true, true, true, true, true, true, true, false, false, false, true, false, false, false, true, false, false, false, false] rfl rfl (take_ofW HT_.out HW_.out (by kernel_rfl)) (fun _ _ _ h => h) (Or.inl ⟨by rfl, ?_⟩) hHeld ?_ ?_
                            rotate_left
                            · rintro w' ⟨s0, s1, s2, s3, s4, s5⟩
                              go_simp
                              with_reducible rfl
                            rotate_left
                            · simp only [Act.put, List.setIfInBounds_toArray, List.set_cons_zero, List.set_cons_succ, i64_w, i32_w]
                              rfl
                            refine take_ (i := 9) (N := some 49) (v := ?_) (a' := ?_) #[true, true, true, true, true, true, true, true, true, true, false, false, true, false, false, false, true, false, false, false, false] rfl rfl (take_ofW HT_.out HW_.out (by kernel_rfl)) (fun _ _ _ h => h) (Or.inl ⟨by rfl, ?_⟩) hHeld ?_ ?_
                            rotate_left
                            · rintro w' ⟨s0, s1, s2, s3, s4, s5⟩
                              go_simp
                              with_reducible rfl
                            rotate_left
                            · simp only [Act.put, List.setIfInBounds_toArray, List.set_cons_zero, List.set_cons_succ, i64_w, i32_w]
                              rfl
                            refine pure_ (i := 10) (N := some 50) (v := ?_) (a' := ?_) #[true, true, true, true, true, true, true, true, true, true, true, false, true, false, false, false, true, false, false, false, false] rfl rfl (any_of HT_.out (by kernel_rfl)) (fun _ _ _ h => h) (Or.inl ⟨by rfl, ?_⟩) ?_ ?_
                            rotate_left
                            · intro w'
                              go_simp
                              with_reducible rfl
                            rotate_left
                            · simp only [Act.put, List.setIfInBounds_toArray, List.set_cons_zero, List.set_cons_succ, i64_w, i32_w]
                              rfl
                            refine take_ (i := 11) (N := some 51) (v := ?_) (a' := ?_) #[true, true, true, true, true, true, true, true, true, true, true, true, true, false, false, false, true, false, false, false, false] rfl rfl (take_ofW HT_.out HW_.out (by kernel_rfl)) (fun _ _ _ h => h) (Or.inl ⟨by rfl, ?_⟩) hHeld ?_ ?_
                            rotate_left
                            · rintro w' ⟨s0, s1, s2, s3, s4, s5⟩
                              go_simp
                              with_reducible rfl
                            rotate_left
                            · simp only [Act.put, List.setIfInBounds_toArray, List.set_cons_zero, List.set_cons_succ, i64_w, i32_w]
                              rfl
                            refine take_ (i := 13) (N := some 53) (v := ?_) (a' := ?_) #[true, true, true, true, true, true, true, true, true, true, true, true, true, true, false, false, true, false, false, false, false] rfl rfl (take_ofW HT_.out HW_.out (by kernel_rfl)) (fun _ _ _ h => h) (Or.inl ⟨by rfl, ?_⟩) hHeld ?_ ?_
                            rotate_left
                            · rintro w' ⟨s0, s1, s2, s3, s4, s5⟩
                              go_simp
                              with_reducible rfl
                            rotate_left
                            · simp only [Act.put, List.setIfInBounds_toArray, List.set_cons_zero, List.set_cons_succ, i64_w, i32_w]
                              rfl
                            refine pure_ (i := 14) (N := some 54) (v := ?_) (a' := ?_) #[true, true, true, true, true, true, true, true, true, true, true, true, true, true, true, false, true, false, false, false, false] rfl rfl (any_of HT_.out (by kernel_rfl)) (fun _ _ _ h => h) (Or.inl ⟨by rfl, ?_⟩) ?_ ?_
                            rotate_left
                            · intro w'
                              go_simp
                              with_reducible rfl
                            rotate_left
                            · simp only [Act.put, List.setIfInBounds_toArray, List.set_cons_zero, List.set_cons_succ, i64_w, i32_w]
                              rfl
                            refine take_ (i := 15) (N := some 55) (v := ?_) (a' := ?_) #[true, true, true, true, true, true, true, true, true, true, true, true, true, true, true, true, true, false, false, false, false] rfl rfl (take_ofW HT_.out HW_.out (by kernel_rfl)) (fun _ _ _ h => h) (Or.inl ⟨by rfl, ?_⟩) hHeld ?_ ?_
                            rotate_left
                            · rintro w' ⟨s0, s1, s2, s3, s4, s5⟩
                              go_simp
                              with_reducible rfl
                            rotate_left
                            · simp only [Act.put, List.setIfInBounds_toArray, List.set_cons_zero, List.set_cons_succ, i64_w, i32_w]
                              rfl
                            refine take_ (i := 17) (N := some 57) (v := ?_) (a' := ?_) #[true, true, true, true, true, true, true, true, true, true, true, true, true, true, true, true, true, true, false, false, false] rfl rfl (take_ofW HT_.out HW_.out (by kernel_rfl)) (fun _ _ _ h => h) (Or.inl ⟨by rfl, ?_⟩) hHeld ?_ ?_
                            rotate_left
                            · rintro w' ⟨s0, s1, s2, s3, s4, s5⟩
                              go_simp
                              with_reducible rfl
                            rotate_left
                            · simp only [Act.put, List.setIfInBounds_toArray, List.set_cons_zero, List.set_cons_succ, i64_w, i32_w]
                              rfl
                            refine pure_ (i := 18) (N := some 58) (v := ?_) (a' := ?_) #[true, true, true, true, true, true, true, true, true, true, true, true, true, true, true, true, true, true, true, false, false] rfl rfl (any_of HT_.out (by kernel_rfl)) (fun _ _ _ h => h) (Or.inl ⟨by rfl, ?_⟩) ?_ ?_
                            rotate_left
                            · intro w'
                              go_simp
                              with_reducible rfl
                            rotate_left
                            · simp only [Act.put, List.setIfInBounds_toArray, List.set_cons_zero, List.set_cons_succ, i64_w, i32_w]
                              rfl
                            refine pure_ (i := 19) (N := some 59) (v := ?_) (a' := ?_) #[true, true, true, true, true, true, true, true, true, true, true, true, true, true, true, true, true, true, true, true, false] rfl rfl (any_of HT_.out (by kernel_rfl)) (fun _ _ _ h => h) (Or.inl ⟨by rfl, ?_⟩) ?_ ?_
                            rotate_left
                            · intro w'
                              go_simp
                              with_reducible rfl
                            rotate_left
                            · simp only [Act.put, List.setIfInBounds_toArray, List.set_cons_zero, List.set_cons_succ, i64_w, i32_w]
                              rfl
                            refine last_ (i := 20) (N := none) #[true, true, true, true, true, true, true, true, true, true, true, true, true, true, true, true, true, true, true, true, true] rfl rfl (one_of HT_.out (by kernel_rfl)) (by decide) (fun K hK => ?_)
                            refine skip_ (w1 := ?_) (by rfl) rfl ?_ ?_
                            rotate_left
                            · go_simp
                              rfl
                            refine hK.out _ _ ?_
                            clear hK K
                            refine done_ (done_of HT_.out (by kernel_rfl)) ?_
                            try go_wp2
                            go_roundg k2
                            case measure => have := HK1.out; have := HK2.out; omega
                            case rel => exact ⟨(y217), (wrap64 (x31_2 + 1)), (by first | rfl | (simp; done) | (simp [*]; done)), H', ⟨by have := HK1.out; have := HK2.out; omega⟩, ⟨by (with_reducible repeat (first | apply Kd.S_alloc | apply Kd.S_drewN | apply Kd.S_drew)); exact HQ38.out⟩, ⟨by (with_reducible repeat (first | refine blk_drewN ?_ _ | refine blk_drew ?_ | refine blk_alloc ?_ _)); refine blk_far ?_ (by have h_ := Kd.R_ne HL212_0.out BK199.out (by decide); intro e_; exact h_ (by rw [e_]; rfl)) _; (with_reducible repeat (first | refine blk_drewN ?_ _ | refine blk_drew ?_ | refine blk_alloc ?_ _)); exact BK199.out⟩, ⟨by repeat (first | (with_reducible first | exact HB.out | apply below_alloc | apply pw_below_drewN | apply below_drew1 | refine below_set ?_ GB31.out | refine below_set ?_ GE199.out | refine below_set ?_ GE211.out) | exact HB.out)⟩⟩
                          · rw [if_neg c29] at H
                            exact absurd H (by simp)
                        · rw [if_neg c28] at H
                          exact absurd H (by simp)
                      · rw [if_neg c27] at H
                        exact absurd H (by simp)
                    · rw [if_neg c26] at H
                      exact absurd H (by simp)
                · rw [if_neg c21] at H
                  exact absurd H (by simp)
              · rw [if_neg c20] at H
                exact absurd H (by simp)
            · rw [if_neg c19] at H
              have c19b0 : decide (x31_2 < (l0_1.length : Int)) = false := decide_eq_false c19
              clear c19
              have H' := Aside0.mk H
              clear H
              have hcz40_0 : wr.cell? ⟨gb199, 0, none⟩ = some (.int .i64 a0_0) := (blk_cell BK199.out 0).trans rfl
              have hcz40_1 : wr.cell? ⟨gb199, 1, none⟩ = some (.slice A0_1 l0_1.length c0_1) := (blk_cell BK199.out 1).trans rfl
              have hcz40_2 : wr.cell? ⟨gb199, 2, none⟩ = some (.slice A0_2 l0_2.length c0_2) := (blk_cell BK199.out 2).trans rfl
              have hfz40_0 := blk_frozen BK199.out 0
              have hfz40_1 := blk_frozen BK199.out 1
              have hfz40_2 := blk_frozen BK199.out 2
              go_wp2
              go_loopg [63] k2 (fun kq v63 w' => ∃ (x3_3 : List (List Int)) (x63_3 : Int), v63 = .int .i64 x63_3 ∧ Aside0 (graph_Graph_ways.l2 kq x3_3 a0_0 x63_3 a0_0 l0_1 l0_2 = some r) ∧ Aside0 (kq ≤ k2) ∧ Aside0 (Kd.S (Kd.slice 22 (Kd.int .u64)) 73 w' w.heap.size (fun _ => True) u3 x3_3) ∧ Aside0 (w'.heap[gb199]? = some (.cells #[.int .i64 a0_0, (.slice A0_1 l0_1.length c0_1), (.slice A0_2 l0_2.length c0_2)] 64 (0, 0))) ∧ Aside0 (Below w.heap.size w w'))
              case atStart => exact ⟨(x3_2), (0), (by first | rfl | (simp; done) | (simp [*]; done)), H', ⟨Nat.le_refl _⟩, ⟨by (with_reducible repeat (first | apply Kd.S_alloc | apply Kd.S_drewN | apply Kd.S_drew)); exact HO_3.out⟩, ⟨by (with_reducible repeat (first | refine blk_drewN ?_ _ | refine blk_drew ?_ | refine blk_alloc ?_ _)); exact BK199.out⟩, ⟨by repeat (first | (with_reducible first | exact HB.out | apply below_alloc | apply pw_below_drewN | apply below_drew1 | refine below_set ?_ GE199.out) | exact HB.out)⟩⟩
              case round =>
                clear H'
                try clear c1
                try clear c2
                try clear p2
                try clear q2
                try clear hx2
                try clear c3
                try clear p3
                try clear q3
                try clear hx3
                try clear hf3
                try clear c4
                try clear c4b0
                try clear c6
                try clear c6b0
                try clear p6
                try clear c7
                try clear c7b0
                try clear p8
                try clear q8
                try clear hx8
                try clear hf8
                try clear c9
                try clear c19
                try clear c19b0
                try clear c20
                try clear c20b0
                try clear c21
                try clear c21b0
                try clear p21
                try clear q21
                try clear hx21
                try clear c22
                try clear c22b0
                try clear c22b1
                try clear c24
                try clear c26
                try clear c26b0
                try clear c27
                try clear c27b0
                try clear c28
                try clear c28b0
                try clear c29
                try clear c29b0
                try clear p31
                try clear q31
                try clear hx31
                try clear hf31
                try clear c33
                try clear c38
                try clear q38
                try clear hcz12_0
                try clear hcz12_1
                try clear hcz12_2
                try clear hcz18_0
                try clear hcz18_1
                try clear hcz18_2
                try clear hcz25_0
                try clear hcz25_1
                try clear hcz25_2
                try clear hcz34_0
                try clear hcz34_1
                try clear hcz34_2
                try clear hcz3_0
                try clear hcz3_1
                try clear hcz3_2
                try clear hcz40_0
                try clear hcz40_1
                try clear hcz40_2
                try clear hfz12_0
                try clear hfz12_1
                try clear hfz12_2
                try clear hfz18_0
                try clear hfz18_1
                try clear hfz18_2
                try clear hfz25_0
                try clear hfz25_1
                try clear hfz25_2
                try clear hfz34_0
                try clear hfz34_1
                try clear hfz34_2
                try clear hfz3_0
                try clear hfz3_1
                try clear hfz3_2
                try clear hfz40_0
                try clear hfz40_1
                try clear hfz40_2
                try clear hx210_0
                try clear hx210_1
                try clear hx210_2
                try clear hx212_0
                try clear hx213_0
                try clear hx214_0
                try clear hx31_0
                try clear hx8_0
                try clear p2
                try clear p210
                try clear p212
                try clear p213
                try clear p214
                try clear p31
                try clear p6
                try clear p8
                try clear q210
                try clear q212
                try clear q213
                try clear q214
                try clear q31
                try clear q8
                obtain ⟨x3_3, x63_3, rfl, HA, HK3, HO_3, BK199, HB⟩ := hrel
                cases gk with
                | zero => exact absurd HA.out (by simp [graph_Graph_ways.l2])
                | succ k3 =>
                  have H := HA.out
                  clear HA
                  simp only [graph_Graph_ways.l2] at H
                  by_cases c41 : x63_3 < a0_0
                  · rw [if_pos c41] at H
                    have c41b0 : decide (x63_3 < a0_0) = true := decide_eq_true c41
                    clear c41
                    have H' := Aside0.mk H
                    clear H
                    have hcz42_0 : wr.cell? ⟨gb199, 0, none⟩ = some (.int .i64 a0_0) := (blk_cell BK199.out 0).trans rfl
                    have hcz42_1 : wr.cell? ⟨gb199, 1, none⟩ = some (.slice A0_1 l0_1.length c0_1) := (blk_cell BK199.out 1).trans rfl
                    have hcz42_2 : wr.cell? ⟨gb199, 2, none⟩ = some (.slice A0_2 l0_2.length c0_2) := (blk_cell BK199.out 2).trans rfl
                    have hfz42_0 := blk_frozen BK199.out 0
                    have hfz42_1 := blk_frozen BK199.out 1
                    have hfz42_2 := blk_frozen BK199.out 2
                    go_wp2
                    go_loopg [68] k3 (fun kq v68 w' => ∃ (x3_4 : List (List Int)) (x68_4 : Int), v68 = .int .i64 x68_4 ∧ Aside0 (graph_Graph_ways.l3 kq x3_4 x63_3 a0_0 x63_3 a0_0 x68_4 a0_0 l0_1 l0_2 = some r) ∧ Aside0 (kq ≤ k3) ∧ Aside0 (Kd.S (Kd.slice 22 (Kd.int .u64)) 73 w' w.heap.size (fun _ => True) u3 x3_4) ∧ Aside0 (w'.heap[gb199]? = some (.cells #[.int .i64 a0_0, (.slice A0_1 l0_1.length c0_1), (.slice A0_2 l0_2.length c0_2)] 64 (0, 0))) ∧ Aside0 (Below w.heap.size w w'))
                    case atStart => exact ⟨(x3_3), (0), (by first | rfl | (simp; done) | (simp [*]; done)), H', ⟨Nat.le_refl _⟩, ⟨by (with_reducible repeat (first | apply Kd.S_alloc | apply Kd.S_drewN | apply Kd.S_drew)); exact HO_3.out⟩, ⟨by (with_reducible repeat (first | refine blk_drewN ?_ _ | refine blk_drew ?_ | refine blk_alloc ?_ _)); exact BK199.out⟩, ⟨by repeat (first | (with_reducible first | exact HB.out | apply below_alloc | apply pw_below_drewN | apply below_drew1 | refine below_set ?_ GE199.out) | exact HB.out)⟩⟩
                    case round =>
                      clear H'
                      try clear c1
                      try clear c2
                      try clear p2
                      try clear q2
                      try clear hx2
                      try clear c3
                      try clear p3
                      try clear q3
                      try clear hx3
                      try clear hf3
                      try clear c4
                      try clear c4b0
                      try clear c6
                      try clear c6b0
                      try clear p6
                      try clear c7
                      try clear c7b0
                      try clear p8
                      try clear q8
                      try clear hx8
                      try clear hf8
                      try clear c9
                      try clear c19
                      try clear c19b0
                      try clear c20
                      try clear c20b0
                      try clear c21
                      try clear c21b0
                      try clear p21
                      try clear q21
                      try clear hx21
                      try clear c22
                      try clear c22b0
                      try clear c22b1
                      try clear c24
                      try clear c26
                      try clear c26b0
                      try clear c27
                      try clear c27b0
                      try clear c28
                      try clear c28b0
                      try clear c29
                      try clear c29b0
                      try clear p31
                      try clear q31
                      try clear hx31
                      try clear hf31
                      try clear c33
                      try clear c38
                      try clear q38
                      try clear c41
                      try clear c41b0
                      try clear hcz12_0
                      try clear hcz12_1
                      try clear hcz12_2
                      try clear hcz18_0
                      try clear hcz18_1
                      try clear hcz18_2
                      try clear hcz25_0
                      try clear hcz25_1
                      try clear hcz25_2
                      try clear hcz34_0
                      try clear hcz34_1
                      try clear hcz34_2
                      try clear hcz3_0
                      try clear hcz3_1
                      try clear hcz3_2
                      try clear hcz40_0
                      try clear hcz40_1
                      try clear hcz40_2
                      try clear hcz42_0
                      try clear hcz42_1
                      try clear hcz42_2
                      try clear hfz12_0
                      try clear hfz12_1
                      try clear hfz12_2
                      try clear hfz18_0
                      try clear hfz18_1
                      try clear hfz18_2
                      try clear hfz25_0
                      try clear hfz25_1
                      try clear hfz25_2
                      try clear hfz34_0
                      try clear hfz34_1
                      try clear hfz34_2
                      try clear hfz3_0
                      try clear hfz3_1
                      try clear hfz3_2
                      try clear hfz40_0
                      try clear hfz40_1
                      try clear hfz40_2
                      try clear hfz42_0
                      try clear hfz42_1
                      try clear hfz42_2
                      try clear hx210_0
                      try clear hx210_1
                      try clear hx210_2
                      try clear hx212_0
                      try clear hx213_0
                      try clear hx214_0
                      try clear hx31_0
                      try clear hx8_0
                      try clear p2
                      try clear p21
                      try clear p210
                      try clear p212
                      try clear p213
                      try clear p214
                      try clear p3
                      try clear p31
                      try clear p6
                      try clear p8
                      try clear q2
                      try clear q21
                      try clear q210
                      try clear q212
                      try clear q213
                      try clear q214
                      try clear q3
                      try clear q31
                      try clear q38
                      try clear q8
                      obtain ⟨x3_4, x68_4, rfl, HA, HK4, HO_3, BK199, HB⟩ := hrel
                      cases gk with
                      | zero => exact absurd HA.out (by simp [graph_Graph_ways.l3])
                      | succ k4 =>
                        have H := HA.out
                        clear HA
                        simp only [graph_Graph_ways.l3] at H
                        by_cases c43 : x68_4 < a0_0
                        · rw [if_pos c43] at H
                          have c43b0 : decide (x68_4 < a0_0) = true := decide_eq_true c43
                          clear c43
                          have H' := Aside0.mk H
                          clear H
                          have hcz44_0 : wr.cell? ⟨gb199, 0, none⟩ = some (.int .i64 a0_0) := (blk_cell BK199.out 0).trans rfl
                          have hcz44_1 : wr.cell? ⟨gb199, 1, none⟩ = some (.slice A0_1 l0_1.length c0_1) := (blk_cell BK199.out 1).trans rfl
                          have hcz44_2 : wr.cell? ⟨gb199, 2, none⟩ = some (.slice A0_2 l0_2.length c0_2) := (blk_cell BK199.out 2).trans rfl
                          have hfz44_0 := blk_frozen BK199.out 0
                          have hfz44_1 := blk_frozen BK199.out 1
                          have hfz44_2 := blk_frozen BK199.out 2
                          go_wp2
                          go_loopg [73] k4 (fun kq v73 w' => ∃ (x3_5 : List (List Int)) (x73_5 : Int), v73 = .int .i64 x73_5 ∧ Aside0 (graph_Graph_ways.l4 kq x3_5 x63_3 x68_4 a0_0 x63_3 a0_0 x68_4 a0_0 x73_5 a0_0 l0_1 l0_2 = some r) ∧ Aside0 (kq ≤ k4) ∧ Aside0 (Kd.S (Kd.slice 22 (Kd.int .u64)) 73 w' w.heap.size (fun _ => True) u3 x3_5) ∧ Aside0 (w'.heap[gb199]? = some (.cells #[.int .i64 a0_0, (.slice A0_1 l0_1.length c0_1), (.slice A0_2 l0_2.length c0_2)] 64 (0, 0))) ∧ Aside0 (Below w.heap.size w w'))
                          case atStart => exact ⟨(x3_4), (0), (by first | rfl | (simp; done) | (simp [*]; done)), H', ⟨Nat.le_refl _⟩, ⟨by (with_reducible repeat (first | apply Kd.S_alloc | apply Kd.S_drewN | apply Kd.S_drew)); exact HO_3.out⟩, ⟨by (with_reducible repeat (first | refine blk_drewN ?_ _ | refine blk_drew ?_ | refine blk_alloc ?_ _)); exact BK199.out⟩, ⟨by repeat (first | (with_reducible first | exact HB.out | apply below_alloc | apply pw_below_drewN | apply below_drew1 | refine below_set ?_ GE199.out) | exact HB.out)⟩⟩
                          case round =>
                            clear H'
                            try clear c1
                            try clear c2
                            try clear p2
                            try clear q2
                            try clear hx2
                            try clear c3
                            try clear p3
                            try clear q3
                            try clear hx3
                            try clear hf3
                            try clear c4
                            try clear c4b0
                            try clear c6
                            try clear c6b0
                            try clear p6
                            try clear c7
                            try clear c7b0
                            try clear p8
                            try clear q8
                            try clear hx8
                            try clear hf8
                            try clear c9
                            try clear c19
                            try clear c19b0
                            try clear c20
                            try clear c20b0
                            try clear c21
                            try clear c21b0
                            try clear p21
                            try clear q21
                            try clear hx21
                            try clear c22
                            try clear c22b0
                            try clear c22b1
                            try clear c24
                            try clear c26
                            try clear c26b0
                            try clear c27
                            try clear c27b0
                            try clear c28
                            try clear c28b0
                            try clear c29
                            try clear c29b0
                            try clear p31
                            try clear q31
                            try clear hx31
                            try clear hf31
                            try clear c33
                            try clear c38
                            try clear q38
                            try clear c41
                            try clear c41b0
                            try clear c43
                            try clear c43b0
                            try clear hcz12_0
                            try clear hcz12_1
                            try clear hcz12_2
                            try clear hcz18_0
                            try clear hcz18_1
                            try clear hcz18_2
                            try clear hcz25_0
                            try clear hcz25_1
                            try clear hcz25_2
                            try clear hcz34_0
                            try clear hcz34_1
                            try clear hcz34_2
                            try clear hcz3_0
                            try clear hcz3_1
                            try clear hcz3_2
                            try clear hcz40_0
                            try clear hcz40_1
                            try clear hcz40_2
                            try clear hcz42_0
                            try clear hcz42_1
                            try clear hcz42_2
                            try clear hcz44_0
                            try clear hcz44_1
                            try clear hcz44_2
                            try clear hfz12_0
                            try clear hfz12_1
                            try clear hfz12_2
                            try clear hfz18_0
                            try clear hfz18_1
                            try clear hfz18_2
                            try clear hfz25_0
                            try clear hfz25_1
                            try clear hfz25_2
                            try clear hfz34_0
                            try clear hfz34_1
                            try clear hfz34_2
                            try clear hfz3_0
                            try clear hfz3_1
                            try clear hfz3_2
                            try clear hfz40_0
                            try clear hfz40_1
                            try clear hfz40_2
                            try clear hfz42_0
                            try clear hfz42_1
                            try clear hfz42_2
                            try clear hfz44_0
                            try clear hfz44_1
                            try clear hfz44_2
                            try clear hx210_0
                            try clear hx210_1
                            try clear hx210_2
                            try clear hx212_0
                            try clear hx213_0
                            try clear hx214_0
                            try clear hx31_0
                            try clear hx8_0
                            try clear p2
                            try clear p21
                            try clear p210
                            try clear p212
                            try clear p213
                            try clear p214
                            try clear p3
                            try clear p31
                            try clear p6
                            try clear p8
                            try clear q2
                            try clear q21
                            try clear q210
                            try clear q212
                            try clear q213
                            try clear q214
                            try clear q3
                            try clear q31
                            try clear q38
                            try clear q8
                            obtain ⟨x3_5, x73_5, rfl, HA, HK5, HO_3, BK199, HB⟩ := hrel
                            cases gk with
                            | zero => exact absurd HA.out (by simp [graph_Graph_ways.l4])
                            | succ k5 =>
                              have H := HA.out
                              clear HA
                              simp only [graph_Graph_ways.l4] at H
                              by_cases c45 : x73_5 < a0_0
                              · rw [if_pos c45] at H
                                have c45b0 : decide (x73_5 < a0_0) = true := decide_eq_true c45
                                clear c45
                                by_cases c46 : 0 ≤ x68_4
                                · rw [if_pos c46] at H
                                  have c46b0 : decide (0 ≤ x68_4) = true := decide_eq_true c46
                                  clear c46
                                  by_cases c47 : x68_4 < (x3_5.length : Int)
                                  · rw [if_pos c47] at H
                                    have c47b0 : decide (x68_4 < (x3_5.length : Int)) = true := decide_eq_true c47
                                    clear c47
                                    by_cases c48 : 0 ≤ x73_5
                                    · rw [if_pos c48] at H
                                      have c48b0 : decide (0 ≤ x73_5) = true := decide_eq_true c48
                                      clear c48
                                      by_cases c49 : x73_5 < ((rd_L8 x3_5 x68_4).length : Int)
                                      · rw [if_pos c49] at H
                                        have c49b0 : decide (x73_5 < ((rd_L8 x3_5 x68_4).length : Int)) = true := decide_eq_true c49
                                        clear c49
                                        by_cases c50 : 0 ≤ x63_3
                                        · rw [if_pos c50] at H
                                          have c50b0 : decide (0 ≤ x63_3) = true := decide_eq_true c50
                                          clear c50
                                          by_cases c51 : x63_3 < ((rd_L8 x3_5 x68_4).length : Int)
                                          · rw [if_pos c51] at H
                                            have c51b0 : decide (x63_3 < ((rd_L8 x3_5 x68_4).length : Int)) = true := decide_eq_true c51
                                            clear c51
                                            by_cases c52 : x63_3 < (x3_5.length : Int)
                                            · rw [if_pos c52] at H
                                              have c52b0 : decide (x63_3 < (x3_5.length : Int)) = true := decide_eq_true c52
                                              clear c52
                                              by_cases c53 : x73_5 < ((rd_L8 x3_5 x63_3).length : Int)
                                              · rw [if_pos c53] at H
                                                have c53b0 : decide (x73_5 < ((rd_L8 x3_5 x63_3).length : Int)) = true := decide_eq_true c53
                                                clear c53
                                                replace H := Option.bind_eq_some_iff.mp H
                                                obtain ⟨t225, A540, H⟩ := H
                                                replace H : (graph_Graph_ways.l4 k5 (x3_5.set (x68_4 : Int).toNat ((rd_L8 x3_5 x68_4).set (x73_5 : Int).toNat (mn (rd (rd_L8 x3_5 x68_4) x73_5) t225))) x63_3 x68_4 a0_0 x63_3 a0_0 x68_4 a0_0 (wrap64 (x73_5 + 1)) a0_0 l0_1 l0_2) = some r := H
                                                have A54 := Aside0.mk A540
                                                clear A540
                                                obtain ⟨ji55, hji55⟩ : ∃ j_ : Int, (mn (rd (rd_L8 x3_5 x68_4) x73_5) t225) = j_ := ⟨_, rfl⟩
                                                replace H : (graph_Graph_ways.l4 k5 (x3_5.set (x68_4 : Int).toNat ((rd_L8 x3_5 x68_4).set (x73_5 : Int).toNat (ji55))) x63_3 x68_4 a0_0 x63_3 a0_0 x68_4 a0_0 (wrap64 (x73_5 + 1)) a0_0 l0_1 l0_2) = some r := by first | (rw [hji55] at H; exact H) | (simp only [hji55] at H ⊢; exact H)
                                                (try rw [hji55] at A54)
                                                have hji55_ : (if t225 < (rd (rd_L8 x3_5 x68_4) x73_5) then t225 else (rd (rd_L8 x3_5 x68_4) x73_5)) = ji55 := hji55
                                                obtain ⟨y226, hy226⟩ : ∃ y_ : List Int, y_ = ((rd_L8 x3_5 x68_4).set (x73_5 : Int).toNat (ji55)) := ⟨_, rfl⟩
                                                replace H : (graph_Graph_ways.l4 k5 (x3_5.set (x68_4 : Int).toNat y226) x63_3 x68_4 a0_0 x63_3 a0_0 x68_4 a0_0 (wrap64 (x73_5 + 1)) a0_0 l0_1 l0_2) = some r := by first | (rw [hy226]; with_reducible exact H) | (have H2_ := (Option.bind_some _ _).symm.trans H; rw [hy226]; with_reducible exact H2_) | (have H2_ := (Option.bind_some _ _).symm.trans H; with_reducible exact H2_) | with_reducible exact H | (rw [hy226]; exact H) | exact H
                                                have Ny226 := Aside0.mk hy226
                                                clear hy226
                                                obtain ⟨y228, hy228⟩ : ∃ y_ : List (List Int), y_ = (x3_5.set (x68_4 : Int).toNat y226) := ⟨_, rfl⟩
                                                replace H : (graph_Graph_ways.l4 k5 y228 x63_3 x68_4 a0_0 x63_3 a0_0 x68_4 a0_0 (wrap64 (x73_5 + 1)) a0_0 l0_1 l0_2) = some r := by first | (rw [hy228]; with_reducible exact H) | (have H2_ := (Option.bind_some _ _).symm.trans H; rw [hy228]; with_reducible exact H2_) | (have H2_ := (Option.bind_some _ _).symm.trans H; with_reducible exact H2_) | with_reducible exact H | (rw [hy228]; exact H) | exact H
                                                have Ny228 := Aside0.mk hy228
                                                clear hy228
                                                have H' := Aside0.mk H
                                                clear H
                                                try go_wp2
                                                have n0_ := Aside0.mk (Kd.S_drew HO_3.out)
                                                have n1_ := Aside0.mk (blk_drew BK199.out)
                                                have n2_ := Aside0.mk (below_drew1 HB.out)
                                                clear HO_3
                                                clear BK199
                                                clear HB
                                                have HO_3 := n0_
                                                have BK199 := n1_
                                                have HB := n2_
                                                clear n0_ n1_ n2_
                                                obtain ⟨Ao58, co58, eo58⟩ := Kd.S_slice HO_3.out
                                                (first | subst eo58 | (injection eo58 with f1_ f2_ f3_; have f4_ := f1_.symm; have f5_ := f3_.symm; clear f1_ f2_ f3_; subst f4_; subst f5_))
                                                have p218 : 0 ≤ (x68_4 : Int) := of_decide_eq_true (by first | (with_reducible assumption) | assumption)
                                                have q218 : x68_4 < (x3_5.length : Int) := of_decide_eq_true (by first | (with_reducible assumption) | assumption)
                                                obtain ⟨ad218, A218_0, c218_0, e218, hx218_0, hl218_0, hi218_0⟩ := at_L8 (Kd.S_reads' HO_3.out).2.2 x68_4 p218 q218
                                                cases e218
                                                obtain ⟨ce218, hce218, hMe218, hcc218⟩ := Kd.S_get HO_3.out [] x68_4 p218 (by first | exact q218 | exact of_decide_eq_true (by first | (with_reducible assumption) | assumption) | (have e_ := (Kd.S_reads' HO_3.out).1; omega))
                                                obtain ⟨ve218_0, rfl, ge218_0⟩ := hMe218
                                                have hv218_0 := hcc218 0 _ rfl
                                                rw [Nat.add_zero, show ((Kd.slice 22 (Kd.int .u64))).sz = 1 from rfl, Nat.mul_one] at hv218_0
                                                replace hv218_0 := Option.some.inj (hv218_0.symm.trans hx218_0)
                                                rw [hv218_0] at ge218_0
                                                have HL218_0 := Aside0.mk (show Kd.R (Kd.int .u64) 22 _ _ _ _ (rd_L8 x3_5 x68_4) from ge218_0)
                                                clear hv218_0 ge218_0
                                                have HX218_0 := Aside0.mk hx218_0
                                                clear hcc218 hce218
                                                have HR218_0 := Aside0.mk hi218_0
                                                have HC218_0 := Aside0.mk hl218_0
                                                clear hi218_0 hl218_0
                                                replace p218 := eq_true p218
                                                replace q218 := eq_true q218
                                                have p219 : 0 ≤ (x68_4 : Int) := of_decide_eq_true (by first | (with_reducible assumption) | assumption)
                                                have q219 : x68_4 < (x3_5.length : Int) := of_decide_eq_true (by first | (with_reducible assumption) | assumption)
                                                obtain ⟨ad219, A219_0, c219_0, e219, hx219_0, hl219_0, hi219_0⟩ := at_L8 (Kd.S_reads' HO_3.out).2.2 x68_4 p219 q219
                                                obtain rfl : ad218 = ad219 := (by injection e219)
                                                obtain ⟨ce219, hce219, hMe219, hcc219⟩ := Kd.S_get HO_3.out [] x68_4 p219 (by first | exact q219 | exact of_decide_eq_true (by first | (with_reducible assumption) | assumption) | (have e_ := (Kd.S_reads' HO_3.out).1; omega))
                                                obtain ⟨ve219_0, rfl, ge219_0⟩ := hMe219
                                                have hv219_0 := hcc219 0 _ rfl
                                                rw [Nat.add_zero, show ((Kd.slice 22 (Kd.int .u64))).sz = 1 from rfl, Nat.mul_one] at hv219_0
                                                replace hv219_0 := Option.some.inj (hv219_0.symm.trans hx219_0)
                                                rw [hv219_0] at ge219_0
                                                have HL219_0 := Aside0.mk (show Kd.R (Kd.int .u64) 22 _ _ _ _ (rd_L8 x3_5 x68_4) from ge219_0)
                                                clear hv219_0 ge219_0
                                                have HX219_0 := Aside0.mk hx219_0
                                                clear hcc219 hce219
                                                have HR219_0 := Aside0.mk hi219_0
                                                have HC219_0 := Aside0.mk hl219_0
                                                clear hi219_0 hl219_0
                                                replace p219 := eq_true p219
                                                replace q219 := eq_true q219
                                                have ea_ := Option.some.inj (hx218_0.symm.trans hx219_0)
                                                injection ea_ with ea_ en_ ec_
                                                subst ea_
                                                subst ec_
                                                clear en_
                                                have p220 : 0 ≤ (x73_5 : Int) := of_decide_eq_true (by first | (with_reducible assumption) | assumption)
                                                have q220 : x73_5 < ((rd_L8 x3_5 x68_4).length : Int) := of_decide_eq_true (by first | (with_reducible assumption) | assumption)
                                                obtain ⟨ad220, e220, hx220_0⟩ := Kd.at_int (by repeat (first | (with_reducible exact HR219_0.out) | (with_reducible refine Kd.C_alloc ?_ _) | (with_reducible refine Kd.C_drewN ?_ _) | (with_reducible refine Kd.C_drew ?_) | exact HR219_0.out)) x73_5 p220 q220
                                                cases e220
                                                replace p220 := eq_true p220
                                                replace q220 := eq_true q220
                                                have p221 : 0 ≤ (x68_4 : Int) := of_decide_eq_true (by first | (with_reducible assumption) | assumption)
                                                have q221 : x68_4 < (x3_5.length : Int) := of_decide_eq_true (by first | (with_reducible assumption) | assumption)
                                                obtain ⟨ad221, A221_0, c221_0, e221, hx221_0, hl221_0, hi221_0⟩ := at_L8 (Kd.S_reads' HO_3.out).2.2 x68_4 p221 q221
                                                obtain rfl : ad218 = ad221 := (by injection e221)
                                                obtain ⟨ce221, hce221, hMe221, hcc221⟩ := Kd.S_get HO_3.out [] x68_4 p221 (by first | exact q221 | exact of_decide_eq_true (by first | (with_reducible assumption) | assumption) | (have e_ := (Kd.S_reads' HO_3.out).1; omega))
                                                obtain ⟨ve221_0, rfl, ge221_0⟩ := hMe221
                                                have hv221_0 := hcc221 0 _ rfl
                                                rw [Nat.add_zero, show ((Kd.slice 22 (Kd.int .u64))).sz = 1 from rfl, Nat.mul_one] at hv221_0
                                                replace hv221_0 := Option.some.inj (hv221_0.symm.trans hx221_0)
                                                rw [hv221_0] at ge221_0
                                                have HL221_0 := Aside0.mk (show Kd.R (Kd.int .u64) 22 _ _ _ _ (rd_L8 x3_5 x68_4) from ge221_0)
                                                clear hv221_0 ge221_0
                                                have HX221_0 := Aside0.mk hx221_0
                                                clear hcc221 hce221
                                                have HR221_0 := Aside0.mk hi221_0
                                                have HC221_0 := Aside0.mk hl221_0
                                                clear hi221_0 hl221_0
                                                replace p221 := eq_true p221
                                                replace q221 := eq_true q221
                                                have ea_ := Option.some.inj (hx218_0.symm.trans hx221_0)
                                                injection ea_ with ea_ en_ ec_
                                                subst ea_
                                                subst ec_
                                                clear en_
                                                have p222 : 0 ≤ (x63_3 : Int) := of_decide_eq_true (by first | (with_reducible assumption) | assumption)
                                                have q222 : x63_3 < ((rd_L8 x3_5 x68_4).length : Int) := of_decide_eq_true (by first | (with_reducible assumption) | assumption)
                                                obtain ⟨ad222, e222, hx222_0⟩ := Kd.at_int (by repeat (first | (with_reducible exact HR221_0.out) | (with_reducible refine Kd.C_alloc ?_ _) | (with_reducible refine Kd.C_drewN ?_ _) | (with_reducible refine Kd.C_drew ?_) | exact HR221_0.out)) x63_3 p222 q222
                                                cases e222
                                                replace p222 := eq_true p222
                                                replace q222 := eq_true q222
                                                have p223 : 0 ≤ (x63_3 : Int) := of_decide_eq_true (by first | (with_reducible assumption) | assumption)
                                                have q223 : x63_3 < (x3_5.length : Int) := of_decide_eq_true (by first | (with_reducible assumption) | assumption)
                                                obtain ⟨ad223, A223_0, c223_0, e223, hx223_0, hl223_0, hi223_0⟩ := at_L8 (Kd.S_reads' HO_3.out).2.2 x63_3 p223 q223
                                                obtain rfl : ad218 = ad223 := (by injection e223)
                                                obtain ⟨ce223, hce223, hMe223, hcc223⟩ := Kd.S_get HO_3.out [] x63_3 p223 (by first | exact q223 | exact of_decide_eq_true (by first | (with_reducible assumption) | assumption) | (have e_ := (Kd.S_reads' HO_3.out).1; omega))
                                                obtain ⟨ve223_0, rfl, ge223_0⟩ := hMe223
                                                have hv223_0 := hcc223 0 _ rfl
                                                rw [Nat.add_zero, show ((Kd.slice 22 (Kd.int .u64))).sz = 1 from rfl, Nat.mul_one] at hv223_0
                                                replace hv223_0 := Option.some.inj (hv223_0.symm.trans hx223_0)
                                                rw [hv223_0] at ge223_0
                                                have HL223_0 := Aside0.mk (show Kd.R (Kd.int .u64) 22 _ _ _ _ (rd_L8 x3_5 x63_3) from ge223_0)
                                                clear hv223_0 ge223_0
                                                have HX223_0 := Aside0.mk hx223_0
                                                clear hcc223 hce223
                                                have HR223_0 := Aside0.mk hi223_0
                                                have HC223_0 := Aside0.mk hl223_0
                                                clear hi223_0 hl223_0
                                                replace p223 := eq_true p223
                                                replace q223 := eq_true q223
                                                have p224 : 0 ≤ (x73_5 : Int) := of_decide_eq_true (by first | (with_reducible assumption) | assumption)
                                                have q224 : x73_5 < ((rd_L8 x3_5 x63_3).length : Int) := of_decide_eq_true (by first | (with_reducible assumption) | assumption)
                                                obtain ⟨ad224, e224, hx224_0⟩ := Kd.at_int (by repeat (first | (with_reducible exact HR223_0.out) | (with_reducible refine Kd.C_alloc ?_ _) | (with_reducible refine Kd.C_drewN ?_ _) | (with_reducible refine Kd.C_drew ?_) | exact HR223_0.out)) x73_5 p224 q224
                                                cases e224
                                                replace p224 := eq_true p224
                                                replace q224 := eq_true q224
                                                refine start_ (n := 30) (S := fun w' => w'.cell? (ad218.add (x68_4).toNat) = some (.slice (some ad220) (rd_L8 x3_5 x68_4).length c218_0) ∧ w'.cell? (ad218.add (x68_4).toNat) = some (.slice (some ad220) (rd_L8 x3_5 x68_4).length c218_0) ∧ w'.cell? (ad220.add (x73_5).toNat) = some (.int .u64 (rd (rd_L8 x3_5 x68_4) x73_5)) ∧ w'.cell? (ad218.add (x68_4).toNat) = some (.slice (some ad220) (rd_L8 x3_5 x68_4).length c218_0) ∧ w'.cell? (ad220.add (x63_3).toNat) = some (.int .u64 (rd (rd_L8 x3_5 x68_4) x63_3)) ∧ w'.cell? (ad218.add (x63_3).toNat) = some (.slice (some ad224) (rd_L8 x3_5 x63_3).length c223_0) ∧ w'.cell? (ad224.add (x73_5).toNat) = some (.int .u64 (rd (rd_L8 x3_5 x63_3) x73_5))) (ds := [29]) #[false, false, false, false, false, false, false, false, false, false, false, false, false, false, false, false, false, false, false, false, false, false, false, false, false, false, false, false, false, false] (by kernel_rfl) rfl rfl ⟨hx218_0, hx219_0, hx220_0, hx221_0, hx222_0, hx223_0, hx224_0⟩ (fun hHeld => ?_); refine with_tabW graph_Graph_ways.tab24 graph_Graph_ways.bits24 (fun HT_ HW_ => ?_)
                                                generalize wr.drew = w57 at HO_3 BK199 HB HL218_0 HL219_0 HL221_0 HL223_0 HR218_0 HR219_0 HR221_0 HR223_0 HX218_0 HX219_0 HX221_0 HX223_0 hx218_0 hx219_0 hx220_0 hx221_0 hx222_0 hx223_0 hx224_0 hHeld ⊢
                                                refine pure_ (i := 0) (N := some 76) (v := ?_) (a' := ?_) #[true, false, false, false, false, false, false, false, false, false, false, false, false, false, false, false, false, false, false, false, false, false, false, false, false, false, false, false, false, false] rfl rfl (any_of HT_.out (by kernel_rfl)) (fun _ _ _ h => h) (Or.inl ⟨by rfl, ?_⟩) ?_ ?_
                                                rotate_left
                                                · intro w'
                                                  go_simp
                                                  with_reducible rfl
                                                rotate_left
                                                · simp only [Act.put, List.setIfInBounds_toArray, List.set_cons_zero, List.set_cons_succ, i64_w, i32_w]
                                                  rfl
                                                refine pure_ (i := 1) (N := some 77) (v := ?_) (a' := ?_) #[true, true, false, false, false, false, false, false, false, false, false, false, false, false, false, false, false, false, false, false, false, false, false, false, false, false, false, false, false, false] rfl rfl (any_of HT_.out (by kernel_rfl)) (fun _ _ _ h => h) (Or.inl ⟨by rfl, ?_⟩) ?_ ?_
                                                rotate_left
                                                · intro w'
                                                  go_simp
                                                  with_reducible rfl
                                                rotate_left
                                                · simp only [Act.put, List.setIfInBounds_toArray, List.set_cons_zero, List.set_cons_succ, i64_w, i32_w]
                                                  rfl
                                                refine pure_ (i := 2) (N := some 78) (v := ?_) (a' := ?_) #[true, true, true, false, false, false, false, false, false, false, false, false, false, false, false, false, false, false, false, false, false, false, false, false, false, false, false, false, false, false] rfl rfl (any_of HT_.out (by kernel_rfl)) (fun _ _ _ h => h) (Or.inl ⟨by rfl, ?_⟩) ?_ ?_
                                                rotate_left
                                                · intro w'
                                                  go_simp
                                                  with_reducible rfl
                                                rotate_left
                                                · simp only [Act.put, List.setIfInBounds_toArray, List.set_cons_zero, List.set_cons_succ, i64_w, i32_w]
                                                  rfl
                                                refine pure_ (i := 4) (N := some 80) (v := ?_) (a' := ?_) #[true, true, true, false, true, false, false, false, false, false, false, false, false, false, false, false, false, false, false, false, false, false, false, false, false, false, false, false, false, false] rfl rfl (any_of HT_.out (by kernel_rfl)) (fun _ _ _ h => h) (Or.inl ⟨by rfl, ?_⟩) ?_ ?_
                                                rotate_left
                                                · intro w'
                                                  go_simp
                                                  with_reducible rfl
                                                rotate_left
                                                · simp only [Act.put, List.setIfInBounds_toArray, List.set_cons_zero, List.set_cons_succ, i64_w, i32_w]
                                                  rfl
                                                refine pure_ (i := 5) (N := some 81) (v := ?_) (a' := ?_) #[true, true, true, false, true, true, false, false, false, false, false, false, false, false, false, false, false, false, false, false, false, false, false, false, false, false, false, false, false, false] rfl rfl (any_of HT_.out (by kernel_rfl)) (fun _ _ _ h => h) (Or.inl ⟨by rfl, ?_⟩) ?_ ?_
                                                rotate_left
                                                · intro w'
                                                  go_simp
                                                  with_reducible rfl
                                                rotate_left
                                                · simp only [Act.put, List.setIfInBounds_toArray, List.set_cons_zero, List.set_cons_succ, i64_w, i32_w]
                                                  rfl
                                                refine pure_ (i := 6) (N := some 82) (v := ?_) (a' := ?_) #[true, true, true, false, true, true, true, false, false, false, false, false, false, false, false, false, false, false, false, false, false, false, false, false, false, false, false, false, false, false] rfl rfl (any_of HT_.out (by kernel_rfl)) (fun _ _ _ h => h) (Or.inl ⟨by rfl, ?_⟩) ?_ ?_
                                                rotate_left
                                                · intro w'
                                                  go_simp
                                                  with_reducible rfl
                                                rotate_left
                                                · simp only [Act.put, List.setIfInBounds_toArray, List.set_cons_zero, List.set_cons_succ, i64_w, i32_w]
                                                  rfl
                                                refine pure_ (i := 7) (N := some 83) (v := ?_) (a' := ?_) #[true, true, true, false, true, true, true, true, false, false, false, false, false, false, false, false, false, false, false, false, false, false, false, false, false, false, false, false, false, false] rfl rfl (any_of HT_.out (by kernel_rfl)) (fun _ _ _ h => h) (Or.inl ⟨by rfl, ?_⟩) ?_ ?_
                                                rotate_left
                                                · intro w'
                                                  go_simp
                                                  with_reducible rfl
                                                rotate_left
                                                · simp only [Act.put, List.setIfInBounds_toArray, List.set_cons_zero, List.set_cons_succ, i64_w, i32_w]
                                                  rfl
                                                refine pure_ (i := 9) (N := some 85) (v := ?_) (a' := ?_) #[true, true, true, false, true, true, true, true, false, true, false, false, false, false, false, false, false, false, false, false, false, false, false, false, false, false, false, false, false, false] rfl rfl (any_of HT_.out (by kernel_rfl)) (fun _ _ _ h => h) (Or.inl ⟨by rfl, ?_⟩) ?_ ?_
                                                rotate_left
                                                · intro w'
                                                  go_simp
                                                  with_reducible rfl
                                                rotate_left
                                                · simp only [Act.put, List.setIfInBounds_toArray, List.set_cons_zero, List.set_cons_succ, i64_w, i32_w]
                                                  rfl
                                                refine pure_ (i := 12) (N := some 88) (v := ?_) (a' := ?_) #[true, true, true, false, true, true, true, true, false, true, false, false, true, false, false, false, false, false, false, false, false, false, false, false, false, false, false, false, false, false] rfl rfl (any_of HT_.out (by kernel_rfl)) (fun _ _ _ h => h) (Or.inl ⟨by rfl, ?_⟩) ?_ ?_
                                                rotate_left
                                                · intro w'
                                                  go_simp
                                                  with_reducible rfl
                                                rotate_left
                                                · simp only [Act.put, List.setIfInBounds_toArray, List.set_cons_zero, List.set_cons_succ, i64_w, i32_w]
                                                  rfl
                                                refine pure_ (i := 13) (N := some 89) (v := ?_) (a' := ?_) #[true, true, true, false, true, true, true, true, false, true, false, false, true, true, false, false, false, false, false, false, false, false, false, false, false, false, false, false, false, false] rfl rfl (any_of HT_.out (by kernel_rfl)) (fun _ _ _ h => h) (Or.inl ⟨by rfl, ?_⟩) ?_ ?_
                                                rotate_left
                                                · intro w'
                                                  go_simp
                                                  with_reducible rfl
                                                rotate_left
                                                · simp only [Act.put, List.setIfInBounds_toArray, List.set_cons_zero, List.set_cons_succ, i64_w, i32_w]
                                                  rfl
                                                refine pure_ (i := 14) (N := some 90) (v := ?_) (a' := ?_) #[true, true, true, false, true, true, true, true, false, true, false, false, true, true, true, false, false, false, false, false, false, false, false, false, false, false, false, false, false, false] rfl rfl (any_of HT_.out (by kernel_rfl)) (fun _ _ _ h => h) (Or.inl ⟨by rfl, ?_⟩) ?_ ?_
                                                rotate_left
                                                · intro w'
                                                  go_simp
                                                  with_reducible rfl
                                                rotate_left
                                                · simp only [Act.put, List.setIfInBounds_toArray, List.set_cons_zero, List.set_cons_succ, i64_w, i32_w]
                                                  rfl
                                                refine pure_ (i := 16) (N := some 92) (v := ?_) (a' := ?_) #[true, true, true, false, true, true, true, true, false, true, false, false, true, true, true, false, true, false, false, false, false, false, false, false, false, false, false, false, false, false] rfl rfl (any_of HT_.out (by kernel_rfl)) (fun _ _ _ h => h) (Or.inl ⟨by rfl, ?_⟩) ?_ ?_
                                                rotate_left
                                                · intro w'
                                                  go_simp
                                                  with_reducible rfl
                                                rotate_left
                                                · simp only [Act.put, List.setIfInBounds_toArray, List.set_cons_zero, List.set_cons_succ, i64_w, i32_w]
                                                  rfl
                                                refine pure_ (i := 19) (N := some 95) (v := ?_) (a' := ?_) #[true, true, true, false, true, true, true, true, false, true, false, false, true, true, true, false, true, false, false, true, false, false, false, false, false, false, false, false, false, false] rfl rfl (any_of HT_.out (by kernel_rfl)) (fun _ _ _ h => h) (Or.inl ⟨by rfl, ?_⟩) ?_ ?_
                                                rotate_left
                                                · intro w'
                                                  go_simp
                                                  with_reducible rfl
                                                rotate_left
                                                · simp only [Act.put, List.setIfInBounds_toArray, List.set_cons_zero, List.set_cons_succ, i64_w, i32_w]
                                                  rfl
                                                refine pure_ (i := 20) (N := some 96) (v := ?_) (a' := ?_) #[true, true, true, false, true, true, true, true, false, true, false, false, true, true, true, false, true, false, false, true, true, false, false, false, false, false, false, false, false, false] rfl rfl (any_of HT_.out (by kernel_rfl)) (fun _ _ _ h => h) (Or.inl ⟨by rfl, ?_⟩) ?_ ?_
                                                rotate_left
                                                · intro w'
                                                  go_simp
                                                  with_reducible rfl
                                                rotate_left
                                                · simp only [Act.put, List.setIfInBounds_toArray, List.set_cons_zero, List.set_cons_succ, i64_w, i32_w]
                                                  rfl
                                                refine pure_ (i := 21) (N := some 97) (v := ?_) (a' := ?_) #[true, true, true, false, true, true, true, true, false, true, false, false, true, true, true, false, true, false, false, true, true, true, false, false, false, false, false, false, false, false] rfl rfl (any_of HT_.out (by kernel_rfl)) (fun _ _ _ h => h) (Or.inl ⟨by rfl, ?_⟩) ?_ ?_
                                                rotate_left
                                                · intro w'
                                                  go_simp
                                                  with_reducible rfl
                                                rotate_left
                                                · simp only [Act.put, List.setIfInBounds_toArray, List.set_cons_zero, List.set_cons_succ, i64_w, i32_w]
                                                  rfl
                                                refine pure_ (i := 23) (N := some 99) (v := ?_) (a' := ?_) #[true, true, true, false, true, true, true, true, false, true, false, false, true, true, true, false, true, false, false, true, true, true, false, true, false, false, false, false, false, false] rfl rfl (any_of HT_.out (by kernel_rfl)) (fun _ _ _ h => h) (Or.inl ⟨by rfl, ?_⟩) ?_ ?_
                                                rotate_left
                                                · intro w'
                                                  go_simp
                                                  with_reducible rfl
                                                rotate_left
                                                · simp only [Act.put, List.setIfInBounds_toArray, List.set_cons_zero, List.set_cons_succ, i64_w, i32_w]
                                                  rfl
                                                refine take_ (i := 3) (N := some 79) (v := ?_) (a' := ?_) #[true, true, true, true, true, true, true, true, false, true, false, false, true, true, true, false, true, false, false, true, true, true, false, true, false, false, false, false, false, false] rfl rfl (take_ofW HT_.out HW_.out (by kernel_rfl)) (fun _ _ _ h => h) (Or.inl ⟨by rfl, ?_⟩) hHeld ?_ ?_
                                                rotate_left
                                                · rintro w' ⟨s0, s1, s2, s3, s4, s5, s6⟩
                                                  go_simp
                                                  with_reducible rfl
                                                rotate_left
                                                · simp only [Act.put, List.setIfInBounds_toArray, List.set_cons_zero, List.set_cons_succ, i64_w, i32_w]
                                                  rfl
                                                refine take_ (i := 8) (N := some 84) (v := ?_) (a' := ?_) #[true, true, true, true, true, true, true, true, true, true, false, false, true, true, true, false, true, false, false, true, true, true, false, true, false, false, false, false, false, false] rfl rfl (take_ofW HT_.out HW_.out (by kernel_rfl)) (fun _ _ _ h => h) (Or.inl ⟨by rfl, ?_⟩) hHeld ?_ ?_
                                                rotate_left
                                                · rintro w' ⟨s0, s1, s2, s3, s4, s5, s6⟩
                                                  go_simp
                                                  with_reducible rfl
                                                rotate_left
                                                · simp only [Act.put, List.setIfInBounds_toArray, List.set_cons_zero, List.set_cons_succ, i64_w, i32_w]
                                                  rfl
                                                refine pure_ (i := 10) (N := some 86) (v := ?_) (a' := ?_) #[true, true, true, true, true, true, true, true, true, true, true, false, true, true, true, false, true, false, false, true, true, true, false, true, false, false, false, false, false, false] rfl rfl (any_of HT_.out (by kernel_rfl)) (fun _ _ _ h => h) (Or.inl ⟨by rfl, ?_⟩) ?_ ?_
                                                rotate_left
                                                · intro w'
                                                  go_simp
                                                  with_reducible rfl
                                                rotate_left
                                                · simp only [Act.put, List.setIfInBounds_toArray, List.set_cons_zero, List.set_cons_succ, i64_w, i32_w]
                                                  rfl
                                                refine take_ (i := 11) (N := some 87) (v := ?_) (a' := ?_) #[true, true, true, true, true, true, true, true, true, true, true, true, true, true, true, false, true, false, false, true, true, true, false, true, false, false, false, false, false, false] rfl rfl (take_ofW HT_.out HW_.out (by kernel_rfl)) (fun _ _ _ h => h) (Or.inl ⟨by rfl, ?_⟩) hHeld ?_ ?_
                                                rotate_left
                                                · rintro w' ⟨s0, s1, s2, s3, s4, s5, s6⟩
                                                  go_simp
                                                  with_reducible rfl
                                                rotate_left
                                                · simp only [Act.put, List.setIfInBounds_toArray, List.set_cons_zero, List.set_cons_succ, i64_w, i32_w]
                                                  rfl
                                                refine take_ (i := 15) (N := some 91) (v := ?_) (a' := ?_) #[true, true, true, true, true, true, true, true, true, true, true, true, true, true, true, true, true, false, false, true, true, true, false, true, false, false, false, false, false, false] rfl rfl (take_ofW HT_.out HW_.out (by kernel_rfl)) (fun _ _ _ h => h) (Or.inl ⟨by rfl, ?_⟩) hHeld ?_ ?_
                                                rotate_left
                                                · rintro w' ⟨s0, s1, s2, s3, s4, s5, s6⟩
                                                  go_simp
                                                  with_reducible rfl
                                                rotate_left
                                                · simp only [Act.put, List.setIfInBounds_toArray, List.set_cons_zero, List.set_cons_succ, i64_w, i32_w]
                                                  rfl
                                                refine pure_ (i := 17) (N := some 93) (v := ?_) (a' := ?_) #[true, true, true, true, true, true, true, true, true, true, true, true, true, true, true, true, true, true, false, true, true, true, false, true, false, false, false, false, false, false] rfl rfl (any_of HT_.out (by kernel_rfl)) (fun _ _ _ h => h) (Or.inl ⟨by rfl, ?_⟩) ?_ ?_
                                                rotate_left
                                                · intro w'
                                                  go_simp
                                                  with_reducible rfl
                                                rotate_left
                                                · simp only [Act.put, List.setIfInBounds_toArray, List.set_cons_zero, List.set_cons_succ, i64_w, i32_w]
                                                  rfl
                                                refine take_ (i := 18) (N := some 94) (v := ?_) (a' := ?_) #[true, true, true, true, true, true, true, true, true, true, true, true, true, true, true, true, true, true, true, true, true, true, false, true, false, false, false, false, false, false] rfl rfl (take_ofW HT_.out HW_.out (by kernel_rfl)) (fun _ _ _ h => h) (Or.inl ⟨by rfl, ?_⟩) hHeld ?_ ?_
                                                rotate_left
                                                · rintro w' ⟨s0, s1, s2, s3, s4, s5, s6⟩
                                                  go_simp
                                                  with_reducible rfl
                                                rotate_left
                                                · simp only [Act.put, List.setIfInBounds_toArray, List.set_cons_zero, List.set_cons_succ, i64_w, i32_w]
                                                  rfl
                                                refine take_ (i := 22) (N := some 98) (v := ?_) (a' := ?_) #[true, true, true, true, true, true, true, true, true, true, true, true, true, true, true, true, true, true, true, true, true, true, true, true, false, false, false, false, false, false] rfl rfl (take_ofW HT_.out HW_.out (by kernel_rfl)) (fun _ _ _ h => h) (Or.inl ⟨by rfl, ?_⟩) hHeld ?_ ?_
                                                rotate_left
                                                · rintro w' ⟨s0, s1, s2, s3, s4, s5, s6⟩
                                                  go_simp
                                                  with_reducible rfl
                                                rotate_left
                                                · simp only [Act.put, List.setIfInBounds_toArray, List.set_cons_zero, List.set_cons_succ, i64_w, i32_w]
                                                  rfl
                                                refine pure_ (i := 24) (N := some 100) (v := ?_) (a' := ?_) #[true, true, true, true, true, true, true, true, true, true, true, true, true, true, true, true, true, true, true, true, true, true, true, true, true, false, false, false, false, false] rfl rfl (any_of HT_.out (by kernel_rfl)) (fun _ _ _ h => h) (Or.inl ⟨by rfl, ?_⟩) ?_ ?_
                                                rotate_left
                                                · intro w'
                                                  go_simp
                                                  with_reducible rfl
                                                rotate_left
                                                · simp only [Act.put, List.setIfInBounds_toArray, List.set_cons_zero, List.set_cons_succ, i64_w, i32_w]
                                                  rfl
                                                refine take_ (i := 25) (N := some 101) (v := ?_) (a' := ?_) #[true, true, true, true, true, true, true, true, true, true, true, true, true, true, true, true, true, true, true, true, true, true, true, true, true, true, false, false, false, false] rfl rfl (take_ofW HT_.out HW_.out (by kernel_rfl)) (fun _ _ _ h => h) (Or.inl ⟨by rfl, ?_⟩) hHeld ?_ ?_
                                                rotate_left
                                                · rintro w' ⟨s0, s1, s2, s3, s4, s5, s6⟩
                                                  go_simp
                                                  with_reducible rfl
                                                rotate_left
                                                · simp only [Act.put, List.setIfInBounds_toArray, List.set_cons_zero, List.set_cons_succ, i64_w, i32_w]
                                                  rfl
                                                refine one_ (i := 26) (N := some 102) #[true, true, true, true, true, true, true, true, true, true, true, true, true, true, true, true, true, true, true, true, true, true, true, true, true, true, true, false, false, false] rfl rfl (one_of HT_.out (by kernel_rfl)) (by decide) (fun K hK => ?_)
                                                refine goes_ Tryd.func12 (by kernel_rfl) rfl #[.int .u64 (rd (rd_L8 x3_5 x68_4) x63_3), .int .u64 (rd (rd_L8 x3_5 x63_3) x73_5)] (by rfl) rfl rfl (by (try simp only [List.map_toArray, List.map_cons, List.map_nil]); first | done | rfl | (simp only [List.length_drop, List.length_take]; rfl)) ?_
                                                with_reducible refine (stamp_Plus.calls (rd (rd_L8 x3_5 x68_4) x63_3) (rd (rd_L8 x3_5 x63_3) x73_5) t225 _ A54.out).mono ?_
                                                rintro e w' ⟨rfl, ⟨nd, rfl⟩⟩
                                                refine ⟨_, rfl, ?_⟩
                                                have p56 : 0 ≤ (x73_5 : Int) := of_decide_eq_true (by first | (with_reducible assumption) | assumption)
                                                have q56 : (x73_5 : Int) < (((rd_L8 x3_5 x68_4).length : Int) : Int) := of_decide_eq_true (by first | (with_reducible assumption) | assumption)
                                                obtain ⟨go56, co56, eo56, gb56, gl56, cl56, HG56⟩ := Kd.R_form HL218_0.out (by omega)
                                                (first | cases eo56 | (injection eo56 with ea_ en_ ec_; (first | subst ea_ | (injection ea_ with ea_; subst ea_)); subst ec_; clear en_))
                                                have GB56 := Aside0.mk gb56
                                                have GG56 := Aside0.mk HG56
                                                clear gb56 gl56 HG56
                                                (first | simp only [add_plain] at hx222_0 | skip)
                                                obtain ⟨hx56_0, hf56_0⟩ := Kd.R_celln 0 HL218_0.out (x73_5 : Int) p56 q56
                                                replace p56 := eq_true p56
                                                replace q56 := eq_true q56
                                                have hq59 : (x68_4 : Int) < (x3_5.length : Int) := (by have h_ : (x68_4 : Int) < ((x3_5.length : Int) : Int) := of_decide_eq_true (by first | (with_reducible assumption) | assumption); first | exact h_ | (have e_ := (Kd.S_reads' HO_3.out).1; omega) | simpa only [List.length_set, List.length_set] using h_)
                                                obtain ⟨oki59, ce59, hcl59, hM59, hcc59, hok59, hbk59⟩ := Kd.S_borrow HO_3.out [] (x68_4 : Int) (of_decide_eq_true (by first | (with_reducible assumption) | assumption)) hq59
                                                obtain ⟨ve59_0, rfl, ge59_0⟩ := hM59
                                                have hv59 := hcc59 0 _ rfl
                                                rw [Nat.add_zero, show ((Kd.slice 22 (Kd.int .u64))).sz = 1 from rfl, Nat.mul_one] at hv59
                                                replace hv59 := Option.some.inj (hv59.symm.trans HX218_0.out)
                                                subst hv59
                                                clear hcc59 hcl59
                                                replace ge59_0 := (show Kd.R (Kd.int .u64) 22 _ _ _ _ (rd_L8 x3_5 x68_4) from ge59_0)
                                                have HP59 := Kd.R_putg ge59_0 (x73_5 : Int) ji55
                                                rw [← Ny226.out] at HP59
                                                have HS59 := hbk59 HP59.2 (fun k_ e_ => by injection e_ with e_; subst e_; exact ge59_0.1 _ rfl) (x' := y226) (Kd.M_row HP59.1)
                                                rw [← Ny228.out] at HS59
                                                have HQ59 := Aside0.mk HS59
                                                clear HP59 HS59 hbk59 hok59
                                                refine hK.out _ _ ⟨hHeld.1, hHeld.2.1, hHeld.2.2.1, hHeld.2.2.2.1, hHeld.2.2.2.2.1, hHeld.2.2.2.2.2.1, hHeld.2.2.2.2.2.2⟩ (fun hHeld => ?_)
                                                clear hK K
                                                refine norm_ (a' := ?_) ?_ ?_
                                                rotate_left
                                                · show Act.put _ (some 102) _ = _
                                                  simp only [Act.put, List.setIfInBounds_toArray, List.set_cons_zero, List.set_cons_succ, i64_w, i32_w]
                                                  rfl
                                                refine pure_ (i := 27) (N := some 103) (v := ?_) (a' := ?_) #[true, true, true, true, true, true, true, true, true, true, true, true, true, true, true, true, true, true, true, true, true, true, true, true, true, true, true, true, false, false] rfl rfl (any_of HT_.out (by kernel_rfl)) (fun _ _ _ h => h) (Or.inl ⟨by rfl, ?_⟩) ?_ ?_
                                                rotate_left
                                                · intro w'
                                                  go_simp
                                                  with_reducible rfl
                                                rotate_left
                                                · simp only [Act.put, List.setIfInBounds_toArray, List.set_cons_zero, List.set_cons_succ, i64_w, i32_w]
                                                  rfl
                                                refine pure_ (i := 28) (N := some 104) (v := ?_) (a' := ?_) #[true, true, true, true, true, true, true, true, true, true, true, true, true, true, true, true, true, true, true, true, true, true, true, true, true, true, true, true, true, false] rfl rfl (any_of HT_.out (by kernel_rfl)) (fun _ _ _ h => h) (Or.inl ⟨by rfl, ?_⟩) ?_ ?_
                                                rotate_left
                                                · intro w'
                                                  go_simp
                                                  with_reducible rfl
                                                rotate_left
                                                · simp only [Act.put, List.setIfInBounds_toArray, List.set_cons_zero, List.set_cons_succ, i64_w, i32_w]
                                                  rfl
                                                refine last_ (i := 29) (N := none) #[true, true, true, true, true, true, true, true, true, true, true, true, true, true, true, true, true, true, true, true, true, true, true, true, true, true, true, true, true, true] rfl rfl (one_of HT_.out (by kernel_rfl)) (by decide) (fun K hK => ?_)
                                                refine skip_ (w1 := ?_) (by rfl) rfl ?_ ?_
                                                rotate_left
                                                · go_simp
                                                  rfl
                                                refine hK.out _ _ ?_
                                                clear hK K
                                                refine done_ (done_of HT_.out (by kernel_rfl)) ?_
                                                try go_wp2
                                                go_roundg k5
                                                case measure => have := HK1.out; have := HK2.out; have := HK3.out; have := HK4.out; have := HK5.out; omega
                                                case rel => exact ⟨(y228), (wrap64 (x73_5 + 1)), (by first | rfl | (simp; done) | (simp [*]; done)), H', ⟨by have := HK1.out; have := HK2.out; have := HK3.out; have := HK4.out; have := HK5.out; omega⟩, ⟨by (with_reducible repeat (first | apply Kd.S_alloc | apply Kd.S_drewN | apply Kd.S_drew)); exact HQ59.out⟩, ⟨by (with_reducible repeat (first | refine blk_drewN ?_ _ | refine blk_drew ?_ | refine blk_alloc ?_ _)); refine blk_far ?_ (by have h_ := Kd.R_ne HL218_0.out BK199.out (by decide); intro e_; exact h_ (by rw [e_]; rfl)) _; (with_reducible repeat (first | refine blk_drewN ?_ _ | refine blk_drew ?_ | refine blk_alloc ?_ _)); exact BK199.out⟩, ⟨by repeat (first | (with_reducible first | exact HB.out | apply below_alloc | apply pw_below_drewN | apply below_drew1 | refine below_set ?_ GB56.out | refine below_set ?_ GE199.out) | exact HB.out)⟩⟩
                                              · rw [if_neg c53] at H
                                                exact absurd H (by simp)
                                            · rw [if_neg c52] at H
                                              exact absurd H (by simp)
                                          · rw [if_neg c51] at H
                                            exact absurd H (by simp)
                                        · rw [if_neg c50] at H
                                          exact absurd H (by simp)
                                      · rw [if_neg c49] at H
                                        exact absurd H (by simp)
                                    · rw [if_neg c48] at H
                                      exact absurd H (by simp)
                                  · rw [if_neg c47] at H
                                    exact absurd H (by simp)
                                · rw [if_neg c46] at H
                                  exact absurd H (by simp)
                              · rw [if_neg c45] at H
                                have c45b0 : decide (x73_5 < a0_0) = false := decide_eq_false c45
                                clear c45
                                have H' := Aside0.mk H
                                clear H
                                go_wp2
                                go_roundg k5
                                case measure => have := HK1.out; have := HK2.out; have := HK3.out; have := HK4.out; have := HK5.out; omega
                                case rel => exact ⟨(x3_5), (wrap64 (x68_4 + 1)), (by first | rfl | (simp; done) | (simp [*]; done)), H', ⟨by have := HK1.out; have := HK2.out; have := HK3.out; have := HK4.out; have := HK5.out; omega⟩, ⟨by (with_reducible repeat (first | apply Kd.S_alloc | apply Kd.S_drewN | apply Kd.S_drew)); exact HO_3.out⟩, ⟨by (with_reducible repeat (first | refine blk_drewN ?_ _ | refine blk_drew ?_ | refine blk_alloc ?_ _)); exact BK199.out⟩, ⟨by repeat (first | (with_reducible first | exact HB.out | apply below_alloc | apply pw_below_drewN | apply below_drew1 | refine below_set ?_ GE199.out) | exact HB.out)⟩⟩
                        · rw [if_neg c43] at H
                          have c43b0 : decide (x68_4 < a0_0) = false := decide_eq_false c43
                          clear c43
                          have H' := Aside0.mk H
                          clear H
                          go_wp2
                          go_roundg k4
                          case measure => have := HK1.out; have := HK2.out; have := HK3.out; have := HK4.out; omega
                          case rel => exact ⟨(x3_4), (wrap64 (x63_3 + 1)), (by first | rfl | (simp; done) | (simp [*]; done)), H', ⟨by have := HK1.out; have := HK2.out; have := HK3.out; have := HK4.out; omega⟩, ⟨by (with_reducible repeat (first | apply Kd.S_alloc | apply Kd.S_drewN | apply Kd.S_drew)); exact HO_3.out⟩, ⟨by (with_reducible repeat (first | refine blk_drewN ?_ _ | refine blk_drew ?_ | refine blk_alloc ?_ _)); exact BK199.out⟩, ⟨by repeat (first | (with_reducible first | exact HB.out | apply below_alloc | apply pw_below_drewN | apply below_drew1 | refine below_set ?_ GE199.out) | exact HB.out)⟩⟩
                  · rw [if_neg c41] at H
                    have c41b0 : decide (x63_3 < a0_0) = false := decide_eq_false c41
                    clear c41
                    obtain rfl := Option.some.inj H
                    go_wp2
                    go_ret
                    exact ⟨_, by first | rfl | (simp [errW_none, errW_some] <;> rfl) | (simp [*, errW_none, errW_some] <;> rfl), by (with_reducible repeat (first | apply Kd.S_alloc | apply Kd.S_drewN | apply Kd.S_drew)); exact HO_3.out, by repeat (first | (with_reducible first | exact HB.out | apply below_alloc | apply pw_below_drewN | apply below_drew1 | refine below_set ?_ GE199.out) | exact HB.out)⟩
end Go.Proofs.YtgeldmhgbnamcaaDoor.Q
end
section
namespace Go.Proofs.YtgeldmhgbnamcaaDoor.PureQ
open Go.Proofs.YtgeldmhgbnamcaaDoor.P (slices_Repeat.f)
open Go.RowKit Go.Proofs.YtgeldmhgbnamcaaDoor.Q Go.Proofs.YtgeldmhgbnamcaaDoorW.PrintWords Go.Proofs.YtgeldmhgbnamcaaDoorW.PrintLast Go.Proofs.YtgeldmhgbnamcaaDoorW.PrintMore
open Go.Proofs.YtgeldmhgbnamcaaDoor.Pure.FW
set_option linter.unusedVariables false
set_option linter.unusedSimpArgs false
theorem Ev.id {α : Type} {g f : Nat → Option α} {r : α} (k : Ev f r) (h : ∀ k, f k = g k) : Ev g r := Ev.congr (fun k => (h k).symm) k
def Ls {α : Type} (n : Nat) (g : Nat → α) : List α := (List.range n).map g
theorem ls_len {α : Type} (n : Nat) (g : Nat → α) : (Ls n g).length = n := by simp [Ls]
theorem ls_get {α : Type} (n : Nat) (g : Nat → α) (d : α) {i : Nat} (h : i < n) : (Ls n g).getD i d = g i := by
 simp [Ls, List.getD, h]
theorem ls_set {α : Type} (n : Nat) (g : Nat → α) (i : Nat) (x : α) : (Ls n g).set i x = Ls n (fun a => if a = i then x else g a) := by
 apply List.ext_getElem
 ·simp [Ls]
 ·intro j h1 h2
  simp only [Ls, List.getElem_set, List.getElem_map, List.getElem_range]
  by_cases c : i = j
  ·rw [if_pos c, if_pos c.symm]
  ·rw [if_neg c, if_neg (fun q => c q.symm)]
theorem ls_congr {α : Type} {n : Nat} {f g : Nat → α} (h : ∀ i, i < n → f i = g i) : Ls n f = Ls n g := by
 unfold Ls; exact List.map_congr_left fun i hi => h i (List.mem_range.1 hi)
theorem ls_rep {α : Type} (n : Nat) (x : α) : List.replicate n x = Ls n (fun _ => x) := by
 apply List.ext_getElem <;> simp [Ls]
theorem ls_snoc {α : Type} (n : Nat) (g : Nat → α) : Ls n g ++ [g n] = Ls (n + 1) g := by simp [Ls, List.range_succ]
theorem ls_rd (n : Nat) (g : Nat → Int) {i : Nat} (h : i < n) : rd (Ls n g) (i : Int) = g i := by unfold rd; rw [Int.toNat_natCast, ls_get n g 0 h]
theorem ls_rdL (n : Nat) (g : Nat → List Int) {i : Nat} (h : i < n) : rd_L8 (Ls n g) (i : Int) = g i := by unfold rd_L8; rw [Int.toNat_natCast, ls_get n g [] h]
def mat (n : Nat) (M : Mat) : List (List Int) := Ls n fun i => Ls n (M i)
theorem mat_len (n : Nat) (M : Mat) : (mat n M).length = n := ls_len n _
theorem mat_row (n : Nat) (M : Mat) {i : Nat} (h : i < n) : rd_L8 (mat n M) (i : Int) = Ls n (M i) := ls_rdL n _ h
theorem mat_congr {n : Nat} {M W : Mat} (h : ∀ i j, i < n → j < n → M i j = W i j) : mat n M = mat n W := ls_congr fun i hi => ls_congr fun j hj => h i j hi hj
def upd (M : Mat) (i j : Nat) (x : Int) : Mat := fun a b => if a = i ∧ b = j then x else M a b
theorem mat_set (n : Nat) (M : Mat) (i j : Nat) (x : Int) : (mat n M).set i ((Ls n (M i)).set j x) = mat n (upd M i j x) := by
 unfold mat
 rw [ls_set, ls_set]
 refine ls_congr fun a _ => ?_
 by_cases c : a = i
 ·rw [if_pos c]; refine ls_congr fun b _ => ?_
  unfold upd; subst c
  by_cases d : b = j
  ·rw [if_pos d, if_pos ⟨rfl, d⟩]
  ·rw [if_neg d, if_neg (fun q => d q.2)]
 ·rw [if_neg c]; refine ls_congr fun b _ => ?_
  unfold upd; rw [if_neg (fun q => c q.1)]
theorem mn_eq (a b : Int) : mn a b = min a b := by unfold mn; split <;> omega
theorem plus_eq {a b : Int} (ha : In a) (hb : In b) : stamp_Plus.f a b = some (pl a b) := by
 unfold In N at ha hb
 have e : IntKind.u64.wrap (18446744073709551615 - b) = 18446744073709551615 - b := by rw [IntKind.wrap_u64]; omega
 unfold stamp_Plus.f pl N
 rw [e]
 by_cases c : 18446744073709551615 ≤ a + b
 ·rw [if_pos (by omega), if_pos c]
 ·rw [if_neg (by omega), if_neg c, show IntKind.u64.wrap (a + b) = a + b by rw [IntKind.wrap_u64]; omega]
theorem w64 {n : Nat} (h : n < 1000000) : wrap64 ((n : Int) + 1) = ((n + 1 : Nat) : Int) := by unfold wrap64; omega
def ed (e : S127) : Ed := ⟨e.f0.toNat, e.f1.toNat, e.f2⟩
def WE (n : Nat) (E : List S127) : Prop := ∀ e ∈ E, 0 ≤ e.f0 ∧ e.f0 < n ∧ 0 ≤ e.f1 ∧ e.f1 < n ∧ In e.f2
theorem we_ok {n : Nat} {E : List S127} (h : WE n E) : EOk n (E.map ed) := by
 intro e he
 obtain ⟨x, hx, rfl⟩ := List.mem_map.1 he
 obtain ⟨h1, h2, h3, h4, h5⟩ := h x hx
 exact ⟨by show x.f0.toNat < n; omega, by show x.f1.toNat < n; omega, h5⟩
theorem rep_eq {n : Nat} (h : n ≤ 1000000) : slices_Repeat.f [18446744073709551615] (n : Int) = some (List.replicate n 18446744073709551615) := by
 unfold slices_Repeat.f
 rw [if_pos ⟨rfl, by omega, by omega⟩, Int.toNat_natCast]
 rfl
def St (M : Mat) (k i j : Nat) : Mat := fun a b => if a < i ∨ (a = i ∧ b < j) then fw M k a b else M a b
theorem st_next {n : Nat} {E : List Ed} {M : Mat} (G : Pure.FW.Good n E M) {k i j : Nat} (hk : k < n) (hi : i < n) (hj : j < n) :
  (mat n (St M k i j)).set i ((Ls n (St M k i j i)).set j (mn (St M k i j i j) (pl (St M k i j i k) (St M k i j k j)))) = mat n (St M k i (j + 1)) := by
 have e1 : fw M k i k = M i k := by unfold fw; rw [G.diag k hk, pl_zero (G.inn i k hi hk)]; omega
 have e2 : fw M k k j = M k j := by unfold fw; rw [G.diag k hk, zero_pl (G.inn k j hk hj)]; omega
 have a1 : St M k i j i j = M i j := by unfold St; rw [if_neg (by omega)]
 have a2 : St M k i j i k = M i k := by unfold St; split; exact e1; rfl
 have a3 : St M k i j k j = M k j := by unfold St; split; exact e2; rfl
 rw [a1, a2, a3, mn_eq, mat_set]
 refine mat_congr fun a b ha hb => ?_
 unfold upd
 by_cases c : a = i ∧ b = j
 ·obtain ⟨rfl, rfl⟩ := c
  rw [if_pos ⟨rfl, rfl⟩]; unfold St; rw [if_pos (by omega)]; rfl
 ·rw [if_neg c]; unfold St
  by_cases d : a < i ∨ a = i ∧ b < j
  ·rw [if_pos d, if_pos (by omega)]
  ·rw [if_neg d, if_neg (by omega)]
section
variable {n : Nat} {E : List S127} {I : List Int}
theorem ways_l4 {M : Mat} (G : Pure.FW.Good n (E.map ed) M) (hn : n ≤ 1000) {k i : Nat} (hk : k < n) (hi : i < n) (a : Int) (R : List (List Int)) (h : Ev (fun q => graph_Graph_ways.l3 q (mat n (St M k i n)) k (n : Int) a (n : Int) (wrap64 ((i : Int) + 1)) (n : Int) E I) R) :
  ∀ d j : Nat, j + d = n → Ev (fun q => graph_Graph_ways.l4 q (mat n (St M k i j)) k i (n : Int) a (n : Int) (i : Int) (n : Int) (j : Int) (n : Int) E I) R
 | 0, j, hj => by
  obtain rfl : j = n := by omega
  obtain ⟨K, h⟩ := h
  refine ⟨K + 1, fun q hq => ?_⟩
  obtain ⟨q, rfl⟩ : ∃ m, q = m + 1 := ⟨q - 1, by omega⟩
  show graph_Graph_ways.l4 (q + 1) _ _ _ _ _ _ _ _ _ _ _ _ = _
  rw [graph_Graph_ways.l4, if_neg (by omega)]
  exact h q (by omega)
 | d + 1, j, hj => by
  obtain ⟨K, h⟩ := ways_l4 G hn hk hi a R h d (j + 1) (by omega)
  have hjn : j < n := by omega
  refine ⟨K + 1, fun q hq => ?_⟩
  obtain ⟨q, rfl⟩ : ∃ m, q = m + 1 := ⟨q - 1, by omega⟩
  have h := h q (by omega)
  dsimp only at h
  have r1 := mat_row n (St M k i j) hi
  have r2 := mat_row n (St M k i j) hk
  have i1 : In (St M k i j i k) := by unfold St; split; exact (good_fw G hk).inn i k hi hk; exact G.inn i k hi hk
  have i2 : In (St M k i j k j) := by unfold St; split; exact (good_fw G hk).inn k j hk hjn; exact G.inn k j hk hjn
  show graph_Graph_ways.l4 (q + 1) _ _ _ _ _ _ _ _ _ _ _ _ = _
  rw [graph_Graph_ways.l4, if_pos (by omega), if_pos (by omega), mat_len, if_pos (by omega), if_pos (by omega), r1, ls_len, if_pos (by omega), if_pos (by omega), if_pos (by omega), if_pos (by omega), r2, ls_len, if_pos (by omega), ls_rd n _ hk, ls_rd n _ hjn, plus_eq i1 i2, Option.bind_some, ls_rd n _ hjn, Int.toNat_natCast, Int.toNat_natCast, st_next G hk hi hjn, w64 (by omega)]
  exact h
theorem ways_l3 {M : Mat} (G : Pure.FW.Good n (E.map ed) M) (hn : n ≤ 1000) {k : Nat} (hk : k < n) (a : Int) (R : List (List Int)) (h : Ev (fun q => graph_Graph_ways.l2 q (mat n (fw M k)) (n : Int) (wrap64 (a + 1)) (n : Int) E I) R) :
  ∀ d i : Nat, i + d = n → Ev (fun q => graph_Graph_ways.l3 q (mat n (St M k i 0)) k (n : Int) a (n : Int) (i : Int) (n : Int) E I) R
 | 0, i, hi => by
  obtain rfl : i = n := by omega
  have e : mat i (St M k i 0) = mat i (fw M k) := mat_congr fun x y hx hy => by unfold St; rw [if_pos (by omega)]
  obtain ⟨K, h⟩ := h
  refine ⟨K + 1, fun q hq => ?_⟩
  obtain ⟨q, rfl⟩ : ∃ m, q = m + 1 := ⟨q - 1, by omega⟩
  show graph_Graph_ways.l3 (q + 1) _ _ _ _ _ _ _ _ _ = _
  rw [graph_Graph_ways.l3, if_neg (by omega), e]
  exact h q (by omega)
 | d + 1, i, hi => by
  have hin : i < n := by omega
  have e : mat n (St M k i n) = mat n (St M k (i + 1) 0) := mat_congr fun x y hx hy => by
   unfold St
   by_cases c : x < i + 1
   ·rw [if_pos (by omega), if_pos (by omega)]
   ·rw [if_neg (by omega), if_neg (by omega)]
  have ih := ways_l3 G hn hk a R h d (i + 1) (by omega)
  rw [← e] at ih
  have h4 := ways_l4 G hn hk hin a R (by rw [w64 (by omega)]; exact ih) n 0 (by omega)
  obtain ⟨K, h4⟩ := h4
  refine ⟨K + 1, fun q hq => ?_⟩
  obtain ⟨q, rfl⟩ : ∃ m, q = m + 1 := ⟨q - 1, by omega⟩
  show graph_Graph_ways.l3 (q + 1) _ _ _ _ _ _ _ _ _ = _
  rw [graph_Graph_ways.l3, if_pos (by omega)]
  exact h4 q (by omega)
theorem ways_l2 (hE : WE n E) (hn : n ≤ 1000) : ∀ d k : Nat, k + d = n → Ev (fun q => graph_Graph_ways.l2 q (mat n (wk (E.map ed) k)) (n : Int) (k : Int) (n : Int) E I) (mat n (wk (E.map ed) n))
 | 0, k, hk => by
  obtain rfl : k = n := by omega
  refine ⟨1, fun q hq => ?_⟩
  obtain ⟨q, rfl⟩ : ∃ m, q = m + 1 := ⟨q - 1, by omega⟩
  show graph_Graph_ways.l2 (q + 1) _ _ _ _ _ _ = _
  rw [graph_Graph_ways.l2, if_neg (by omega)]
 | d + 1, k, hk => by
  have ih := ways_l2 hE hn d (k + 1) (by omega)
  have h3 := ways_l3 (good_wk (we_ok hE) k (by omega)) hn (show k < n by omega) (k : Int) _ (by rw [w64 (by omega)]; exact ih) n 0 (by omega)
  have e : mat n (St (wk (E.map ed) k) k 0 0) = mat n (wk (E.map ed) k) := mat_congr fun x y hx hy => by unfold St; rw [if_neg (by omega)]
  rw [e] at h3
  obtain ⟨K, h3⟩ := h3
  refine ⟨K + 1, fun q hq => ?_⟩
  obtain ⟨q, rfl⟩ : ∃ m, q = m + 1 := ⟨q - 1, by omega⟩
  show graph_Graph_ways.l2 (q + 1) _ _ _ _ _ _ = _
  rw [graph_Graph_ways.l2, if_pos (by omega)]
  exact h3 q (by omega)
theorem rd95 (p : List S127) (x : S127) (q : List S127) {i : Int} (h : i = p.length) : rd_T127 (p ++ x :: q) i = x := by subst h; simp [rd_T127]
theorem addE_set (n : Nat) (M : Mat) (x : S127) (h0 : 0 ≤ x.f0) (h1 : 0 ≤ x.f1) (hne : ¬ x.f0 = x.f1) : (mat n M).set x.f0.toNat ((Ls n (M x.f0.toNat)).set x.f1.toNat (mn (M x.f0.toNat x.f1.toNat) x.f2)) = mat n (addE M (ed x)) := by
 rw [mat_set, mn_eq]
 refine mat_congr fun a b _ _ => ?_
 unfold upd addE ed
 by_cases c : a = x.f0.toNat ∧ b = x.f1.toNat
 ·rw [if_pos c, if_pos ⟨by show x.f0.toNat ≠ x.f1.toNat; omega, c.1, c.2⟩, c.1, c.2]
 ·rw [if_neg c, if_neg (fun q => c q.2)]
theorem addE_self (M : Mat) (x : S127) (h : x.f0 = x.f1) : addE M (ed x) = M := by
 funext a b
 unfold addE ed
 rw [if_neg (by rintro ⟨q, _⟩; exact q (congrArg Int.toNat h))]
theorem ways_l1 (hE : WE n E) (hn : n ≤ 1000) (hl : E.length ≤ 1000) : ∀ (rest pre : List S127), E = pre ++ rest → Ev (fun q => graph_Graph_ways.l1 q (mat n ((pre.map ed).foldl addE D0)) E (E.length : Int) (pre.length : Int) (n : Int) E I) (mat n (wk (E.map ed) n))
 | [], pre, h => by
  rw [List.append_nil] at h
  subst h
  obtain ⟨K, h2⟩ := ways_l2 (I := I) hE hn n 0 (by omega)
  refine ⟨K + 1, fun q hq => ?_⟩
  obtain ⟨q, rfl⟩ : ∃ m, q = m + 1 := ⟨q - 1, by omega⟩
  show graph_Graph_ways.l1 (q + 1) _ _ _ _ _ _ _ = _
  rw [graph_Graph_ways.l1, if_neg (by omega)]
  exact h2 q (by omega)
 | x :: rest, pre, h => by
  have ih := ways_l1 hE hn hl rest (pre ++ [x]) (by rw [h]; simp)
  have hlen : pre.length + 1 ≤ E.length := by rw [h, List.length_append, List.length_cons]; omega
  obtain ⟨x0, x1, x2, x3, x4⟩ := hE x (by rw [h]; simp)
  have hr : rd_T127 E (pre.length : Int) = x := by rw [h]; exact rd95 pre x rest rfl
  rw [List.map_append, List.foldl_append] at ih
  simp only [List.map_cons, List.map_nil, List.foldl_cons, List.foldl_nil, List.length_append, List.length_cons, List.length_nil, Nat.zero_add] at ih
  obtain ⟨K, ih⟩ := ih
  generalize hM : (pre.map ed).foldl addE D0 = M at ih ⊢
  refine ⟨K + 1, fun q hq => ?_⟩
  obtain ⟨q, rfl⟩ : ∃ m, q = m + 1 := ⟨q - 1, by omega⟩
  have ih := ih q (by omega)
  dsimp only at ih
  have f0 : x.f0 = ((x.f0.toNat : Nat) : Int) := by omega
  have f1 : x.f1 = ((x.f1.toNat : Nat) : Int) := by omega
  have r1 : rd_L8 (mat n M) x.f0 = Ls n (M x.f0.toNat) := by rw [f0]; exact mat_row n M (by omega)
  have r2 : rd (Ls n (M x.f0.toNat)) x.f1 = M x.f0.toNat x.f1.toNat := by rw [f1]; exact ls_rd n _ (by omega)
  show graph_Graph_ways.l1 (q + 1) _ _ _ _ _ _ _ = _
  rw [graph_Graph_ways.l1, if_pos (by omega), if_pos (by omega), if_pos (by omega), hr]
  by_cases c : x.f0 = x.f1
  ·rw [if_pos c, w64 (by omega)]
   rw [addE_self M x c] at ih
   exact ih
  ·rw [if_neg c, if_pos x0, mat_len, if_pos x1, if_pos x2, r1, ls_len, if_pos x3, r2, addE_set n M x x0 x2 c, w64 (by omega)]
   exact ih
theorem ways_l0 (hE : WE n E) (hn : n ≤ 1000) (hl : E.length ≤ 1000) : ∀ d p : Nat, p + d = n → Ev (fun q => graph_Graph_ways.l0 q (Ls p fun i => Ls n (D0 i)) (n : Int) (p : Int) (n : Int) E I) (mat n (wk (E.map ed) n))
 | 0, p, hp => by
  obtain rfl : p = n := by omega
  obtain ⟨K, h⟩ := ways_l1 (I := I) hE hn hl E [] rfl
  refine ⟨K + 1, fun q hq => ?_⟩
  obtain ⟨q, rfl⟩ : ∃ m, q = m + 1 := ⟨q - 1, by omega⟩
  show graph_Graph_ways.l0 (q + 1) _ _ _ _ _ _ = _
  rw [graph_Graph_ways.l0, if_neg (by omega)]
  exact h q (by omega)
 | d + 1, p, hp => by
  obtain ⟨K, ih⟩ := ways_l0 hE hn hl d (p + 1) (by omega)
  refine ⟨K + 1, fun q hq => ?_⟩
  obtain ⟨q, rfl⟩ : ∃ m, q = m + 1 := ⟨q - 1, by omega⟩
  have ih := ih q (by omega)
  dsimp only at ih
  have e : (List.replicate n (18446744073709551615 : Int)).set p 0 = Ls n (D0 p) := by
   rw [ls_rep, ls_set]
   refine ls_congr fun a _ => ?_
   unfold D0 N
   by_cases c : a = p
   ·rw [if_pos c, if_pos c.symm]
   ·rw [if_neg c, if_neg (fun q => c q.symm)]
  show graph_Graph_ways.l0 (q + 1) _ _ _ _ _ _ = _
  rw [graph_Graph_ways.l0, if_pos (by omega), rep_eq (by omega), Option.bind_some, if_pos (by omega), List.length_replicate, if_pos (by omega), ls_len, if_pos (by omega), Int.toNat_natCast, e, ls_snoc p (fun i => Ls n (D0 i)), w64 (by omega)]
  exact ih
end
theorem ways_ev {n : Nat} {E : List S127} (I : List Int) (hE : WE n E) (hn : n ≤ 1000) (hl : E.length ≤ 1000) : Ev (fun q => graph_Graph_ways.f q (n : Int) E I) (mat n (wk (E.map ed) n)) := ways_l0 hE hn hl n 0 (by omega)
end Go.Proofs.YtgeldmhgbnamcaaDoor.PureQ
end
