/- Walks and laws of several statements of this seat, joined into one text; no condition. -/
import Derived.Test.YtgeldmhgbnamcaaProg
import Derived.Below
import Derived.Deep.Draws
import Derived.Deep.AppendLies
import Derived.Maps.AppendAt
import Derived.OwnWalk
import Derived.Laws.BytesArg
import Derived.Laws.MakeOwn
import Derived.Laws.OwnMore
import Derived.Deep.OwnRows
import Derived.Tactics
import Derived.Lib.ConvBytes
import Derived.Laws.Slices
import Derived.WalkKit
import Derived.KernelRfl
import Derived.RowKit3
import Derived.Deep.LoopGhost
import Derived.Deep.QuietTactic
import Derived.BigQuiet
import Derived.WideLaws
import Derived.Deep.DeepCutAuto
import Derived.Deep.CutBlock
import Derived.Deep.RegionHeld3
import Derived.Laws.Rows
import Derived.Lib.AppendStr
import Derived.ArgAppend
import Derived.Laws.IdiomCopy
import Derived.OrdersHeld
import Derived.Laws.BitsLemmas
import Derived.RowKit
import Derived.Laws.StructEq
import Derived.Test.YtgeldmhgbnamcaaFWa0
import Derived.Test.YtgeldmhgbnamcaaFWa1
import Derived.Test.YtgeldmhgbnamcaaFWa2
section
-- Printed by the session's own turn of the print (wip/tools/print2.sh): some callees are proved by hand.
namespace Go.Proofs.Ytgeldmhgbnamcaa.P
open Go.RowKit Go.Proofs.YtgeldmhgbnamcaaW.PrintWords Go.Proofs.YtgeldmhgbnamcaaW.PrintLast Go.Proofs.YtgeldmhgbnamcaaW.PrintMore
attribute [local go_sem] max2_int min2_int max_two min_two max_three min_three max_four min_four   -- for this text's walks alone
theorem cell_set_twice5 (w : World) (a : Addr) (x v : Value) (h : (w.cell? a).isSome = true) : ((w.setCell a x).setCell a v).cell? a = some v :=
 World.cell?_setCell_same' _ _ _ (by rw [World.cell?_setCell_same' _ _ _ h]; rfl)
attribute [local go_sem] cell_set_twice5
set_option linter.unusedVariables false
set_option linter.unusedSimpArgs false
/-! ### marchlandref05_Fix: function 38 -/
mutual
def marchlandref05_Fix.l0 : Nat → Int → Int → List (S90) → List Int → Int → List (S90) → Option (Int × (List (S90)) × List Int)
 | 0, _, _, _, _, _, _ => none
 | k + 1, x4, x644000, x644001, x644002, x646000, x646001 => if x4 < (x644001.length : Int) then (marchlandref05_Fix.j1 k x4 (decide (x4 < 12)) x644000 x644001 x644002 x646000 x646001) else (marchlandref05_Fix.j1 k x4 false x644000 x644001 x644002 x646000 x646001)
def marchlandref05_Fix.j1 : Nat → Int → Bool → Int → List (S90) → List Int → Int → List (S90) → Option (Int × (List (S90)) × List Int)
 | 0, _, _, _, _, _, _, _ => none
 | k + 1, x4, x25, x644000, x644001, x644002, x646000, x646001 => if x25 = true then (if 0 ≤ x4 then (if x4 < (x644001.length : Int) then (if (IntKind.u64.wrap (x646000)) = 0 then (none) else (if (wrap64 (Int.tmod (IntKind.u64.wrap ((rd_T90 x644001 x4).f1)) (IntKind.u64.wrap (x646000)))) ≤ (wrap64 (Int.tmod (IntKind.u64.wrap ((rd_T90 x644001 x4).f0)) (IntKind.u64.wrap (x646000)))) then (if ((rd_T90 x644001 x4).f2) = 0 then (if x646001.length < 5864062014805 then (marchlandref05_Fix.l0 k (wrap64 (x4 + 1)) x644000 x644001 x644002 x646000 (x646001 ++ [(⟨wrap64 (Int.tmod (IntKind.u64.wrap ((rd_T90 x644001 x4).f0)) (IntKind.u64.wrap (x646000))), wrap64 (Int.tmod (IntKind.u64.wrap ((rd_T90 x644001 x4).f1)) (IntKind.u64.wrap (x646000))), 1⟩ : S90)])) else (none)) else (if x646001.length < 5864062014805 then (marchlandref05_Fix.l0 k (wrap64 (x4 + 1)) x644000 x644001 x644002 x646000 (x646001 ++ [(⟨wrap64 (Int.tmod (IntKind.u64.wrap ((rd_T90 x644001 x4).f0)) (IntKind.u64.wrap (x646000))), wrap64 (Int.tmod (IntKind.u64.wrap ((rd_T90 x644001 x4).f1)) (IntKind.u64.wrap (x646000))), (rd_T90 x644001 x4).f2⟩ : S90)])) else (none))) else (if x646001.length < 5864062014805 then (marchlandref05_Fix.l0 k (wrap64 (x4 + 1)) x644000 x644001 x644002 x646000 (x646001 ++ [(⟨wrap64 (Int.tmod (IntKind.u64.wrap ((rd_T90 x644001 x4).f0)) (IntKind.u64.wrap (x646000))), wrap64 (Int.tmod (IntKind.u64.wrap ((rd_T90 x644001 x4).f1)) (IntKind.u64.wrap (x646000))), (rd_T90 x644001 x4).f2⟩ : S90)])) else (none)))) else (none)) else (none)) else (marchlandref05_Fix.l1 k 0 x644000 x644001 x644002 x646000 x646001 ([] : List Int))
def marchlandref05_Fix.l1 : Nat → Int → Int → List (S90) → List Int → Int → List (S90) → List Int → Option (Int × (List (S90)) × List Int)
 | 0, _, _, _, _, _, _, _ => none
 | k + 1, x6, x644000, x644001, x644002, x646000, x646001, x646002 => if x6 < (x644002.length : Int) then (marchlandref05_Fix.j3 k x6 (decide (x6 < 8)) x644000 x644001 x644002 x646000 x646001 x646002) else (marchlandref05_Fix.j3 k x6 false x644000 x644001 x644002 x646000 x646001 x646002)
def marchlandref05_Fix.j3 : Nat → Int → Bool → Int → List (S90) → List Int → Int → List (S90) → List Int → Option (Int × (List (S90)) × List Int)
 | 0, _, _, _, _, _, _, _, _ => none
 | k + 1, x6, x84, x644000, x644001, x644002, x646000, x646001, x646002 => if x84 = true then (if 0 ≤ x6 then (if x6 < (x644002.length : Int) then (if (IntKind.u64.wrap (x646000)) = 0 then (none) else (marchlandref05_Fix.l2 k x6 (wrap64 (Int.tmod (IntKind.u64.wrap (rd x644002 x6)) (IntKind.u64.wrap (x646000)))) false 0 x644000 x644001 x644002 x646000 x646001 x646002)) else (none)) else (none)) else (if (x646002.length : Int) = 0 then (some (x646000, x646001, (([0] : List Int)))) else (some (x646000, x646001, x646002)))
def marchlandref05_Fix.l2 : Nat → Int → Int → Bool → Int → Int → List (S90) → List Int → Int → List (S90) → List Int → Option (Int × (List (S90)) × List Int)
 | 0, _, _, _, _, _, _, _, _, _, _ => none
 | k + 1, x6, x7, x8, x9, x644000, x644001, x644002, x646000, x646001, x646002 => if x9 < (x646002.length : Int) then (if x8 = true then (marchlandref05_Fix.l2 k x6 x7 true (wrap64 (x9 + 1)) x644000 x644001 x644002 x646000 x646001 x646002) else (if 0 ≤ x9 then (marchlandref05_Fix.l2 k x6 x7 ((rd x646002 x9) == x7) (wrap64 (x9 + 1)) x644000 x644001 x644002 x646000 x646001 x646002) else (none))) else (if x8 = true then (marchlandref05_Fix.l1 k (wrap64 (x6 + 1)) x644000 x644001 x644002 x646000 x646001 x646002) else (if x646002.length < 17592186044416 then (marchlandref05_Fix.l1 k (wrap64 (x6 + 1)) x644000 x644001 x644002 x646000 x646001 (x646002 ++ [x7])) else (none)))
end
def marchlandref05_Fix.f (k : Nat) (a0_0 : Int) (l0_1 : List (S90)) (l0_2 : List Int) : Option (Int × (List (S90)) × List Int) := marchlandref05_Fix.l0 k 0 a0_0 l0_1 l0_2 (wrap64 (1 + (wrap64 (Int.tmod (IntKind.u64.wrap (a0_0)) 6)))) ([] : List (S90))
def marchlandref05_Fix.T5 : Bool × List (List Nat × List Nat) := (true, [([], []), ([0], [0]), ([], []), ([1, 2], [1, 2]), ([3], [3]), ([4], [4]), ([5], [5]), ([], []), ([7], [7]), ([8], [8]), ([6, 9], [6, 9]), ([10], [10]), ([], []), ([12], [12]), ([], []), ([13, 14], [13, 14]), ([15], [15]), ([16], [16]), ([17], [17]), ([], []), ([19], [19]), ([20], [20]), ([18, 21], [18, 21]), ([22], [22]), ([], []), ([24], [24]), ([], []), ([25, 26], [25, 26]), ([27], [27]), ([28], [28]), ([11, 23, 29], [11, 23, 29]), ([], []), ([31, 30, 0, 1, 2, 3, 4, 5, 6, 7, 8, 9, 10, 11, 12, 13, 14, 15, 16, 17, 18, 19, 20, 21, 22, 23, 24, 25, 26, 27, 28, 29, 30, 31], [30, 31])])
def marchlandref05_Fix.B5 : List Nat := [0, 1, 0, 7, 15, 31, 63, 0, 128, 384, 1023, 2047, 0, 4096, 0, 28672, 61440, 126976, 258048, 0, 524288, 1572864, 4190208, 8384512, 0, 16777216, 0, 117440512, 251658240, 520093696, 1073741823, 0, 4294967295]
theorem marchlandref05_Fix.tab5 : rtab .any (opsOf Try.f38 5) = marchlandref05_Fix.T5 := by kernel_rfl
theorem marchlandref05_Fix.bits5 : waitsOk marchlandref05_Fix.T5.2 marchlandref05_Fix.B5 = true := by kernel_rfl
def marchlandref05_Fix.T12 : Bool × List (List Nat × List Nat) := (true, [([], []), ([0], [0]), ([], []), ([1, 2], [1, 2]), ([3], [3]), ([4], [4]), ([], []), ([6], [6]), ([7], [7]), ([5, 8], [5, 8]), ([9], [9]), ([10, 0, 1, 2, 3, 4, 5, 6, 7, 8, 9, 10], [10])])
def marchlandref05_Fix.B12 : List Nat := [0, 1, 0, 7, 15, 31, 0, 64, 192, 511, 1023, 2047]
theorem marchlandref05_Fix.tab12 : rtab .any (opsOf Try.f38 12) = marchlandref05_Fix.T12 := by kernel_rfl
theorem marchlandref05_Fix.bits12 : waitsOk marchlandref05_Fix.T12.2 marchlandref05_Fix.B12 = true := by kernel_rfl
set_option maxHeartbeats 8000000 in
set_option maxRecDepth 100000 in
theorem marchlandref05_Fix.calls (k : Nat) (a0_0 : Int) (A0_1 : Option Addr) (c0_1 : Nat) (l0_1 : List (S90)) (A0_2 : Option Addr) (c0_2 : Nat) (l0_2 : List Int) (r1 : Int) (r2 : List (S90)) (r3 : List Int) (w : World) (hr0_1 : Kd.C k90 w A0_1 l0_1.length l0_1) (hc0_1 : l0_1.length ≤ c0_1) (hr0_2 : Kd.C (Kd.int .i64) w A0_2 l0_2.length l0_2) (hc0_2 : l0_2.length ≤ c0_2) (h : marchlandref05_Fix.f k a0_0 l0_1 l0_2 = some (r1, r2, r3)) :
  Calls Try.prog 38 #[.agg #[.int .i64 a0_0, .slice A0_1 l0_1.length c0_1, .slice A0_2 l0_2.length c0_2]] w fun e w' => ∃ v1_ v2_ : Value, e = .returned (.agg #[.int .i64 r1, v1_, v2_]) ∧ Kd.R k90 90 w' w.heap.size (fun _ => True) v1_ r2 ∧ Kd.R (Kd.int .i64) 3 w' w.heap.size (fun _ => True) v2_ r3 ∧ Below w.heap.size w w' := by
 have hu58 := Try.underlying58
 have hu90 := Try.underlying90
 have HR0_1 := Aside0.mk hr0_1
 have HC0_1 := Aside0.mk hc0_1
 clear hr0_1 hc0_1
 have HR0_2 := Aside0.mk hr0_2
 have HC0_2 := Aside0.mk hc0_2
 clear hr0_2 hc0_2
 have HB := Aside0.mk (Below.refl w.heap.size w)
 have H : (marchlandref05_Fix.l0 k 0 a0_0 l0_1 l0_2 (wrap64 (1 + (wrap64 (Int.tmod (IntKind.u64.wrap (a0_0)) 6)))) ([] : List (S90))) = some (r1, r2, r3) := h
 clear h
 have H' := Aside0.mk H
 clear H
 go_enter Try.func38, Try.ntmps38
 go_wp2_with (first | ((with_reducible refine gate_dst (N := 1) rfl ?_); refine box_event ?hg (N := 1) ?hd (cs := #[.int .i64 a0_0, .slice A0_1 l0_1.length c0_1, .slice A0_2 l0_2.length c0_2]) (t := 58) ?hr ?_; (case hd => rfl); (case hg => rfl); (case hr => first | (go_simp; done) | (go_simp; rfl)); intro gb643 hg w2 hbox hb; have n1_ := Aside0.mk (hbox); have n2_ := Aside0.mk ((by rw [hg]; exact (below_size (bn HB)) : w.heap.size ≤ gb643)); have n3_ := Aside0.mk ((by rw [hg]; exact (below_size (bn HB)) : w.heap.size ≤ gb643)); replace HB := bb HB hb; have BK643 := n1_; have GW643 := n2_; have GE643 := n3_; clear n1_ n2_ n3_; clear hb hbox hg) | ((with_reducible refine gate_dst (N := 2) rfl ?_); refine box_event ?hg (N := 2) ?hd (cs := #[.int .i64 0, .slice none 0 0, .slice none 0 0]) (t := 58) ?hr ?_; (case hd => rfl); (case hg => rfl); (case hr => first | (go_simp; done) | (go_simp; rfl)); intro gb644 hg w3 hbox hb; have n0_ := Aside0.mk (bkb BK643 hb); have n1_ := Aside0.mk (below_step (bn1 HB GE643) hb); have n2_ := Aside0.mk (hbox); have n3_ := Aside0.mk ((by rw [hg]; exact (below_size (bn1 HB GE643)) : w.heap.size ≤ gb644)); have n4_ := Aside0.mk ((by rw [hg]; exact (below_size (bn1 HB GE643)) : w.heap.size ≤ gb644)); have n5_ := Aside0.mk ((by rw [hg]; exact Nat.ne_of_lt (bkl BK643) : gb643 ≠ gb644)); have n6_ := Aside0.mk ((by rw [hg]; exact Nat.ne_of_gt (bkl BK643) : gb644 ≠ gb643)); clear BK643; clear HB; have BK643 := n0_; have HB := n1_; have BK644 := n2_; have GW644 := n3_; have GE644 := n4_; have NB643_644 := n5_; have NB644_643 := n6_; clear n0_ n1_ n2_ n3_ n4_ n5_ n6_; clear hb hbox hg; have hnb4 := NB643_644.out; have hnc4 := NB644_643.out; have hcz5_0 : w3.cell? ⟨gb643, 0, none⟩ = some (.int .i64 a0_0) := (blk_cell BK643.out 0).trans rfl; have hcz5_1 : w3.cell? ⟨gb643, 1, none⟩ = some (.slice A0_1 l0_1.length c0_1) := (blk_cell BK643.out 1).trans rfl; have hcz5_2 : w3.cell? ⟨gb643, 2, none⟩ = some (.slice A0_2 l0_2.length c0_2) := (blk_cell BK643.out 2).trans rfl; have hfz5_0 := blk_frozen BK643.out 0; have hfz5_1 := blk_frozen BK643.out 1; have hfz5_2 := blk_frozen BK643.out 2) | ((with_reducible refine gate_dst (N := 3) rfl ?_); refine box_event ?hg (N := 3) ?hd (cs := #[.int .i64 0, .slice none 0 0, .slice none 0 0]) (t := 58) ?hr ?_; (case hd => rfl); (case hg => rfl); (case hr => first | (go_simp; done) | (go_simp; rfl)); intro gb645 hg w6 hbox hb; have n0_ := Aside0.mk (bkb BK643 hb); have n1_ := Aside0.mk (bkb BK644 hb); have n2_ := Aside0.mk (below_step (bn2 HB GE643 GE644) hb); have n3_ := Aside0.mk (hbox); have n4_ := Aside0.mk ((by rw [hg]; exact (below_size (bn2 HB GE643 GE644)) : w.heap.size ≤ gb645)); have n5_ := Aside0.mk ((by rw [hg]; exact (below_size (bn2 HB GE643 GE644)) : w.heap.size ≤ gb645)); have n6_ := Aside0.mk ((by rw [hg]; exact Nat.ne_of_lt (bkl BK643) : gb643 ≠ gb645)); have n7_ := Aside0.mk ((by rw [hg]; exact Nat.ne_of_gt (bkl BK643) : gb645 ≠ gb643)); have n8_ := Aside0.mk ((by rw [hg]; exact Nat.ne_of_lt (bkl BK644) : gb644 ≠ gb645)); have n9_ := Aside0.mk ((by rw [hg]; exact Nat.ne_of_gt (bkl BK644) : gb645 ≠ gb644)); clear BK643; clear BK644; clear HB; have BK643 := n0_; have BK644 := n1_; have HB := n2_; have BK645 := n3_; have GW645 := n4_; have GE645 := n5_; have NB643_645 := n6_; have NB645_643 := n7_; have NB644_645 := n8_; have NB645_644 := n9_; clear n0_ n1_ n2_ n3_ n4_ n5_ n6_ n7_ n8_ n9_; clear hb hbox hg; have hnb7 := NB645_643.out; have hnc7 := NB643_645.out; have hnb8 := NB645_644.out; have hnc8 := NB644_645.out; have hcz9_0 : w6.cell? ⟨gb645, 0, none⟩ = some (.int .i64 0) := (blk_cell BK645.out 0).trans rfl; have hcz9_1 : w6.cell? ⟨gb645, 1, none⟩ = some (.slice none 0 0) := (blk_cell BK645.out 1).trans rfl; have hcz9_2 : w6.cell? ⟨gb645, 2, none⟩ = some (.slice none 0 0) := (blk_cell BK645.out 2).trans rfl; have hfz9_0 := blk_frozen BK645.out 0; have hfz9_1 := blk_frozen BK645.out 1; have hfz9_2 := blk_frozen BK645.out 2))
 go_loopg [4] k (fun kq v4 w' => ∃ (x4_1 : Int) (x646001_1 : List (S90)) (u646001 : Value), v4 = .int .i64 x4_1 ∧ Aside0 (marchlandref05_Fix.l0 kq x4_1 a0_0 l0_1 l0_2 (wrap64 (1 + (wrap64 (Int.tmod (IntKind.u64.wrap (a0_0)) 6)))) x646001_1 = some (r1, r2, r3)) ∧ Aside0 (kq ≤ k) ∧ Aside0 (Kd.R k90 90 w' w.heap.size (fun _ => True) u646001 x646001_1) ∧ Aside0 (w'.heap[gb643]? = some (.cells #[.int .i64 a0_0, (.slice A0_1 l0_1.length c0_1), (.slice A0_2 l0_2.length c0_2)] 58 (0, 0))) ∧ Aside0 (w'.heap[gb644]? = some (.cells #[.int .i64 0, (.slice none 0 0), (.slice none 0 0)] 58 (0, 0))) ∧ Aside0 (w'.heap[gb645]? = some (.cells #[.int .i64 (wrap64 (1 + (wrap64 (Int.tmod (IntKind.u64.wrap (a0_0)) 6)))), u646001, (.slice none 0 0)] 58 (0, 0))) ∧ Aside0 (Below w.heap.size w w'))
 case atStart => exact ⟨(0), (([] : List (S90))), (.slice none 0 0), (by first | rfl | (simp; done) | (simp [*]; done)), H', ⟨Nat.le_refl _⟩, ⟨by first | exact Kd.R_nil _ _ _ _ _ | exact Kd.N_nil _ _ _ _ _ | exact Kd.V_nil _ _ _ _ _ | exact Kd.Q_nil _ _ _ _ _ | exact Kd.S_nil _ _ _ _ _⟩, ⟨by (with_reducible repeat (first | refine blk_drewN ?_ _ | refine blk_drew ?_ | refine blk_alloc ?_ _)); refine blk_far ?_ NB643_645.out _; (with_reducible repeat (first | refine blk_drewN ?_ _ | refine blk_drew ?_ | refine blk_alloc ?_ _)); refine blk_far ?_ NB643_645.out _; (with_reducible repeat (first | refine blk_drewN ?_ _ | refine blk_drew ?_ | refine blk_alloc ?_ _)); refine blk_far ?_ NB643_645.out _; (with_reducible repeat (first | refine blk_drewN ?_ _ | refine blk_drew ?_ | refine blk_alloc ?_ _)); exact BK643.out⟩, ⟨by (with_reducible repeat (first | refine blk_drewN ?_ _ | refine blk_drew ?_ | refine blk_alloc ?_ _)); refine blk_far ?_ NB644_645.out _; (with_reducible repeat (first | refine blk_drewN ?_ _ | refine blk_drew ?_ | refine blk_alloc ?_ _)); refine blk_far ?_ NB644_645.out _; (with_reducible repeat (first | refine blk_drewN ?_ _ | refine blk_drew ?_ | refine blk_alloc ?_ _)); refine blk_far ?_ NB644_645.out _; (with_reducible repeat (first | refine blk_drewN ?_ _ | refine blk_drew ?_ | refine blk_alloc ?_ _)); exact BK644.out⟩, ⟨by (with_reducible repeat (first | refine blk_drewN ?_ _ | refine blk_drew ?_ | refine blk_alloc ?_ _)); refine blk_put (cs := #[.int .i64 (wrap64 (1 + (wrap64 (Int.tmod (IntKind.u64.wrap (a0_0)) 6)))), .slice none 0 0, .slice none 0 0]) ?_ 2 _ rfl; (with_reducible repeat (first | refine blk_drewN ?_ _ | refine blk_drew ?_ | refine blk_alloc ?_ _)); refine blk_put (cs := #[.int .i64 (wrap64 (1 + (wrap64 (Int.tmod (IntKind.u64.wrap (a0_0)) 6)))), .slice none 0 0, .slice none 0 0]) ?_ 1 _ rfl; (with_reducible repeat (first | refine blk_drewN ?_ _ | refine blk_drew ?_ | refine blk_alloc ?_ _)); refine blk_put (cs := #[.int .i64 0, .slice none 0 0, .slice none 0 0]) ?_ 0 _ rfl; (with_reducible repeat (first | refine blk_drewN ?_ _ | refine blk_drew ?_ | refine blk_alloc ?_ _)); exact BK645.out⟩, ⟨bn3 HB GE643 GE644 GE645⟩⟩
 case round =>
  clear H'
  (try clear p2); (try clear c3); (try clear c4); (try clear p6); (try clear c7); (try clear c8); (try clear hcz5_0); (try clear hcz5_1); (try clear hcz5_2); (try clear hcz9_0); (try clear hcz9_1); (try clear hcz9_2); (try clear hfz5_0); (try clear hfz5_1); (try clear hfz5_2); (try clear hfz9_0); (try clear hfz9_1)
  (try clear hfz9_2)
  obtain ⟨x4_1, x646001_1, u646001, rfl, HA, HK1, HO_646001, BK643, BK644, BK645, HB⟩ := hrel
  cases gk with
  | zero => exact absurd HA.out (by simp [marchlandref05_Fix.l0])
  | succ k1 =>
   have H := HA.out
   clear HA
   simp only [marchlandref05_Fix.l0] at H
   have HC10 := Aside0.mk H
   clear H
   go_upto_region 3 with (fail)
   go_cut [25] (fun v25 wc => ∃ (kq : Nat) (x25_9 : Bool), v25 = .bool x25_9 ∧ Aside0 (marchlandref05_Fix.j1 kq x4_1 x25_9 a0_0 l0_1 l0_2 (wrap64 (1 + (wrap64 (Int.tmod (IntKind.u64.wrap (a0_0)) 6)))) x646001_1 = some (r1, r2, r3)) ∧ Aside0 (kq ≤ k1) ∧ Aside0 (Kd.R k90 90 wc w.heap.size (fun _ => True) u646001 x646001_1) ∧ Aside0 (wc.heap[gb643]? = some (.cells #[.int .i64 a0_0, (.slice A0_1 l0_1.length c0_1), (.slice A0_2 l0_2.length c0_2)] 58 (0, 0))) ∧ Aside0 (wc.heap[gb644]? = some (.cells #[.int .i64 0, (.slice none 0 0), (.slice none 0 0)] 58 (0, 0))) ∧ Aside0 (wc.heap[gb645]? = some (.cells #[.int .i64 (wrap64 (1 + (wrap64 (Int.tmod (IntKind.u64.wrap (a0_0)) 6)))), u646001, (.slice none 0 0)] 58 (0, 0))) ∧ Aside0 (Below w.heap.size w wc))
   case first =>
    have H := HC10.out
    clear HC10
    by_cases c11 : x4_1 < (l0_1.length : Int)
    ·rw [if_pos c11] at H
     have c11b0 : decide (x4_1 < (l0_1.length : Int)) = true := decide_eq_true c11
     clear c11
     (first | rw [c11b0] | (simp only [i64_w, i32_w]; rw [c11b0]) | skip)
     have H' := Aside0.mk H
     clear H
     have hnb12 := NB643_644.out
     have hnc12 := NB644_643.out
     have hnb13 := NB643_645.out
     have hnc13 := NB645_643.out
     have hcz14_0 : wr.cell? ⟨gb643, 0, none⟩ = some (.int .i64 a0_0) := (blk_cell BK643.out 0).trans rfl
     have hcz14_1 : wr.cell? ⟨gb643, 1, none⟩ = some (.slice A0_1 l0_1.length c0_1) := (blk_cell BK643.out 1).trans rfl
     have hcz14_2 : wr.cell? ⟨gb643, 2, none⟩ = some (.slice A0_2 l0_2.length c0_2) := (blk_cell BK643.out 2).trans rfl
     have hfz14_0 := blk_frozen BK643.out 0
     have hfz14_1 := blk_frozen BK643.out 1
     have hfz14_2 := blk_frozen BK643.out 2
     go_wp2
     go_meet
     case rel => exact ⟨_, (decide (x4_1 < 12)), (by first | rfl | (simp; done) | (simp [*]; done)), H', ⟨by have := HK1.out; first | omega | exact Nat.le_refl _⟩, ⟨rn HO_646001⟩, ⟨bk BK643⟩, ⟨bk BK644⟩, ⟨bk BK645⟩, ⟨bn3 HB GE643 GE644 GE645⟩⟩
    ·rw [if_neg c11] at H
     have c11b0 : decide (x4_1 < (l0_1.length : Int)) = false := decide_eq_false c11
     clear c11
     (first | rw [c11b0] | (simp only [i64_w, i32_w]; rw [c11b0]) | skip)
     have H' := Aside0.mk H
     clear H
     have hnb15 := NB643_644.out
     have hnc15 := NB644_643.out
     have hnb16 := NB643_645.out
     have hnc16 := NB645_643.out
     have hcz17_0 : wr.cell? ⟨gb643, 0, none⟩ = some (.int .i64 a0_0) := (blk_cell BK643.out 0).trans rfl
     have hcz17_1 : wr.cell? ⟨gb643, 1, none⟩ = some (.slice A0_1 l0_1.length c0_1) := (blk_cell BK643.out 1).trans rfl
     have hcz17_2 : wr.cell? ⟨gb643, 2, none⟩ = some (.slice A0_2 l0_2.length c0_2) := (blk_cell BK643.out 2).trans rfl
     have hfz17_0 := blk_frozen BK643.out 0
     have hfz17_1 := blk_frozen BK643.out 1
     have hfz17_2 := blk_frozen BK643.out 2
     go_wp2
     go_meet
     case rel => exact ⟨_, (false), (by first | rfl | (simp; done) | (simp [*]; done)), H', ⟨by have := HK1.out; first | omega | exact Nat.le_refl _⟩, ⟨rn HO_646001⟩, ⟨bk BK643⟩, ⟨bk BK644⟩, ⟨bk BK645⟩, ⟨bn3 HB GE643 GE644 GE645⟩⟩
   case rest =>
    clear HC10
    (try clear c1); (try clear p2); (try clear c3); (try clear c4); (try clear p6); (try clear c7); (try clear c8); (try clear c11); (try clear c11b0); (try clear c12); (try clear c13); (try clear c15); (try clear c16); (try clear hcz14_0); (try clear hcz14_1); (try clear hcz14_2); (try clear hcz17_0)
    (try clear hcz17_1); (try clear hcz17_2); (try clear hcz5_0); (try clear hcz5_1); (try clear hcz5_2); (try clear hcz9_0); (try clear hcz9_1); (try clear hcz9_2); (try clear hfz14_0); (try clear hfz14_1); (try clear hfz14_2); (try clear hfz17_0); (try clear hfz17_1); (try clear hfz17_2); (try clear hfz5_0)
    (try clear hfz5_1); (try clear hfz5_2); (try clear hfz9_0); (try clear hfz9_1); (try clear hfz9_2); (try clear p2); (try clear p6)
    obtain ⟨kq, x25_9, rfl, HA, HJ9, HO_646001, BK643, BK644, BK645, HB⟩ := hcut
    cases kq with
    | zero => exact absurd HA.out (by simp [marchlandref05_Fix.j1])
    | succ kj9 =>
     have H := HA.out
     clear HA
     simp only [marchlandref05_Fix.j1] at H
     by_cases c18 : x25_9 = true
     ·subst c18
      have H1 : (if 0 ≤ x4_1 then (if x4_1 < (l0_1.length : Int) then (if (IntKind.u64.wrap ((wrap64 (1 + (wrap64 (Int.tmod (IntKind.u64.wrap (a0_0)) 6)))))) = 0 then (none) else (if (wrap64 (Int.tmod (IntKind.u64.wrap ((rd_T90 l0_1 x4_1).f1)) (IntKind.u64.wrap ((wrap64 (1 + (wrap64 (Int.tmod (IntKind.u64.wrap (a0_0)) 6)))))))) ≤ (wrap64 (Int.tmod (IntKind.u64.wrap ((rd_T90 l0_1 x4_1).f0)) (IntKind.u64.wrap ((wrap64 (1 + (wrap64 (Int.tmod (IntKind.u64.wrap (a0_0)) 6)))))))) then (if ((rd_T90 l0_1 x4_1).f2) = 0 then (if x646001_1.length < 5864062014805 then (marchlandref05_Fix.l0 kj9 (wrap64 (x4_1 + 1)) a0_0 l0_1 l0_2 (wrap64 (1 + (wrap64 (Int.tmod (IntKind.u64.wrap (a0_0)) 6)))) (x646001_1 ++ [(⟨wrap64 (Int.tmod (IntKind.u64.wrap ((rd_T90 l0_1 x4_1).f0)) (IntKind.u64.wrap ((wrap64 (1 + (wrap64 (Int.tmod (IntKind.u64.wrap (a0_0)) 6))))))), wrap64 (Int.tmod (IntKind.u64.wrap ((rd_T90 l0_1 x4_1).f1)) (IntKind.u64.wrap ((wrap64 (1 + (wrap64 (Int.tmod (IntKind.u64.wrap (a0_0)) 6))))))), 1⟩ : S90)])) else (none)) else (if x646001_1.length < 5864062014805 then (marchlandref05_Fix.l0 kj9 (wrap64 (x4_1 + 1)) a0_0 l0_1 l0_2 (wrap64 (1 + (wrap64 (Int.tmod (IntKind.u64.wrap (a0_0)) 6)))) (x646001_1 ++ [(⟨wrap64 (Int.tmod (IntKind.u64.wrap ((rd_T90 l0_1 x4_1).f0)) (IntKind.u64.wrap ((wrap64 (1 + (wrap64 (Int.tmod (IntKind.u64.wrap (a0_0)) 6))))))), wrap64 (Int.tmod (IntKind.u64.wrap ((rd_T90 l0_1 x4_1).f1)) (IntKind.u64.wrap ((wrap64 (1 + (wrap64 (Int.tmod (IntKind.u64.wrap (a0_0)) 6))))))), (rd_T90 l0_1 x4_1).f2⟩ : S90)])) else (none))) else (if x646001_1.length < 5864062014805 then (marchlandref05_Fix.l0 kj9 (wrap64 (x4_1 + 1)) a0_0 l0_1 l0_2 (wrap64 (1 + (wrap64 (Int.tmod (IntKind.u64.wrap (a0_0)) 6)))) (x646001_1 ++ [(⟨wrap64 (Int.tmod (IntKind.u64.wrap ((rd_T90 l0_1 x4_1).f0)) (IntKind.u64.wrap ((wrap64 (1 + (wrap64 (Int.tmod (IntKind.u64.wrap (a0_0)) 6))))))), wrap64 (Int.tmod (IntKind.u64.wrap ((rd_T90 l0_1 x4_1).f1)) (IntKind.u64.wrap ((wrap64 (1 + (wrap64 (Int.tmod (IntKind.u64.wrap (a0_0)) 6))))))), (rd_T90 l0_1 x4_1).f2⟩ : S90)])) else (none)))) else (none)) else (none)) = some (r1, r2, r3) := by rw [if_pos rfl] at H; exact H
      clear H
      have H := H1
      clear H1
      by_cases c19 : 0 ≤ x4_1
      ·rw [if_pos c19] at H
       have c19b0 : decide (0 ≤ x4_1) = true := decide_eq_true c19
       clear c19
       by_cases c20 : x4_1 < (l0_1.length : Int)
       ·rw [if_pos c20] at H
        have c20b0 : decide (x4_1 < (l0_1.length : Int)) = true := decide_eq_true c20
        clear c20
        by_cases c21 : (IntKind.u64.wrap ((wrap64 (1 + (wrap64 (Int.tmod (IntKind.u64.wrap (a0_0)) 6)))))) = 0
        ·rw [if_pos c21] at H
         exact absurd H (by simp)
        ·rw [if_neg c21] at H
         have c21b0 : ((IntKind.u64.wrap ((wrap64 (1 + (wrap64 (Int.tmod (IntKind.u64.wrap (a0_0)) 6)))))) == 0) = false := beq_eq_false_iff_ne.mpr c21
         have c21b1 : ((IntKind.u64.wrap ((wrap64 (1 + (wrap64 (Int.tmod (IntKind.u64.wrap (a0_0)) 6)))))) != 0) = true := bne_iff_ne.mpr c21
         by_cases c22 : (wrap64 (Int.tmod (IntKind.u64.wrap ((rd_T90 l0_1 x4_1).f1)) (IntKind.u64.wrap ((wrap64 (1 + (wrap64 (Int.tmod (IntKind.u64.wrap (a0_0)) 6)))))))) ≤ (wrap64 (Int.tmod (IntKind.u64.wrap ((rd_T90 l0_1 x4_1).f0)) (IntKind.u64.wrap ((wrap64 (1 + (wrap64 (Int.tmod (IntKind.u64.wrap (a0_0)) 6))))))))
         ·rw [if_pos c22] at H
          have c22b0 : decide ((wrap64 (Int.tmod (IntKind.u64.wrap ((rd_T90 l0_1 x4_1).f1)) (IntKind.u64.wrap ((wrap64 (1 + (wrap64 (Int.tmod (IntKind.u64.wrap (a0_0)) 6)))))))) ≤ (wrap64 (Int.tmod (IntKind.u64.wrap ((rd_T90 l0_1 x4_1).f0)) (IntKind.u64.wrap ((wrap64 (1 + (wrap64 (Int.tmod (IntKind.u64.wrap (a0_0)) 6))))))))) = true := decide_eq_true c22
          clear c22
          by_cases c23 : ((rd_T90 l0_1 x4_1).f2) = 0
          ·rw [if_pos c23] at H
           have c23b0 : (((rd_T90 l0_1 x4_1).f2) == 0) = true := beq_iff_eq.mpr c23
           have c23b1 : (((rd_T90 l0_1 x4_1).f2) != 0) = false := bne_eq_false_iff_eq.mpr c23
           clear c23
           by_cases c24 : x646001_1.length < 5864062014805
           ·rw [if_pos c24] at H
            have LMc24 := Aside0.mk c24
            clear c24
            obtain ⟨y650, hy650⟩ : ∃ y_ : List (S90), y_ = (x646001_1 ++ [(⟨wrap64 (Int.tmod (IntKind.u64.wrap ((rd_T90 l0_1 x4_1).f0)) (IntKind.u64.wrap ((wrap64 (1 + (wrap64 (Int.tmod (IntKind.u64.wrap (a0_0)) 6))))))), wrap64 (Int.tmod (IntKind.u64.wrap ((rd_T90 l0_1 x4_1).f1)) (IntKind.u64.wrap ((wrap64 (1 + (wrap64 (Int.tmod (IntKind.u64.wrap (a0_0)) 6))))))), 1⟩ : S90)]) := ⟨_, rfl⟩
            replace H : (marchlandref05_Fix.l0 kj9 (wrap64 (x4_1 + 1)) a0_0 l0_1 l0_2 (wrap64 (1 + (wrap64 (Int.tmod (IntKind.u64.wrap (a0_0)) 6)))) y650) = some (r1, r2, r3) := by first | (rw [hy650]; with_reducible exact H) | (have H2_ := (Option.bind_some _ _).symm.trans H; rw [hy650]; with_reducible exact H2_) | (have H2_ := (Option.bind_some _ _).symm.trans H; with_reducible exact H2_) | with_reducible exact H | (rw [hy650]; exact H) | exact H
            have Ny650 := Aside0.mk hy650
            clear hy650
            have H' := Aside0.mk H
            clear H
            try go_wp2
            have n0_ := Aside0.mk (Kd.R_drew HO_646001.out)
            have n1_ := Aside0.mk (blk_drew BK643.out)
            have n2_ := Aside0.mk (blk_drew BK644.out)
            have n3_ := Aside0.mk (blk_drew BK645.out)
            have n4_ := Aside0.mk (below_drew1 HB.out)
            clear HO_646001
            clear BK643
            clear BK644
            clear BK645
            clear HB
            have HO_646001 := n0_
            have BK643 := n1_
            have BK644 := n2_
            have BK645 := n3_
            have HB := n4_
            clear n0_ n1_ n2_ n3_ n4_
            have p646 : 0 ≤ (x4_1 : Int) := of_decide_eq_true (by assumption)
            have q646 : x4_1 < (l0_1.length : Int) := of_decide_eq_true (by assumption)
            obtain ⟨ad646, e646, hx646_0, hx646_1, hx646_2⟩ := at_T90 HR0_1.out x4_1 p646 q646
            have hw646_2 := hx646_2
            have hw646_1 := hx646_1
            have hw646_0 := hx646_0
            cases e646
            replace hx646_0 := ct HB hx646_0
            replace hx646_1 := ct HB hx646_1
            replace hx646_2 := ct HB hx646_2
            replace p646 := eq_true p646
            replace q646 := eq_true q646
            have p647 : 0 ≤ (x4_1 : Int) := of_decide_eq_true (by assumption)
            have q647 : x4_1 < (l0_1.length : Int) := of_decide_eq_true (by assumption)
            obtain ⟨ad647, e647, hx647_0, hx647_1, hx647_2⟩ := at_T90 HR0_1.out x4_1 p647 q647
            have hw647_2 := hx647_2
            have hw647_1 := hx647_1
            have hw647_0 := hx647_0
            obtain rfl : ad646 = ad647 := (by injection e647)
            replace hx647_0 := ct HB hx647_0
            replace hx647_1 := ct HB hx647_1
            replace hx647_2 := ct HB hx647_2
            replace p647 := eq_true p647
            replace q647 := eq_true q647
            have p648 : 0 ≤ (x4_1 : Int) := of_decide_eq_true (by assumption)
            have q648 : x4_1 < (l0_1.length : Int) := of_decide_eq_true (by assumption)
            obtain ⟨ad648, e648, hx648_0, hx648_1, hx648_2⟩ := at_T90 HR0_1.out x4_1 p648 q648
            have hw648_2 := hx648_2
            have hw648_1 := hx648_1
            have hw648_0 := hx648_0
            obtain rfl : ad646 = ad648 := (by injection e648)
            replace hx648_0 := ct HB hx648_0
            replace hx648_1 := ct HB hx648_1
            replace hx648_2 := ct HB hx648_2
            replace p648 := eq_true p648
            replace q648 := eq_true q648
            refine start_ (n := 33) (S := fun w' => w'.cell? ⟨gb643, 0, none⟩ = some (.int .i64 a0_0) ∧ w'.cell? ⟨gb643, 1, none⟩ = some (.slice (some ad646) l0_1.length c0_1) ∧ w'.cell? ⟨gb643, 2, none⟩ = some (.slice A0_2 l0_2.length c0_2) ∧ w'.cell? ⟨gb645, 0, none⟩ = some (.int .i64 (wrap64 (1 + (wrap64 (Int.tmod (IntKind.u64.wrap (a0_0)) 6))))) ∧ w'.cell? ⟨gb645, 1, none⟩ = some (u646001) ∧ w'.cell? ⟨gb645, 2, none⟩ = some (.slice none 0 0) ∧ w'.cell? (ad646.add ((x4_1).toNat * 3)) = some (.int .i64 ((rd_T90 l0_1 x4_1).f0)) ∧ w'.cell? ⟨(ad646.add ((x4_1).toNat * 3)).block, (ad646.add ((x4_1).toNat * 3)).off + 1, none⟩ = some (.int .i64 ((rd_T90 l0_1 x4_1).f1)) ∧ w'.cell? ⟨(ad646.add ((x4_1).toNat * 3)).block, (ad646.add ((x4_1).toNat * 3)).off + 2, none⟩ = some (.int .u64 ((rd_T90 l0_1 x4_1).f2)) ∧ w'.cell? (ad646.add ((x4_1).toNat * 3)) = some (.int .i64 ((rd_T90 l0_1 x4_1).f0)) ∧ w'.cell? ⟨(ad646.add ((x4_1).toNat * 3)).block, (ad646.add ((x4_1).toNat * 3)).off + 1, none⟩ = some (.int .i64 ((rd_T90 l0_1 x4_1).f1)) ∧ w'.cell? ⟨(ad646.add ((x4_1).toNat * 3)).block, (ad646.add ((x4_1).toNat * 3)).off + 2, none⟩ = some (.int .u64 ((rd_T90 l0_1 x4_1).f2)) ∧ w'.cell? (ad646.add ((x4_1).toNat * 3)) = some (.int .i64 ((rd_T90 l0_1 x4_1).f0)) ∧ w'.cell? ⟨(ad646.add ((x4_1).toNat * 3)).block, (ad646.add ((x4_1).toNat * 3)).off + 1, none⟩ = some (.int .i64 ((rd_T90 l0_1 x4_1).f1)) ∧ w'.cell? ⟨(ad646.add ((x4_1).toNat * 3)).block, (ad646.add ((x4_1).toNat * 3)).off + 2, none⟩ = some (.int .u64 ((rd_T90 l0_1 x4_1).f2))) (ds := []) (mk_ 0 33) (by kernel_rfl) rfl rfl ⟨(blk_cell BK643.out 0).trans rfl, (blk_cell BK643.out 1).trans rfl, (blk_cell BK643.out 2).trans rfl, (blk_cell BK645.out 0).trans rfl, (blk_cell BK645.out 1).trans rfl, (blk_cell BK645.out 2).trans rfl, (ct HB hw646_0), (ct HB hw646_1), (ct HB hw646_2), (ct HB hw647_0), (ct HB hw647_1), (ct HB hw647_2), (ct HB hw648_0), (ct HB hw648_1), (ct HB hw648_2)⟩ (fun hHeld => ?_); refine with_tabW marchlandref05_Fix.tab5 marchlandref05_Fix.bits5 (fun HT_ HW_ => ?_)
            generalize wc.drew = w25 at HO_646001 BK643 BK644 BK645 HB hx646_0 hx646_1 hx646_2 hx647_0 hx647_1 hx647_2 hx648_0 hx648_1 hx648_2 hHeld ⊢
            refine pv_ 0 28 (mk_ 1 32) HT_ ?_
            refine pv_ 2 30 #[true, false, true, false, false, false, false, false, false, false, false, false, false, false, false, false, false, false, false, false, false, false, false, false, false, false, false, false, false, false, false, false, false] HT_ ?_
            refine pv_ 7 35 #[true, false, true, false, false, false, false, true, false, false, false, false, false, false, false, false, false, false, false, false, false, false, false, false, false, false, false, false, false, false, false, false, false] HT_ ?_
            refine pv_ 12 40 #[true, false, true, false, false, false, false, true, false, false, false, false, true, false, false, false, false, false, false, false, false, false, false, false, false, false, false, false, false, false, false, false, false] HT_ ?_
            refine pv_ 14 42 #[true, false, true, false, false, false, false, true, false, false, false, false, true, false, true, false, false, false, false, false, false, false, false, false, false, false, false, false, false, false, false, false, false] HT_ ?_
            refine pv_ 19 47 #[true, false, true, false, false, false, false, true, false, false, false, false, true, false, true, false, false, false, false, true, false, false, false, false, false, false, false, false, false, false, false, false, false] HT_ ?_
            refine pv_ 24 52 #[true, false, true, false, false, false, false, true, false, false, false, false, true, false, true, false, false, false, false, true, false, false, false, false, true, false, false, false, false, false, false, false, false] HT_ ?_
            refine pv_ 26 54 #[true, false, true, false, false, false, false, true, false, false, false, false, true, false, true, false, false, false, false, true, false, false, false, false, true, false, true, false, false, false, false, false, false] HT_ ?_
            refine tv_ 1 29 #[true, true, true, false, false, false, false, true, false, false, false, false, true, false, true, false, false, false, false, true, false, false, false, false, true, false, true, false, false, false, false, false, false] HT_ HW_ hHeld (hy := by rintro w' ⟨s0, s1, s2, s3, s4, s5, s6, s7, s8, s9, s10, s11, s12, s13, s14⟩; go_simp; with_reducible rfl) (h := ?_)
            refine pv_ 3 31 #[true, true, true, true, false, false, false, true, false, false, false, false, true, false, true, false, false, false, false, true, false, false, false, false, true, false, true, false, false, false, false, false, false] HT_ ?_
            refine pv_ 4 32 #[true, true, true, true, true, false, false, true, false, false, false, false, true, false, true, false, false, false, false, true, false, false, false, false, true, false, true, false, false, false, false, false, false] HT_ ?_
            refine tv_ 5 33 #[true, true, true, true, true, true, false, true, false, false, false, false, true, false, true, false, false, false, false, true, false, false, false, false, true, false, true, false, false, false, false, false, false] HT_ HW_ hHeld (hy := by rintro w' ⟨s0, s1, s2, s3, s4, s5, s6, s7, s8, s9, s10, s11, s12, s13, s14⟩; go_simp; with_reducible rfl) (h := ?_)
            refine pv_ 6 34 #[true, true, true, true, true, true, true, true, false, false, false, false, true, false, true, false, false, false, false, true, false, false, false, false, true, false, true, false, false, false, false, false, false] HT_ ?_
            refine tv_ 8 36 #[true, true, true, true, true, true, true, true, true, false, false, false, true, false, true, false, false, false, false, true, false, false, false, false, true, false, true, false, false, false, false, false, false] HT_ HW_ hHeld (hy := by rintro w' ⟨s0, s1, s2, s3, s4, s5, s6, s7, s8, s9, s10, s11, s12, s13, s14⟩; go_simp; with_reducible rfl) (h := ?_)
            refine pv_ 9 37 #[true, true, true, true, true, true, true, true, true, true, false, false, true, false, true, false, false, false, false, true, false, false, false, false, true, false, true, false, false, false, false, false, false] HT_ ?_
            refine pv_ 10 38 #[true, true, true, true, true, true, true, true, true, true, true, false, true, false, true, false, false, false, false, true, false, false, false, false, true, false, true, false, false, false, false, false, false] HT_ ?_
            refine pv_ 11 39 #[true, true, true, true, true, true, true, true, true, true, true, true, true, false, true, false, false, false, false, true, false, false, false, false, true, false, true, false, false, false, false, false, false] HT_ ?_
            refine tv_ 13 41 #[true, true, true, true, true, true, true, true, true, true, true, true, true, true, true, false, false, false, false, true, false, false, false, false, true, false, true, false, false, false, false, false, false] HT_ HW_ hHeld (hy := by rintro w' ⟨s0, s1, s2, s3, s4, s5, s6, s7, s8, s9, s10, s11, s12, s13, s14⟩; go_simp; with_reducible rfl) (h := ?_)
            refine pv_ 15 43 #[true, true, true, true, true, true, true, true, true, true, true, true, true, true, true, true, false, false, false, true, false, false, false, false, true, false, true, false, false, false, false, false, false] HT_ ?_
            refine pv_ 16 44 #[true, true, true, true, true, true, true, true, true, true, true, true, true, true, true, true, true, false, false, true, false, false, false, false, true, false, true, false, false, false, false, false, false] HT_ ?_
            refine tv_ 17 45 #[true, true, true, true, true, true, true, true, true, true, true, true, true, true, true, true, true, true, false, true, false, false, false, false, true, false, true, false, false, false, false, false, false] HT_ HW_ hHeld (hy := by rintro w' ⟨s0, s1, s2, s3, s4, s5, s6, s7, s8, s9, s10, s11, s12, s13, s14⟩; go_simp; with_reducible rfl) (h := ?_)
            refine pv_ 18 46 #[true, true, true, true, true, true, true, true, true, true, true, true, true, true, true, true, true, true, true, true, false, false, false, false, true, false, true, false, false, false, false, false, false] HT_ ?_
            refine tv_ 20 48 #[true, true, true, true, true, true, true, true, true, true, true, true, true, true, true, true, true, true, true, true, true, false, false, false, true, false, true, false, false, false, false, false, false] HT_ HW_ hHeld (hy := by rintro w' ⟨s0, s1, s2, s3, s4, s5, s6, s7, s8, s9, s10, s11, s12, s13, s14⟩; go_simp; with_reducible rfl) (h := ?_)
            refine pv_ 21 49 #[true, true, true, true, true, true, true, true, true, true, true, true, true, true, true, true, true, true, true, true, true, true, false, false, true, false, true, false, false, false, false, false, false] HT_ ?_
            refine pv_ 22 50 #[true, true, true, true, true, true, true, true, true, true, true, true, true, true, true, true, true, true, true, true, true, true, true, false, true, false, true, false, false, false, false, false, false] HT_ ?_
            refine pv_ 23 51 #[true, true, true, true, true, true, true, true, true, true, true, true, true, true, true, true, true, true, true, true, true, true, true, true, true, false, true, false, false, false, false, false, false] HT_ ?_
            refine tv_ 25 53 (mk_ 27 6) HT_ HW_ hHeld (hy := by rintro w' ⟨s0, s1, s2, s3, s4, s5, s6, s7, s8, s9, s10, s11, s12, s13, s14⟩; go_simp; with_reducible rfl) (h := ?_)
            refine pv_ 27 55 (mk_ 28 5) HT_ ?_
            refine pv_ 28 56 (mk_ 29 4) HT_ ?_
            refine tv_ 29 57 (mk_ 30 3) HT_ HW_ hHeld (hy := by rintro w' ⟨s0, s1, s2, s3, s4, s5, s6, s7, s8, s9, s10, s11, s12, s13, s14⟩; go_simp; with_reducible rfl) (h := ?_)
            refine pv_ 30 58 (mk_ 31 2) HT_ ?_
            refine one_ (i := 31) (N := some 5) (mk_ 32 1) rfl rfl (one_of HT_.out (by kernel_rfl)) (by decide) (fun K hK => ?_)
            refine box_step ?hg (N := 5) ?hd (cs := #[.int .i64 0, .int .i64 0, .int .u64 0]) (t := 90) ?hr ?_; (case hd => rfl); (case hg => rfl); (case hr => first | (go_simp; done) | (go_simp; rfl))
            intro gb649 hg w26 hbox hb
            have n0_ := Aside0.mk (Kd.R_below (Kd.R_elderB (rn HO_646001) gb649 (Nat.le_of_eq hg.symm)) hb)
            have n1_ := Aside0.mk (bkb BK643 hb)
            have n2_ := Aside0.mk (bkb BK644 hb)
            have n3_ := Aside0.mk (blk_below (g := gb645) (o := .cells #[.int .i64 (wrap64 (1 + (wrap64 (Int.tmod (IntKind.u64.wrap (a0_0)) 6)))), u646001, .slice none 0 0] 58 (0, 0)) (bk BK645) hb)
            have n4_ := Aside0.mk (below_step (bn3 HB GE643 GE644 GE645) hb)
            have n5_ := Aside0.mk (hbox)
            have n6_ := Aside0.mk ((by rw [hg]; exact (below_size (bn3 HB GE643 GE644 GE645)) : w.heap.size ≤ gb649))
            have n7_ := Aside0.mk ((by rw [hg]; exact (below_size (bn3 HB GE643 GE644 GE645)) : w.heap.size ≤ gb649))
            have n8_ := Aside0.mk ((by rw [hg]; exact Nat.ne_of_lt (bkl BK643) : gb643 ≠ gb649))
            have n9_ := Aside0.mk ((by rw [hg]; exact Nat.ne_of_gt (bkl BK643) : gb649 ≠ gb643))
            have n10_ := Aside0.mk ((by rw [hg]; exact Nat.ne_of_lt (bkl BK644) : gb644 ≠ gb649))
            have n11_ := Aside0.mk ((by rw [hg]; exact Nat.ne_of_gt (bkl BK644) : gb649 ≠ gb644))
            have n12_ := Aside0.mk ((by rw [hg]; exact Nat.ne_of_lt (blk_lt (g := gb645) (o := .cells #[.int .i64 (wrap64 (1 + (wrap64 (Int.tmod (IntKind.u64.wrap (a0_0)) 6)))), u646001, .slice none 0 0] 58 (0, 0)) (bk BK645)) : gb645 ≠ gb649))
            have n13_ := Aside0.mk ((by rw [hg]; exact Nat.ne_of_gt (blk_lt (g := gb645) (o := .cells #[.int .i64 (wrap64 (1 + (wrap64 (Int.tmod (IntKind.u64.wrap (a0_0)) 6)))), u646001, .slice none 0 0] 58 (0, 0)) (bk BK645)) : gb649 ≠ gb645))
            clear HO_646001
            clear BK643
            clear BK644
            clear BK645
            clear HB
            have HO_646001 := n0_
            have BK643 := n1_
            have BK644 := n2_
            have BK645 := n3_
            have HB := n4_
            have BK649 := n5_
            have GW649 := n6_
            have GE649 := n7_
            have NB643_649 := n8_
            have NB649_643 := n9_
            have NB644_649 := n10_
            have NB649_644 := n11_
            have NB645_649 := n12_
            have NB649_645 := n13_
            clear n0_ n1_ n2_ n3_ n4_ n5_ n6_ n7_ n8_ n9_ n10_ n11_ n12_ n13_
            clear hb hbox hg
            refine hK.out _ _ ⟨(blk_cell BK643.out 0).trans rfl, (blk_cell BK643.out 1).trans rfl, (blk_cell BK643.out 2).trans rfl, (blk_cell BK645.out 0).trans rfl, (blk_cell BK645.out 1).trans rfl, (blk_cell BK645.out 2).trans rfl, (ct HB hw646_0), (ct HB hw646_1), (ct HB hw646_2), (ct HB hw647_0), (ct HB hw647_1), (ct HB hw647_2), (ct HB hw648_0), (ct HB hw648_1), (ct HB hw648_2)⟩ (fun hHeld => ?_)
            clear hK K
            refine norm_ (a' := ?_) ?_ ?_
            rotate_left
            ·show Act.put _ (some 5) _ = _
             simp only [Act.put, List.setIfInBounds_toArray, List.set_cons_zero, List.set_cons_succ, i64_w, i32_w]
             rfl
            refine one_ (i := 32) (N := none) (mk_ 33 0) rfl rfl (one_of HT_.out (by kernel_rfl)) (by decide) (fun K hK => ?_)
            have hs27 : w26.cell? ⟨gb649, 0, none⟩ = some (.int .i64 0) := (blk_cell BK649.out 0).trans rfl
            have hfs27 := blk_frozen BK649.out 0
            have hns27_0 := NB643_649.out
            have hns27_1 := NB644_649.out
            have hns27_2 := NB645_649.out
            have hms27_0 := NB649_643.out
            have hms27_1 := NB649_644.out
            have hms27_2 := NB649_645.out
            have hs28 : w26.cell? ⟨gb649, 1, none⟩ = some (.int .i64 0) := (blk_cell BK649.out 1).trans rfl
            have hfs28 := blk_frozen BK649.out 1
            have hns28_0 := NB643_649.out
            have hns28_1 := NB644_649.out
            have hns28_2 := NB645_649.out
            have hms28_0 := NB649_643.out
            have hms28_1 := NB649_644.out
            have hms28_2 := NB649_645.out
            have hs29 : w26.cell? ⟨gb649, 2, none⟩ = some (.int .u64 0) := (blk_cell BK649.out 2).trans rfl
            have hfs29 := blk_frozen BK649.out 2
            have hns29_0 := NB643_649.out
            have hns29_1 := NB644_649.out
            have hns29_2 := NB645_649.out
            have hms29_0 := NB649_643.out
            have hms29_1 := NB649_644.out
            have hms29_2 := NB649_645.out
            refine skip_ (w1 := ?_) (by rfl) rfl ?_ ?_
            rotate_left
            ·go_simp
             rfl
            refine hK.out _ _ ⟨((cell_far (p := ⟨gb649, _, none⟩) NB643_649.out _).trans (((cell_far (p := ⟨gb649, _, none⟩) NB643_649.out _).trans (((cell_far (p := ⟨gb649, _, none⟩) NB643_649.out _).trans (hHeld.1)))))), ((cell_far (p := ⟨gb649, _, none⟩) NB643_649.out _).trans (((cell_far (p := ⟨gb649, _, none⟩) NB643_649.out _).trans (((cell_far (p := ⟨gb649, _, none⟩) NB643_649.out _).trans (hHeld.2.1)))))), ((cell_far (p := ⟨gb649, _, none⟩) NB643_649.out _).trans (((cell_far (p := ⟨gb649, _, none⟩) NB643_649.out _).trans (((cell_far (p := ⟨gb649, _, none⟩) NB643_649.out _).trans (hHeld.2.2.1)))))), ((cell_far (p := ⟨gb649, _, none⟩) NB645_649.out _).trans (((cell_far (p := ⟨gb649, _, none⟩) NB645_649.out _).trans (((cell_far (p := ⟨gb649, _, none⟩) NB645_649.out _).trans (hHeld.2.2.2.1)))))), ((cell_far (p := ⟨gb649, _, none⟩) NB645_649.out _).trans (((cell_far (p := ⟨gb649, _, none⟩) NB645_649.out _).trans (((cell_far (p := ⟨gb649, _, none⟩) NB645_649.out _).trans (hHeld.2.2.2.2.1)))))), ((cell_far (p := ⟨gb649, _, none⟩) NB645_649.out _).trans (((cell_far (p := ⟨gb649, _, none⟩) NB645_649.out _).trans (((cell_far (p := ⟨gb649, _, none⟩) NB645_649.out _).trans (hHeld.2.2.2.2.2.1)))))), ((cell_far (p := ⟨gb649, _, none⟩) (bne hw646_0 GW649.out :) _).trans (((cell_far (p := ⟨gb649, _, none⟩) (bne hw646_0 GW649.out :) _).trans (((cell_far (p := ⟨gb649, _, none⟩) (bne hw646_0 GW649.out :) _).trans (hHeld.2.2.2.2.2.2.1)))))), ((cell_far (p := ⟨gb649, _, none⟩) (bne hw646_1 GW649.out :) _).trans (((cell_far (p := ⟨gb649, _, none⟩) (bne hw646_1 GW649.out :) _).trans (((cell_far (p := ⟨gb649, _, none⟩) (bne hw646_1 GW649.out :) _).trans (hHeld.2.2.2.2.2.2.2.1)))))), ((cell_far (p := ⟨gb649, _, none⟩) (bne hw646_2 GW649.out :) _).trans (((cell_far (p := ⟨gb649, _, none⟩) (bne hw646_2 GW649.out :) _).trans (((cell_far (p := ⟨gb649, _, none⟩) (bne hw646_2 GW649.out :) _).trans (hHeld.2.2.2.2.2.2.2.2.1)))))), ((cell_far (p := ⟨gb649, _, none⟩) (bne hw647_0 GW649.out :) _).trans (((cell_far (p := ⟨gb649, _, none⟩) (bne hw647_0 GW649.out :) _).trans (((cell_far (p := ⟨gb649, _, none⟩) (bne hw647_0 GW649.out :) _).trans (hHeld.2.2.2.2.2.2.2.2.2.1)))))), ((cell_far (p := ⟨gb649, _, none⟩) (bne hw647_1 GW649.out :) _).trans (((cell_far (p := ⟨gb649, _, none⟩) (bne hw647_1 GW649.out :) _).trans (((cell_far (p := ⟨gb649, _, none⟩) (bne hw647_1 GW649.out :) _).trans (hHeld.2.2.2.2.2.2.2.2.2.2.1)))))), ((cell_far (p := ⟨gb649, _, none⟩) (bne hw647_2 GW649.out :) _).trans (((cell_far (p := ⟨gb649, _, none⟩) (bne hw647_2 GW649.out :) _).trans (((cell_far (p := ⟨gb649, _, none⟩) (bne hw647_2 GW649.out :) _).trans (hHeld.2.2.2.2.2.2.2.2.2.2.2.1)))))), ((cell_far (p := ⟨gb649, _, none⟩) (bne hw648_0 GW649.out :) _).trans (((cell_far (p := ⟨gb649, _, none⟩) (bne hw648_0 GW649.out :) _).trans (((cell_far (p := ⟨gb649, _, none⟩) (bne hw648_0 GW649.out :) _).trans (hHeld.2.2.2.2.2.2.2.2.2.2.2.2.1)))))), ((cell_far (p := ⟨gb649, _, none⟩) (bne hw648_1 GW649.out :) _).trans (((cell_far (p := ⟨gb649, _, none⟩) (bne hw648_1 GW649.out :) _).trans (((cell_far (p := ⟨gb649, _, none⟩) (bne hw648_1 GW649.out :) _).trans (hHeld.2.2.2.2.2.2.2.2.2.2.2.2.2.1)))))), ((cell_far (p := ⟨gb649, _, none⟩) (bne hw648_2 GW649.out :) _).trans (((cell_far (p := ⟨gb649, _, none⟩) (bne hw648_2 GW649.out :) _).trans (((cell_far (p := ⟨gb649, _, none⟩) (bne hw648_2 GW649.out :) _).trans (hHeld.2.2.2.2.2.2.2.2.2.2.2.2.2.2))))))⟩ (fun hHeld => ?_)
            clear hK K
            refine done_ (done_of HT_.out (by kernel_rfl)) ?_
            have hnb30 := NB649_643.out
            have hnc30 := NB643_649.out
            have hnb31 := NB649_644.out
            have hnc31 := NB644_649.out
            have hnb32 := NB649_645.out
            have hnc32 := NB645_649.out
            have hcz33_0 : w26.cell? ⟨gb649, 0, none⟩ = some (.int .i64 0) := (blk_cell BK649.out 0).trans rfl
            have hcz33_1 : w26.cell? ⟨gb649, 1, none⟩ = some (.int .i64 0) := (blk_cell BK649.out 1).trans rfl
            have hcz33_2 : w26.cell? ⟨gb649, 2, none⟩ = some (.int .u64 0) := (blk_cell BK649.out 2).trans rfl
            have hfz33_0 := blk_frozen BK649.out 0
            have hfz33_1 := blk_frozen BK649.out 1
            have hfz33_2 := blk_frozen BK649.out 2
            have hnb34 := NB645_643.out
            have hnc34 := NB643_645.out
            have hnb35 := NB645_644.out
            have hnc35 := NB644_645.out
            have hcz36_0 : w26.cell? ⟨gb645, 0, none⟩ = some (.int .i64 (wrap64 (1 + (wrap64 (Int.tmod (IntKind.u64.wrap (a0_0)) 6))))) := (blk_cell BK645.out 0).trans rfl
            have hcz36_1 : w26.cell? ⟨gb645, 1, none⟩ = some (u646001) := (blk_cell BK645.out 1).trans rfl
            have hcz36_2 : w26.cell? ⟨gb645, 2, none⟩ = some (.slice none 0 0) := (blk_cell BK645.out 2).trans rfl
            have hfz36_0 := blk_frozen BK645.out 0
            have hfz36_1 := blk_frozen BK645.out 1
            have hfz36_2 := blk_frozen BK645.out 2
            try go_wp2_with (first | ((with_reducible refine gate_builtin (b := .append) (xs := #[.tmp 71, .tmp 73]) rfl ?_); at_builtin; refine Kd.R_append k90 (w0 := w) w.heap.size rfl (.tmp 71) (.tmp 73) 55 90 (.agg #[(.int .i64 0), (.int .i64 0), (.int .u64 0)]) 24 rfl Try.underlying55 info90 rfl (by decide) (by omega) u646001 x646001_1 (⟨wrap64 (Int.tmod (IntKind.u64.wrap ((rd_T90 l0_1 x4_1).f0)) (IntKind.u64.wrap ((wrap64 (1 + (wrap64 (Int.tmod (IntKind.u64.wrap (a0_0)) 6))))))), wrap64 (Int.tmod (IntKind.u64.wrap ((rd_T90 l0_1 x4_1).f1)) (IntKind.u64.wrap ((wrap64 (1 + (wrap64 (Int.tmod (IntKind.u64.wrap (a0_0)) 6))))))), 1⟩ : S90) [.int .i64 (wrap64 (Int.tmod (IntKind.u64.wrap ((rd_T90 l0_1 x4_1).f0)) (IntKind.u64.wrap ((wrap64 (1 + (wrap64 (Int.tmod (IntKind.u64.wrap (a0_0)) 6)))))))), .int .i64 (wrap64 (Int.tmod (IntKind.u64.wrap ((rd_T90 l0_1 x4_1).f1)) (IntKind.u64.wrap ((wrap64 (1 + (wrap64 (Int.tmod (IntKind.u64.wrap (a0_0)) 6)))))))), .int .u64 1] (fun k_ => k_ ≠ gb649) (fun _ => False) rfl (by first | (go_simp; done) | (go_simp; rfl)) ?aP (fun _ hk => hk.elim) ?aF ?aO ?aB ?aS ?aL ?_; (case aP => exact k90_mkM _ _ _ (⟨wrap64 (Int.tmod (IntKind.u64.wrap ((rd_T90 l0_1 x4_1).f0)) (IntKind.u64.wrap ((wrap64 (1 + (wrap64 (Int.tmod (IntKind.u64.wrap (a0_0)) 6))))))), wrap64 (Int.tmod (IntKind.u64.wrap ((rd_T90 l0_1 x4_1).f1)) (IntKind.u64.wrap ((wrap64 (1 + (wrap64 (Int.tmod (IntKind.u64.wrap (a0_0)) 6))))))), 1⟩ : S90)); (case aB => exact (by repeat (first | (with_reducible first | exact HB.out | apply below_alloc | apply pw_below_drewN | apply below_drew1 | refine below_set ?_ GE643.out | refine below_set ?_ GE644.out | refine below_set ?_ GE645.out | refine below_set ?_ GE649.out) | exact HB.out))); (case aF => exact (fun k_ hk => Kd.freshB (g := gb649) (o := .cells #[.int .i64 (wrap64 (Int.tmod (IntKind.u64.wrap ((rd_T90 l0_1 x4_1).f0)) (IntKind.u64.wrap ((wrap64 (1 + (wrap64 (Int.tmod (IntKind.u64.wrap (a0_0)) 6)))))))), .int .i64 (wrap64 (Int.tmod (IntKind.u64.wrap ((rd_T90 l0_1 x4_1).f1)) (IntKind.u64.wrap ((wrap64 (1 + (wrap64 (Int.tmod (IntKind.u64.wrap (a0_0)) 6)))))))), .int .u64 1] 90 (0, 0)) (by (with_reducible repeat (first | refine blk_drewN ?_ _ | refine blk_drew ?_ | refine blk_alloc ?_ _)); refine blk_put (cs := #[.int .i64 (wrap64 (Int.tmod (IntKind.u64.wrap ((rd_T90 l0_1 x4_1).f0)) (IntKind.u64.wrap ((wrap64 (1 + (wrap64 (Int.tmod (IntKind.u64.wrap (a0_0)) 6)))))))), .int .i64 (wrap64 (Int.tmod (IntKind.u64.wrap ((rd_T90 l0_1 x4_1).f1)) (IntKind.u64.wrap ((wrap64 (1 + (wrap64 (Int.tmod (IntKind.u64.wrap (a0_0)) 6)))))))), .int .u64 ((rd_T90 l0_1 x4_1).f2)]) ?_ 2 _ rfl; (with_reducible repeat (first | refine blk_drewN ?_ _ | refine blk_drew ?_ | refine blk_alloc ?_ _)); refine blk_put (cs := #[.int .i64 (wrap64 (Int.tmod (IntKind.u64.wrap ((rd_T90 l0_1 x4_1).f0)) (IntKind.u64.wrap ((wrap64 (1 + (wrap64 (Int.tmod (IntKind.u64.wrap (a0_0)) 6)))))))), .int .i64 (wrap64 (Int.tmod (IntKind.u64.wrap ((rd_T90 l0_1 x4_1).f1)) (IntKind.u64.wrap ((wrap64 (1 + (wrap64 (Int.tmod (IntKind.u64.wrap (a0_0)) 6)))))))), .int .u64 0]) ?_ 2 _ rfl; (with_reducible repeat (first | refine blk_drewN ?_ _ | refine blk_drew ?_ | refine blk_alloc ?_ _)); refine blk_put (cs := #[.int .i64 (wrap64 (Int.tmod (IntKind.u64.wrap ((rd_T90 l0_1 x4_1).f0)) (IntKind.u64.wrap ((wrap64 (1 + (wrap64 (Int.tmod (IntKind.u64.wrap (a0_0)) 6)))))))), .int .i64 0, .int .u64 0]) ?_ 1 _ rfl; (with_reducible repeat (first | refine blk_drewN ?_ _ | refine blk_drew ?_ | refine blk_alloc ?_ _)); refine blk_put (cs := #[.int .i64 0, .int .i64 0, .int .u64 0]) ?_ 0 _ rfl; (with_reducible repeat (first | refine blk_drewN ?_ _ | refine blk_drew ?_ | refine blk_alloc ?_ _)); exact BK649.out) k_ hk)); (case aO => exact (by (with_reducible repeat (first | apply Kd.R_alloc | apply Kd.R_drewN | apply Kd.R_drew)); exact Kd.R_mono (Kd.R_far (p := ⟨gb649, 2, none⟩) (Kd.R_far (p := ⟨gb649, 2, none⟩) (Kd.R_far (p := ⟨gb649, 1, none⟩) (Kd.R_far (p := ⟨gb649, 0, none⟩) (Kd.R_mono HO_646001.out (fun k_ hk => (⟨hk, hk.2⟩ : _ ∧ k_ ≠ gb649))) (fun _ hk => hk.2) (.int .i64 (wrap64 (Int.tmod (IntKind.u64.wrap ((rd_T90 l0_1 x4_1).f0)) (IntKind.u64.wrap ((wrap64 (1 + (wrap64 (Int.tmod (IntKind.u64.wrap (a0_0)) 6)))))))))) (fun _ hk => hk.2) (.int .i64 (wrap64 (Int.tmod (IntKind.u64.wrap ((rd_T90 l0_1 x4_1).f1)) (IntKind.u64.wrap ((wrap64 (1 + (wrap64 (Int.tmod (IntKind.u64.wrap (a0_0)) 6)))))))))) (fun _ hk => hk.2) (.int .u64 ((rd_T90 l0_1 x4_1).f2))) (fun _ hk => hk.2) (.int .u64 1)) (fun _ hk => hk.1.2))); (case aS => exact (below_size (by repeat (first | (with_reducible first | exact HB.out | apply below_alloc | apply pw_below_drewN | apply below_drew1 | refine below_set ?_ GE643.out | refine below_set ?_ GE644.out | refine below_set ?_ GE645.out | refine below_set ?_ GE649.out) | exact HB.out)))); (case aL => have := LMc24.out; omega); intro v651 w37 ho hb hg hat; rw [← Ny650.out] at ho; have n0_ := Aside0.mk (blk_grown (g := gb643) (o := .cells #[.int .i64 a0_0, .slice (some ad646) l0_1.length c0_1, .slice A0_2 l0_2.length c0_2] 58 (0, 0)) (by (with_reducible repeat (first | refine blk_drewN ?_ _ | refine blk_drew ?_ | refine blk_alloc ?_ _)); refine blk_far ?_ NB643_649.out _; (with_reducible repeat (first | refine blk_drewN ?_ _ | refine blk_drew ?_ | refine blk_alloc ?_ _)); refine blk_far ?_ NB643_649.out _; (with_reducible repeat (first | refine blk_drewN ?_ _ | refine blk_drew ?_ | refine blk_alloc ?_ _)); refine blk_far ?_ NB643_649.out _; (with_reducible repeat (first | refine blk_drewN ?_ _ | refine blk_drew ?_ | refine blk_alloc ?_ _)); refine blk_far ?_ NB643_649.out _; (with_reducible repeat (first | refine blk_drewN ?_ _ | refine blk_drew ?_ | refine blk_alloc ?_ _)); exact BK643.out) hg (Kd.R_ne HO_646001.out BK643.out (by decide))); have n1_ := Aside0.mk (blk_grown (g := gb644) (o := .cells #[.int .i64 0, .slice none 0 0, .slice none 0 0] 58 (0, 0)) (by (with_reducible repeat (first | refine blk_drewN ?_ _ | refine blk_drew ?_ | refine blk_alloc ?_ _)); refine blk_far ?_ NB644_649.out _; (with_reducible repeat (first | refine blk_drewN ?_ _ | refine blk_drew ?_ | refine blk_alloc ?_ _)); refine blk_far ?_ NB644_649.out _; (with_reducible repeat (first | refine blk_drewN ?_ _ | refine blk_drew ?_ | refine blk_alloc ?_ _)); refine blk_far ?_ NB644_649.out _; (with_reducible repeat (first | refine blk_drewN ?_ _ | refine blk_drew ?_ | refine blk_alloc ?_ _)); refine blk_far ?_ NB644_649.out _; (with_reducible repeat (first | refine blk_drewN ?_ _ | refine blk_drew ?_ | refine blk_alloc ?_ _)); exact BK644.out) hg (Kd.R_ne HO_646001.out BK644.out (by decide))); have n2_ := Aside0.mk (blk_grown (g := gb645) (o := .cells #[.int .i64 (wrap64 (1 + (wrap64 (Int.tmod (IntKind.u64.wrap (a0_0)) 6)))), u646001, .slice none 0 0] 58 (0, 0)) (by (with_reducible repeat (first | refine blk_drewN ?_ _ | refine blk_drew ?_ | refine blk_alloc ?_ _)); refine blk_far ?_ NB645_649.out _; (with_reducible repeat (first | refine blk_drewN ?_ _ | refine blk_drew ?_ | refine blk_alloc ?_ _)); refine blk_far ?_ NB645_649.out _; (with_reducible repeat (first | refine blk_drewN ?_ _ | refine blk_drew ?_ | refine blk_alloc ?_ _)); refine blk_far ?_ NB645_649.out _; (with_reducible repeat (first | refine blk_drewN ?_ _ | refine blk_drew ?_ | refine blk_alloc ?_ _)); refine blk_far ?_ NB645_649.out _; (with_reducible repeat (first | refine blk_drewN ?_ _ | refine blk_drew ?_ | refine blk_alloc ?_ _)); exact BK645.out) hg (Kd.R_ne HO_646001.out BK645.out (by decide))); have n3_ := Aside0.mk (blk_grown (g := gb649) (o := .cells #[.int .i64 (wrap64 (Int.tmod (IntKind.u64.wrap ((rd_T90 l0_1 x4_1).f0)) (IntKind.u64.wrap ((wrap64 (1 + (wrap64 (Int.tmod (IntKind.u64.wrap (a0_0)) 6)))))))), .int .i64 (wrap64 (Int.tmod (IntKind.u64.wrap ((rd_T90 l0_1 x4_1).f1)) (IntKind.u64.wrap ((wrap64 (1 + (wrap64 (Int.tmod (IntKind.u64.wrap (a0_0)) 6)))))))), .int .u64 1] 90 (0, 0)) (by (with_reducible repeat (first | refine blk_drewN ?_ _ | refine blk_drew ?_ | refine blk_alloc ?_ _)); refine blk_put (cs := #[.int .i64 (wrap64 (Int.tmod (IntKind.u64.wrap ((rd_T90 l0_1 x4_1).f0)) (IntKind.u64.wrap ((wrap64 (1 + (wrap64 (Int.tmod (IntKind.u64.wrap (a0_0)) 6)))))))), .int .i64 (wrap64 (Int.tmod (IntKind.u64.wrap ((rd_T90 l0_1 x4_1).f1)) (IntKind.u64.wrap ((wrap64 (1 + (wrap64 (Int.tmod (IntKind.u64.wrap (a0_0)) 6)))))))), .int .u64 ((rd_T90 l0_1 x4_1).f2)]) ?_ 2 _ rfl; (with_reducible repeat (first | refine blk_drewN ?_ _ | refine blk_drew ?_ | refine blk_alloc ?_ _)); refine blk_put (cs := #[.int .i64 (wrap64 (Int.tmod (IntKind.u64.wrap ((rd_T90 l0_1 x4_1).f0)) (IntKind.u64.wrap ((wrap64 (1 + (wrap64 (Int.tmod (IntKind.u64.wrap (a0_0)) 6)))))))), .int .i64 (wrap64 (Int.tmod (IntKind.u64.wrap ((rd_T90 l0_1 x4_1).f1)) (IntKind.u64.wrap ((wrap64 (1 + (wrap64 (Int.tmod (IntKind.u64.wrap (a0_0)) 6)))))))), .int .u64 0]) ?_ 2 _ rfl; (with_reducible repeat (first | refine blk_drewN ?_ _ | refine blk_drew ?_ | refine blk_alloc ?_ _)); refine blk_put (cs := #[.int .i64 (wrap64 (Int.tmod (IntKind.u64.wrap ((rd_T90 l0_1 x4_1).f0)) (IntKind.u64.wrap ((wrap64 (1 + (wrap64 (Int.tmod (IntKind.u64.wrap (a0_0)) 6)))))))), .int .i64 0, .int .u64 0]) ?_ 1 _ rfl; (with_reducible repeat (first | refine blk_drewN ?_ _ | refine blk_drew ?_ | refine blk_alloc ?_ _)); refine blk_put (cs := #[.int .i64 0, .int .i64 0, .int .u64 0]) ?_ 0 _ rfl; (with_reducible repeat (first | refine blk_drewN ?_ _ | refine blk_drew ?_ | refine blk_alloc ?_ _)); exact BK649.out) hg (Kd.R_away HO_646001.out (fun _ hk => hk.2))); have n4_ := Aside0.mk (hb); have n5_ := Aside0.mk (ho); clear BK643; clear BK644; clear BK645; clear BK649; clear HB; clear HO_646001; have BK643 := n0_; have BK644 := n1_; have BK645 := n2_; have BK649 := n3_; have HB := n4_; have HO652 := n5_; clear n0_ n1_ n2_ n3_ n4_ n5_; clear ho hb hg hat; obtain ⟨Ao38, co38, eo38⟩ := Kd.R_slice HO652.out; subst eo38; have hcz39_0 : w37.cell? ⟨gb645, 0, none⟩ = some (.int .i64 (wrap64 (1 + (wrap64 (Int.tmod (IntKind.u64.wrap (a0_0)) 6))))) := (blk_cell BK645.out 0).trans rfl; have hcz39_1 : w37.cell? ⟨gb645, 1, none⟩ = some (u646001) := (blk_cell BK645.out 1).trans rfl; have hcz39_2 : w37.cell? ⟨gb645, 2, none⟩ = some (.slice none 0 0) := (blk_cell BK645.out 2).trans rfl; have hfz39_0 := blk_frozen BK645.out 0; have hfz39_1 := blk_frozen BK645.out 1; have hfz39_2 := blk_frozen BK645.out 2))
            go_roundg kj9
            case measure => have := HK1.out; have := HJ9.out; omega
            case rel => exact ⟨(wrap64 (x4_1 + 1)), (y650), (.slice Ao38 y650.length co38), (by first | rfl | (simp; done) | (simp [*]; done)), H', ⟨by have := HK1.out; have := HJ9.out; omega⟩, ⟨by (with_reducible repeat (first | apply Kd.R_alloc | apply Kd.R_drewN | apply Kd.R_drew)); exact Kd.R_mono (Kd.R_far (p := ⟨gb645, 1, none⟩) (Kd.R_types HO652.out BK645.out (by decide)) (fun _ hk => hk.2) (.slice Ao38 y650.length co38)) (fun _ hk => trivial)⟩, ⟨by (with_reducible repeat (first | refine blk_drewN ?_ _ | refine blk_drew ?_ | refine blk_alloc ?_ _)); refine blk_far ?_ NB643_645.out _; (with_reducible repeat (first | refine blk_drewN ?_ _ | refine blk_drew ?_ | refine blk_alloc ?_ _)); exact BK643.out⟩, ⟨by (with_reducible repeat (first | refine blk_drewN ?_ _ | refine blk_drew ?_ | refine blk_alloc ?_ _)); refine blk_far ?_ NB644_645.out _; (with_reducible repeat (first | refine blk_drewN ?_ _ | refine blk_drew ?_ | refine blk_alloc ?_ _)); exact BK644.out⟩, ⟨by (with_reducible repeat (first | refine blk_drewN ?_ _ | refine blk_drew ?_ | refine blk_alloc ?_ _)); refine blk_put (cs := #[.int .i64 (wrap64 (1 + (wrap64 (Int.tmod (IntKind.u64.wrap (a0_0)) 6)))), u646001, .slice none 0 0]) ?_ 1 _ rfl; (with_reducible repeat (first | refine blk_drewN ?_ _ | refine blk_drew ?_ | refine blk_alloc ?_ _)); exact BK645.out⟩, ⟨by repeat (first | (with_reducible first | exact HB.out | apply below_alloc | apply pw_below_drewN | apply below_drew1 | refine below_set ?_ GE643.out | refine below_set ?_ GE644.out | refine below_set ?_ GE645.out | refine below_set ?_ GE649.out) | exact HB.out)⟩⟩
           ·rw [if_neg c24] at H
            exact absurd H (by simp)
          ·rw [if_neg c23] at H
           have c23b0 : (((rd_T90 l0_1 x4_1).f2) == 0) = false := beq_eq_false_iff_ne.mpr c23
           have c23b1 : (((rd_T90 l0_1 x4_1).f2) != 0) = true := bne_iff_ne.mpr c23
           by_cases c40 : x646001_1.length < 5864062014805
           ·rw [if_pos c40] at H
            have LMc40 := Aside0.mk c40
            clear c40
            obtain ⟨y653, hy653⟩ : ∃ y_ : List (S90), y_ = (x646001_1 ++ [(⟨wrap64 (Int.tmod (IntKind.u64.wrap ((rd_T90 l0_1 x4_1).f0)) (IntKind.u64.wrap ((wrap64 (1 + (wrap64 (Int.tmod (IntKind.u64.wrap (a0_0)) 6))))))), wrap64 (Int.tmod (IntKind.u64.wrap ((rd_T90 l0_1 x4_1).f1)) (IntKind.u64.wrap ((wrap64 (1 + (wrap64 (Int.tmod (IntKind.u64.wrap (a0_0)) 6))))))), (rd_T90 l0_1 x4_1).f2⟩ : S90)]) := ⟨_, rfl⟩
            replace H : (marchlandref05_Fix.l0 kj9 (wrap64 (x4_1 + 1)) a0_0 l0_1 l0_2 (wrap64 (1 + (wrap64 (Int.tmod (IntKind.u64.wrap (a0_0)) 6)))) y653) = some (r1, r2, r3) := by first | (rw [hy653]; with_reducible exact H) | (have H2_ := (Option.bind_some _ _).symm.trans H; rw [hy653]; with_reducible exact H2_) | (have H2_ := (Option.bind_some _ _).symm.trans H; with_reducible exact H2_) | with_reducible exact H | (rw [hy653]; exact H) | exact H
            have Ny653 := Aside0.mk hy653
            clear hy653
            have H' := Aside0.mk H
            clear H
            try go_wp2
            have n0_ := Aside0.mk (Kd.R_drew HO_646001.out)
            have n1_ := Aside0.mk (blk_drew BK643.out)
            have n2_ := Aside0.mk (blk_drew BK644.out)
            have n3_ := Aside0.mk (blk_drew BK645.out)
            have n4_ := Aside0.mk (below_drew1 HB.out)
            clear HO_646001
            clear BK643
            clear BK644
            clear BK645
            clear HB
            have HO_646001 := n0_
            have BK643 := n1_
            have BK644 := n2_
            have BK645 := n3_
            have HB := n4_
            clear n0_ n1_ n2_ n3_ n4_
            have p646 : 0 ≤ (x4_1 : Int) := of_decide_eq_true (by assumption)
            have q646 : x4_1 < (l0_1.length : Int) := of_decide_eq_true (by assumption)
            obtain ⟨ad646, e646, hx646_0, hx646_1, hx646_2⟩ := at_T90 HR0_1.out x4_1 p646 q646
            have hw646_2 := hx646_2
            have hw646_1 := hx646_1
            have hw646_0 := hx646_0
            cases e646
            replace hx646_0 := ct HB hx646_0
            replace hx646_1 := ct HB hx646_1
            replace hx646_2 := ct HB hx646_2
            replace p646 := eq_true p646
            replace q646 := eq_true q646
            have p647 : 0 ≤ (x4_1 : Int) := of_decide_eq_true (by assumption)
            have q647 : x4_1 < (l0_1.length : Int) := of_decide_eq_true (by assumption)
            obtain ⟨ad647, e647, hx647_0, hx647_1, hx647_2⟩ := at_T90 HR0_1.out x4_1 p647 q647
            have hw647_2 := hx647_2
            have hw647_1 := hx647_1
            have hw647_0 := hx647_0
            obtain rfl : ad646 = ad647 := (by injection e647)
            replace hx647_0 := ct HB hx647_0
            replace hx647_1 := ct HB hx647_1
            replace hx647_2 := ct HB hx647_2
            replace p647 := eq_true p647
            replace q647 := eq_true q647
            have p648 : 0 ≤ (x4_1 : Int) := of_decide_eq_true (by assumption)
            have q648 : x4_1 < (l0_1.length : Int) := of_decide_eq_true (by assumption)
            obtain ⟨ad648, e648, hx648_0, hx648_1, hx648_2⟩ := at_T90 HR0_1.out x4_1 p648 q648
            have hw648_2 := hx648_2
            have hw648_1 := hx648_1
            have hw648_0 := hx648_0
            obtain rfl : ad646 = ad648 := (by injection e648)
            replace hx648_0 := ct HB hx648_0
            replace hx648_1 := ct HB hx648_1
            replace hx648_2 := ct HB hx648_2
            replace p648 := eq_true p648
            replace q648 := eq_true q648
            refine start_ (n := 33) (S := fun w' => w'.cell? ⟨gb643, 0, none⟩ = some (.int .i64 a0_0) ∧ w'.cell? ⟨gb643, 1, none⟩ = some (.slice (some ad646) l0_1.length c0_1) ∧ w'.cell? ⟨gb643, 2, none⟩ = some (.slice A0_2 l0_2.length c0_2) ∧ w'.cell? ⟨gb645, 0, none⟩ = some (.int .i64 (wrap64 (1 + (wrap64 (Int.tmod (IntKind.u64.wrap (a0_0)) 6))))) ∧ w'.cell? ⟨gb645, 1, none⟩ = some (u646001) ∧ w'.cell? ⟨gb645, 2, none⟩ = some (.slice none 0 0) ∧ w'.cell? (ad646.add ((x4_1).toNat * 3)) = some (.int .i64 ((rd_T90 l0_1 x4_1).f0)) ∧ w'.cell? ⟨(ad646.add ((x4_1).toNat * 3)).block, (ad646.add ((x4_1).toNat * 3)).off + 1, none⟩ = some (.int .i64 ((rd_T90 l0_1 x4_1).f1)) ∧ w'.cell? ⟨(ad646.add ((x4_1).toNat * 3)).block, (ad646.add ((x4_1).toNat * 3)).off + 2, none⟩ = some (.int .u64 ((rd_T90 l0_1 x4_1).f2)) ∧ w'.cell? (ad646.add ((x4_1).toNat * 3)) = some (.int .i64 ((rd_T90 l0_1 x4_1).f0)) ∧ w'.cell? ⟨(ad646.add ((x4_1).toNat * 3)).block, (ad646.add ((x4_1).toNat * 3)).off + 1, none⟩ = some (.int .i64 ((rd_T90 l0_1 x4_1).f1)) ∧ w'.cell? ⟨(ad646.add ((x4_1).toNat * 3)).block, (ad646.add ((x4_1).toNat * 3)).off + 2, none⟩ = some (.int .u64 ((rd_T90 l0_1 x4_1).f2)) ∧ w'.cell? (ad646.add ((x4_1).toNat * 3)) = some (.int .i64 ((rd_T90 l0_1 x4_1).f0)) ∧ w'.cell? ⟨(ad646.add ((x4_1).toNat * 3)).block, (ad646.add ((x4_1).toNat * 3)).off + 1, none⟩ = some (.int .i64 ((rd_T90 l0_1 x4_1).f1)) ∧ w'.cell? ⟨(ad646.add ((x4_1).toNat * 3)).block, (ad646.add ((x4_1).toNat * 3)).off + 2, none⟩ = some (.int .u64 ((rd_T90 l0_1 x4_1).f2))) (ds := []) (mk_ 0 33) (by kernel_rfl) rfl rfl ⟨(blk_cell BK643.out 0).trans rfl, (blk_cell BK643.out 1).trans rfl, (blk_cell BK643.out 2).trans rfl, (blk_cell BK645.out 0).trans rfl, (blk_cell BK645.out 1).trans rfl, (blk_cell BK645.out 2).trans rfl, (ct HB hw646_0), (ct HB hw646_1), (ct HB hw646_2), (ct HB hw647_0), (ct HB hw647_1), (ct HB hw647_2), (ct HB hw648_0), (ct HB hw648_1), (ct HB hw648_2)⟩ (fun hHeld => ?_); refine with_tabW marchlandref05_Fix.tab5 marchlandref05_Fix.bits5 (fun HT_ HW_ => ?_)
            generalize wc.drew = w41 at HO_646001 BK643 BK644 BK645 HB hx646_0 hx646_1 hx646_2 hx647_0 hx647_1 hx647_2 hx648_0 hx648_1 hx648_2 hHeld ⊢
            refine pv_ 0 28 (mk_ 1 32) HT_ ?_
            refine pv_ 2 30 #[true, false, true, false, false, false, false, false, false, false, false, false, false, false, false, false, false, false, false, false, false, false, false, false, false, false, false, false, false, false, false, false, false] HT_ ?_
            refine pv_ 7 35 #[true, false, true, false, false, false, false, true, false, false, false, false, false, false, false, false, false, false, false, false, false, false, false, false, false, false, false, false, false, false, false, false, false] HT_ ?_
            refine pv_ 12 40 #[true, false, true, false, false, false, false, true, false, false, false, false, true, false, false, false, false, false, false, false, false, false, false, false, false, false, false, false, false, false, false, false, false] HT_ ?_
            refine pv_ 14 42 #[true, false, true, false, false, false, false, true, false, false, false, false, true, false, true, false, false, false, false, false, false, false, false, false, false, false, false, false, false, false, false, false, false] HT_ ?_
            refine pv_ 19 47 #[true, false, true, false, false, false, false, true, false, false, false, false, true, false, true, false, false, false, false, true, false, false, false, false, false, false, false, false, false, false, false, false, false] HT_ ?_
            refine pv_ 24 52 #[true, false, true, false, false, false, false, true, false, false, false, false, true, false, true, false, false, false, false, true, false, false, false, false, true, false, false, false, false, false, false, false, false] HT_ ?_
            refine pv_ 26 54 #[true, false, true, false, false, false, false, true, false, false, false, false, true, false, true, false, false, false, false, true, false, false, false, false, true, false, true, false, false, false, false, false, false] HT_ ?_
            refine tv_ 1 29 #[true, true, true, false, false, false, false, true, false, false, false, false, true, false, true, false, false, false, false, true, false, false, false, false, true, false, true, false, false, false, false, false, false] HT_ HW_ hHeld (hy := by rintro w' ⟨s0, s1, s2, s3, s4, s5, s6, s7, s8, s9, s10, s11, s12, s13, s14⟩; go_simp; with_reducible rfl) (h := ?_)
            refine pv_ 3 31 #[true, true, true, true, false, false, false, true, false, false, false, false, true, false, true, false, false, false, false, true, false, false, false, false, true, false, true, false, false, false, false, false, false] HT_ ?_
            refine pv_ 4 32 #[true, true, true, true, true, false, false, true, false, false, false, false, true, false, true, false, false, false, false, true, false, false, false, false, true, false, true, false, false, false, false, false, false] HT_ ?_
            refine tv_ 5 33 #[true, true, true, true, true, true, false, true, false, false, false, false, true, false, true, false, false, false, false, true, false, false, false, false, true, false, true, false, false, false, false, false, false] HT_ HW_ hHeld (hy := by rintro w' ⟨s0, s1, s2, s3, s4, s5, s6, s7, s8, s9, s10, s11, s12, s13, s14⟩; go_simp; with_reducible rfl) (h := ?_)
            refine pv_ 6 34 #[true, true, true, true, true, true, true, true, false, false, false, false, true, false, true, false, false, false, false, true, false, false, false, false, true, false, true, false, false, false, false, false, false] HT_ ?_
            refine tv_ 8 36 #[true, true, true, true, true, true, true, true, true, false, false, false, true, false, true, false, false, false, false, true, false, false, false, false, true, false, true, false, false, false, false, false, false] HT_ HW_ hHeld (hy := by rintro w' ⟨s0, s1, s2, s3, s4, s5, s6, s7, s8, s9, s10, s11, s12, s13, s14⟩; go_simp; with_reducible rfl) (h := ?_)
            refine pv_ 9 37 #[true, true, true, true, true, true, true, true, true, true, false, false, true, false, true, false, false, false, false, true, false, false, false, false, true, false, true, false, false, false, false, false, false] HT_ ?_
            refine pv_ 10 38 #[true, true, true, true, true, true, true, true, true, true, true, false, true, false, true, false, false, false, false, true, false, false, false, false, true, false, true, false, false, false, false, false, false] HT_ ?_
            refine pv_ 11 39 #[true, true, true, true, true, true, true, true, true, true, true, true, true, false, true, false, false, false, false, true, false, false, false, false, true, false, true, false, false, false, false, false, false] HT_ ?_
            refine tv_ 13 41 #[true, true, true, true, true, true, true, true, true, true, true, true, true, true, true, false, false, false, false, true, false, false, false, false, true, false, true, false, false, false, false, false, false] HT_ HW_ hHeld (hy := by rintro w' ⟨s0, s1, s2, s3, s4, s5, s6, s7, s8, s9, s10, s11, s12, s13, s14⟩; go_simp; with_reducible rfl) (h := ?_)
            refine pv_ 15 43 #[true, true, true, true, true, true, true, true, true, true, true, true, true, true, true, true, false, false, false, true, false, false, false, false, true, false, true, false, false, false, false, false, false] HT_ ?_
            refine pv_ 16 44 #[true, true, true, true, true, true, true, true, true, true, true, true, true, true, true, true, true, false, false, true, false, false, false, false, true, false, true, false, false, false, false, false, false] HT_ ?_
            refine tv_ 17 45 #[true, true, true, true, true, true, true, true, true, true, true, true, true, true, true, true, true, true, false, true, false, false, false, false, true, false, true, false, false, false, false, false, false] HT_ HW_ hHeld (hy := by rintro w' ⟨s0, s1, s2, s3, s4, s5, s6, s7, s8, s9, s10, s11, s12, s13, s14⟩; go_simp; with_reducible rfl) (h := ?_)
            refine pv_ 18 46 #[true, true, true, true, true, true, true, true, true, true, true, true, true, true, true, true, true, true, true, true, false, false, false, false, true, false, true, false, false, false, false, false, false] HT_ ?_
            refine tv_ 20 48 #[true, true, true, true, true, true, true, true, true, true, true, true, true, true, true, true, true, true, true, true, true, false, false, false, true, false, true, false, false, false, false, false, false] HT_ HW_ hHeld (hy := by rintro w' ⟨s0, s1, s2, s3, s4, s5, s6, s7, s8, s9, s10, s11, s12, s13, s14⟩; go_simp; with_reducible rfl) (h := ?_)
            refine pv_ 21 49 #[true, true, true, true, true, true, true, true, true, true, true, true, true, true, true, true, true, true, true, true, true, true, false, false, true, false, true, false, false, false, false, false, false] HT_ ?_
            refine pv_ 22 50 #[true, true, true, true, true, true, true, true, true, true, true, true, true, true, true, true, true, true, true, true, true, true, true, false, true, false, true, false, false, false, false, false, false] HT_ ?_
            refine pv_ 23 51 #[true, true, true, true, true, true, true, true, true, true, true, true, true, true, true, true, true, true, true, true, true, true, true, true, true, false, true, false, false, false, false, false, false] HT_ ?_
            refine tv_ 25 53 (mk_ 27 6) HT_ HW_ hHeld (hy := by rintro w' ⟨s0, s1, s2, s3, s4, s5, s6, s7, s8, s9, s10, s11, s12, s13, s14⟩; go_simp; with_reducible rfl) (h := ?_)
            refine pv_ 27 55 (mk_ 28 5) HT_ ?_
            refine pv_ 28 56 (mk_ 29 4) HT_ ?_
            refine tv_ 29 57 (mk_ 30 3) HT_ HW_ hHeld (hy := by rintro w' ⟨s0, s1, s2, s3, s4, s5, s6, s7, s8, s9, s10, s11, s12, s13, s14⟩; go_simp; with_reducible rfl) (h := ?_)
            refine pv_ 30 58 (mk_ 31 2) HT_ ?_
            refine one_ (i := 31) (N := some 5) (mk_ 32 1) rfl rfl (one_of HT_.out (by kernel_rfl)) (by decide) (fun K hK => ?_)
            refine box_step ?hg (N := 5) ?hd (cs := #[.int .i64 0, .int .i64 0, .int .u64 0]) (t := 90) ?hr ?_; (case hd => rfl); (case hg => rfl); (case hr => first | (go_simp; done) | (go_simp; rfl))
            intro gb649 hg w42 hbox hb
            have n0_ := Aside0.mk (Kd.R_below (Kd.R_elderB (rn HO_646001) gb649 (Nat.le_of_eq hg.symm)) hb)
            have n1_ := Aside0.mk (bkb BK643 hb)
            have n2_ := Aside0.mk (bkb BK644 hb)
            have n3_ := Aside0.mk (blk_below (g := gb645) (o := .cells #[.int .i64 (wrap64 (1 + (wrap64 (Int.tmod (IntKind.u64.wrap (a0_0)) 6)))), u646001, .slice none 0 0] 58 (0, 0)) (bk BK645) hb)
            have n4_ := Aside0.mk (below_step (bn3 HB GE643 GE644 GE645) hb)
            have n5_ := Aside0.mk (hbox)
            have n6_ := Aside0.mk ((by rw [hg]; exact (below_size (bn3 HB GE643 GE644 GE645)) : w.heap.size ≤ gb649))
            have n7_ := Aside0.mk ((by rw [hg]; exact (below_size (bn3 HB GE643 GE644 GE645)) : w.heap.size ≤ gb649))
            have n8_ := Aside0.mk ((by rw [hg]; exact Nat.ne_of_lt (bkl BK643) : gb643 ≠ gb649))
            have n9_ := Aside0.mk ((by rw [hg]; exact Nat.ne_of_gt (bkl BK643) : gb649 ≠ gb643))
            have n10_ := Aside0.mk ((by rw [hg]; exact Nat.ne_of_lt (bkl BK644) : gb644 ≠ gb649))
            have n11_ := Aside0.mk ((by rw [hg]; exact Nat.ne_of_gt (bkl BK644) : gb649 ≠ gb644))
            have n12_ := Aside0.mk ((by rw [hg]; exact Nat.ne_of_lt (blk_lt (g := gb645) (o := .cells #[.int .i64 (wrap64 (1 + (wrap64 (Int.tmod (IntKind.u64.wrap (a0_0)) 6)))), u646001, .slice none 0 0] 58 (0, 0)) (bk BK645)) : gb645 ≠ gb649))
            have n13_ := Aside0.mk ((by rw [hg]; exact Nat.ne_of_gt (blk_lt (g := gb645) (o := .cells #[.int .i64 (wrap64 (1 + (wrap64 (Int.tmod (IntKind.u64.wrap (a0_0)) 6)))), u646001, .slice none 0 0] 58 (0, 0)) (bk BK645)) : gb649 ≠ gb645))
            clear HO_646001
            clear BK643
            clear BK644
            clear BK645
            clear HB
            have HO_646001 := n0_
            have BK643 := n1_
            have BK644 := n2_
            have BK645 := n3_
            have HB := n4_
            have BK649 := n5_
            have GW649 := n6_
            have GE649 := n7_
            have NB643_649 := n8_
            have NB649_643 := n9_
            have NB644_649 := n10_
            have NB649_644 := n11_
            have NB645_649 := n12_
            have NB649_645 := n13_
            clear n0_ n1_ n2_ n3_ n4_ n5_ n6_ n7_ n8_ n9_ n10_ n11_ n12_ n13_
            clear hb hbox hg
            refine hK.out _ _ ⟨(blk_cell BK643.out 0).trans rfl, (blk_cell BK643.out 1).trans rfl, (blk_cell BK643.out 2).trans rfl, (blk_cell BK645.out 0).trans rfl, (blk_cell BK645.out 1).trans rfl, (blk_cell BK645.out 2).trans rfl, (ct HB hw646_0), (ct HB hw646_1), (ct HB hw646_2), (ct HB hw647_0), (ct HB hw647_1), (ct HB hw647_2), (ct HB hw648_0), (ct HB hw648_1), (ct HB hw648_2)⟩ (fun hHeld => ?_)
            clear hK K
            refine norm_ (a' := ?_) ?_ ?_
            rotate_left
            ·show Act.put _ (some 5) _ = _
             simp only [Act.put, List.setIfInBounds_toArray, List.set_cons_zero, List.set_cons_succ, i64_w, i32_w]
             rfl
            refine one_ (i := 32) (N := none) (mk_ 33 0) rfl rfl (one_of HT_.out (by kernel_rfl)) (by decide) (fun K hK => ?_)
            have hs43 : w42.cell? ⟨gb649, 0, none⟩ = some (.int .i64 0) := (blk_cell BK649.out 0).trans rfl
            have hfs43 := blk_frozen BK649.out 0
            have hns43_0 := NB643_649.out
            have hns43_1 := NB644_649.out
            have hns43_2 := NB645_649.out
            have hms43_0 := NB649_643.out
            have hms43_1 := NB649_644.out
            have hms43_2 := NB649_645.out
            have hs44 : w42.cell? ⟨gb649, 1, none⟩ = some (.int .i64 0) := (blk_cell BK649.out 1).trans rfl
            have hfs44 := blk_frozen BK649.out 1
            have hns44_0 := NB643_649.out
            have hns44_1 := NB644_649.out
            have hns44_2 := NB645_649.out
            have hms44_0 := NB649_643.out
            have hms44_1 := NB649_644.out
            have hms44_2 := NB649_645.out
            have hs45 : w42.cell? ⟨gb649, 2, none⟩ = some (.int .u64 0) := (blk_cell BK649.out 2).trans rfl
            have hfs45 := blk_frozen BK649.out 2
            have hns45_0 := NB643_649.out
            have hns45_1 := NB644_649.out
            have hns45_2 := NB645_649.out
            have hms45_0 := NB649_643.out
            have hms45_1 := NB649_644.out
            have hms45_2 := NB649_645.out
            refine skip_ (w1 := ?_) (by rfl) rfl ?_ ?_
            rotate_left
            ·go_simp
             rfl
            refine hK.out _ _ ⟨((cell_far (p := ⟨gb649, _, none⟩) NB643_649.out _).trans (((cell_far (p := ⟨gb649, _, none⟩) NB643_649.out _).trans (((cell_far (p := ⟨gb649, _, none⟩) NB643_649.out _).trans (hHeld.1)))))), ((cell_far (p := ⟨gb649, _, none⟩) NB643_649.out _).trans (((cell_far (p := ⟨gb649, _, none⟩) NB643_649.out _).trans (((cell_far (p := ⟨gb649, _, none⟩) NB643_649.out _).trans (hHeld.2.1)))))), ((cell_far (p := ⟨gb649, _, none⟩) NB643_649.out _).trans (((cell_far (p := ⟨gb649, _, none⟩) NB643_649.out _).trans (((cell_far (p := ⟨gb649, _, none⟩) NB643_649.out _).trans (hHeld.2.2.1)))))), ((cell_far (p := ⟨gb649, _, none⟩) NB645_649.out _).trans (((cell_far (p := ⟨gb649, _, none⟩) NB645_649.out _).trans (((cell_far (p := ⟨gb649, _, none⟩) NB645_649.out _).trans (hHeld.2.2.2.1)))))), ((cell_far (p := ⟨gb649, _, none⟩) NB645_649.out _).trans (((cell_far (p := ⟨gb649, _, none⟩) NB645_649.out _).trans (((cell_far (p := ⟨gb649, _, none⟩) NB645_649.out _).trans (hHeld.2.2.2.2.1)))))), ((cell_far (p := ⟨gb649, _, none⟩) NB645_649.out _).trans (((cell_far (p := ⟨gb649, _, none⟩) NB645_649.out _).trans (((cell_far (p := ⟨gb649, _, none⟩) NB645_649.out _).trans (hHeld.2.2.2.2.2.1)))))), ((cell_far (p := ⟨gb649, _, none⟩) (bne hw646_0 GW649.out :) _).trans (((cell_far (p := ⟨gb649, _, none⟩) (bne hw646_0 GW649.out :) _).trans (((cell_far (p := ⟨gb649, _, none⟩) (bne hw646_0 GW649.out :) _).trans (hHeld.2.2.2.2.2.2.1)))))), ((cell_far (p := ⟨gb649, _, none⟩) (bne hw646_1 GW649.out :) _).trans (((cell_far (p := ⟨gb649, _, none⟩) (bne hw646_1 GW649.out :) _).trans (((cell_far (p := ⟨gb649, _, none⟩) (bne hw646_1 GW649.out :) _).trans (hHeld.2.2.2.2.2.2.2.1)))))), ((cell_far (p := ⟨gb649, _, none⟩) (bne hw646_2 GW649.out :) _).trans (((cell_far (p := ⟨gb649, _, none⟩) (bne hw646_2 GW649.out :) _).trans (((cell_far (p := ⟨gb649, _, none⟩) (bne hw646_2 GW649.out :) _).trans (hHeld.2.2.2.2.2.2.2.2.1)))))), ((cell_far (p := ⟨gb649, _, none⟩) (bne hw647_0 GW649.out :) _).trans (((cell_far (p := ⟨gb649, _, none⟩) (bne hw647_0 GW649.out :) _).trans (((cell_far (p := ⟨gb649, _, none⟩) (bne hw647_0 GW649.out :) _).trans (hHeld.2.2.2.2.2.2.2.2.2.1)))))), ((cell_far (p := ⟨gb649, _, none⟩) (bne hw647_1 GW649.out :) _).trans (((cell_far (p := ⟨gb649, _, none⟩) (bne hw647_1 GW649.out :) _).trans (((cell_far (p := ⟨gb649, _, none⟩) (bne hw647_1 GW649.out :) _).trans (hHeld.2.2.2.2.2.2.2.2.2.2.1)))))), ((cell_far (p := ⟨gb649, _, none⟩) (bne hw647_2 GW649.out :) _).trans (((cell_far (p := ⟨gb649, _, none⟩) (bne hw647_2 GW649.out :) _).trans (((cell_far (p := ⟨gb649, _, none⟩) (bne hw647_2 GW649.out :) _).trans (hHeld.2.2.2.2.2.2.2.2.2.2.2.1)))))), ((cell_far (p := ⟨gb649, _, none⟩) (bne hw648_0 GW649.out :) _).trans (((cell_far (p := ⟨gb649, _, none⟩) (bne hw648_0 GW649.out :) _).trans (((cell_far (p := ⟨gb649, _, none⟩) (bne hw648_0 GW649.out :) _).trans (hHeld.2.2.2.2.2.2.2.2.2.2.2.2.1)))))), ((cell_far (p := ⟨gb649, _, none⟩) (bne hw648_1 GW649.out :) _).trans (((cell_far (p := ⟨gb649, _, none⟩) (bne hw648_1 GW649.out :) _).trans (((cell_far (p := ⟨gb649, _, none⟩) (bne hw648_1 GW649.out :) _).trans (hHeld.2.2.2.2.2.2.2.2.2.2.2.2.2.1)))))), ((cell_far (p := ⟨gb649, _, none⟩) (bne hw648_2 GW649.out :) _).trans (((cell_far (p := ⟨gb649, _, none⟩) (bne hw648_2 GW649.out :) _).trans (((cell_far (p := ⟨gb649, _, none⟩) (bne hw648_2 GW649.out :) _).trans (hHeld.2.2.2.2.2.2.2.2.2.2.2.2.2.2))))))⟩ (fun hHeld => ?_)
            clear hK K
            refine done_ (done_of HT_.out (by kernel_rfl)) ?_
            have hnb46 := NB649_643.out
            have hnc46 := NB643_649.out
            have hnb47 := NB649_644.out
            have hnc47 := NB644_649.out
            have hnb48 := NB649_645.out
            have hnc48 := NB645_649.out
            have hcz49_0 : w42.cell? ⟨gb649, 0, none⟩ = some (.int .i64 0) := (blk_cell BK649.out 0).trans rfl
            have hcz49_1 : w42.cell? ⟨gb649, 1, none⟩ = some (.int .i64 0) := (blk_cell BK649.out 1).trans rfl
            have hcz49_2 : w42.cell? ⟨gb649, 2, none⟩ = some (.int .u64 0) := (blk_cell BK649.out 2).trans rfl
            have hfz49_0 := blk_frozen BK649.out 0
            have hfz49_1 := blk_frozen BK649.out 1
            have hfz49_2 := blk_frozen BK649.out 2
            have hnb50 := NB645_643.out
            have hnc50 := NB643_645.out
            have hnb51 := NB645_644.out
            have hnc51 := NB644_645.out
            have hcz52_0 : w42.cell? ⟨gb645, 0, none⟩ = some (.int .i64 (wrap64 (1 + (wrap64 (Int.tmod (IntKind.u64.wrap (a0_0)) 6))))) := (blk_cell BK645.out 0).trans rfl
            have hcz52_1 : w42.cell? ⟨gb645, 1, none⟩ = some (u646001) := (blk_cell BK645.out 1).trans rfl
            have hcz52_2 : w42.cell? ⟨gb645, 2, none⟩ = some (.slice none 0 0) := (blk_cell BK645.out 2).trans rfl
            have hfz52_0 := blk_frozen BK645.out 0
            have hfz52_1 := blk_frozen BK645.out 1
            have hfz52_2 := blk_frozen BK645.out 2
            try go_wp2_with (first | ((with_reducible refine gate_builtin (b := .append) (xs := #[.tmp 71, .tmp 73]) rfl ?_); at_builtin; refine Kd.R_append k90 (w0 := w) w.heap.size rfl (.tmp 71) (.tmp 73) 55 90 (.agg #[(.int .i64 0), (.int .i64 0), (.int .u64 0)]) 24 rfl Try.underlying55 info90 rfl (by decide) (by omega) u646001 x646001_1 (⟨wrap64 (Int.tmod (IntKind.u64.wrap ((rd_T90 l0_1 x4_1).f0)) (IntKind.u64.wrap ((wrap64 (1 + (wrap64 (Int.tmod (IntKind.u64.wrap (a0_0)) 6))))))), wrap64 (Int.tmod (IntKind.u64.wrap ((rd_T90 l0_1 x4_1).f1)) (IntKind.u64.wrap ((wrap64 (1 + (wrap64 (Int.tmod (IntKind.u64.wrap (a0_0)) 6))))))), (rd_T90 l0_1 x4_1).f2⟩ : S90) [.int .i64 (wrap64 (Int.tmod (IntKind.u64.wrap ((rd_T90 l0_1 x4_1).f0)) (IntKind.u64.wrap ((wrap64 (1 + (wrap64 (Int.tmod (IntKind.u64.wrap (a0_0)) 6)))))))), .int .i64 (wrap64 (Int.tmod (IntKind.u64.wrap ((rd_T90 l0_1 x4_1).f1)) (IntKind.u64.wrap ((wrap64 (1 + (wrap64 (Int.tmod (IntKind.u64.wrap (a0_0)) 6)))))))), .int .u64 ((rd_T90 l0_1 x4_1).f2)] (fun k_ => k_ ≠ gb649) (fun _ => False) rfl (by first | (go_simp; done) | (go_simp; rfl)) ?aP (fun _ hk => hk.elim) ?aF ?aO ?aB ?aS ?aL ?_; (case aP => exact k90_mkM _ _ _ (⟨wrap64 (Int.tmod (IntKind.u64.wrap ((rd_T90 l0_1 x4_1).f0)) (IntKind.u64.wrap ((wrap64 (1 + (wrap64 (Int.tmod (IntKind.u64.wrap (a0_0)) 6))))))), wrap64 (Int.tmod (IntKind.u64.wrap ((rd_T90 l0_1 x4_1).f1)) (IntKind.u64.wrap ((wrap64 (1 + (wrap64 (Int.tmod (IntKind.u64.wrap (a0_0)) 6))))))), (rd_T90 l0_1 x4_1).f2⟩ : S90)); (case aB => exact (by repeat (first | (with_reducible first | exact HB.out | apply below_alloc | apply pw_below_drewN | apply below_drew1 | refine below_set ?_ GE643.out | refine below_set ?_ GE644.out | refine below_set ?_ GE645.out | refine below_set ?_ GE649.out) | exact HB.out))); (case aF => exact (fun k_ hk => Kd.freshB (g := gb649) (o := .cells #[.int .i64 (wrap64 (Int.tmod (IntKind.u64.wrap ((rd_T90 l0_1 x4_1).f0)) (IntKind.u64.wrap ((wrap64 (1 + (wrap64 (Int.tmod (IntKind.u64.wrap (a0_0)) 6)))))))), .int .i64 (wrap64 (Int.tmod (IntKind.u64.wrap ((rd_T90 l0_1 x4_1).f1)) (IntKind.u64.wrap ((wrap64 (1 + (wrap64 (Int.tmod (IntKind.u64.wrap (a0_0)) 6)))))))), .int .u64 ((rd_T90 l0_1 x4_1).f2)] 90 (0, 0)) (by (with_reducible repeat (first | refine blk_drewN ?_ _ | refine blk_drew ?_ | refine blk_alloc ?_ _)); refine blk_put (cs := #[.int .i64 (wrap64 (Int.tmod (IntKind.u64.wrap ((rd_T90 l0_1 x4_1).f0)) (IntKind.u64.wrap ((wrap64 (1 + (wrap64 (Int.tmod (IntKind.u64.wrap (a0_0)) 6)))))))), .int .i64 (wrap64 (Int.tmod (IntKind.u64.wrap ((rd_T90 l0_1 x4_1).f1)) (IntKind.u64.wrap ((wrap64 (1 + (wrap64 (Int.tmod (IntKind.u64.wrap (a0_0)) 6)))))))), .int .u64 0]) ?_ 2 _ rfl; (with_reducible repeat (first | refine blk_drewN ?_ _ | refine blk_drew ?_ | refine blk_alloc ?_ _)); refine blk_put (cs := #[.int .i64 (wrap64 (Int.tmod (IntKind.u64.wrap ((rd_T90 l0_1 x4_1).f0)) (IntKind.u64.wrap ((wrap64 (1 + (wrap64 (Int.tmod (IntKind.u64.wrap (a0_0)) 6)))))))), .int .i64 0, .int .u64 0]) ?_ 1 _ rfl; (with_reducible repeat (first | refine blk_drewN ?_ _ | refine blk_drew ?_ | refine blk_alloc ?_ _)); refine blk_put (cs := #[.int .i64 0, .int .i64 0, .int .u64 0]) ?_ 0 _ rfl; (with_reducible repeat (first | refine blk_drewN ?_ _ | refine blk_drew ?_ | refine blk_alloc ?_ _)); exact BK649.out) k_ hk)); (case aO => exact (by (with_reducible repeat (first | apply Kd.R_alloc | apply Kd.R_drewN | apply Kd.R_drew)); exact Kd.R_mono (Kd.R_far (p := ⟨gb649, 2, none⟩) (Kd.R_far (p := ⟨gb649, 1, none⟩) (Kd.R_far (p := ⟨gb649, 0, none⟩) (Kd.R_mono HO_646001.out (fun k_ hk => (⟨hk, hk.2⟩ : _ ∧ k_ ≠ gb649))) (fun _ hk => hk.2) (.int .i64 (wrap64 (Int.tmod (IntKind.u64.wrap ((rd_T90 l0_1 x4_1).f0)) (IntKind.u64.wrap ((wrap64 (1 + (wrap64 (Int.tmod (IntKind.u64.wrap (a0_0)) 6)))))))))) (fun _ hk => hk.2) (.int .i64 (wrap64 (Int.tmod (IntKind.u64.wrap ((rd_T90 l0_1 x4_1).f1)) (IntKind.u64.wrap ((wrap64 (1 + (wrap64 (Int.tmod (IntKind.u64.wrap (a0_0)) 6)))))))))) (fun _ hk => hk.2) (.int .u64 ((rd_T90 l0_1 x4_1).f2))) (fun _ hk => hk.1.2))); (case aS => exact (below_size (by repeat (first | (with_reducible first | exact HB.out | apply below_alloc | apply pw_below_drewN | apply below_drew1 | refine below_set ?_ GE643.out | refine below_set ?_ GE644.out | refine below_set ?_ GE645.out | refine below_set ?_ GE649.out) | exact HB.out)))); (case aL => have := LMc40.out; omega); intro v654 w53 ho hb hg hat; rw [← Ny653.out] at ho; have n0_ := Aside0.mk (blk_grown (g := gb643) (o := .cells #[.int .i64 a0_0, .slice (some ad646) l0_1.length c0_1, .slice A0_2 l0_2.length c0_2] 58 (0, 0)) (by (with_reducible repeat (first | refine blk_drewN ?_ _ | refine blk_drew ?_ | refine blk_alloc ?_ _)); refine blk_far ?_ NB643_649.out _; (with_reducible repeat (first | refine blk_drewN ?_ _ | refine blk_drew ?_ | refine blk_alloc ?_ _)); refine blk_far ?_ NB643_649.out _; (with_reducible repeat (first | refine blk_drewN ?_ _ | refine blk_drew ?_ | refine blk_alloc ?_ _)); refine blk_far ?_ NB643_649.out _; (with_reducible repeat (first | refine blk_drewN ?_ _ | refine blk_drew ?_ | refine blk_alloc ?_ _)); exact BK643.out) hg (Kd.R_ne HO_646001.out BK643.out (by decide))); have n1_ := Aside0.mk (blk_grown (g := gb644) (o := .cells #[.int .i64 0, .slice none 0 0, .slice none 0 0] 58 (0, 0)) (by (with_reducible repeat (first | refine blk_drewN ?_ _ | refine blk_drew ?_ | refine blk_alloc ?_ _)); refine blk_far ?_ NB644_649.out _; (with_reducible repeat (first | refine blk_drewN ?_ _ | refine blk_drew ?_ | refine blk_alloc ?_ _)); refine blk_far ?_ NB644_649.out _; (with_reducible repeat (first | refine blk_drewN ?_ _ | refine blk_drew ?_ | refine blk_alloc ?_ _)); refine blk_far ?_ NB644_649.out _; (with_reducible repeat (first | refine blk_drewN ?_ _ | refine blk_drew ?_ | refine blk_alloc ?_ _)); exact BK644.out) hg (Kd.R_ne HO_646001.out BK644.out (by decide))); have n2_ := Aside0.mk (blk_grown (g := gb645) (o := .cells #[.int .i64 (wrap64 (1 + (wrap64 (Int.tmod (IntKind.u64.wrap (a0_0)) 6)))), u646001, .slice none 0 0] 58 (0, 0)) (by (with_reducible repeat (first | refine blk_drewN ?_ _ | refine blk_drew ?_ | refine blk_alloc ?_ _)); refine blk_far ?_ NB645_649.out _; (with_reducible repeat (first | refine blk_drewN ?_ _ | refine blk_drew ?_ | refine blk_alloc ?_ _)); refine blk_far ?_ NB645_649.out _; (with_reducible repeat (first | refine blk_drewN ?_ _ | refine blk_drew ?_ | refine blk_alloc ?_ _)); refine blk_far ?_ NB645_649.out _; (with_reducible repeat (first | refine blk_drewN ?_ _ | refine blk_drew ?_ | refine blk_alloc ?_ _)); exact BK645.out) hg (Kd.R_ne HO_646001.out BK645.out (by decide))); have n3_ := Aside0.mk (blk_grown (g := gb649) (o := .cells #[.int .i64 (wrap64 (Int.tmod (IntKind.u64.wrap ((rd_T90 l0_1 x4_1).f0)) (IntKind.u64.wrap ((wrap64 (1 + (wrap64 (Int.tmod (IntKind.u64.wrap (a0_0)) 6)))))))), .int .i64 (wrap64 (Int.tmod (IntKind.u64.wrap ((rd_T90 l0_1 x4_1).f1)) (IntKind.u64.wrap ((wrap64 (1 + (wrap64 (Int.tmod (IntKind.u64.wrap (a0_0)) 6)))))))), .int .u64 ((rd_T90 l0_1 x4_1).f2)] 90 (0, 0)) (by (with_reducible repeat (first | refine blk_drewN ?_ _ | refine blk_drew ?_ | refine blk_alloc ?_ _)); refine blk_put (cs := #[.int .i64 (wrap64 (Int.tmod (IntKind.u64.wrap ((rd_T90 l0_1 x4_1).f0)) (IntKind.u64.wrap ((wrap64 (1 + (wrap64 (Int.tmod (IntKind.u64.wrap (a0_0)) 6)))))))), .int .i64 (wrap64 (Int.tmod (IntKind.u64.wrap ((rd_T90 l0_1 x4_1).f1)) (IntKind.u64.wrap ((wrap64 (1 + (wrap64 (Int.tmod (IntKind.u64.wrap (a0_0)) 6)))))))), .int .u64 0]) ?_ 2 _ rfl; (with_reducible repeat (first | refine blk_drewN ?_ _ | refine blk_drew ?_ | refine blk_alloc ?_ _)); refine blk_put (cs := #[.int .i64 (wrap64 (Int.tmod (IntKind.u64.wrap ((rd_T90 l0_1 x4_1).f0)) (IntKind.u64.wrap ((wrap64 (1 + (wrap64 (Int.tmod (IntKind.u64.wrap (a0_0)) 6)))))))), .int .i64 0, .int .u64 0]) ?_ 1 _ rfl; (with_reducible repeat (first | refine blk_drewN ?_ _ | refine blk_drew ?_ | refine blk_alloc ?_ _)); refine blk_put (cs := #[.int .i64 0, .int .i64 0, .int .u64 0]) ?_ 0 _ rfl; (with_reducible repeat (first | refine blk_drewN ?_ _ | refine blk_drew ?_ | refine blk_alloc ?_ _)); exact BK649.out) hg (Kd.R_away HO_646001.out (fun _ hk => hk.2))); have n4_ := Aside0.mk (hb); have n5_ := Aside0.mk (ho); clear BK643; clear BK644; clear BK645; clear BK649; clear HB; clear HO_646001; have BK643 := n0_; have BK644 := n1_; have BK645 := n2_; have BK649 := n3_; have HB := n4_; have HO655 := n5_; clear n0_ n1_ n2_ n3_ n4_ n5_; clear ho hb hg hat; obtain ⟨Ao54, co54, eo54⟩ := Kd.R_slice HO655.out; subst eo54; have hcz55_0 : w53.cell? ⟨gb645, 0, none⟩ = some (.int .i64 (wrap64 (1 + (wrap64 (Int.tmod (IntKind.u64.wrap (a0_0)) 6))))) := (blk_cell BK645.out 0).trans rfl; have hcz55_1 : w53.cell? ⟨gb645, 1, none⟩ = some (u646001) := (blk_cell BK645.out 1).trans rfl; have hcz55_2 : w53.cell? ⟨gb645, 2, none⟩ = some (.slice none 0 0) := (blk_cell BK645.out 2).trans rfl; have hfz55_0 := blk_frozen BK645.out 0; have hfz55_1 := blk_frozen BK645.out 1; have hfz55_2 := blk_frozen BK645.out 2))
            go_roundg kj9
            case measure => have := HK1.out; have := HJ9.out; omega
            case rel => exact ⟨(wrap64 (x4_1 + 1)), (y653), (.slice Ao54 y653.length co54), (by first | rfl | (simp; done) | (simp [*]; done)), H', ⟨by have := HK1.out; have := HJ9.out; omega⟩, ⟨by (with_reducible repeat (first | apply Kd.R_alloc | apply Kd.R_drewN | apply Kd.R_drew)); exact Kd.R_mono (Kd.R_far (p := ⟨gb645, 1, none⟩) (Kd.R_types HO655.out BK645.out (by decide)) (fun _ hk => hk.2) (.slice Ao54 y653.length co54)) (fun _ hk => trivial)⟩, ⟨by (with_reducible repeat (first | refine blk_drewN ?_ _ | refine blk_drew ?_ | refine blk_alloc ?_ _)); refine blk_far ?_ NB643_645.out _; (with_reducible repeat (first | refine blk_drewN ?_ _ | refine blk_drew ?_ | refine blk_alloc ?_ _)); exact BK643.out⟩, ⟨by (with_reducible repeat (first | refine blk_drewN ?_ _ | refine blk_drew ?_ | refine blk_alloc ?_ _)); refine blk_far ?_ NB644_645.out _; (with_reducible repeat (first | refine blk_drewN ?_ _ | refine blk_drew ?_ | refine blk_alloc ?_ _)); exact BK644.out⟩, ⟨by (with_reducible repeat (first | refine blk_drewN ?_ _ | refine blk_drew ?_ | refine blk_alloc ?_ _)); refine blk_put (cs := #[.int .i64 (wrap64 (1 + (wrap64 (Int.tmod (IntKind.u64.wrap (a0_0)) 6)))), u646001, .slice none 0 0]) ?_ 1 _ rfl; (with_reducible repeat (first | refine blk_drewN ?_ _ | refine blk_drew ?_ | refine blk_alloc ?_ _)); exact BK645.out⟩, ⟨by repeat (first | (with_reducible first | exact HB.out | apply below_alloc | apply pw_below_drewN | apply below_drew1 | refine below_set ?_ GE643.out | refine below_set ?_ GE644.out | refine below_set ?_ GE645.out | refine below_set ?_ GE649.out) | exact HB.out)⟩⟩
           ·rw [if_neg c40] at H
            exact absurd H (by simp)
         ·rw [if_neg c22] at H
          have c22b0 : decide ((wrap64 (Int.tmod (IntKind.u64.wrap ((rd_T90 l0_1 x4_1).f1)) (IntKind.u64.wrap ((wrap64 (1 + (wrap64 (Int.tmod (IntKind.u64.wrap (a0_0)) 6)))))))) ≤ (wrap64 (Int.tmod (IntKind.u64.wrap ((rd_T90 l0_1 x4_1).f0)) (IntKind.u64.wrap ((wrap64 (1 + (wrap64 (Int.tmod (IntKind.u64.wrap (a0_0)) 6))))))))) = false := decide_eq_false c22
          clear c22
          by_cases c56 : x646001_1.length < 5864062014805
          ·rw [if_pos c56] at H
           have LMc56 := Aside0.mk c56
           clear c56
           obtain ⟨y656, hy656⟩ : ∃ y_ : List (S90), y_ = (x646001_1 ++ [(⟨wrap64 (Int.tmod (IntKind.u64.wrap ((rd_T90 l0_1 x4_1).f0)) (IntKind.u64.wrap ((wrap64 (1 + (wrap64 (Int.tmod (IntKind.u64.wrap (a0_0)) 6))))))), wrap64 (Int.tmod (IntKind.u64.wrap ((rd_T90 l0_1 x4_1).f1)) (IntKind.u64.wrap ((wrap64 (1 + (wrap64 (Int.tmod (IntKind.u64.wrap (a0_0)) 6))))))), (rd_T90 l0_1 x4_1).f2⟩ : S90)]) := ⟨_, rfl⟩
           replace H : (marchlandref05_Fix.l0 kj9 (wrap64 (x4_1 + 1)) a0_0 l0_1 l0_2 (wrap64 (1 + (wrap64 (Int.tmod (IntKind.u64.wrap (a0_0)) 6)))) y656) = some (r1, r2, r3) := by first | (rw [hy656]; with_reducible exact H) | (have H2_ := (Option.bind_some _ _).symm.trans H; rw [hy656]; with_reducible exact H2_) | (have H2_ := (Option.bind_some _ _).symm.trans H; with_reducible exact H2_) | with_reducible exact H | (rw [hy656]; exact H) | exact H
           have Ny656 := Aside0.mk hy656
           clear hy656
           have H' := Aside0.mk H
           clear H
           try go_wp2
           have n0_ := Aside0.mk (Kd.R_drew HO_646001.out)
           have n1_ := Aside0.mk (blk_drew BK643.out)
           have n2_ := Aside0.mk (blk_drew BK644.out)
           have n3_ := Aside0.mk (blk_drew BK645.out)
           have n4_ := Aside0.mk (below_drew1 HB.out)
           clear HO_646001
           clear BK643
           clear BK644
           clear BK645
           clear HB
           have HO_646001 := n0_
           have BK643 := n1_
           have BK644 := n2_
           have BK645 := n3_
           have HB := n4_
           clear n0_ n1_ n2_ n3_ n4_
           have p646 : 0 ≤ (x4_1 : Int) := of_decide_eq_true (by assumption)
           have q646 : x4_1 < (l0_1.length : Int) := of_decide_eq_true (by assumption)
           obtain ⟨ad646, e646, hx646_0, hx646_1, hx646_2⟩ := at_T90 HR0_1.out x4_1 p646 q646
           have hw646_2 := hx646_2
           have hw646_1 := hx646_1
           have hw646_0 := hx646_0
           cases e646
           replace hx646_0 := ct HB hx646_0
           replace hx646_1 := ct HB hx646_1
           replace hx646_2 := ct HB hx646_2
           replace p646 := eq_true p646
           replace q646 := eq_true q646
           have p647 : 0 ≤ (x4_1 : Int) := of_decide_eq_true (by assumption)
           have q647 : x4_1 < (l0_1.length : Int) := of_decide_eq_true (by assumption)
           obtain ⟨ad647, e647, hx647_0, hx647_1, hx647_2⟩ := at_T90 HR0_1.out x4_1 p647 q647
           have hw647_2 := hx647_2
           have hw647_1 := hx647_1
           have hw647_0 := hx647_0
           obtain rfl : ad646 = ad647 := (by injection e647)
           replace hx647_0 := ct HB hx647_0
           replace hx647_1 := ct HB hx647_1
           replace hx647_2 := ct HB hx647_2
           replace p647 := eq_true p647
           replace q647 := eq_true q647
           have p648 : 0 ≤ (x4_1 : Int) := of_decide_eq_true (by assumption)
           have q648 : x4_1 < (l0_1.length : Int) := of_decide_eq_true (by assumption)
           obtain ⟨ad648, e648, hx648_0, hx648_1, hx648_2⟩ := at_T90 HR0_1.out x4_1 p648 q648
           have hw648_2 := hx648_2
           have hw648_1 := hx648_1
           have hw648_0 := hx648_0
           obtain rfl : ad646 = ad648 := (by injection e648)
           replace hx648_0 := ct HB hx648_0
           replace hx648_1 := ct HB hx648_1
           replace hx648_2 := ct HB hx648_2
           replace p648 := eq_true p648
           replace q648 := eq_true q648
           refine start_ (n := 33) (S := fun w' => w'.cell? ⟨gb643, 0, none⟩ = some (.int .i64 a0_0) ∧ w'.cell? ⟨gb643, 1, none⟩ = some (.slice (some ad646) l0_1.length c0_1) ∧ w'.cell? ⟨gb643, 2, none⟩ = some (.slice A0_2 l0_2.length c0_2) ∧ w'.cell? ⟨gb645, 0, none⟩ = some (.int .i64 (wrap64 (1 + (wrap64 (Int.tmod (IntKind.u64.wrap (a0_0)) 6))))) ∧ w'.cell? ⟨gb645, 1, none⟩ = some (u646001) ∧ w'.cell? ⟨gb645, 2, none⟩ = some (.slice none 0 0) ∧ w'.cell? (ad646.add ((x4_1).toNat * 3)) = some (.int .i64 ((rd_T90 l0_1 x4_1).f0)) ∧ w'.cell? ⟨(ad646.add ((x4_1).toNat * 3)).block, (ad646.add ((x4_1).toNat * 3)).off + 1, none⟩ = some (.int .i64 ((rd_T90 l0_1 x4_1).f1)) ∧ w'.cell? ⟨(ad646.add ((x4_1).toNat * 3)).block, (ad646.add ((x4_1).toNat * 3)).off + 2, none⟩ = some (.int .u64 ((rd_T90 l0_1 x4_1).f2)) ∧ w'.cell? (ad646.add ((x4_1).toNat * 3)) = some (.int .i64 ((rd_T90 l0_1 x4_1).f0)) ∧ w'.cell? ⟨(ad646.add ((x4_1).toNat * 3)).block, (ad646.add ((x4_1).toNat * 3)).off + 1, none⟩ = some (.int .i64 ((rd_T90 l0_1 x4_1).f1)) ∧ w'.cell? ⟨(ad646.add ((x4_1).toNat * 3)).block, (ad646.add ((x4_1).toNat * 3)).off + 2, none⟩ = some (.int .u64 ((rd_T90 l0_1 x4_1).f2)) ∧ w'.cell? (ad646.add ((x4_1).toNat * 3)) = some (.int .i64 ((rd_T90 l0_1 x4_1).f0)) ∧ w'.cell? ⟨(ad646.add ((x4_1).toNat * 3)).block, (ad646.add ((x4_1).toNat * 3)).off + 1, none⟩ = some (.int .i64 ((rd_T90 l0_1 x4_1).f1)) ∧ w'.cell? ⟨(ad646.add ((x4_1).toNat * 3)).block, (ad646.add ((x4_1).toNat * 3)).off + 2, none⟩ = some (.int .u64 ((rd_T90 l0_1 x4_1).f2))) (ds := []) (mk_ 0 33) (by kernel_rfl) rfl rfl ⟨(blk_cell BK643.out 0).trans rfl, (blk_cell BK643.out 1).trans rfl, (blk_cell BK643.out 2).trans rfl, (blk_cell BK645.out 0).trans rfl, (blk_cell BK645.out 1).trans rfl, (blk_cell BK645.out 2).trans rfl, (ct HB hw646_0), (ct HB hw646_1), (ct HB hw646_2), (ct HB hw647_0), (ct HB hw647_1), (ct HB hw647_2), (ct HB hw648_0), (ct HB hw648_1), (ct HB hw648_2)⟩ (fun hHeld => ?_); refine with_tabW marchlandref05_Fix.tab5 marchlandref05_Fix.bits5 (fun HT_ HW_ => ?_)
           generalize wc.drew = w57 at HO_646001 BK643 BK644 BK645 HB hx646_0 hx646_1 hx646_2 hx647_0 hx647_1 hx647_2 hx648_0 hx648_1 hx648_2 hHeld ⊢
           refine pv_ 0 28 (mk_ 1 32) HT_ ?_
           refine pv_ 2 30 #[true, false, true, false, false, false, false, false, false, false, false, false, false, false, false, false, false, false, false, false, false, false, false, false, false, false, false, false, false, false, false, false, false] HT_ ?_
           refine pv_ 7 35 #[true, false, true, false, false, false, false, true, false, false, false, false, false, false, false, false, false, false, false, false, false, false, false, false, false, false, false, false, false, false, false, false, false] HT_ ?_
           refine pv_ 12 40 #[true, false, true, false, false, false, false, true, false, false, false, false, true, false, false, false, false, false, false, false, false, false, false, false, false, false, false, false, false, false, false, false, false] HT_ ?_
           refine pv_ 14 42 #[true, false, true, false, false, false, false, true, false, false, false, false, true, false, true, false, false, false, false, false, false, false, false, false, false, false, false, false, false, false, false, false, false] HT_ ?_
           refine pv_ 19 47 #[true, false, true, false, false, false, false, true, false, false, false, false, true, false, true, false, false, false, false, true, false, false, false, false, false, false, false, false, false, false, false, false, false] HT_ ?_
           refine pv_ 24 52 #[true, false, true, false, false, false, false, true, false, false, false, false, true, false, true, false, false, false, false, true, false, false, false, false, true, false, false, false, false, false, false, false, false] HT_ ?_
           refine pv_ 26 54 #[true, false, true, false, false, false, false, true, false, false, false, false, true, false, true, false, false, false, false, true, false, false, false, false, true, false, true, false, false, false, false, false, false] HT_ ?_
           refine tv_ 1 29 #[true, true, true, false, false, false, false, true, false, false, false, false, true, false, true, false, false, false, false, true, false, false, false, false, true, false, true, false, false, false, false, false, false] HT_ HW_ hHeld (hy := by rintro w' ⟨s0, s1, s2, s3, s4, s5, s6, s7, s8, s9, s10, s11, s12, s13, s14⟩; go_simp; with_reducible rfl) (h := ?_)
           refine pv_ 3 31 #[true, true, true, true, false, false, false, true, false, false, false, false, true, false, true, false, false, false, false, true, false, false, false, false, true, false, true, false, false, false, false, false, false] HT_ ?_
           refine pv_ 4 32 #[true, true, true, true, true, false, false, true, false, false, false, false, true, false, true, false, false, false, false, true, false, false, false, false, true, false, true, false, false, false, false, false, false] HT_ ?_
           refine tv_ 5 33 #[true, true, true, true, true, true, false, true, false, false, false, false, true, false, true, false, false, false, false, true, false, false, false, false, true, false, true, false, false, false, false, false, false] HT_ HW_ hHeld (hy := by rintro w' ⟨s0, s1, s2, s3, s4, s5, s6, s7, s8, s9, s10, s11, s12, s13, s14⟩; go_simp; with_reducible rfl) (h := ?_)
           refine pv_ 6 34 #[true, true, true, true, true, true, true, true, false, false, false, false, true, false, true, false, false, false, false, true, false, false, false, false, true, false, true, false, false, false, false, false, false] HT_ ?_
           refine tv_ 8 36 #[true, true, true, true, true, true, true, true, true, false, false, false, true, false, true, false, false, false, false, true, false, false, false, false, true, false, true, false, false, false, false, false, false] HT_ HW_ hHeld (hy := by rintro w' ⟨s0, s1, s2, s3, s4, s5, s6, s7, s8, s9, s10, s11, s12, s13, s14⟩; go_simp; with_reducible rfl) (h := ?_)
           refine pv_ 9 37 #[true, true, true, true, true, true, true, true, true, true, false, false, true, false, true, false, false, false, false, true, false, false, false, false, true, false, true, false, false, false, false, false, false] HT_ ?_
           refine pv_ 10 38 #[true, true, true, true, true, true, true, true, true, true, true, false, true, false, true, false, false, false, false, true, false, false, false, false, true, false, true, false, false, false, false, false, false] HT_ ?_
           refine pv_ 11 39 #[true, true, true, true, true, true, true, true, true, true, true, true, true, false, true, false, false, false, false, true, false, false, false, false, true, false, true, false, false, false, false, false, false] HT_ ?_
           refine tv_ 13 41 #[true, true, true, true, true, true, true, true, true, true, true, true, true, true, true, false, false, false, false, true, false, false, false, false, true, false, true, false, false, false, false, false, false] HT_ HW_ hHeld (hy := by rintro w' ⟨s0, s1, s2, s3, s4, s5, s6, s7, s8, s9, s10, s11, s12, s13, s14⟩; go_simp; with_reducible rfl) (h := ?_)
           refine pv_ 15 43 #[true, true, true, true, true, true, true, true, true, true, true, true, true, true, true, true, false, false, false, true, false, false, false, false, true, false, true, false, false, false, false, false, false] HT_ ?_
           refine pv_ 16 44 #[true, true, true, true, true, true, true, true, true, true, true, true, true, true, true, true, true, false, false, true, false, false, false, false, true, false, true, false, false, false, false, false, false] HT_ ?_
           refine tv_ 17 45 #[true, true, true, true, true, true, true, true, true, true, true, true, true, true, true, true, true, true, false, true, false, false, false, false, true, false, true, false, false, false, false, false, false] HT_ HW_ hHeld (hy := by rintro w' ⟨s0, s1, s2, s3, s4, s5, s6, s7, s8, s9, s10, s11, s12, s13, s14⟩; go_simp; with_reducible rfl) (h := ?_)
           refine pv_ 18 46 #[true, true, true, true, true, true, true, true, true, true, true, true, true, true, true, true, true, true, true, true, false, false, false, false, true, false, true, false, false, false, false, false, false] HT_ ?_
           refine tv_ 20 48 #[true, true, true, true, true, true, true, true, true, true, true, true, true, true, true, true, true, true, true, true, true, false, false, false, true, false, true, false, false, false, false, false, false] HT_ HW_ hHeld (hy := by rintro w' ⟨s0, s1, s2, s3, s4, s5, s6, s7, s8, s9, s10, s11, s12, s13, s14⟩; go_simp; with_reducible rfl) (h := ?_)
           refine pv_ 21 49 #[true, true, true, true, true, true, true, true, true, true, true, true, true, true, true, true, true, true, true, true, true, true, false, false, true, false, true, false, false, false, false, false, false] HT_ ?_
           refine pv_ 22 50 #[true, true, true, true, true, true, true, true, true, true, true, true, true, true, true, true, true, true, true, true, true, true, true, false, true, false, true, false, false, false, false, false, false] HT_ ?_
           refine pv_ 23 51 #[true, true, true, true, true, true, true, true, true, true, true, true, true, true, true, true, true, true, true, true, true, true, true, true, true, false, true, false, false, false, false, false, false] HT_ ?_
           refine tv_ 25 53 (mk_ 27 6) HT_ HW_ hHeld (hy := by rintro w' ⟨s0, s1, s2, s3, s4, s5, s6, s7, s8, s9, s10, s11, s12, s13, s14⟩; go_simp; with_reducible rfl) (h := ?_)
           refine pv_ 27 55 (mk_ 28 5) HT_ ?_
           refine pv_ 28 56 (mk_ 29 4) HT_ ?_
           refine tv_ 29 57 (mk_ 30 3) HT_ HW_ hHeld (hy := by rintro w' ⟨s0, s1, s2, s3, s4, s5, s6, s7, s8, s9, s10, s11, s12, s13, s14⟩; go_simp; with_reducible rfl) (h := ?_)
           refine pv_ 30 58 (mk_ 31 2) HT_ ?_
           refine one_ (i := 31) (N := some 5) (mk_ 32 1) rfl rfl (one_of HT_.out (by kernel_rfl)) (by decide) (fun K hK => ?_)
           refine box_step ?hg (N := 5) ?hd (cs := #[.int .i64 0, .int .i64 0, .int .u64 0]) (t := 90) ?hr ?_; (case hd => rfl); (case hg => rfl); (case hr => first | (go_simp; done) | (go_simp; rfl))
           intro gb649 hg w58 hbox hb
           have n0_ := Aside0.mk (Kd.R_below (Kd.R_elderB (rn HO_646001) gb649 (Nat.le_of_eq hg.symm)) hb)
           have n1_ := Aside0.mk (bkb BK643 hb)
           have n2_ := Aside0.mk (bkb BK644 hb)
           have n3_ := Aside0.mk (blk_below (g := gb645) (o := .cells #[.int .i64 (wrap64 (1 + (wrap64 (Int.tmod (IntKind.u64.wrap (a0_0)) 6)))), u646001, .slice none 0 0] 58 (0, 0)) (bk BK645) hb)
           have n4_ := Aside0.mk (below_step (bn3 HB GE643 GE644 GE645) hb)
           have n5_ := Aside0.mk (hbox)
           have n6_ := Aside0.mk ((by rw [hg]; exact (below_size (bn3 HB GE643 GE644 GE645)) : w.heap.size ≤ gb649))
           have n7_ := Aside0.mk ((by rw [hg]; exact (below_size (bn3 HB GE643 GE644 GE645)) : w.heap.size ≤ gb649))
           have n8_ := Aside0.mk ((by rw [hg]; exact Nat.ne_of_lt (bkl BK643) : gb643 ≠ gb649))
           have n9_ := Aside0.mk ((by rw [hg]; exact Nat.ne_of_gt (bkl BK643) : gb649 ≠ gb643))
           have n10_ := Aside0.mk ((by rw [hg]; exact Nat.ne_of_lt (bkl BK644) : gb644 ≠ gb649))
           have n11_ := Aside0.mk ((by rw [hg]; exact Nat.ne_of_gt (bkl BK644) : gb649 ≠ gb644))
           have n12_ := Aside0.mk ((by rw [hg]; exact Nat.ne_of_lt (blk_lt (g := gb645) (o := .cells #[.int .i64 (wrap64 (1 + (wrap64 (Int.tmod (IntKind.u64.wrap (a0_0)) 6)))), u646001, .slice none 0 0] 58 (0, 0)) (bk BK645)) : gb645 ≠ gb649))
           have n13_ := Aside0.mk ((by rw [hg]; exact Nat.ne_of_gt (blk_lt (g := gb645) (o := .cells #[.int .i64 (wrap64 (1 + (wrap64 (Int.tmod (IntKind.u64.wrap (a0_0)) 6)))), u646001, .slice none 0 0] 58 (0, 0)) (bk BK645)) : gb649 ≠ gb645))
           clear HO_646001
           clear BK643
           clear BK644
           clear BK645
           clear HB
           have HO_646001 := n0_
           have BK643 := n1_
           have BK644 := n2_
           have BK645 := n3_
           have HB := n4_
           have BK649 := n5_
           have GW649 := n6_
           have GE649 := n7_
           have NB643_649 := n8_
           have NB649_643 := n9_
           have NB644_649 := n10_
           have NB649_644 := n11_
           have NB645_649 := n12_
           have NB649_645 := n13_
           clear n0_ n1_ n2_ n3_ n4_ n5_ n6_ n7_ n8_ n9_ n10_ n11_ n12_ n13_
           clear hb hbox hg
           refine hK.out _ _ ⟨(blk_cell BK643.out 0).trans rfl, (blk_cell BK643.out 1).trans rfl, (blk_cell BK643.out 2).trans rfl, (blk_cell BK645.out 0).trans rfl, (blk_cell BK645.out 1).trans rfl, (blk_cell BK645.out 2).trans rfl, (ct HB hw646_0), (ct HB hw646_1), (ct HB hw646_2), (ct HB hw647_0), (ct HB hw647_1), (ct HB hw647_2), (ct HB hw648_0), (ct HB hw648_1), (ct HB hw648_2)⟩ (fun hHeld => ?_)
           clear hK K
           refine norm_ (a' := ?_) ?_ ?_
           rotate_left
           ·show Act.put _ (some 5) _ = _
            simp only [Act.put, List.setIfInBounds_toArray, List.set_cons_zero, List.set_cons_succ, i64_w, i32_w]
            rfl
           refine one_ (i := 32) (N := none) (mk_ 33 0) rfl rfl (one_of HT_.out (by kernel_rfl)) (by decide) (fun K hK => ?_)
           have hs59 : w58.cell? ⟨gb649, 0, none⟩ = some (.int .i64 0) := (blk_cell BK649.out 0).trans rfl
           have hfs59 := blk_frozen BK649.out 0
           have hns59_0 := NB643_649.out
           have hns59_1 := NB644_649.out
           have hns59_2 := NB645_649.out
           have hms59_0 := NB649_643.out
           have hms59_1 := NB649_644.out
           have hms59_2 := NB649_645.out
           have hs60 : w58.cell? ⟨gb649, 1, none⟩ = some (.int .i64 0) := (blk_cell BK649.out 1).trans rfl
           have hfs60 := blk_frozen BK649.out 1
           have hns60_0 := NB643_649.out
           have hns60_1 := NB644_649.out
           have hns60_2 := NB645_649.out
           have hms60_0 := NB649_643.out
           have hms60_1 := NB649_644.out
           have hms60_2 := NB649_645.out
           have hs61 : w58.cell? ⟨gb649, 2, none⟩ = some (.int .u64 0) := (blk_cell BK649.out 2).trans rfl
           have hfs61 := blk_frozen BK649.out 2
           have hns61_0 := NB643_649.out
           have hns61_1 := NB644_649.out
           have hns61_2 := NB645_649.out
           have hms61_0 := NB649_643.out
           have hms61_1 := NB649_644.out
           have hms61_2 := NB649_645.out
           refine skip_ (w1 := ?_) (by rfl) rfl ?_ ?_
           rotate_left
           ·go_simp
            rfl
           refine hK.out _ _ ⟨((cell_far (p := ⟨gb649, _, none⟩) NB643_649.out _).trans (((cell_far (p := ⟨gb649, _, none⟩) NB643_649.out _).trans (((cell_far (p := ⟨gb649, _, none⟩) NB643_649.out _).trans (hHeld.1)))))), ((cell_far (p := ⟨gb649, _, none⟩) NB643_649.out _).trans (((cell_far (p := ⟨gb649, _, none⟩) NB643_649.out _).trans (((cell_far (p := ⟨gb649, _, none⟩) NB643_649.out _).trans (hHeld.2.1)))))), ((cell_far (p := ⟨gb649, _, none⟩) NB643_649.out _).trans (((cell_far (p := ⟨gb649, _, none⟩) NB643_649.out _).trans (((cell_far (p := ⟨gb649, _, none⟩) NB643_649.out _).trans (hHeld.2.2.1)))))), ((cell_far (p := ⟨gb649, _, none⟩) NB645_649.out _).trans (((cell_far (p := ⟨gb649, _, none⟩) NB645_649.out _).trans (((cell_far (p := ⟨gb649, _, none⟩) NB645_649.out _).trans (hHeld.2.2.2.1)))))), ((cell_far (p := ⟨gb649, _, none⟩) NB645_649.out _).trans (((cell_far (p := ⟨gb649, _, none⟩) NB645_649.out _).trans (((cell_far (p := ⟨gb649, _, none⟩) NB645_649.out _).trans (hHeld.2.2.2.2.1)))))), ((cell_far (p := ⟨gb649, _, none⟩) NB645_649.out _).trans (((cell_far (p := ⟨gb649, _, none⟩) NB645_649.out _).trans (((cell_far (p := ⟨gb649, _, none⟩) NB645_649.out _).trans (hHeld.2.2.2.2.2.1)))))), ((cell_far (p := ⟨gb649, _, none⟩) (bne hw646_0 GW649.out :) _).trans (((cell_far (p := ⟨gb649, _, none⟩) (bne hw646_0 GW649.out :) _).trans (((cell_far (p := ⟨gb649, _, none⟩) (bne hw646_0 GW649.out :) _).trans (hHeld.2.2.2.2.2.2.1)))))), ((cell_far (p := ⟨gb649, _, none⟩) (bne hw646_1 GW649.out :) _).trans (((cell_far (p := ⟨gb649, _, none⟩) (bne hw646_1 GW649.out :) _).trans (((cell_far (p := ⟨gb649, _, none⟩) (bne hw646_1 GW649.out :) _).trans (hHeld.2.2.2.2.2.2.2.1)))))), ((cell_far (p := ⟨gb649, _, none⟩) (bne hw646_2 GW649.out :) _).trans (((cell_far (p := ⟨gb649, _, none⟩) (bne hw646_2 GW649.out :) _).trans (((cell_far (p := ⟨gb649, _, none⟩) (bne hw646_2 GW649.out :) _).trans (hHeld.2.2.2.2.2.2.2.2.1)))))), ((cell_far (p := ⟨gb649, _, none⟩) (bne hw647_0 GW649.out :) _).trans (((cell_far (p := ⟨gb649, _, none⟩) (bne hw647_0 GW649.out :) _).trans (((cell_far (p := ⟨gb649, _, none⟩) (bne hw647_0 GW649.out :) _).trans (hHeld.2.2.2.2.2.2.2.2.2.1)))))), ((cell_far (p := ⟨gb649, _, none⟩) (bne hw647_1 GW649.out :) _).trans (((cell_far (p := ⟨gb649, _, none⟩) (bne hw647_1 GW649.out :) _).trans (((cell_far (p := ⟨gb649, _, none⟩) (bne hw647_1 GW649.out :) _).trans (hHeld.2.2.2.2.2.2.2.2.2.2.1)))))), ((cell_far (p := ⟨gb649, _, none⟩) (bne hw647_2 GW649.out :) _).trans (((cell_far (p := ⟨gb649, _, none⟩) (bne hw647_2 GW649.out :) _).trans (((cell_far (p := ⟨gb649, _, none⟩) (bne hw647_2 GW649.out :) _).trans (hHeld.2.2.2.2.2.2.2.2.2.2.2.1)))))), ((cell_far (p := ⟨gb649, _, none⟩) (bne hw648_0 GW649.out :) _).trans (((cell_far (p := ⟨gb649, _, none⟩) (bne hw648_0 GW649.out :) _).trans (((cell_far (p := ⟨gb649, _, none⟩) (bne hw648_0 GW649.out :) _).trans (hHeld.2.2.2.2.2.2.2.2.2.2.2.2.1)))))), ((cell_far (p := ⟨gb649, _, none⟩) (bne hw648_1 GW649.out :) _).trans (((cell_far (p := ⟨gb649, _, none⟩) (bne hw648_1 GW649.out :) _).trans (((cell_far (p := ⟨gb649, _, none⟩) (bne hw648_1 GW649.out :) _).trans (hHeld.2.2.2.2.2.2.2.2.2.2.2.2.2.1)))))), ((cell_far (p := ⟨gb649, _, none⟩) (bne hw648_2 GW649.out :) _).trans (((cell_far (p := ⟨gb649, _, none⟩) (bne hw648_2 GW649.out :) _).trans (((cell_far (p := ⟨gb649, _, none⟩) (bne hw648_2 GW649.out :) _).trans (hHeld.2.2.2.2.2.2.2.2.2.2.2.2.2.2))))))⟩ (fun hHeld => ?_)
           clear hK K
           refine done_ (done_of HT_.out (by kernel_rfl)) ?_
           have hnb62 := NB649_643.out
           have hnc62 := NB643_649.out
           have hnb63 := NB649_644.out
           have hnc63 := NB644_649.out
           have hnb64 := NB649_645.out
           have hnc64 := NB645_649.out
           have hcz65_0 : w58.cell? ⟨gb649, 0, none⟩ = some (.int .i64 0) := (blk_cell BK649.out 0).trans rfl
           have hcz65_1 : w58.cell? ⟨gb649, 1, none⟩ = some (.int .i64 0) := (blk_cell BK649.out 1).trans rfl
           have hcz65_2 : w58.cell? ⟨gb649, 2, none⟩ = some (.int .u64 0) := (blk_cell BK649.out 2).trans rfl
           have hfz65_0 := blk_frozen BK649.out 0
           have hfz65_1 := blk_frozen BK649.out 1
           have hfz65_2 := blk_frozen BK649.out 2
           have hnb66 := NB645_643.out
           have hnc66 := NB643_645.out
           have hnb67 := NB645_644.out
           have hnc67 := NB644_645.out
           have hcz68_0 : w58.cell? ⟨gb645, 0, none⟩ = some (.int .i64 (wrap64 (1 + (wrap64 (Int.tmod (IntKind.u64.wrap (a0_0)) 6))))) := (blk_cell BK645.out 0).trans rfl
           have hcz68_1 : w58.cell? ⟨gb645, 1, none⟩ = some (u646001) := (blk_cell BK645.out 1).trans rfl
           have hcz68_2 : w58.cell? ⟨gb645, 2, none⟩ = some (.slice none 0 0) := (blk_cell BK645.out 2).trans rfl
           have hfz68_0 := blk_frozen BK645.out 0
           have hfz68_1 := blk_frozen BK645.out 1
           have hfz68_2 := blk_frozen BK645.out 2
           try go_wp2_with (first | ((with_reducible refine gate_builtin (b := .append) (xs := #[.tmp 71, .tmp 73]) rfl ?_); at_builtin; refine Kd.R_append k90 (w0 := w) w.heap.size rfl (.tmp 71) (.tmp 73) 55 90 (.agg #[(.int .i64 0), (.int .i64 0), (.int .u64 0)]) 24 rfl Try.underlying55 info90 rfl (by decide) (by omega) u646001 x646001_1 (⟨wrap64 (Int.tmod (IntKind.u64.wrap ((rd_T90 l0_1 x4_1).f0)) (IntKind.u64.wrap ((wrap64 (1 + (wrap64 (Int.tmod (IntKind.u64.wrap (a0_0)) 6))))))), wrap64 (Int.tmod (IntKind.u64.wrap ((rd_T90 l0_1 x4_1).f1)) (IntKind.u64.wrap ((wrap64 (1 + (wrap64 (Int.tmod (IntKind.u64.wrap (a0_0)) 6))))))), (rd_T90 l0_1 x4_1).f2⟩ : S90) [.int .i64 (wrap64 (Int.tmod (IntKind.u64.wrap ((rd_T90 l0_1 x4_1).f0)) (IntKind.u64.wrap ((wrap64 (1 + (wrap64 (Int.tmod (IntKind.u64.wrap (a0_0)) 6)))))))), .int .i64 (wrap64 (Int.tmod (IntKind.u64.wrap ((rd_T90 l0_1 x4_1).f1)) (IntKind.u64.wrap ((wrap64 (1 + (wrap64 (Int.tmod (IntKind.u64.wrap (a0_0)) 6)))))))), .int .u64 ((rd_T90 l0_1 x4_1).f2)] (fun k_ => k_ ≠ gb649) (fun _ => False) rfl (by first | (go_simp; done) | (go_simp; rfl)) ?aP (fun _ hk => hk.elim) ?aF ?aO ?aB ?aS ?aL ?_; (case aP => exact k90_mkM _ _ _ (⟨wrap64 (Int.tmod (IntKind.u64.wrap ((rd_T90 l0_1 x4_1).f0)) (IntKind.u64.wrap ((wrap64 (1 + (wrap64 (Int.tmod (IntKind.u64.wrap (a0_0)) 6))))))), wrap64 (Int.tmod (IntKind.u64.wrap ((rd_T90 l0_1 x4_1).f1)) (IntKind.u64.wrap ((wrap64 (1 + (wrap64 (Int.tmod (IntKind.u64.wrap (a0_0)) 6))))))), (rd_T90 l0_1 x4_1).f2⟩ : S90)); (case aB => exact (by repeat (first | (with_reducible first | exact HB.out | apply below_alloc | apply pw_below_drewN | apply below_drew1 | refine below_set ?_ GE643.out | refine below_set ?_ GE644.out | refine below_set ?_ GE645.out | refine below_set ?_ GE649.out) | exact HB.out))); (case aF => exact (fun k_ hk => Kd.freshB (g := gb649) (o := .cells #[.int .i64 (wrap64 (Int.tmod (IntKind.u64.wrap ((rd_T90 l0_1 x4_1).f0)) (IntKind.u64.wrap ((wrap64 (1 + (wrap64 (Int.tmod (IntKind.u64.wrap (a0_0)) 6)))))))), .int .i64 (wrap64 (Int.tmod (IntKind.u64.wrap ((rd_T90 l0_1 x4_1).f1)) (IntKind.u64.wrap ((wrap64 (1 + (wrap64 (Int.tmod (IntKind.u64.wrap (a0_0)) 6)))))))), .int .u64 ((rd_T90 l0_1 x4_1).f2)] 90 (0, 0)) (by (with_reducible repeat (first | refine blk_drewN ?_ _ | refine blk_drew ?_ | refine blk_alloc ?_ _)); refine blk_put (cs := #[.int .i64 (wrap64 (Int.tmod (IntKind.u64.wrap ((rd_T90 l0_1 x4_1).f0)) (IntKind.u64.wrap ((wrap64 (1 + (wrap64 (Int.tmod (IntKind.u64.wrap (a0_0)) 6)))))))), .int .i64 (wrap64 (Int.tmod (IntKind.u64.wrap ((rd_T90 l0_1 x4_1).f1)) (IntKind.u64.wrap ((wrap64 (1 + (wrap64 (Int.tmod (IntKind.u64.wrap (a0_0)) 6)))))))), .int .u64 0]) ?_ 2 _ rfl; (with_reducible repeat (first | refine blk_drewN ?_ _ | refine blk_drew ?_ | refine blk_alloc ?_ _)); refine blk_put (cs := #[.int .i64 (wrap64 (Int.tmod (IntKind.u64.wrap ((rd_T90 l0_1 x4_1).f0)) (IntKind.u64.wrap ((wrap64 (1 + (wrap64 (Int.tmod (IntKind.u64.wrap (a0_0)) 6)))))))), .int .i64 0, .int .u64 0]) ?_ 1 _ rfl; (with_reducible repeat (first | refine blk_drewN ?_ _ | refine blk_drew ?_ | refine blk_alloc ?_ _)); refine blk_put (cs := #[.int .i64 0, .int .i64 0, .int .u64 0]) ?_ 0 _ rfl; (with_reducible repeat (first | refine blk_drewN ?_ _ | refine blk_drew ?_ | refine blk_alloc ?_ _)); exact BK649.out) k_ hk)); (case aO => exact (by (with_reducible repeat (first | apply Kd.R_alloc | apply Kd.R_drewN | apply Kd.R_drew)); exact Kd.R_mono (Kd.R_far (p := ⟨gb649, 2, none⟩) (Kd.R_far (p := ⟨gb649, 1, none⟩) (Kd.R_far (p := ⟨gb649, 0, none⟩) (Kd.R_mono HO_646001.out (fun k_ hk => (⟨hk, hk.2⟩ : _ ∧ k_ ≠ gb649))) (fun _ hk => hk.2) (.int .i64 (wrap64 (Int.tmod (IntKind.u64.wrap ((rd_T90 l0_1 x4_1).f0)) (IntKind.u64.wrap ((wrap64 (1 + (wrap64 (Int.tmod (IntKind.u64.wrap (a0_0)) 6)))))))))) (fun _ hk => hk.2) (.int .i64 (wrap64 (Int.tmod (IntKind.u64.wrap ((rd_T90 l0_1 x4_1).f1)) (IntKind.u64.wrap ((wrap64 (1 + (wrap64 (Int.tmod (IntKind.u64.wrap (a0_0)) 6)))))))))) (fun _ hk => hk.2) (.int .u64 ((rd_T90 l0_1 x4_1).f2))) (fun _ hk => hk.1.2))); (case aS => exact (below_size (by repeat (first | (with_reducible first | exact HB.out | apply below_alloc | apply pw_below_drewN | apply below_drew1 | refine below_set ?_ GE643.out | refine below_set ?_ GE644.out | refine below_set ?_ GE645.out | refine below_set ?_ GE649.out) | exact HB.out)))); (case aL => have := LMc56.out; omega); intro v657 w69 ho hb hg hat; rw [← Ny656.out] at ho; have n0_ := Aside0.mk (blk_grown (g := gb643) (o := .cells #[.int .i64 a0_0, .slice (some ad646) l0_1.length c0_1, .slice A0_2 l0_2.length c0_2] 58 (0, 0)) (by (with_reducible repeat (first | refine blk_drewN ?_ _ | refine blk_drew ?_ | refine blk_alloc ?_ _)); refine blk_far ?_ NB643_649.out _; (with_reducible repeat (first | refine blk_drewN ?_ _ | refine blk_drew ?_ | refine blk_alloc ?_ _)); refine blk_far ?_ NB643_649.out _; (with_reducible repeat (first | refine blk_drewN ?_ _ | refine blk_drew ?_ | refine blk_alloc ?_ _)); refine blk_far ?_ NB643_649.out _; (with_reducible repeat (first | refine blk_drewN ?_ _ | refine blk_drew ?_ | refine blk_alloc ?_ _)); exact BK643.out) hg (Kd.R_ne HO_646001.out BK643.out (by decide))); have n1_ := Aside0.mk (blk_grown (g := gb644) (o := .cells #[.int .i64 0, .slice none 0 0, .slice none 0 0] 58 (0, 0)) (by (with_reducible repeat (first | refine blk_drewN ?_ _ | refine blk_drew ?_ | refine blk_alloc ?_ _)); refine blk_far ?_ NB644_649.out _; (with_reducible repeat (first | refine blk_drewN ?_ _ | refine blk_drew ?_ | refine blk_alloc ?_ _)); refine blk_far ?_ NB644_649.out _; (with_reducible repeat (first | refine blk_drewN ?_ _ | refine blk_drew ?_ | refine blk_alloc ?_ _)); refine blk_far ?_ NB644_649.out _; (with_reducible repeat (first | refine blk_drewN ?_ _ | refine blk_drew ?_ | refine blk_alloc ?_ _)); exact BK644.out) hg (Kd.R_ne HO_646001.out BK644.out (by decide))); have n2_ := Aside0.mk (blk_grown (g := gb645) (o := .cells #[.int .i64 (wrap64 (1 + (wrap64 (Int.tmod (IntKind.u64.wrap (a0_0)) 6)))), u646001, .slice none 0 0] 58 (0, 0)) (by (with_reducible repeat (first | refine blk_drewN ?_ _ | refine blk_drew ?_ | refine blk_alloc ?_ _)); refine blk_far ?_ NB645_649.out _; (with_reducible repeat (first | refine blk_drewN ?_ _ | refine blk_drew ?_ | refine blk_alloc ?_ _)); refine blk_far ?_ NB645_649.out _; (with_reducible repeat (first | refine blk_drewN ?_ _ | refine blk_drew ?_ | refine blk_alloc ?_ _)); refine blk_far ?_ NB645_649.out _; (with_reducible repeat (first | refine blk_drewN ?_ _ | refine blk_drew ?_ | refine blk_alloc ?_ _)); exact BK645.out) hg (Kd.R_ne HO_646001.out BK645.out (by decide))); have n3_ := Aside0.mk (blk_grown (g := gb649) (o := .cells #[.int .i64 (wrap64 (Int.tmod (IntKind.u64.wrap ((rd_T90 l0_1 x4_1).f0)) (IntKind.u64.wrap ((wrap64 (1 + (wrap64 (Int.tmod (IntKind.u64.wrap (a0_0)) 6)))))))), .int .i64 (wrap64 (Int.tmod (IntKind.u64.wrap ((rd_T90 l0_1 x4_1).f1)) (IntKind.u64.wrap ((wrap64 (1 + (wrap64 (Int.tmod (IntKind.u64.wrap (a0_0)) 6)))))))), .int .u64 ((rd_T90 l0_1 x4_1).f2)] 90 (0, 0)) (by (with_reducible repeat (first | refine blk_drewN ?_ _ | refine blk_drew ?_ | refine blk_alloc ?_ _)); refine blk_put (cs := #[.int .i64 (wrap64 (Int.tmod (IntKind.u64.wrap ((rd_T90 l0_1 x4_1).f0)) (IntKind.u64.wrap ((wrap64 (1 + (wrap64 (Int.tmod (IntKind.u64.wrap (a0_0)) 6)))))))), .int .i64 (wrap64 (Int.tmod (IntKind.u64.wrap ((rd_T90 l0_1 x4_1).f1)) (IntKind.u64.wrap ((wrap64 (1 + (wrap64 (Int.tmod (IntKind.u64.wrap (a0_0)) 6)))))))), .int .u64 0]) ?_ 2 _ rfl; (with_reducible repeat (first | refine blk_drewN ?_ _ | refine blk_drew ?_ | refine blk_alloc ?_ _)); refine blk_put (cs := #[.int .i64 (wrap64 (Int.tmod (IntKind.u64.wrap ((rd_T90 l0_1 x4_1).f0)) (IntKind.u64.wrap ((wrap64 (1 + (wrap64 (Int.tmod (IntKind.u64.wrap (a0_0)) 6)))))))), .int .i64 0, .int .u64 0]) ?_ 1 _ rfl; (with_reducible repeat (first | refine blk_drewN ?_ _ | refine blk_drew ?_ | refine blk_alloc ?_ _)); refine blk_put (cs := #[.int .i64 0, .int .i64 0, .int .u64 0]) ?_ 0 _ rfl; (with_reducible repeat (first | refine blk_drewN ?_ _ | refine blk_drew ?_ | refine blk_alloc ?_ _)); exact BK649.out) hg (Kd.R_away HO_646001.out (fun _ hk => hk.2))); have n4_ := Aside0.mk (hb); have n5_ := Aside0.mk (ho); clear BK643; clear BK644; clear BK645; clear BK649; clear HB; clear HO_646001; have BK643 := n0_; have BK644 := n1_; have BK645 := n2_; have BK649 := n3_; have HB := n4_; have HO658 := n5_; clear n0_ n1_ n2_ n3_ n4_ n5_; clear ho hb hg hat; obtain ⟨Ao70, co70, eo70⟩ := Kd.R_slice HO658.out; subst eo70; have hcz71_0 : w69.cell? ⟨gb645, 0, none⟩ = some (.int .i64 (wrap64 (1 + (wrap64 (Int.tmod (IntKind.u64.wrap (a0_0)) 6))))) := (blk_cell BK645.out 0).trans rfl; have hcz71_1 : w69.cell? ⟨gb645, 1, none⟩ = some (u646001) := (blk_cell BK645.out 1).trans rfl; have hcz71_2 : w69.cell? ⟨gb645, 2, none⟩ = some (.slice none 0 0) := (blk_cell BK645.out 2).trans rfl; have hfz71_0 := blk_frozen BK645.out 0; have hfz71_1 := blk_frozen BK645.out 1; have hfz71_2 := blk_frozen BK645.out 2))
           go_roundg kj9
           case measure => have := HK1.out; have := HJ9.out; omega
           case rel => exact ⟨(wrap64 (x4_1 + 1)), (y656), (.slice Ao70 y656.length co70), (by first | rfl | (simp; done) | (simp [*]; done)), H', ⟨by have := HK1.out; have := HJ9.out; omega⟩, ⟨by (with_reducible repeat (first | apply Kd.R_alloc | apply Kd.R_drewN | apply Kd.R_drew)); exact Kd.R_mono (Kd.R_far (p := ⟨gb645, 1, none⟩) (Kd.R_types HO658.out BK645.out (by decide)) (fun _ hk => hk.2) (.slice Ao70 y656.length co70)) (fun _ hk => trivial)⟩, ⟨by (with_reducible repeat (first | refine blk_drewN ?_ _ | refine blk_drew ?_ | refine blk_alloc ?_ _)); refine blk_far ?_ NB643_645.out _; (with_reducible repeat (first | refine blk_drewN ?_ _ | refine blk_drew ?_ | refine blk_alloc ?_ _)); exact BK643.out⟩, ⟨by (with_reducible repeat (first | refine blk_drewN ?_ _ | refine blk_drew ?_ | refine blk_alloc ?_ _)); refine blk_far ?_ NB644_645.out _; (with_reducible repeat (first | refine blk_drewN ?_ _ | refine blk_drew ?_ | refine blk_alloc ?_ _)); exact BK644.out⟩, ⟨by (with_reducible repeat (first | refine blk_drewN ?_ _ | refine blk_drew ?_ | refine blk_alloc ?_ _)); refine blk_put (cs := #[.int .i64 (wrap64 (1 + (wrap64 (Int.tmod (IntKind.u64.wrap (a0_0)) 6)))), u646001, .slice none 0 0]) ?_ 1 _ rfl; (with_reducible repeat (first | refine blk_drewN ?_ _ | refine blk_drew ?_ | refine blk_alloc ?_ _)); exact BK645.out⟩, ⟨by repeat (first | (with_reducible first | exact HB.out | apply below_alloc | apply pw_below_drewN | apply below_drew1 | refine below_set ?_ GE643.out | refine below_set ?_ GE644.out | refine below_set ?_ GE645.out | refine below_set ?_ GE649.out) | exact HB.out)⟩⟩
          ·rw [if_neg c56] at H
           exact absurd H (by simp)
       ·rw [if_neg c20] at H
        exact absurd H (by simp)
      ·rw [if_neg c19] at H
       exact absurd H (by simp)
     ·replace c18 := Bool.eq_false_iff.mpr c18
      subst c18
      have H1 : (marchlandref05_Fix.l1 kj9 0 a0_0 l0_1 l0_2 (wrap64 (1 + (wrap64 (Int.tmod (IntKind.u64.wrap (a0_0)) 6)))) x646001_1 ([] : List Int)) = some (r1, r2, r3) := by rw [if_neg (show ¬ (false = true) by decide)] at H; exact H
      clear H
      have H := H1
      clear H1
      have H' := Aside0.mk H
      clear H
      go_wp2
      go_loopg [6] kj9 (fun kq v6 w' => ∃ (x6_3 : Int) (x646002_3 : List Int) (u646002 : Value), v6 = .int .i64 x6_3 ∧ Aside0 (marchlandref05_Fix.l1 kq x6_3 a0_0 l0_1 l0_2 (wrap64 (1 + (wrap64 (Int.tmod (IntKind.u64.wrap (a0_0)) 6)))) x646001_1 x646002_3 = some (r1, r2, r3)) ∧ Aside0 (kq ≤ kj9) ∧ Aside0 (Kd.R k90 90 w' w.heap.size (fun _ => True) u646001 x646001_1) ∧ Aside0 (Kd.R (Kd.int .i64) 3 w' w.heap.size (fun _ => True) u646002 x646002_3) ∧ Aside0 (w'.heap[gb643]? = some (.cells #[.int .i64 a0_0, (.slice A0_1 l0_1.length c0_1), (.slice A0_2 l0_2.length c0_2)] 58 (0, 0))) ∧ Aside0 (w'.heap[gb644]? = some (.cells #[.int .i64 0, (.slice none 0 0), (.slice none 0 0)] 58 (0, 0))) ∧ Aside0 (w'.heap[gb645]? = some (.cells #[.int .i64 (wrap64 (1 + (wrap64 (Int.tmod (IntKind.u64.wrap (a0_0)) 6)))), u646001, u646002] 58 (0, 0))) ∧ Aside0 (Below w.heap.size w w'))
      case atStart => exact ⟨(0), (([] : List Int)), (.slice none 0 0), (by first | rfl | (simp; done) | (simp [*]; done)), H', ⟨Nat.le_refl _⟩, ⟨rn HO_646001⟩, ⟨by first | exact Kd.R_nil _ _ _ _ _ | exact Kd.N_nil _ _ _ _ _ | exact Kd.V_nil _ _ _ _ _ | exact Kd.Q_nil _ _ _ _ _ | exact Kd.S_nil _ _ _ _ _⟩, ⟨bk BK643⟩, ⟨bk BK644⟩, ⟨bk BK645⟩, ⟨bn3 HB GE643 GE644 GE645⟩⟩
      case round =>
       clear H'
       (try clear c1); (try clear c2); (try clear p2); (try clear c4); (try clear c5); (try clear c6); (try clear p6); (try clear q6); (try clear hx6); (try clear c18); (try clear c19); (try clear c20); (try clear c22); (try clear c22b0); (try clear c40); (try clear c46); (try clear c47); (try clear c48)
       (try clear c50); (try clear c51); (try clear c56); (try clear c62); (try clear c63); (try clear c64); (try clear p64); (try clear q64); (try clear hx64); (try clear c66); (try clear c67); (try clear hcz49_0); (try clear hcz49_1); (try clear hcz49_2); (try clear hcz52_0); (try clear hcz52_1); (try clear hcz52_2)
       (try clear hcz55_0); (try clear hcz55_1); (try clear hcz55_2); (try clear hcz65_0); (try clear hcz65_1); (try clear hcz65_2); (try clear hcz68_0); (try clear hcz68_1); (try clear hcz68_2); (try clear hcz71_0); (try clear hcz71_1); (try clear hcz71_2); (try clear hfz49_0); (try clear hfz49_1); (try clear hfz49_2)
       (try clear hfz52_0); (try clear hfz52_1); (try clear hfz52_2); (try clear hfz55_0); (try clear hfz55_1); (try clear hfz55_2); (try clear hfz65_0); (try clear hfz65_1); (try clear hfz65_2); (try clear hfz68_0); (try clear hfz68_1); (try clear hfz68_2); (try clear hfz71_0); (try clear hfz71_1); (try clear hfz71_2)
       (try clear hx646_0); (try clear hx646_1); (try clear hx646_2); (try clear hx647_0); (try clear hx647_1); (try clear hx647_2); (try clear hx648_0); (try clear hx648_1); (try clear hx648_2); (try clear p646); (try clear p647); (try clear p648); (try clear q646); (try clear q647); (try clear q648)
       obtain ⟨x6_3, x646002_3, u646002, rfl, HA, HK3, HO_646001, HO_646002, BK643, BK644, BK645, HB⟩ := hrel
       cases gk with
       | zero => exact absurd HA.out (by simp [marchlandref05_Fix.l1])
       | succ k3 =>
        have H := HA.out
        clear HA
        simp only [marchlandref05_Fix.l1] at H
        have HC72 := Aside0.mk H
        clear H
        go_upto_region 10 with (fail)
        go_cut [84] (fun v84 wc => ∃ (kq : Nat) (x84_71 : Bool), v84 = .bool x84_71 ∧ Aside0 (marchlandref05_Fix.j3 kq x6_3 x84_71 a0_0 l0_1 l0_2 (wrap64 (1 + (wrap64 (Int.tmod (IntKind.u64.wrap (a0_0)) 6)))) x646001_1 x646002_3 = some (r1, r2, r3)) ∧ Aside0 (kq ≤ k3) ∧ Aside0 (Kd.R k90 90 wc w.heap.size (fun _ => True) u646001 x646001_1) ∧ Aside0 (Kd.R (Kd.int .i64) 3 wc w.heap.size (fun _ => True) u646002 x646002_3) ∧ Aside0 (wc.heap[gb643]? = some (.cells #[.int .i64 a0_0, (.slice A0_1 l0_1.length c0_1), (.slice A0_2 l0_2.length c0_2)] 58 (0, 0))) ∧ Aside0 (wc.heap[gb644]? = some (.cells #[.int .i64 0, (.slice none 0 0), (.slice none 0 0)] 58 (0, 0))) ∧ Aside0 (wc.heap[gb645]? = some (.cells #[.int .i64 (wrap64 (1 + (wrap64 (Int.tmod (IntKind.u64.wrap (a0_0)) 6)))), u646001, u646002] 58 (0, 0))) ∧ Aside0 (Below w.heap.size w wc))
        case first =>
         have H := HC72.out
         clear HC72
         by_cases c73 : x6_3 < (l0_2.length : Int)
         ·rw [if_pos c73] at H
          have c73b0 : decide (x6_3 < (l0_2.length : Int)) = true := decide_eq_true c73
          clear c73
          (first | rw [c73b0] | (simp only [i64_w, i32_w]; rw [c73b0]) | skip)
          have H' := Aside0.mk H
          clear H
          have hnb74 := NB643_644.out
          have hnc74 := NB644_643.out
          have hnb75 := NB643_645.out
          have hnc75 := NB645_643.out
          have hcz76_0 : wr.cell? ⟨gb643, 0, none⟩ = some (.int .i64 a0_0) := (blk_cell BK643.out 0).trans rfl
          have hcz76_1 : wr.cell? ⟨gb643, 1, none⟩ = some (.slice A0_1 l0_1.length c0_1) := (blk_cell BK643.out 1).trans rfl
          have hcz76_2 : wr.cell? ⟨gb643, 2, none⟩ = some (.slice A0_2 l0_2.length c0_2) := (blk_cell BK643.out 2).trans rfl
          have hfz76_0 := blk_frozen BK643.out 0
          have hfz76_1 := blk_frozen BK643.out 1
          have hfz76_2 := blk_frozen BK643.out 2
          go_wp2
          go_meet
          case rel => exact ⟨_, (decide (x6_3 < 8)), (by first | rfl | (simp; done) | (simp [*]; done)), H', ⟨by have := HK1.out; have := HJ9.out; have := HK3.out; first | omega | exact Nat.le_refl _⟩, ⟨rn HO_646001⟩, ⟨rn HO_646002⟩, ⟨bk BK643⟩, ⟨bk BK644⟩, ⟨bk BK645⟩, ⟨bn3 HB GE643 GE644 GE645⟩⟩
         ·rw [if_neg c73] at H
          have c73b0 : decide (x6_3 < (l0_2.length : Int)) = false := decide_eq_false c73
          clear c73
          (first | rw [c73b0] | (simp only [i64_w, i32_w]; rw [c73b0]) | skip)
          have H' := Aside0.mk H
          clear H
          have hnb77 := NB643_644.out
          have hnc77 := NB644_643.out
          have hnb78 := NB643_645.out
          have hnc78 := NB645_643.out
          have hcz79_0 : wr.cell? ⟨gb643, 0, none⟩ = some (.int .i64 a0_0) := (blk_cell BK643.out 0).trans rfl
          have hcz79_1 : wr.cell? ⟨gb643, 1, none⟩ = some (.slice A0_1 l0_1.length c0_1) := (blk_cell BK643.out 1).trans rfl
          have hcz79_2 : wr.cell? ⟨gb643, 2, none⟩ = some (.slice A0_2 l0_2.length c0_2) := (blk_cell BK643.out 2).trans rfl
          have hfz79_0 := blk_frozen BK643.out 0
          have hfz79_1 := blk_frozen BK643.out 1
          have hfz79_2 := blk_frozen BK643.out 2
          go_wp2
          go_meet
          case rel => exact ⟨_, (false), (by first | rfl | (simp; done) | (simp [*]; done)), H', ⟨by have := HK1.out; have := HJ9.out; have := HK3.out; first | omega | exact Nat.le_refl _⟩, ⟨rn HO_646001⟩, ⟨rn HO_646002⟩, ⟨bk BK643⟩, ⟨bk BK644⟩, ⟨bk BK645⟩, ⟨bn3 HB GE643 GE644 GE645⟩⟩
        case rest =>
         clear HC72
         (try clear c1); (try clear c2); (try clear p2); (try clear c4); (try clear c5); (try clear c6); (try clear p6); (try clear q6); (try clear hx6); (try clear c7); (try clear c18); (try clear c19); (try clear c20); (try clear c22); (try clear c22b0); (try clear c40); (try clear c46); (try clear c47)
         (try clear c48); (try clear c50); (try clear c51); (try clear c56); (try clear c62); (try clear c63); (try clear c64); (try clear p64); (try clear q64); (try clear hx64); (try clear c66); (try clear c67); (try clear c73); (try clear c73b0); (try clear c74); (try clear c75); (try clear c77); (try clear c78)
         (try clear hcz49_0); (try clear hcz49_1); (try clear hcz49_2); (try clear hcz52_0); (try clear hcz52_1); (try clear hcz52_2); (try clear hcz55_0); (try clear hcz55_1); (try clear hcz55_2); (try clear hcz65_0); (try clear hcz65_1); (try clear hcz65_2); (try clear hcz68_0); (try clear hcz68_1)
         (try clear hcz68_2); (try clear hcz71_0); (try clear hcz71_1); (try clear hcz71_2); (try clear hcz76_0); (try clear hcz76_1); (try clear hcz76_2); (try clear hcz79_0); (try clear hcz79_1); (try clear hcz79_2); (try clear hfz49_0); (try clear hfz49_1); (try clear hfz49_2); (try clear hfz52_0)
         (try clear hfz52_1); (try clear hfz52_2); (try clear hfz55_0); (try clear hfz55_1); (try clear hfz55_2); (try clear hfz65_0); (try clear hfz65_1); (try clear hfz65_2); (try clear hfz68_0); (try clear hfz68_1); (try clear hfz68_2); (try clear hfz71_0); (try clear hfz71_1); (try clear hfz71_2)
         (try clear hfz76_0); (try clear hfz76_1); (try clear hfz76_2); (try clear hfz79_0); (try clear hfz79_1); (try clear hfz79_2); (try clear hx646_0); (try clear hx646_1); (try clear hx646_2); (try clear hx647_0); (try clear hx647_1); (try clear hx647_2); (try clear hx648_0); (try clear hx648_1)
         (try clear hx648_2); (try clear p2); (try clear p6); (try clear p64); (try clear p646); (try clear p647); (try clear p648); (try clear q6); (try clear q64); (try clear q646); (try clear q647); (try clear q648)
         obtain ⟨kq, x84_71, rfl, HA, HJ71, HO_646001, HO_646002, BK643, BK644, BK645, HB⟩ := hcut
         cases kq with
         | zero => exact absurd HA.out (by simp [marchlandref05_Fix.j3])
         | succ kj71 =>
          have H := HA.out
          clear HA
          simp only [marchlandref05_Fix.j3] at H
          by_cases c80 : x84_71 = true
          ·subst c80
           have H1 : (if 0 ≤ x6_3 then (if x6_3 < (l0_2.length : Int) then (if (IntKind.u64.wrap ((wrap64 (1 + (wrap64 (Int.tmod (IntKind.u64.wrap (a0_0)) 6)))))) = 0 then (none) else (marchlandref05_Fix.l2 kj71 x6_3 (wrap64 (Int.tmod (IntKind.u64.wrap (rd l0_2 x6_3)) (IntKind.u64.wrap ((wrap64 (1 + (wrap64 (Int.tmod (IntKind.u64.wrap (a0_0)) 6)))))))) false 0 a0_0 l0_1 l0_2 (wrap64 (1 + (wrap64 (Int.tmod (IntKind.u64.wrap (a0_0)) 6)))) x646001_1 x646002_3)) else (none)) else (none)) = some (r1, r2, r3) := by rw [if_pos rfl] at H; exact H
           clear H
           have H := H1
           clear H1
           by_cases c81 : 0 ≤ x6_3
           ·rw [if_pos c81] at H
            have c81b0 : decide (0 ≤ x6_3) = true := decide_eq_true c81
            clear c81
            by_cases c82 : x6_3 < (l0_2.length : Int)
            ·rw [if_pos c82] at H
             have c82b0 : decide (x6_3 < (l0_2.length : Int)) = true := decide_eq_true c82
             clear c82
             by_cases c83 : (IntKind.u64.wrap ((wrap64 (1 + (wrap64 (Int.tmod (IntKind.u64.wrap (a0_0)) 6)))))) = 0
             ·rw [if_pos c83] at H
              exact absurd H (by simp)
             ·rw [if_neg c83] at H
              have c83b0 : ((IntKind.u64.wrap ((wrap64 (1 + (wrap64 (Int.tmod (IntKind.u64.wrap (a0_0)) 6)))))) == 0) = false := beq_eq_false_iff_ne.mpr c83
              have c83b1 : ((IntKind.u64.wrap ((wrap64 (1 + (wrap64 (Int.tmod (IntKind.u64.wrap (a0_0)) 6)))))) != 0) = true := bne_iff_ne.mpr c83
              have H' := Aside0.mk H
              clear H
              try go_wp2
              have n0_ := Aside0.mk (Kd.R_drew HO_646001.out)
              have n1_ := Aside0.mk (Kd.R_drew HO_646002.out)
              have n2_ := Aside0.mk (blk_drew BK643.out)
              have n3_ := Aside0.mk (blk_drew BK644.out)
              have n4_ := Aside0.mk (blk_drew BK645.out)
              have n5_ := Aside0.mk (below_drew1 HB.out)
              clear HO_646001
              clear HO_646002
              clear BK643
              clear BK644
              clear BK645
              clear HB
              have HO_646001 := n0_
              have HO_646002 := n1_
              have BK643 := n2_
              have BK644 := n3_
              have BK645 := n4_
              have HB := n5_
              clear n0_ n1_ n2_ n3_ n4_ n5_
              have p662 : 0 ≤ (x6_3 : Int) := of_decide_eq_true (by assumption)
              have q662 : x6_3 < (l0_2.length : Int) := of_decide_eq_true (by assumption)
              obtain ⟨ad662, e662, hx662_0⟩ := Kd.at_int HR0_2.out x6_3 p662 q662
              have hw662_0 := hx662_0
              cases e662
              replace hx662_0 := ct HB hx662_0
              replace p662 := eq_true p662
              replace q662 := eq_true q662
              refine start_ (n := 12) (S := fun w' => w'.cell? ⟨gb643, 0, none⟩ = some (.int .i64 a0_0) ∧ w'.cell? ⟨gb643, 1, none⟩ = some (.slice A0_1 l0_1.length c0_1) ∧ w'.cell? ⟨gb643, 2, none⟩ = some (.slice (some ad662) l0_2.length c0_2) ∧ w'.cell? ⟨gb645, 0, none⟩ = some (.int .i64 (wrap64 (1 + (wrap64 (Int.tmod (IntKind.u64.wrap (a0_0)) 6))))) ∧ w'.cell? ⟨gb645, 1, none⟩ = some (u646001) ∧ w'.cell? ⟨gb645, 2, none⟩ = some (u646002) ∧ w'.cell? (ad662.add (x6_3).toNat) = some (.int .i64 (rd l0_2 x6_3))) (ds := []) (mk_ 0 12) (by kernel_rfl) rfl rfl ⟨(blk_cell BK643.out 0).trans rfl, (blk_cell BK643.out 1).trans rfl, (blk_cell BK643.out 2).trans rfl, (blk_cell BK645.out 0).trans rfl, (blk_cell BK645.out 1).trans rfl, (blk_cell BK645.out 2).trans rfl, (ct HB hw662_0)⟩ (fun hHeld => ?_); refine with_tabW marchlandref05_Fix.tab12 marchlandref05_Fix.bits12 (fun HT_ HW_ => ?_)
              generalize wc.drew = w84 at HO_646001 HO_646002 BK643 BK644 BK645 HB hx662_0 hHeld ⊢
              refine pv_ 0 87 (mk_ 1 11) HT_ ?_
              refine pv_ 2 89 #[true, false, true, false, false, false, false, false, false, false, false, false] HT_ ?_
              refine pv_ 6 93 #[true, false, true, false, false, false, true, false, false, false, false, false] HT_ ?_
              refine tv_ 1 88 #[true, true, true, false, false, false, true, false, false, false, false, false] HT_ HW_ hHeld (hy := by rintro w' ⟨s0, s1, s2, s3, s4, s5, s6⟩; go_simp; with_reducible rfl) (h := ?_)
              refine pv_ 3 90 #[true, true, true, true, false, false, true, false, false, false, false, false] HT_ ?_
              refine tv_ 4 91 #[true, true, true, true, true, false, true, false, false, false, false, false] HT_ HW_ hHeld (hy := by rintro w' ⟨s0, s1, s2, s3, s4, s5, s6⟩; go_simp; with_reducible rfl) (h := ?_)
              refine pv_ 5 92 (mk_ 7 5) HT_ ?_
              refine tv_ 7 94 (mk_ 8 4) HT_ HW_ hHeld (hy := by rintro w' ⟨s0, s1, s2, s3, s4, s5, s6⟩; go_simp; with_reducible rfl) (h := ?_)
              refine pv_ 8 95 (mk_ 9 3) HT_ ?_
              refine pv_ 9 96 (mk_ 10 2) HT_ ?_
              refine pv_ 10 97 (mk_ 11 1) HT_ ?_
              refine pv_ 11 7 (mk_ 12 0) HT_ ?_
              refine done_ (done_of HT_.out (by kernel_rfl)) ?_
              try go_wp2
              go_loopg [8, 9] kj71 (fun kq v8 v9 w' => ∃ (x8_5 : Bool) (x9_5 : Int), v8 = .bool x8_5 ∧ v9 = .int .i64 x9_5 ∧ Aside0 (marchlandref05_Fix.l2 kq x6_3 (wrap64 (Int.tmod (IntKind.u64.wrap (rd l0_2 x6_3)) (IntKind.u64.wrap ((wrap64 (1 + (wrap64 (Int.tmod (IntKind.u64.wrap (a0_0)) 6)))))))) x8_5 x9_5 a0_0 l0_1 l0_2 (wrap64 (1 + (wrap64 (Int.tmod (IntKind.u64.wrap (a0_0)) 6)))) x646001_1 x646002_3 = some (r1, r2, r3)) ∧ Aside0 (kq ≤ kj71) ∧ Aside0 (Kd.R k90 90 w' w.heap.size (fun _ => True) u646001 x646001_1) ∧ Aside0 (Kd.R (Kd.int .i64) 3 w' w.heap.size (fun _ => True) u646002 x646002_3) ∧ Aside0 (w'.heap[gb643]? = some (.cells #[.int .i64 a0_0, (.slice A0_1 l0_1.length c0_1), (.slice (some ad662) l0_2.length c0_2)] 58 (0, 0))) ∧ Aside0 (w'.heap[gb644]? = some (.cells #[.int .i64 0, (.slice none 0 0), (.slice none 0 0)] 58 (0, 0))) ∧ Aside0 (w'.heap[gb645]? = some (.cells #[.int .i64 (wrap64 (1 + (wrap64 (Int.tmod (IntKind.u64.wrap (a0_0)) 6)))), u646001, u646002] 58 (0, 0))) ∧ Aside0 (Below w.heap.size w w'))
              case atStart => exact ⟨(false), (0), (by first | rfl | (simp; done) | (simp [*]; done)), (by first | rfl | (simp; done) | (simp [*]; done)), H', ⟨Nat.le_refl _⟩, ⟨rn HO_646001⟩, ⟨rn HO_646002⟩, ⟨bk BK643⟩, ⟨bk BK644⟩, ⟨bk BK645⟩, ⟨bn3 HB GE643 GE644 GE645⟩⟩
              case round =>
               clear H'
               (try clear c1); (try clear c2); (try clear p2); (try clear c4); (try clear c5); (try clear c6); (try clear p6); (try clear q6); (try clear hx6); (try clear c7); (try clear c8); (try clear c18); (try clear c19); (try clear c20); (try clear c22); (try clear c22b0); (try clear c40); (try clear c46)
               (try clear c47); (try clear c48); (try clear c50); (try clear c51); (try clear c56); (try clear c62); (try clear c63); (try clear c64); (try clear p64); (try clear q64); (try clear hx64); (try clear c66); (try clear p66); (try clear q66); (try clear hx66); (try clear c67); (try clear c73)
               (try clear c73b0); (try clear c74); (try clear c75); (try clear c77); (try clear c78); (try clear c80); (try clear c81); (try clear c81b0); (try clear c82); (try clear c82b0); (try clear c83); (try clear c83b0); (try clear c83b1); (try clear hcz49_0); (try clear hcz49_1); (try clear hcz49_2)
               (try clear hcz52_0); (try clear hcz52_1); (try clear hcz52_2); (try clear hcz55_0); (try clear hcz55_1); (try clear hcz55_2); (try clear hcz65_0); (try clear hcz65_1); (try clear hcz65_2); (try clear hcz68_0); (try clear hcz68_1); (try clear hcz68_2); (try clear hcz71_0); (try clear hcz71_1)
               (try clear hcz71_2); (try clear hcz76_0); (try clear hcz76_1); (try clear hcz76_2); (try clear hcz79_0); (try clear hcz79_1); (try clear hcz79_2); (try clear hfz49_0); (try clear hfz49_1); (try clear hfz49_2); (try clear hfz52_0); (try clear hfz52_1); (try clear hfz52_2); (try clear hfz55_0)
               (try clear hfz55_1); (try clear hfz55_2); (try clear hfz65_0); (try clear hfz65_1); (try clear hfz65_2); (try clear hfz68_0); (try clear hfz68_1); (try clear hfz68_2); (try clear hfz71_0); (try clear hfz71_1); (try clear hfz71_2); (try clear hfz76_0); (try clear hfz76_1); (try clear hfz76_2)
               (try clear hfz79_0); (try clear hfz79_1); (try clear hfz79_2); (try clear hx646_0); (try clear hx646_1); (try clear hx646_2); (try clear hx647_0); (try clear hx647_1); (try clear hx647_2); (try clear hx648_0); (try clear hx648_1); (try clear hx648_2); (try clear hx662_0); (try clear p2)
               (try clear p6); (try clear p64); (try clear p646); (try clear p647); (try clear p648); (try clear p662); (try clear q6); (try clear q64); (try clear q646); (try clear q647); (try clear q648); (try clear q662)
               obtain ⟨x8_5, x9_5, rfl, rfl, HA, HK5, HO_646001, HO_646002, BK643, BK644, BK645, HB⟩ := hrel
               cases gk with
               | zero => exact absurd HA.out (by simp [marchlandref05_Fix.l2])
               | succ k5 =>
                have H := HA.out
                clear HA
                simp only [marchlandref05_Fix.l2] at H
                by_cases c85 : x9_5 < (x646002_3.length : Int)
                ·rw [if_pos c85] at H
                 have c85b0 : decide (x9_5 < (x646002_3.length : Int)) = true := decide_eq_true c85
                 clear c85
                 by_cases c86 : x8_5 = true
                 ·subst c86
                  have H1 : (marchlandref05_Fix.l2 k5 x6_3 (wrap64 (Int.tmod (IntKind.u64.wrap (rd l0_2 x6_3)) (IntKind.u64.wrap ((wrap64 (1 + (wrap64 (Int.tmod (IntKind.u64.wrap (a0_0)) 6)))))))) true (wrap64 (x9_5 + 1)) a0_0 l0_1 l0_2 (wrap64 (1 + (wrap64 (Int.tmod (IntKind.u64.wrap (a0_0)) 6)))) x646001_1 x646002_3) = some (r1, r2, r3) := by rw [if_pos rfl] at H; exact H
                  clear H
                  have H := H1
                  clear H1
                  have H' := Aside0.mk H
                  clear H
                  have hnb87 := NB645_643.out
                  have hnc87 := NB643_645.out
                  have hnb88 := NB645_644.out
                  have hnc88 := NB644_645.out
                  have hcz89_0 : wr.cell? ⟨gb645, 0, none⟩ = some (.int .i64 (wrap64 (1 + (wrap64 (Int.tmod (IntKind.u64.wrap (a0_0)) 6))))) := (blk_cell BK645.out 0).trans rfl
                  have hcz89_1 : wr.cell? ⟨gb645, 1, none⟩ = some (u646001) := (blk_cell BK645.out 1).trans rfl
                  have hcz89_2 : wr.cell? ⟨gb645, 2, none⟩ = some (u646002) := (blk_cell BK645.out 2).trans rfl
                  have hfz89_0 := blk_frozen BK645.out 0
                  have hfz89_1 := blk_frozen BK645.out 1
                  have hfz89_2 := blk_frozen BK645.out 2
                  obtain ⟨Ao90, co90, eo90⟩ := Kd.R_slice HO_646002.out
                  subst eo90
                  go_wp2
                  go_roundg k5
                  case measure => have := HK1.out; have := HJ9.out; have := HK3.out; have := HJ71.out; have := HK5.out; omega
                  case rel => exact ⟨(true), (wrap64 (x9_5 + 1)), (by first | rfl | (simp; done) | (simp [*]; done)), (by first | rfl | (simp; done) | (simp [*]; done)), H', ⟨by have := HK1.out; have := HJ9.out; have := HK3.out; have := HJ71.out; have := HK5.out; omega⟩, ⟨rn HO_646001⟩, ⟨rn HO_646002⟩, ⟨bk BK643⟩, ⟨bk BK644⟩, ⟨bk BK645⟩, ⟨bn3 HB GE643 GE644 GE645⟩⟩
                 ·replace c86 := Bool.eq_false_iff.mpr c86
                  subst c86
                  have H1 : (if 0 ≤ x9_5 then (marchlandref05_Fix.l2 k5 x6_3 (wrap64 (Int.tmod (IntKind.u64.wrap (rd l0_2 x6_3)) (IntKind.u64.wrap ((wrap64 (1 + (wrap64 (Int.tmod (IntKind.u64.wrap (a0_0)) 6)))))))) ((rd x646002_3 x9_5) == (wrap64 (Int.tmod (IntKind.u64.wrap (rd l0_2 x6_3)) (IntKind.u64.wrap ((wrap64 (1 + (wrap64 (Int.tmod (IntKind.u64.wrap (a0_0)) 6))))))))) (wrap64 (x9_5 + 1)) a0_0 l0_1 l0_2 (wrap64 (1 + (wrap64 (Int.tmod (IntKind.u64.wrap (a0_0)) 6)))) x646001_1 x646002_3) else (none)) = some (r1, r2, r3) := by rw [if_neg (show ¬ (false = true) by decide)] at H; exact H
                  clear H
                  have H := H1
                  clear H1
                  by_cases c91 : 0 ≤ x9_5
                  ·rw [if_pos c91] at H
                   have c91b0 : decide (0 ≤ x9_5) = true := decide_eq_true c91
                   clear c91
                   have H' := Aside0.mk H
                   clear H
                   have hnb92 := NB645_643.out
                   have hnc92 := NB643_645.out
                   have hnb93 := NB645_644.out
                   have hnc93 := NB644_645.out
                   have hcz94_0 : wr.cell? ⟨gb645, 0, none⟩ = some (.int .i64 (wrap64 (1 + (wrap64 (Int.tmod (IntKind.u64.wrap (a0_0)) 6))))) := (blk_cell BK645.out 0).trans rfl
                   have hcz94_1 : wr.cell? ⟨gb645, 1, none⟩ = some (u646001) := (blk_cell BK645.out 1).trans rfl
                   have hcz94_2 : wr.cell? ⟨gb645, 2, none⟩ = some (u646002) := (blk_cell BK645.out 2).trans rfl
                   have hfz94_0 := blk_frozen BK645.out 0
                   have hfz94_1 := blk_frozen BK645.out 1
                   have hfz94_2 := blk_frozen BK645.out 2
                   obtain ⟨Ao95, co95, eo95⟩ := Kd.R_slice HO_646002.out
                   subst eo95
                   have p663 : 0 ≤ (x9_5 : Int) := of_decide_eq_true (by assumption)
                   have q663 : x9_5 < (x646002_3.length : Int) := of_decide_eq_true (by assumption)
                   obtain ⟨ad663, e663, hx663_0⟩ := Kd.at_int (Kd.R_reads' HO_646002.out).2.2 x9_5 p663 q663
                   cases e663
                   replace p663 := eq_true p663
                   replace q663 := eq_true q663
                   go_wp2
                   go_roundg k5
                   case measure => have := HK1.out; have := HJ9.out; have := HK3.out; have := HJ71.out; have := HK5.out; omega
                   case rel => exact ⟨(((rd x646002_3 x9_5) == (wrap64 (Int.tmod (IntKind.u64.wrap (rd l0_2 x6_3)) (IntKind.u64.wrap ((wrap64 (1 + (wrap64 (Int.tmod (IntKind.u64.wrap (a0_0)) 6)))))))))), (wrap64 (x9_5 + 1)), (by first | rfl | (simp; done) | (simp [*]; done)), (by first | rfl | (simp; done) | (simp [*]; done)), H', ⟨by have := HK1.out; have := HJ9.out; have := HK3.out; have := HJ71.out; have := HK5.out; omega⟩, ⟨rn HO_646001⟩, ⟨rn HO_646002⟩, ⟨bk BK643⟩, ⟨bk BK644⟩, ⟨bk BK645⟩, ⟨bn3 HB GE643 GE644 GE645⟩⟩
                  ·rw [if_neg c91] at H
                   exact absurd H (by simp)
                ·rw [if_neg c85] at H
                 have c85b0 : decide (x9_5 < (x646002_3.length : Int)) = false := decide_eq_false c85
                 clear c85
                 by_cases c96 : x8_5 = true
                 ·subst c96
                  have H1 : (marchlandref05_Fix.l1 k5 (wrap64 (x6_3 + 1)) a0_0 l0_1 l0_2 (wrap64 (1 + (wrap64 (Int.tmod (IntKind.u64.wrap (a0_0)) 6)))) x646001_1 x646002_3) = some (r1, r2, r3) := by rw [if_pos rfl] at H; exact H
                  clear H
                  have H := H1
                  clear H1
                  have H' := Aside0.mk H
                  clear H
                  have hnb97 := NB645_643.out
                  have hnc97 := NB643_645.out
                  have hnb98 := NB645_644.out
                  have hnc98 := NB644_645.out
                  have hcz99_0 : wr.cell? ⟨gb645, 0, none⟩ = some (.int .i64 (wrap64 (1 + (wrap64 (Int.tmod (IntKind.u64.wrap (a0_0)) 6))))) := (blk_cell BK645.out 0).trans rfl
                  have hcz99_1 : wr.cell? ⟨gb645, 1, none⟩ = some (u646001) := (blk_cell BK645.out 1).trans rfl
                  have hcz99_2 : wr.cell? ⟨gb645, 2, none⟩ = some (u646002) := (blk_cell BK645.out 2).trans rfl
                  have hfz99_0 := blk_frozen BK645.out 0
                  have hfz99_1 := blk_frozen BK645.out 1
                  have hfz99_2 := blk_frozen BK645.out 2
                  obtain ⟨Ao100, co100, eo100⟩ := Kd.R_slice HO_646002.out
                  subst eo100
                  go_wp2
                  go_roundg k5
                  case measure => have := HK1.out; have := HJ9.out; have := HK3.out; have := HJ71.out; have := HK5.out; omega
                  case rel => exact ⟨(wrap64 (x6_3 + 1)), (x646002_3), (.slice Ao100 x646002_3.length co100), (by first | rfl | (simp; done) | (simp [*]; done)), H', ⟨by have := HK1.out; have := HJ9.out; have := HK3.out; have := HJ71.out; have := HK5.out; omega⟩, ⟨rn HO_646001⟩, ⟨rn HO_646002⟩, ⟨bk BK643⟩, ⟨bk BK644⟩, ⟨bk BK645⟩, ⟨bn3 HB GE643 GE644 GE645⟩⟩
                 ·replace c96 := Bool.eq_false_iff.mpr c96
                  subst c96
                  have H1 : (if x646002_3.length < 17592186044416 then (marchlandref05_Fix.l1 k5 (wrap64 (x6_3 + 1)) a0_0 l0_1 l0_2 (wrap64 (1 + (wrap64 (Int.tmod (IntKind.u64.wrap (a0_0)) 6)))) x646001_1 (x646002_3 ++ [(wrap64 (Int.tmod (IntKind.u64.wrap (rd l0_2 x6_3)) (IntKind.u64.wrap ((wrap64 (1 + (wrap64 (Int.tmod (IntKind.u64.wrap (a0_0)) 6))))))))])) else (none)) = some (r1, r2, r3) := by rw [if_neg (show ¬ (false = true) by decide)] at H; exact H
                  clear H
                  have H := H1
                  clear H1
                  by_cases c101 : x646002_3.length < 17592186044416
                  ·rw [if_pos c101] at H
                   have LMc101 := Aside0.mk c101
                   clear c101
                   obtain ⟨y664, hy664⟩ : ∃ y_ : List Int, y_ = (x646002_3 ++ [(wrap64 (Int.tmod (IntKind.u64.wrap (rd l0_2 x6_3)) (IntKind.u64.wrap ((wrap64 (1 + (wrap64 (Int.tmod (IntKind.u64.wrap (a0_0)) 6))))))))]) := ⟨_, rfl⟩
                   replace H : (marchlandref05_Fix.l1 k5 (wrap64 (x6_3 + 1)) a0_0 l0_1 l0_2 (wrap64 (1 + (wrap64 (Int.tmod (IntKind.u64.wrap (a0_0)) 6)))) x646001_1 y664) = some (r1, r2, r3) := by first | (rw [hy664]; with_reducible exact H) | (have H2_ := (Option.bind_some _ _).symm.trans H; rw [hy664]; with_reducible exact H2_) | (have H2_ := (Option.bind_some _ _).symm.trans H; with_reducible exact H2_) | with_reducible exact H | (rw [hy664]; exact H) | exact H
                   have Ny664 := Aside0.mk hy664
                   clear hy664
                   have H' := Aside0.mk H
                   clear H
                   have hnb102 := NB645_643.out
                   have hnc102 := NB643_645.out
                   have hnb103 := NB645_644.out
                   have hnc103 := NB644_645.out
                   have hcz104_0 : wr.cell? ⟨gb645, 0, none⟩ = some (.int .i64 (wrap64 (1 + (wrap64 (Int.tmod (IntKind.u64.wrap (a0_0)) 6))))) := (blk_cell BK645.out 0).trans rfl
                   have hcz104_1 : wr.cell? ⟨gb645, 1, none⟩ = some (u646001) := (blk_cell BK645.out 1).trans rfl
                   have hcz104_2 : wr.cell? ⟨gb645, 2, none⟩ = some (u646002) := (blk_cell BK645.out 2).trans rfl
                   have hfz104_0 := blk_frozen BK645.out 0
                   have hfz104_1 := blk_frozen BK645.out 1
                   have hfz104_2 := blk_frozen BK645.out 2
                   obtain ⟨Ao105, co105, eo105⟩ := Kd.R_slice HO_646002.out
                   subst eo105
                   go_wp2_with (first | ((with_reducible refine gate_builtin (b := .append) (xs := #[.tmp 118, .tmp 120]) rfl ?_); at_builtin; refine Kd.R_append (Kd.int .i64) (w0 := w) w.heap.size rfl (.tmp 118) (.tmp 120) 56 3 (.int .i64 0) 8 rfl Try.underlying56 info3 rfl (by decide) (by omega) (.slice Ao105 x646002_3.length co105) x646002_3 (wrap64 (Int.tmod (IntKind.u64.wrap (rd l0_2 x6_3)) (IntKind.u64.wrap ((wrap64 (1 + (wrap64 (Int.tmod (IntKind.u64.wrap (a0_0)) 6)))))))) [.int .i64 (wrap64 (Int.tmod (IntKind.u64.wrap (rd l0_2 x6_3)) (IntKind.u64.wrap ((wrap64 (1 + (wrap64 (Int.tmod (IntKind.u64.wrap (a0_0)) 6))))))))] (fun _ => True) (fun _ => False) rfl rfl ?aP (fun _ hk => hk.elim) ?aF ?aO ?aB ?aS ?aL ?_; (case aP => exact rfl); (case aB => exact (bn3 HB GE643 GE644 GE645)); (case aF => exact (fun _ _ => trivial)); (case aO => exact (rn HO_646002)); (case aS => exact (below_size (bn3 HB GE643 GE644 GE645))); (case aL => have := LMc101.out; omega); intro v665 w106 ho hb hg hat; rw [← Ny664.out] at ho; have n0_ := Aside0.mk (Kd.R_over' (rn HO_646001) (Kd.R_typed (rn HO_646002)) (by decide) hg); have n1_ := Aside0.mk (blk_grown (g := gb643) (o := .cells #[.int .i64 a0_0, .slice A0_1 l0_1.length c0_1, .slice (some ad662) l0_2.length c0_2] 58 (0, 0)) (bk BK643) hg (Kd.R_ne HO_646002.out BK643.out (by decide))); have n2_ := Aside0.mk (blk_grown (g := gb644) (o := .cells #[.int .i64 0, .slice none 0 0, .slice none 0 0] 58 (0, 0)) (bk BK644) hg (Kd.R_ne HO_646002.out BK644.out (by decide))); have n3_ := Aside0.mk (blk_grown (g := gb645) (o := .cells #[.int .i64 (wrap64 (1 + (wrap64 (Int.tmod (IntKind.u64.wrap (a0_0)) 6)))), u646001, .slice Ao105 x646002_3.length co105] 58 (0, 0)) (bk BK645) hg (Kd.R_ne HO_646002.out BK645.out (by decide))); have n4_ := Aside0.mk (hb); have n5_ := Aside0.mk (ho); clear HO_646001; clear BK643; clear BK644; clear BK645; clear HB; clear HO_646002; have HO_646001 := n0_; have BK643 := n1_; have BK644 := n2_; have BK645 := n3_; have HB := n4_; have HO666 := n5_; clear n0_ n1_ n2_ n3_ n4_ n5_; clear ho hb hg hat; obtain ⟨Ao107, co107, eo107⟩ := Kd.R_slice HO666.out; subst eo107; have hcz108_0 : w106.cell? ⟨gb645, 0, none⟩ = some (.int .i64 (wrap64 (1 + (wrap64 (Int.tmod (IntKind.u64.wrap (a0_0)) 6))))) := (blk_cell BK645.out 0).trans rfl; have hcz108_1 : w106.cell? ⟨gb645, 1, none⟩ = some (u646001) := (blk_cell BK645.out 1).trans rfl; have hcz108_2 : w106.cell? ⟨gb645, 2, none⟩ = some (.slice Ao105 x646002_3.length co105) := (blk_cell BK645.out 2).trans rfl; have hfz108_0 := blk_frozen BK645.out 0; have hfz108_1 := blk_frozen BK645.out 1; have hfz108_2 := blk_frozen BK645.out 2))
                   go_roundg k5
                   case measure => have := HK1.out; have := HJ9.out; have := HK3.out; have := HJ71.out; have := HK5.out; omega
                   case rel => exact ⟨(wrap64 (x6_3 + 1)), (y664), (.slice Ao107 y664.length co107), (by first | rfl | (simp; done) | (simp [*]; done)), H', ⟨by have := HK1.out; have := HJ9.out; have := HK3.out; have := HJ71.out; have := HK5.out; omega⟩, ⟨by (with_reducible repeat (first | apply Kd.R_alloc | apply Kd.R_drewN | apply Kd.R_drew)); exact Kd.R_mono (Kd.R_far (p := ⟨gb645, 2, none⟩) (Kd.R_types HO_646001.out BK645.out (by decide)) (fun _ hk => hk.2) (.slice Ao107 y664.length co107)) (fun _ hk => trivial)⟩, ⟨by (with_reducible repeat (first | apply Kd.R_alloc | apply Kd.R_drewN | apply Kd.R_drew)); exact Kd.R_mono (Kd.R_far (p := ⟨gb645, 2, none⟩) (Kd.R_types HO666.out BK645.out (by decide)) (fun _ hk => hk.2) (.slice Ao107 y664.length co107)) (fun _ hk => trivial)⟩, ⟨by (with_reducible repeat (first | refine blk_drewN ?_ _ | refine blk_drew ?_ | refine blk_alloc ?_ _)); refine blk_far ?_ NB643_645.out _; (with_reducible repeat (first | refine blk_drewN ?_ _ | refine blk_drew ?_ | refine blk_alloc ?_ _)); exact BK643.out⟩, ⟨by (with_reducible repeat (first | refine blk_drewN ?_ _ | refine blk_drew ?_ | refine blk_alloc ?_ _)); refine blk_far ?_ NB644_645.out _; (with_reducible repeat (first | refine blk_drewN ?_ _ | refine blk_drew ?_ | refine blk_alloc ?_ _)); exact BK644.out⟩, ⟨by (with_reducible repeat (first | refine blk_drewN ?_ _ | refine blk_drew ?_ | refine blk_alloc ?_ _)); refine blk_put (cs := #[.int .i64 (wrap64 (1 + (wrap64 (Int.tmod (IntKind.u64.wrap (a0_0)) 6)))), u646001, .slice Ao105 x646002_3.length co105]) ?_ 2 _ rfl; (with_reducible repeat (first | refine blk_drewN ?_ _ | refine blk_drew ?_ | refine blk_alloc ?_ _)); exact BK645.out⟩, ⟨bn3 HB GE643 GE644 GE645⟩⟩
                  ·rw [if_neg c101] at H
                   exact absurd H (by simp)
            ·rw [if_neg c82] at H
             exact absurd H (by simp)
           ·rw [if_neg c81] at H
            exact absurd H (by simp)
          ·replace c80 := Bool.eq_false_iff.mpr c80
           subst c80
           have H1 : (if (x646002_3.length : Int) = 0 then (some ((wrap64 (1 + (wrap64 (Int.tmod (IntKind.u64.wrap (a0_0)) 6)))), x646001_1, (([0] : List Int)))) else (some ((wrap64 (1 + (wrap64 (Int.tmod (IntKind.u64.wrap (a0_0)) 6)))), x646001_1, x646002_3))) = some (r1, r2, r3) := by rw [if_neg (show ¬ (false = true) by decide)] at H; exact H
           clear H
           have H := H1
           clear H1
           by_cases c109 : (x646002_3.length : Int) = 0
           ·rw [if_pos c109] at H
            have c109b0 : ((x646002_3.length : Int) == 0) = true := beq_iff_eq.mpr c109
            have c109b1 : ((x646002_3.length : Int) != 0) = false := bne_eq_false_iff_eq.mpr c109
            clear c109
            obtain ⟨y659, hy659⟩ : ∃ y_ : List Int, y_ = (([0] : List Int)) := ⟨_, rfl⟩
            replace H : (some ((wrap64 (1 + (wrap64 (Int.tmod (IntKind.u64.wrap (a0_0)) 6)))), x646001_1, y659)) = some (r1, r2, r3) := by first | (rw [hy659]; with_reducible exact H) | (have H2_ := (Option.bind_some _ _).symm.trans H; rw [hy659]; with_reducible exact H2_) | (have H2_ := (Option.bind_some _ _).symm.trans H; with_reducible exact H2_) | with_reducible exact H | (rw [hy659]; exact H) | exact H
            have Ny659 := Aside0.mk hy659
            clear hy659
            simp only [Option.some.injEq, Prod.mk.injEq] at H
            obtain ⟨rfl, rfl, rfl⟩ := H
            have hnb110 := NB645_643.out
            have hnc110 := NB643_645.out
            have hnb111 := NB645_644.out
            have hnc111 := NB644_645.out
            have hcz112_0 : wc.cell? ⟨gb645, 0, none⟩ = some (.int .i64 (wrap64 (1 + (wrap64 (Int.tmod (IntKind.u64.wrap (a0_0)) 6))))) := (blk_cell BK645.out 0).trans rfl
            have hcz112_1 : wc.cell? ⟨gb645, 1, none⟩ = some (u646001) := (blk_cell BK645.out 1).trans rfl
            have hcz112_2 : wc.cell? ⟨gb645, 2, none⟩ = some (u646002) := (blk_cell BK645.out 2).trans rfl
            have hfz112_0 := blk_frozen BK645.out 0
            have hfz112_1 := blk_frozen BK645.out 1
            have hfz112_2 := blk_frozen BK645.out 2
            obtain ⟨Ao113, co113, eo113⟩ := Kd.R_slice HO_646002.out
            subst eo113
            go_wp2_with (first | ((with_reducible refine gate_dst (N := 127) rfl ?_); refine Kd.R_lit (Kd.int .i64) _ 3 ?hg (N := 127) ?hd (xs := ([0] : List Int)) (inner := [.int .i64 0]) (ok := fun _ => True) (okp := fun _ => True) ?hr ?hp (fun _ hk => hk) trivial (Below.refl _ _) (Nat.le_refl _) (by simp) ?_; (case hd => rfl); (case hg => rfl); (case hr => first | (go_simp; done) | (go_simp; rfl)); (case hp => exact (Reps.one (show Kd.M (Kd.int .i64) _ _ _ 0 [.int .i64 0] from rfl) (Reps.none _ _))); intro v660 w114 ho115 hb hg_ hnew_; clear hg_ hnew_; (first | rw [← Ny659.out] at ho115 | (simp only [Int.reduceToNat] at ho115; rw [← Ny659.out] at ho115)); have n2_ := Aside0.mk (Kd.R_lower (Kd.R_new' ho115 (Kd.R_lt (rn HO_646002))) (below_size (bn3 HB GE643 GE644 GE645))); have n3_ := Aside0.mk (bkb BK643 hb); have n4_ := Aside0.mk (bkb BK644 hb); have n5_ := Aside0.mk (blk_below (g := gb645) (o := .cells #[.int .i64 (wrap64 (1 + (wrap64 (Int.tmod (IntKind.u64.wrap (a0_0)) 6)))), u646001, .slice Ao113 x646002_3.length co113] 58 (0, 0)) (bk BK645) hb); have n6_ := Aside0.mk (below_step (bn3 HB GE643 GE644 GE645) hb); clear BK643; clear BK644; clear BK645; clear HB; replace HO_646001 := rb HO_646001 hb; replace HO_646002 := rl HO_646002 (Kd.R_base ho115) hb; have HO661 := n2_; have BK643 := n3_; have BK644 := n4_; have BK645 := n5_; have HB := n6_; clear n2_ n3_ n4_ n5_ n6_; clear hb ho115; obtain ⟨Ao116, co116, eo116⟩ := Kd.R_slice HO661.out; subst eo116; have hcz117_0 : w114.cell? ⟨gb645, 0, none⟩ = some (.int .i64 (wrap64 (1 + (wrap64 (Int.tmod (IntKind.u64.wrap (a0_0)) 6))))) := (blk_cell BK645.out 0).trans rfl; have hcz117_1 : w114.cell? ⟨gb645, 1, none⟩ = some (u646001) := (blk_cell BK645.out 1).trans rfl; have hcz117_2 : w114.cell? ⟨gb645, 2, none⟩ = some (.slice Ao113 x646002_3.length co113) := (blk_cell BK645.out 2).trans rfl; have hfz117_0 := blk_frozen BK645.out 0; have hfz117_1 := blk_frozen BK645.out 1; have hfz117_2 := blk_frozen BK645.out 2; have hnb118 := NB644_643.out; have hnc118 := NB643_644.out; have hcz119_0 : w114.cell? ⟨gb644, 0, none⟩ = some (.int .i64 0) := (blk_cell BK644.out 0).trans rfl; have hcz119_1 : w114.cell? ⟨gb644, 1, none⟩ = some (.slice none 0 0) := (blk_cell BK644.out 1).trans rfl; have hcz119_2 : w114.cell? ⟨gb644, 2, none⟩ = some (.slice none 0 0) := (blk_cell BK644.out 2).trans rfl; have hfz119_0 := blk_frozen BK644.out 0; have hfz119_1 := blk_frozen BK644.out 1; have hfz119_2 := blk_frozen BK644.out 2; obtain ⟨Ao120, co120, eo120⟩ := Kd.R_slice HO_646001.out; subst eo120))
            refine bodyPost_ret (results_cell_row rfl _ _ gb644 58 #[.int .i64 (wrap64 (1 + (wrap64 (Int.tmod (IntKind.u64.wrap (a0_0)) 6)))), .slice Ao120 x646001_1.length co120, .slice Ao116 y659.length co116] (0, 0) _ rfl (by (with_reducible repeat (first | refine blk_drewN ?_ _ | refine blk_drew ?_ | refine blk_alloc ?_ _)); refine blk_put (cs := #[.int .i64 (wrap64 (1 + (wrap64 (Int.tmod (IntKind.u64.wrap (a0_0)) 6)))), .slice Ao120 x646001_1.length co120, .slice none 0 0]) ?_ 2 _ rfl; (with_reducible repeat (first | refine blk_drewN ?_ _ | refine blk_drew ?_ | refine blk_alloc ?_ _)); refine blk_put (cs := #[.int .i64 (wrap64 (1 + (wrap64 (Int.tmod (IntKind.u64.wrap (a0_0)) 6)))), .slice none 0 0, .slice none 0 0]) ?_ 1 _ rfl; (with_reducible repeat (first | refine blk_drewN ?_ _ | refine blk_drew ?_ | refine blk_alloc ?_ _)); refine blk_put (cs := #[.int .i64 0, .slice none 0 0, .slice none 0 0]) ?_ 0 _ rfl; (with_reducible repeat (first | refine blk_drewN ?_ _ | refine blk_drew ?_ | refine blk_alloc ?_ _)); refine blk_far ?_ NB644_645.out _; (with_reducible repeat (first | refine blk_drewN ?_ _ | refine blk_drew ?_ | refine blk_alloc ?_ _)); exact BK644.out) Try.underlying58 rfl (by kernel_rfl)) rfl ?_
            exact ⟨_, _, by first | rfl | (simp [errW_none, errW_some] <;> rfl) | (simp [*, errW_none, errW_some] <;> rfl), by (with_reducible repeat (first | apply Kd.R_alloc | apply Kd.R_drewN | apply Kd.R_drew)); exact Kd.R_mono (Kd.R_far (p := ⟨gb644, 2, none⟩) (Kd.R_far (p := ⟨gb644, 1, none⟩) (Kd.R_far (p := ⟨gb644, 0, none⟩) (Kd.R_far (p := ⟨gb645, 2, none⟩) (Kd.R_types (Kd.R_types HO_646001.out BK645.out (by decide)) BK644.out (by decide)) (fun _ hk => hk.1.2) (.slice Ao116 y659.length co116)) (fun _ hk => hk.2) (.int .i64 (wrap64 (1 + (wrap64 (Int.tmod (IntKind.u64.wrap (a0_0)) 6)))))) (fun _ hk => hk.2) (.slice Ao120 x646001_1.length co120)) (fun _ hk => hk.2) (.slice Ao116 y659.length co116)) (fun _ hk => trivial), by (with_reducible repeat (first | apply Kd.R_alloc | apply Kd.R_drewN | apply Kd.R_drew)); exact Kd.R_mono (Kd.R_far (p := ⟨gb644, 2, none⟩) (Kd.R_far (p := ⟨gb644, 1, none⟩) (Kd.R_far (p := ⟨gb644, 0, none⟩) (Kd.R_far (p := ⟨gb645, 2, none⟩) (Kd.R_types (Kd.R_types HO661.out BK645.out (by decide)) BK644.out (by decide)) (fun _ hk => hk.1.2) (.slice Ao116 y659.length co116)) (fun _ hk => hk.2) (.int .i64 (wrap64 (1 + (wrap64 (Int.tmod (IntKind.u64.wrap (a0_0)) 6)))))) (fun _ hk => hk.2) (.slice Ao120 x646001_1.length co120)) (fun _ hk => hk.2) (.slice Ao116 y659.length co116)) (fun _ hk => trivial), bn3 HB GE643 GE644 GE645⟩
           ·rw [if_neg c109] at H
            have c109b0 : ((x646002_3.length : Int) == 0) = false := beq_eq_false_iff_ne.mpr c109
            have c109b1 : ((x646002_3.length : Int) != 0) = true := bne_iff_ne.mpr c109
            have c109b2 : ¬ (x646002_3 = []) := fun h_ => c109 (by rw [h_]; rfl)
            simp only [Option.some.injEq, Prod.mk.injEq] at H
            obtain ⟨rfl, rfl, rfl⟩ := H
            have hnb121 := NB645_643.out
            have hnc121 := NB643_645.out
            have hnb122 := NB645_644.out
            have hnc122 := NB644_645.out
            have hcz123_0 : wc.cell? ⟨gb645, 0, none⟩ = some (.int .i64 (wrap64 (1 + (wrap64 (Int.tmod (IntKind.u64.wrap (a0_0)) 6))))) := (blk_cell BK645.out 0).trans rfl
            have hcz123_1 : wc.cell? ⟨gb645, 1, none⟩ = some (u646001) := (blk_cell BK645.out 1).trans rfl
            have hcz123_2 : wc.cell? ⟨gb645, 2, none⟩ = some (u646002) := (blk_cell BK645.out 2).trans rfl
            have hfz123_0 := blk_frozen BK645.out 0
            have hfz123_1 := blk_frozen BK645.out 1
            have hfz123_2 := blk_frozen BK645.out 2
            obtain ⟨Ao124, co124, eo124⟩ := Kd.R_slice HO_646002.out
            subst eo124
            have hnb125 := NB644_643.out
            have hnc125 := NB643_644.out
            have hcz126_0 : wc.cell? ⟨gb644, 0, none⟩ = some (.int .i64 0) := (blk_cell BK644.out 0).trans rfl
            have hcz126_1 : wc.cell? ⟨gb644, 1, none⟩ = some (.slice none 0 0) := (blk_cell BK644.out 1).trans rfl
            have hcz126_2 : wc.cell? ⟨gb644, 2, none⟩ = some (.slice none 0 0) := (blk_cell BK644.out 2).trans rfl
            have hfz126_0 := blk_frozen BK644.out 0
            have hfz126_1 := blk_frozen BK644.out 1
            have hfz126_2 := blk_frozen BK644.out 2
            obtain ⟨Ao127, co127, eo127⟩ := Kd.R_slice HO_646001.out
            subst eo127
            go_wp2
            refine bodyPost_ret (results_cell_row rfl _ _ gb644 58 #[.int .i64 (wrap64 (1 + (wrap64 (Int.tmod (IntKind.u64.wrap (a0_0)) 6)))), .slice Ao127 x646001_1.length co127, .slice Ao124 x646002_3.length co124] (0, 0) _ rfl (by (with_reducible repeat (first | refine blk_drewN ?_ _ | refine blk_drew ?_ | refine blk_alloc ?_ _)); refine blk_put (cs := #[.int .i64 (wrap64 (1 + (wrap64 (Int.tmod (IntKind.u64.wrap (a0_0)) 6)))), .slice Ao127 x646001_1.length co127, .slice none 0 0]) ?_ 2 _ rfl; (with_reducible repeat (first | refine blk_drewN ?_ _ | refine blk_drew ?_ | refine blk_alloc ?_ _)); refine blk_put (cs := #[.int .i64 (wrap64 (1 + (wrap64 (Int.tmod (IntKind.u64.wrap (a0_0)) 6)))), .slice none 0 0, .slice none 0 0]) ?_ 1 _ rfl; (with_reducible repeat (first | refine blk_drewN ?_ _ | refine blk_drew ?_ | refine blk_alloc ?_ _)); refine blk_put (cs := #[.int .i64 0, .slice none 0 0, .slice none 0 0]) ?_ 0 _ rfl; (with_reducible repeat (first | refine blk_drewN ?_ _ | refine blk_drew ?_ | refine blk_alloc ?_ _)); exact BK644.out) Try.underlying58 rfl (by kernel_rfl)) rfl ?_
            exact ⟨_, _, by first | rfl | (simp [errW_none, errW_some] <;> rfl) | (simp [*, errW_none, errW_some] <;> rfl), by (with_reducible repeat (first | apply Kd.R_alloc | apply Kd.R_drewN | apply Kd.R_drew)); exact Kd.R_mono (Kd.R_far (p := ⟨gb644, 2, none⟩) (Kd.R_far (p := ⟨gb644, 1, none⟩) (Kd.R_far (p := ⟨gb644, 0, none⟩) (Kd.R_types HO_646001.out BK644.out (by decide)) (fun _ hk => hk.2) (.int .i64 (wrap64 (1 + (wrap64 (Int.tmod (IntKind.u64.wrap (a0_0)) 6)))))) (fun _ hk => hk.2) (.slice Ao127 x646001_1.length co127)) (fun _ hk => hk.2) (.slice Ao124 x646002_3.length co124)) (fun _ hk => trivial), by (with_reducible repeat (first | apply Kd.R_alloc | apply Kd.R_drewN | apply Kd.R_drew)); exact Kd.R_mono (Kd.R_far (p := ⟨gb644, 2, none⟩) (Kd.R_far (p := ⟨gb644, 1, none⟩) (Kd.R_far (p := ⟨gb644, 0, none⟩) (Kd.R_types HO_646002.out BK644.out (by decide)) (fun _ hk => hk.2) (.int .i64 (wrap64 (1 + (wrap64 (Int.tmod (IntKind.u64.wrap (a0_0)) 6)))))) (fun _ hk => hk.2) (.slice Ao127 x646001_1.length co127)) (fun _ hk => hk.2) (.slice Ao124 x646002_3.length co124)) (fun _ hk => trivial), bn3 HB GE643 GE644 GE645⟩
end Go.Proofs.Ytgeldmhgbnamcaa.P
end
