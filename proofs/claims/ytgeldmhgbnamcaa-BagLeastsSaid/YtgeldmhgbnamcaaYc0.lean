/- Walks and laws of several statements of this seat, joined into one text; no condition. -/
import Derived.Test.YtgeldmhgbnamcaaProg
import Derived.Below
import Derived.Deep.Draws
import Derived.Deep.AppendLies
import Derived.Maps.AppendAt
import Derived.OwnWalk
import Derived.Laws.BytesArg
import Derived.Laws.MakeOwn
import Derived.Laws.OwnMore
import Derived.Deep.OwnRows
import Derived.Tactics
import Derived.Lib.ConvBytes
import Derived.Laws.Slices
import Derived.WalkKit
import Derived.KernelRfl
import Derived.RowKit3
import Derived.Deep.LoopGhost
import Derived.Deep.QuietTactic
import Derived.BigQuiet
import Derived.WideLaws
import Derived.Deep.DeepCutAuto
import Derived.Deep.CutBlock
import Derived.Deep.RegionHeld3
import Derived.Laws.Rows
import Derived.Lib.AppendStr
import Derived.ArgAppend
import Derived.Laws.IdiomCopy
import Derived.OrdersHeld
import Derived.Laws.BitsLemmas
import Derived.RowKit
import Derived.Laws.StructEq
import Derived.Outline
import Derived.Lib.BufferMore
import Derived.Deep.Slices
import Derived.SizedLaws
import Derived.OpenShut
import Derived.IntWalk
import Derived.Test.YtgeldmhgbnamcaaYa0
import Derived.Test.YtgeldmhgbnamcaaYa1
import Derived.Test.YtgeldmhgbnamcaaYa2
import Derived.Test.YtgeldmhgbnamcaaYa4
import Derived.Test.YtgeldmhgbnamcaaYa5
import Derived.Test.YtgeldmhgbnamcaaYa7
import Derived.Test.YtgeldmhgbnamcaaYa6
section
-- Printed by the session's own turn of the print (wip/tools/print2.sh): some callees are proved by hand.
namespace Go.Proofs.Ytgeldmhgbnamcaa.P
open Go.RowKit Go.Proofs.YtgeldmhgbnamcaaW.PrintWords Go.Proofs.YtgeldmhgbnamcaaW.PrintLast Go.Proofs.YtgeldmhgbnamcaaW.PrintMore
attribute [local go_sem] max2_int min2_int max_two min_two max_three min_three max_four min_four   -- for this text's walks alone
set_option linter.unusedVariables false
set_option linter.unusedSimpArgs false

/-! ### marchlandlaw04_BagLeasts: function 8 -/
def marchlandlaw04_BagLeasts.l0 : Nat → List (S40) → List (S50) → Int → Int → Bool → Int → Option (Bool)
 | 0, _, _, _, _, _, _ => none
 | k + 1, x0, x5, x6, x7, x8, x9 => if x9 < (x0.length : Int) then (if 0 ≤ x9 then (if ((rd_T40 x0 x9).f0) = x6 then (if ((rd_T40 x0 x9).f1) < x7 then (some false) else (marchlandlaw04_BagLeasts.l0 k x0 x5 x6 x7 true (wrap64 (x9 + 1)))) else (marchlandlaw04_BagLeasts.l0 k x0 x5 x6 x7 x8 (wrap64 (x9 + 1)))) else (none)) else ((marchlandlaw04_told.f k).bind fun t483 => (if t483 = true then (if (x8 == (x7 != 18446744073709551615)) = true then (if x8 = true then ((batch_Of.f k x5 x6 x7).bind fun t484 => (some (decide (t484 > 0)))) else (some true)) else (some false)) else (some false)))
def marchlandlaw04_BagLeasts.f (k : Nat) (l0 : List (S40)) (a1 : Int) : Option (Bool) := (marchlandref04_Fix.f k l0).bind fun t476 => ((marchlandlaw03_To.f k t476).bind fun t479 => ((bag_Least.f k t479 (wrap64 (Int.tmod (IntKind.u64.wrap (a1)) 64))).bind fun t482 => (marchlandlaw04_BagLeasts.l0 k t476 t479 (wrap64 (Int.tmod (IntKind.u64.wrap (a1)) 64)) t482 false 0)))
theorem marchlandlaw04_BagLeasts.mono_l : ∀ k, (∀ y0 y1 y2 y3 y4 y5, LeO (marchlandlaw04_BagLeasts.l0 k y0 y1 y2 y3 y4 y5) (marchlandlaw04_BagLeasts.l0 (k + 1) y0 y1 y2 y3 y4 y5))
 | 0 => fun _ _ _ _ _ _ r h => by simp [marchlandlaw04_BagLeasts.l0] at h
 | k + 1 => by
  have ih0 := marchlandlaw04_BagLeasts.mono_l k
  ·intro y0 y1 y2 y3 y4 y5
   unfold marchlandlaw04_BagLeasts.l0
   repeat' first
   | (with_reducible exact ih0 _ _ _ _ _ _)
   | (with_reducible exact bag_Least.mono _ _ _)
   | (with_reducible exact batch_Of.mono _ _ _ _)
   | (with_reducible exact marchlandlaw03_To.mono _ _)
   | (with_reducible exact marchlandlaw04_told.mono _)
   | (with_reducible exact marchlandref04_Fix.mono _ _)
   | (with_reducible exact LeO.refl _)
   | (with_reducible exact LeO.none _)
   | (with_reducible refine LeO.ite ?_ ?_)
   | (with_reducible refine LeO.bind ?_ (fun _ => ?_))
   | exact ih0 _ _ _ _ _ _
   | exact bag_Least.mono _ _ _
   | exact batch_Of.mono _ _ _ _
   | exact marchlandlaw03_To.mono _ _
   | exact marchlandlaw04_told.mono _
   | exact marchlandref04_Fix.mono _ _
   | exact LeO.none _
   | refine LeO.ite ?_ ?_
   | refine LeO.bind ?_ (fun _ => ?_)
theorem marchlandlaw04_BagLeasts.mono : ∀ a0 a1 k, LeO (marchlandlaw04_BagLeasts.f k a0 a1) (marchlandlaw04_BagLeasts.f (k + 1) a0 a1) := by
 intro a0 a1 k
 have ih0 := marchlandlaw04_BagLeasts.mono_l k
 unfold marchlandlaw04_BagLeasts.f
 repeat' first
   | (with_reducible exact ih0 _ _ _ _ _ _)
   | (with_reducible exact bag_Least.mono _ _ _)
   | (with_reducible exact batch_Of.mono _ _ _ _)
   | (with_reducible exact marchlandlaw03_To.mono _ _)
   | (with_reducible exact marchlandlaw04_told.mono _)
   | (with_reducible exact marchlandref04_Fix.mono _ _)
   | (with_reducible exact LeO.refl _)
   | (with_reducible exact LeO.none _)
   | (with_reducible refine LeO.ite ?_ ?_)
   | (with_reducible refine LeO.bind ?_ (fun _ => ?_))
   | exact ih0 _ _ _ _ _ _
   | exact bag_Least.mono _ _ _
   | exact batch_Of.mono _ _ _ _
   | exact marchlandlaw03_To.mono _ _
   | exact marchlandlaw04_told.mono _
   | exact marchlandref04_Fix.mono _ _
   | exact LeO.none _
   | refine LeO.ite ?_ ?_
   | refine LeO.bind ?_ (fun _ => ?_)
set_option maxHeartbeats 8000000 in
set_option maxRecDepth 100000 in
theorem marchlandlaw04_BagLeasts.calls (k : Nat) (A0 : Option Addr) (c0 : Nat) (l0 : List (S40)) (a1 : Int) (r : Bool) (w : World) (hr0 : Kd.C k40 w A0 l0.length l0) (hc0 : l0.length ≤ c0) (h : marchlandlaw04_BagLeasts.f k l0 a1 = some r) :
  Calls Try.prog 8 #[.slice A0 l0.length c0, .int .i64 a1] w fun e w' => e = .returned (.bool r) ∧ Below w.heap.size w w' := by
 have HR0 := Aside0.mk hr0
 have HC0 := Aside0.mk hc0
 clear hr0 hc0
 have HB := Aside0.mk (Below.refl w.heap.size w)
 have H : ((marchlandref04_Fix.f k l0).bind fun t476 => ((marchlandlaw03_To.f k t476).bind fun t479 => ((bag_Least.f k t479 (wrap64 (Int.tmod (IntKind.u64.wrap (a1)) 64))).bind fun t482 => (marchlandlaw04_BagLeasts.l0 k t476 t479 (wrap64 (Int.tmod (IntKind.u64.wrap (a1)) 64)) t482 false 0)))) = some r := h
 clear h
 replace H := Option.bind_eq_some_iff.mp H
 obtain ⟨t476, A30, H⟩ := H
 replace H : ((marchlandlaw03_To.f k t476).bind fun t479 => ((bag_Least.f k t479 (wrap64 (Int.tmod (IntKind.u64.wrap (a1)) 64))).bind fun t482 => (marchlandlaw04_BagLeasts.l0 k t476 t479 (wrap64 (Int.tmod (IntKind.u64.wrap (a1)) 64)) t482 false 0))) = some r := H
 have A3 := Aside0.mk A30
 clear A30
 replace H := Option.bind_eq_some_iff.mp H
 obtain ⟨t479, A40, H⟩ := H
 replace H : ((bag_Least.f k t479 (wrap64 (Int.tmod (IntKind.u64.wrap (a1)) 64))).bind fun t482 => (marchlandlaw04_BagLeasts.l0 k t476 t479 (wrap64 (Int.tmod (IntKind.u64.wrap (a1)) 64)) t482 false 0)) = some r := H
 have A4 := Aside0.mk A40
 clear A40
 replace H := Option.bind_eq_some_iff.mp H
 obtain ⟨t482, A50, H⟩ := H
 replace H : (marchlandlaw04_BagLeasts.l0 k t476 t479 (wrap64 (Int.tmod (IntKind.u64.wrap (a1)) 64)) t482 false 0) = some r := H
 have A5 := Aside0.mk A50
 clear A50
 have H' := Aside0.mk H
 clear H
 go_enter Try.func8, Try.ntmps8
 go_wp2_with (first | ((with_reducible refine gate_callee (f := 26) rfl ?_); refine goesL_ (some 11) rfl rfl Try.func26 (by kernel_rfl) rfl #[.slice A0 l0.length c0] rfl (by (try simp only [List.map_toArray, List.map_cons, List.map_nil]); first | done | rfl | (simp only [List.length_drop, List.length_take]; rfl)) ?_; (with_reducible refine (marchlandref04_Fix.calls k _ _ l0 t476 _ ?side1 ?side2 A3.out).mono ?_); (case side1 => repeat (first | exact HR0.out | (with_reducible refine Kd.C_alloc ?_ _) | (with_reducible refine Kd.C_drewN ?_ _) | (with_reducible refine Kd.C_drew ?_))); (case side2 => exact HC0.out); rintro e w6 ⟨v477, rfl, ho0, hb⟩; refine ⟨_, rfl, ?_⟩; have n0_ := Aside0.mk (Kd.R_lower ho0 (below_size (by repeat (first | (with_reducible first | exact HB.out | apply below_alloc | apply pw_below_drewN | apply below_drew1) | exact HB.out)))); have n1_ := Aside0.mk (below_step (by repeat (first | (with_reducible first | exact HB.out | apply below_alloc | apply pw_below_drewN | apply below_drew1) | exact HB.out)) hb); clear HB; have HO478 := n0_; have HB := n1_; clear n0_ n1_; (try clear hb); (try clear hb2); (try clear hk); (try clear hi); (try clear ho0); obtain ⟨Ao7, co7, eo7⟩ := Kd.R_slice HO478.out; subst eo7) | ((with_reducible refine gate_callee (f := 14) rfl ?_); refine goesL_ (some 13) rfl rfl Try.func14 (by kernel_rfl) rfl #[.slice Ao7 t476.length co7] rfl (by (try simp only [List.map_toArray, List.map_cons, List.map_nil]); first | done | rfl | (simp only [List.length_drop, List.length_take]; rfl)) ?_; (with_reducible refine (marchlandlaw03_To.calls k _ _ t476 t479 _ ?side1 ?side2 A4.out).mono ?_); (case side1 => repeat (first | exact (Kd.R_reads' HO478.out).2.2 | (with_reducible refine Kd.C_alloc ?_ _) | (with_reducible refine Kd.C_drewN ?_ _) | (with_reducible refine Kd.C_drew ?_))); (case side2 => exact (Kd.R_reads' HO478.out).2.1); rintro e w8 ⟨v480, rfl, ho0, hb⟩; refine ⟨_, rfl, ?_⟩; have n0_ := Aside0.mk (Kd.R_below (by (with_reducible repeat (first | apply Kd.R_alloc | apply Kd.R_drewN | apply Kd.R_drew)); exact HO478.out) hb); have n1_ := Aside0.mk (Kd.R_lower ho0 (below_size (by repeat (first | (with_reducible first | exact HB.out | apply below_alloc | apply pw_below_drewN | apply below_drew1) | exact HB.out)))); have n2_ := Aside0.mk (below_step (by repeat (first | (with_reducible first | exact HB.out | apply below_alloc | apply pw_below_drewN | apply below_drew1) | exact HB.out)) hb); clear HO478; clear HB; have HO478 := n0_; have HO481 := n1_; have HB := n2_; clear n0_ n1_ n2_; (try clear hb); (try clear hb2); (try clear hk); (try clear hi); (try clear ho0); obtain ⟨Ao9, co9, eo9⟩ := Kd.R_slice HO481.out; subst eo9) | ((with_reducible refine gate_callee (f := 30) rfl ?_); refine goesL_ (some 20) rfl rfl Try.func30 (by kernel_rfl) rfl #[.slice Ao9 t479.length co9, .int .i64 (wrap64 (Int.tmod (IntKind.u64.wrap (a1)) 64))] rfl (by (try simp only [List.map_toArray, List.map_cons, List.map_nil]); first | done | rfl | (simp only [List.length_drop, List.length_take]; rfl)) ?_; (with_reducible refine (bag_Least.calls k _ _ t479 (wrap64 (Int.tmod (IntKind.u64.wrap (a1)) 64)) t482 _ ?side1 ?side2 A5.out).mono ?_); (case side1 => repeat (first | exact (Kd.R_reads' HO481.out).2.2 | (with_reducible refine Kd.C_alloc ?_ _) | (with_reducible refine Kd.C_drewN ?_ _) | (with_reducible refine Kd.C_drew ?_))); (case side2 => exact (Kd.R_reads' HO481.out).2.1); rintro e w10 ⟨rfl, hb⟩; refine ⟨_, rfl, ?_⟩; have n0_ := Aside0.mk (Kd.R_below (by (with_reducible repeat (first | apply Kd.R_alloc | apply Kd.R_drewN | apply Kd.R_drew)); exact HO478.out) hb); have n1_ := Aside0.mk (Kd.R_below (by (with_reducible repeat (first | apply Kd.R_alloc | apply Kd.R_drewN | apply Kd.R_drew)); exact HO481.out) hb); have n2_ := Aside0.mk (below_step (by repeat (first | (with_reducible first | exact HB.out | apply below_alloc | apply pw_below_drewN | apply below_drew1) | exact HB.out)) hb); clear HO478; clear HO481; clear HB; have HO478 := n0_; have HO481 := n1_; have HB := n2_; clear n0_ n1_ n2_; (try clear hb); (try clear hb2); (try clear hk); (try clear hi)))
 go_loopg [8, 9] k (fun kq v8 v9 w' => ∃ (x8_1 : Bool) (x9_1 : Int), v8 = .bool x8_1 ∧ v9 = .int .i64 x9_1 ∧ Aside0 (marchlandlaw04_BagLeasts.l0 kq t476 t479 (wrap64 (Int.tmod (IntKind.u64.wrap (a1)) 64)) t482 x8_1 x9_1 = some r) ∧ Aside0 (kq ≤ k) ∧ Aside0 (Kd.R k40 40 w' w.heap.size (fun _ => True) (.slice Ao7 t476.length co7) t476) ∧ Aside0 (Kd.R k50 50 w' w.heap.size (fun _ => True) (.slice Ao9 t479.length co9) t479) ∧ Aside0 (Below w.heap.size w w'))
 case atStart => exact ⟨(false), (0), (by first | rfl | (simp; done) | (simp [*]; done)), (by first | rfl | (simp; done) | (simp [*]; done)), H', ⟨Nat.le_refl _⟩, ⟨by (with_reducible repeat (first | apply Kd.R_alloc | apply Kd.R_drewN | apply Kd.R_drew)); exact HO478.out⟩, ⟨by (with_reducible repeat (first | apply Kd.R_alloc | apply Kd.R_drewN | apply Kd.R_drew)); exact HO481.out⟩, ⟨by repeat (first | (with_reducible first | exact HB.out | apply below_alloc | apply pw_below_drewN | apply below_drew1) | exact HB.out)⟩⟩
 case round =>
  clear H'
  try clear c1
  try clear c2
  try clear p2
  try clear c3
  try clear p6
  try clear c8
  obtain ⟨x8_1, x9_1, rfl, rfl, HA, HK1, HO_0, HO_5, HB⟩ := hrel
  cases gk with
  | zero => exact absurd HA.out (by simp [marchlandlaw04_BagLeasts.l0])
  | succ k1 =>
   have H := HA.out
   clear HA
   simp only [marchlandlaw04_BagLeasts.l0] at H
   by_cases c11 : x9_1 < (t476.length : Int)
   ·rw [if_pos c11] at H
    have c11b0 : decide (x9_1 < (t476.length : Int)) = true := decide_eq_true c11
    clear c11
    by_cases c12 : 0 ≤ x9_1
    ·rw [if_pos c12] at H
     have c12b0 : decide (0 ≤ x9_1) = true := decide_eq_true c12
     clear c12
     by_cases c13 : ((rd_T40 t476 x9_1).f0) = (wrap64 (Int.tmod (IntKind.u64.wrap (a1)) 64))
     ·rw [if_pos c13] at H
      have c13b0 : (((rd_T40 t476 x9_1).f0) == (wrap64 (Int.tmod (IntKind.u64.wrap (a1)) 64))) = true := beq_iff_eq.mpr c13
      have c13b1 : (((rd_T40 t476 x9_1).f0) != (wrap64 (Int.tmod (IntKind.u64.wrap (a1)) 64))) = false := bne_eq_false_iff_eq.mpr c13
      clear c13
      by_cases c14 : ((rd_T40 t476 x9_1).f1) < t482
      ·rw [if_pos c14] at H
       have c14b0 : decide (((rd_T40 t476 x9_1).f1) < t482) = true := decide_eq_true c14
       clear c14
       obtain rfl := Option.some.inj H
       have p485 : 0 ≤ (x9_1 : Int) := of_decide_eq_true (by first | (with_reducible assumption) | assumption)
       have q485 : x9_1 < (t476.length : Int) := of_decide_eq_true (by first | (with_reducible assumption) | assumption)
       obtain ⟨ad485, e485, hx485_0, hx485_1, hx485_2⟩ := at_T40 (Kd.R_reads' HO_0.out).2.2 x9_1 p485 q485
       cases e485
       replace p485 := eq_true p485
       replace q485 := eq_true q485
       have p486 : 0 ≤ (x9_1 : Int) := of_decide_eq_true (by first | (with_reducible assumption) | assumption)
       have q486 : x9_1 < (t476.length : Int) := of_decide_eq_true (by first | (with_reducible assumption) | assumption)
       obtain ⟨ad486, e486, hx486_0, hx486_1, hx486_2⟩ := at_T40 (Kd.R_reads' HO_0.out).2.2 x9_1 p486 q486
       obtain rfl : ad485 = ad486 := (by injection e486)
       replace p486 := eq_true p486
       replace q486 := eq_true q486
       go_wp2
       go_ret
       exact ⟨by first | rfl | (simp [errW_none, errW_some] <;> rfl) | (simp [*, errW_none, errW_some] <;> rfl), by repeat (first | (with_reducible first | exact HB.out | apply below_alloc | apply pw_below_drewN | apply below_drew1) | exact HB.out)⟩
      ·rw [if_neg c14] at H
       have c14b0 : decide (((rd_T40 t476 x9_1).f1) < t482) = false := decide_eq_false c14
       clear c14
       have H' := Aside0.mk H
       clear H
       have p485 : 0 ≤ (x9_1 : Int) := of_decide_eq_true (by first | (with_reducible assumption) | assumption)
       have q485 : x9_1 < (t476.length : Int) := of_decide_eq_true (by first | (with_reducible assumption) | assumption)
       obtain ⟨ad485, e485, hx485_0, hx485_1, hx485_2⟩ := at_T40 (Kd.R_reads' HO_0.out).2.2 x9_1 p485 q485
       cases e485
       replace p485 := eq_true p485
       replace q485 := eq_true q485
       have p486 : 0 ≤ (x9_1 : Int) := of_decide_eq_true (by first | (with_reducible assumption) | assumption)
       have q486 : x9_1 < (t476.length : Int) := of_decide_eq_true (by first | (with_reducible assumption) | assumption)
       obtain ⟨ad486, e486, hx486_0, hx486_1, hx486_2⟩ := at_T40 (Kd.R_reads' HO_0.out).2.2 x9_1 p486 q486
       obtain rfl : ad485 = ad486 := (by injection e486)
       replace p486 := eq_true p486
       replace q486 := eq_true q486
       go_wp2
       go_roundg k1
       case measure => have := HK1.out; omega
       case rel => exact ⟨(true), (wrap64 (x9_1 + 1)), (by first | rfl | (simp; done) | (simp [*]; done)), (by first | rfl | (simp; done) | (simp [*]; done)), H', ⟨by have := HK1.out; omega⟩, ⟨by (with_reducible repeat (first | apply Kd.R_alloc | apply Kd.R_drewN | apply Kd.R_drew)); exact HO_0.out⟩, ⟨by (with_reducible repeat (first | apply Kd.R_alloc | apply Kd.R_drewN | apply Kd.R_drew)); exact HO_5.out⟩, ⟨by repeat (first | (with_reducible first | exact HB.out | apply below_alloc | apply pw_below_drewN | apply below_drew1) | exact HB.out)⟩⟩
     ·rw [if_neg c13] at H
      have c13b0 : (((rd_T40 t476 x9_1).f0) == (wrap64 (Int.tmod (IntKind.u64.wrap (a1)) 64))) = false := beq_eq_false_iff_ne.mpr c13
      have c13b1 : (((rd_T40 t476 x9_1).f0) != (wrap64 (Int.tmod (IntKind.u64.wrap (a1)) 64))) = true := bne_iff_ne.mpr c13
      have H' := Aside0.mk H
      clear H
      have p485 : 0 ≤ (x9_1 : Int) := of_decide_eq_true (by first | (with_reducible assumption) | assumption)
      have q485 : x9_1 < (t476.length : Int) := of_decide_eq_true (by first | (with_reducible assumption) | assumption)
      obtain ⟨ad485, e485, hx485_0, hx485_1, hx485_2⟩ := at_T40 (Kd.R_reads' HO_0.out).2.2 x9_1 p485 q485
      cases e485
      replace p485 := eq_true p485
      replace q485 := eq_true q485
      go_wp2
      go_roundg k1
      case measure => have := HK1.out; omega
      case rel => exact ⟨(x8_1), (wrap64 (x9_1 + 1)), (by first | rfl | (simp; done) | (simp [*]; done)), (by first | rfl | (simp; done) | (simp [*]; done)), H', ⟨by have := HK1.out; omega⟩, ⟨by (with_reducible repeat (first | apply Kd.R_alloc | apply Kd.R_drewN | apply Kd.R_drew)); exact HO_0.out⟩, ⟨by (with_reducible repeat (first | apply Kd.R_alloc | apply Kd.R_drewN | apply Kd.R_drew)); exact HO_5.out⟩, ⟨by repeat (first | (with_reducible first | exact HB.out | apply below_alloc | apply pw_below_drewN | apply below_drew1) | exact HB.out)⟩⟩
    ·rw [if_neg c12] at H
     exact absurd H (by simp)
   ·rw [if_neg c11] at H
    have c11b0 : decide (x9_1 < (t476.length : Int)) = false := decide_eq_false c11
    clear c11
    replace H := Option.bind_eq_some_iff.mp H
    obtain ⟨t483, A150, H⟩ := H
    replace H : (if t483 = true then (if (x8_1 == (t482 != 18446744073709551615)) = true then (if x8_1 = true then ((batch_Of.f k1 t479 (wrap64 (Int.tmod (IntKind.u64.wrap (a1)) 64)) t482).bind fun t484 => (some (decide (t484 > 0)))) else (some true)) else (some false)) else (some false)) = some r := H
    have A15 := Aside0.mk A150
    clear A150
    by_cases c16 : t483 = true
    ·subst c16
     have H1 : (if (x8_1 == (t482 != 18446744073709551615)) = true then (if x8_1 = true then ((batch_Of.f k1 t479 (wrap64 (Int.tmod (IntKind.u64.wrap (a1)) 64)) t482).bind fun t484 => (some (decide (t484 > 0)))) else (some true)) else (some false)) = some r := by rw [if_pos rfl] at H; exact H
     clear H
     have H := H1
     clear H1
     by_cases c17 : (x8_1 == (t482 != 18446744073709551615)) = true
     ·rw [if_pos c17] at H
      have c17b0 : (x8_1 == (t482 != 18446744073709551615)) = true := c17
      (try (have c17b1 : decide (x8_1 = (t482 != 18446744073709551615)) = true := by simpa using c17))
      (try (have c17b2 : (x8_1 == (t482 != 18446744073709551615)) = true := by simpa using c17))
      clear c17
      by_cases c18 : x8_1 = true
      ·subst c18
       have H1 : ((batch_Of.f k1 t479 (wrap64 (Int.tmod (IntKind.u64.wrap (a1)) 64)) t482).bind fun t484 => (some (decide (t484 > 0)))) = some r := by rw [if_pos rfl] at H; exact H
       clear H
       have H := H1
       clear H1
       replace H := Option.bind_eq_some_iff.mp H
       obtain ⟨t484, A190, H⟩ := H
       replace H : (some (decide (t484 > 0))) = some r := H
       have A19 := Aside0.mk A190
       clear A190
       obtain rfl := Option.some.inj H
       go_wp2_with (first | ((with_reducible refine gate_callee (f := 29) rfl ?_); refine goesL_ (some 41) rfl rfl Try.func29 (by kernel_rfl) rfl #[] rfl (by (try simp only [List.map_toArray, List.map_cons, List.map_nil]); first | done | rfl | (simp only [List.length_drop, List.length_take]; rfl)) ?_; (with_reducible refine (marchlandlaw04_told.calls k1  true _ A15.out).mono ?_); rintro e w20 ⟨rfl, hb⟩; refine ⟨_, rfl, ?_⟩; have n0_ := Aside0.mk (Kd.R_below (by (with_reducible repeat (first | apply Kd.R_alloc | apply Kd.R_drewN | apply Kd.R_drew)); exact HO_0.out) hb); have n1_ := Aside0.mk (Kd.R_below (by (with_reducible repeat (first | apply Kd.R_alloc | apply Kd.R_drewN | apply Kd.R_drew)); exact HO_5.out) hb); have n2_ := Aside0.mk (below_step (by repeat (first | (with_reducible first | exact HB.out | apply below_alloc | apply pw_below_drewN | apply below_drew1) | exact HB.out)) hb); clear HO_0; clear HO_5; clear HB; have HO_0 := n0_; have HO_5 := n1_; have HB := n2_; clear n0_ n1_ n2_; (try clear hb); (try clear hb2); (try clear hk); (try clear hi)) | (go_at_call 23; (with_reducible refine (batch_Of.calls k1 _ _ t479 (wrap64 (Int.tmod (IntKind.u64.wrap (a1)) 64)) t482 t484 _ ?side1 ?side2 A19.out).mono ?_); (case side1 => repeat (first | exact (Kd.R_reads' HO_5.out).2.2 | (with_reducible refine Kd.C_alloc ?_ _) | (with_reducible refine Kd.C_drewN ?_ _) | (with_reducible refine Kd.C_drew ?_))); (case side2 => exact (Kd.R_reads' HO_5.out).2.1); rintro e w21 ⟨rfl, hb⟩; have n0_ := Aside0.mk (Kd.R_below (by (with_reducible repeat (first | apply Kd.R_alloc | apply Kd.R_drewN | apply Kd.R_drew)); exact HO_0.out) hb); have n1_ := Aside0.mk (Kd.R_below (by (with_reducible repeat (first | apply Kd.R_alloc | apply Kd.R_drewN | apply Kd.R_drew)); exact HO_5.out) hb); have n2_ := Aside0.mk (below_step (by repeat (first | (with_reducible first | exact HB.out | apply below_alloc | apply pw_below_drewN | apply below_drew1) | exact HB.out)) hb); clear HO_0; clear HO_5; clear HB; have HO_0 := n0_; have HO_5 := n1_; have HB := n2_; clear n0_ n1_ n2_; (try clear hb); (try clear hb2); (try clear hk); (try clear hi)))
       go_ret
       exact ⟨by first | rfl | (simp [errW_none, errW_some] <;> rfl) | (simp [*, errW_none, errW_some] <;> rfl), by repeat (first | (with_reducible first | exact HB.out | apply below_alloc | apply pw_below_drewN | apply below_drew1) | exact HB.out)⟩
      ·replace c18 := Bool.eq_false_iff.mpr c18
       subst c18
       have H1 : (some true) = some r := by rw [if_neg (show ¬ (false = true) by decide)] at H; exact H
       clear H
       have H := H1
       clear H1
       obtain rfl := Option.some.inj H
       go_wp2_with (first | ((with_reducible refine gate_callee (f := 29) rfl ?_); refine goesL_ (some 41) rfl rfl Try.func29 (by kernel_rfl) rfl #[] rfl (by (try simp only [List.map_toArray, List.map_cons, List.map_nil]); first | done | rfl | (simp only [List.length_drop, List.length_take]; rfl)) ?_; (with_reducible refine (marchlandlaw04_told.calls k1  true _ A15.out).mono ?_); rintro e w22 ⟨rfl, hb⟩; refine ⟨_, rfl, ?_⟩; have n0_ := Aside0.mk (Kd.R_below (by (with_reducible repeat (first | apply Kd.R_alloc | apply Kd.R_drewN | apply Kd.R_drew)); exact HO_0.out) hb); have n1_ := Aside0.mk (Kd.R_below (by (with_reducible repeat (first | apply Kd.R_alloc | apply Kd.R_drewN | apply Kd.R_drew)); exact HO_5.out) hb); have n2_ := Aside0.mk (below_step (by repeat (first | (with_reducible first | exact HB.out | apply below_alloc | apply pw_below_drewN | apply below_drew1) | exact HB.out)) hb); clear HO_0; clear HO_5; clear HB; have HO_0 := n0_; have HO_5 := n1_; have HB := n2_; clear n0_ n1_ n2_; (try clear hb); (try clear hb2); (try clear hk); (try clear hi)))
       go_ret
       exact ⟨by first | rfl | (simp [errW_none, errW_some] <;> rfl) | (simp [*, errW_none, errW_some] <;> rfl), by repeat (first | (with_reducible first | exact HB.out | apply below_alloc | apply pw_below_drewN | apply below_drew1) | exact HB.out)⟩
     ·rw [if_neg c17] at H
      have c17b0 : (x8_1 == (t482 != 18446744073709551615)) = false := by simpa using c17
      (try (have c17b1 : decide (x8_1 = (t482 != 18446744073709551615)) = false := by simpa using c17))
      (try (have c17b2 : (x8_1 == (t482 != 18446744073709551615)) = false := by simpa using c17))
      (try (have c17b3 : ¬ (x8_1 = (t482 != 18446744073709551615)) := by simpa using c17))
      clear c17
      obtain rfl := Option.some.inj H
      go_wp2_with (first | ((with_reducible refine gate_callee (f := 29) rfl ?_); refine goesL_ (some 41) rfl rfl Try.func29 (by kernel_rfl) rfl #[] rfl (by (try simp only [List.map_toArray, List.map_cons, List.map_nil]); first | done | rfl | (simp only [List.length_drop, List.length_take]; rfl)) ?_; (with_reducible refine (marchlandlaw04_told.calls k1  true _ A15.out).mono ?_); rintro e w23 ⟨rfl, hb⟩; refine ⟨_, rfl, ?_⟩; have n0_ := Aside0.mk (Kd.R_below (by (with_reducible repeat (first | apply Kd.R_alloc | apply Kd.R_drewN | apply Kd.R_drew)); exact HO_0.out) hb); have n1_ := Aside0.mk (Kd.R_below (by (with_reducible repeat (first | apply Kd.R_alloc | apply Kd.R_drewN | apply Kd.R_drew)); exact HO_5.out) hb); have n2_ := Aside0.mk (below_step (by repeat (first | (with_reducible first | exact HB.out | apply below_alloc | apply pw_below_drewN | apply below_drew1) | exact HB.out)) hb); clear HO_0; clear HO_5; clear HB; have HO_0 := n0_; have HO_5 := n1_; have HB := n2_; clear n0_ n1_ n2_; (try clear hb); (try clear hb2); (try clear hk); (try clear hi)))
      go_ret
      exact ⟨by first | rfl | (simp [errW_none, errW_some] <;> rfl) | (simp [*, errW_none, errW_some] <;> rfl), by repeat (first | (with_reducible first | exact HB.out | apply below_alloc | apply pw_below_drewN | apply below_drew1) | exact HB.out)⟩
    ·replace c16 := Bool.eq_false_iff.mpr c16
     subst c16
     have H1 : (some false) = some r := by rw [if_neg (show ¬ (false = true) by decide)] at H; exact H
     clear H
     have H := H1
     clear H1
     obtain rfl := Option.some.inj H
     go_wp2_with (first | ((with_reducible refine gate_callee (f := 29) rfl ?_); refine goesL_ (some 41) rfl rfl Try.func29 (by kernel_rfl) rfl #[] rfl (by (try simp only [List.map_toArray, List.map_cons, List.map_nil]); first | done | rfl | (simp only [List.length_drop, List.length_take]; rfl)) ?_; (with_reducible refine (marchlandlaw04_told.calls k1  false _ A15.out).mono ?_); rintro e w24 ⟨rfl, hb⟩; refine ⟨_, rfl, ?_⟩; have n0_ := Aside0.mk (Kd.R_below (by (with_reducible repeat (first | apply Kd.R_alloc | apply Kd.R_drewN | apply Kd.R_drew)); exact HO_0.out) hb); have n1_ := Aside0.mk (Kd.R_below (by (with_reducible repeat (first | apply Kd.R_alloc | apply Kd.R_drewN | apply Kd.R_drew)); exact HO_5.out) hb); have n2_ := Aside0.mk (below_step (by repeat (first | (with_reducible first | exact HB.out | apply below_alloc | apply pw_below_drewN | apply below_drew1) | exact HB.out)) hb); clear HO_0; clear HO_5; clear HB; have HO_0 := n0_; have HO_5 := n1_; have HB := n2_; clear n0_ n1_ n2_; (try clear hb); (try clear hb2); (try clear hk); (try clear hi)))
     go_ret
     exact ⟨by first | rfl | (simp [errW_none, errW_some] <;> rfl) | (simp [*, errW_none, errW_some] <;> rfl), by repeat (first | (with_reducible first | exact HB.out | apply below_alloc | apply pw_below_drewN | apply below_drew1) | exact HB.out)⟩

end Go.Proofs.Ytgeldmhgbnamcaa.P
end
section
/- The plain law of BagLeasts. -/
namespace Go.Proofs.Ytgeldmhgbnamcaa.Pure
open Go.RowKit Go.Proofs.Ytgeldmhgbnamcaa.P Go.Proofs.YtgeldmhgbnamcaaW.PrintWords Go.Proofs.YtgeldmhgbnamcaaW.PrintLast
set_option linter.unusedVariables false
set_option linter.unusedSimpArgs false
theorem leastv_le {p : Int} : ∀ {X : List S50}, Str X → ∀ x ∈ X, x.f0 = p → leastv p X ≤ x.f1 := by
  intro X
  induction X with
  | nil => intro _ x h; cases h
  | cons y X ih =>
    intro hs x hx e
    obtain ⟨h1, h2⟩ := List.pairwise_cons.1 hs
    simp only [leastv]
    split
    · rename_i e2
      rcases List.mem_cons.1 hx with rfl | hx
      · omega
      · have := h1 x hx; unfold kl at this; omega
    · rename_i e2
      rcases List.mem_cons.1 hx with rfl | hx
      · exact absurd e e2
      · exact ih h2 x hx e
theorem leastv_mem {p : Int} : ∀ {X : List S50}, (∃ x ∈ X, x.f0 = p) → ∃ x ∈ X, x.f0 = p ∧ x.f1 = leastv p X := by
  intro X
  induction X with
  | nil => rintro ⟨x, h, _⟩; cases h
  | cons y X ih =>
    rintro ⟨x, hx, e⟩
    simp only [leastv]
    split
    · rename_i e2; exact ⟨y, by simp, e2, rfl⟩
    · rename_i e2
      rcases List.mem_cons.1 hx with rfl | hx
      · exact absurd e e2
      · obtain ⟨z, hz, a, b⟩ := ih ⟨x, hx, e⟩
        exact ⟨z, by simp [hz], a, b⟩
theorem leastv_none {p : Int} : ∀ {X : List S50}, (∀ x ∈ X, x.f0 ≠ p) → leastv p X = 18446744073709551615 := by
  intro X
  induction X with
  | nil => intro _; rfl
  | cons y X ih => intro h; simp only [leastv]; rw [if_neg (h y (by simp)), ih (fun x hx => h x (by simp [hx]))]
theorem wrongv_f1 {x : S50} (h : wrongv x = 0) : x.f1 ≠ 18446744073709551615 := by
  intro e; unfold wrongv at h; split at h
  · simp at h
  · simp [e] at h
theorem leasts_l0 (X : List S50) (hX : Rt X) (hl : X.length ≤ 12) (hpos : ∀ y ∈ X, 1 ≤ y.f2 ∧ y.f2 ≤ 60) (p : Int) : ∀ (r pre : List S50), X = pre ++ r →
    Ev (fun k => marchlandlaw04_BagLeasts.l0 k (X.map v) X p (leastv p X) (pre.any (fun x => decide (x.f0 = p))) (pre.length : Int)) true := by
  intro r
  induction r with
  | nil =>
    intro pre e
    rw [List.append_nil] at e
    subst e
    obtain ⟨K1, h1⟩ := told4
    obtain ⟨K2, h2⟩ := of_ev X hX.1 (by omega) p (leastv p X)
    refine ⟨K1 + K2 + 1, fun k hk => ?_⟩
    obtain ⟨k, rfl⟩ : ∃ m, k = m + 1 := ⟨k - 1, by omega⟩
    have h1 := h1 k (by omega); have h2 := h2 k (by omega); dsimp only at h1 h2
    show marchlandlaw04_BagLeasts.l0 (k + 1) _ _ _ _ _ _ = _
    rw [marchlandlaw04_BagLeasts.l0, if_neg (by simp), h1, Option.bind_some, if_pos rfl]
    by_cases hx : ∃ x ∈ X, x.f0 = p
    · obtain ⟨x, hm, e0, e1⟩ := leastv_mem hx
      have c1 : X.any (fun x => decide (x.f0 = p)) = true := List.any_eq_true.2 ⟨x, hm, by simpa using e0⟩
      have c2 : leastv p X ≠ 18446744073709551615 := by rw [← e1]; exact wrongv_f1 (hX.2 x hm).1
      have c3 : ofv X ⟨p, leastv p X, 0⟩ = x.f2 := by have := ofv_of_mem hX.1 hm 0; rw [e0, e1] at this; exact this
      have c4 := hpos x hm
      rw [c1, if_pos (by simp [c2]), if_pos rfl, h2, c3]
      simp; omega
    · have hx' : ∀ x ∈ X, x.f0 ≠ p := fun x hm e => hx ⟨x, hm, e⟩
      have c1 : X.any (fun x => decide (x.f0 = p)) = false := by rw [List.any_eq_false]; intro x hm; simpa using hx' x hm
      have c2 := leastv_none hx'
      rw [c1, c2, if_pos (by decide), if_neg (by decide)]
  | cons x r ih =>
    intro pre e
    obtain ⟨K, h⟩ := ih (pre ++ [x]) (by simp [e])
    have ll : X.length = pre.length + (r.length + 1) := by rw [e]; simp
    have lm : (X.map v).length = X.length := by simp
    have e1 : rd_T40 (X.map v) (pre.length : Int) = v x := by rw [e]; exact rd4m _ _ _ rfl
    have ew : wrap64 ((pre.length : Int) + 1) = ((pre ++ [x]).length : Int) := by rw [w64s (by omega)]; simp
    have hm : x ∈ X := by rw [e]; simp
    refine ⟨K + 1, fun k hk => ?_⟩
    obtain ⟨k, rfl⟩ : ∃ m, k = m + 1 := ⟨k - 1, by omega⟩
    have h := h k (by omega); dsimp only at h
    show marchlandlaw04_BagLeasts.l0 (k + 1) _ _ _ _ _ _ = _
    rw [marchlandlaw04_BagLeasts.l0, if_pos (by omega), if_pos (by omega), e1, ew]
    by_cases hp : x.f0 = p
    · have := leastv_le hX.1 x hm hp
      rw [if_pos (show (v x).f0 = p from hp), if_neg (show ¬ (v x).f1 < leastv p X from by simp only [v]; omega)]
      have ea : (pre ++ [x]).any (fun x => decide (x.f0 = p)) = true := by simp [hp]
      rw [ea] at h; exact h
    · rw [if_neg (show ¬ (v x).f0 = p from hp)]
      have ea : (pre ++ [x]).any (fun x => decide (x.f0 = p)) = pre.any (fun x => decide (x.f0 = p)) := by simp [hp]
      rw [ea] at h; exact h
theorem BagLeasts : ∀ l0 : List S40, l0.length * 24 ≤ 140737488351232 → (∀ y ∈ l0, wfC y) → ∀ a1 : Int, (-9223372036854775808 ≤ a1 ∧ a1 ≤ 9223372036854775807) → ∃ k, marchlandlaw04_BagLeasts.f k l0 a1 = some true := by
  intro l0 _ q0 a1 _
  obtain ⟨K1, h1⟩ := fix4_ev l0
  have rA := fix4_rt q0
  have nA := fix4_len l0
  have pA := fix4_pos l0
  generalize sumk (((l0.take 12).map fix4).map fix1) = A at *
  obtain ⟨K2, h2⟩ := to_ev A (by unfold Short; omega)
  obtain ⟨K3, h3⟩ := least_ev A (by omega) (wrap64 (Int.tmod (IntKind.u64.wrap (a1)) 64))
  obtain ⟨K4, h4⟩ := leasts_l0 A rA nA pA (wrap64 (Int.tmod (IntKind.u64.wrap (a1)) 64)) A [] rfl
  let k := K1 + K2 + K3 + K4
  refine ⟨k, ?_⟩
  have h1 := h1 k (by omega); have h2 := h2 k (by omega); have h3 := h3 k (by omega); have h4 := h4 k (by omega)
  dsimp only at h1 h2 h3 h4
  rw [marchlandlaw04_BagLeasts.f]
  simp only [h1, h2, h3, Option.bind_some]
  exact h4
end Go.Proofs.Ytgeldmhgbnamcaa.Pure
end
