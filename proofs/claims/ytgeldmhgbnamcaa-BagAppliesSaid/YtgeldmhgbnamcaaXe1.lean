/- Walks and laws of several statements of this seat, joined into one text; no condition. -/
import Derived.Test.YtgeldmhgbnamcaaProg
import Derived.Below
import Derived.Deep.Draws
import Derived.Deep.AppendLies
import Derived.Maps.AppendAt
import Derived.OwnWalk
import Derived.Laws.BytesArg
import Derived.Laws.MakeOwn
import Derived.Laws.OwnMore
import Derived.Deep.OwnRows
import Derived.Tactics
import Derived.Lib.ConvBytes
import Derived.Laws.Slices
import Derived.WalkKit
import Derived.KernelRfl
import Derived.RowKit3
import Derived.Deep.LoopGhost
import Derived.Deep.QuietTactic
import Derived.BigQuiet
import Derived.WideLaws
import Derived.Deep.DeepCutAuto
import Derived.Deep.CutBlock
import Derived.Deep.RegionHeld3
import Derived.Laws.Rows
import Derived.Lib.AppendStr
import Derived.ArgAppend
import Derived.Laws.IdiomCopy
import Derived.OrdersHeld
import Derived.Laws.BitsLemmas
import Derived.RowKit
import Derived.Laws.StructEq
import Derived.Outline
import Derived.Lib.BufferMore
import Derived.Deep.Slices
import Derived.SizedLaws
import Derived.OpenShut
import Derived.IntWalk
import Derived.Test.YtgeldmhgbnamcaaXa0
import Derived.Test.YtgeldmhgbnamcaaXa1
import Derived.Test.YtgeldmhgbnamcaaXa2
import Derived.Test.YtgeldmhgbnamcaaXc0
import Derived.Test.YtgeldmhgbnamcaaXa6
import Derived.Test.YtgeldmhgbnamcaaXb0
import Derived.Test.YtgeldmhgbnamcaaXa7
import Derived.Test.YtgeldmhgbnamcaaXe0
import Derived.Test.YtgeldmhgbnamcaaXa5
section
-- Printed by the session's own turn of the print (wip/tools/print2.sh): some callees are proved by hand.
namespace Go.Proofs.Ytgeldmhgbnamcaa.P
open Go.RowKit Go.Proofs.YtgeldmhgbnamcaaW.PrintWords Go.Proofs.YtgeldmhgbnamcaaW.PrintLast Go.Proofs.YtgeldmhgbnamcaaW.PrintMore
attribute [local go_sem] max2_int min2_int max_two min_two max_three min_three max_four min_four   -- for this text's walks alone
set_option linter.unusedVariables false
set_option linter.unusedSimpArgs false
/-! ### marchlandlaw04_BagApplies: function 6 -/
def marchlandlaw04_BagApplies.j0 : Nat → List (S40) → List (S40) → List (S50) → List (S50) → List (S50) → Int → Bool → Option (Bool)
 | 0, _, _, _, _, _, _, _ => none
 | k + 1, x0, x1, x7, x8, x9, x10, x74 => if x74 = true then (some false) else ((marchlandlaw03_From.f k x7).bind fun t455 => ((marchlandref03_Same.f k t455 x0).bind fun t458 => (if t458 = true then ((marchlandlaw03_From.f k x8).bind fun t459 => ((marchlandref03_Same.f k t459 x1).bind fun t462 => (if t462 = true then (if x10 = 0 then ((bag_Right.f k x9).bind fun t463 => (some t463)) else (some true)) else (some false)))) else (some false))))
def marchlandlaw04_BagApplies.f (k : Nat) (l0 : List (S40)) (l1 : List (S40)) (a2 : Int) : Option (Bool) := (marchlandref04_Fix.f k l0).bind fun t424 => ((marchlandref03_Fix.f k l1).bind fun t427 => ((marchlandlaw03_To.f k t424).bind fun t430 => ((marchlandlaw03_To.f k t427).bind fun t433 => ((bag_Apply.f k t430 t433).bind fun bt436 => ((marchlandref04_Apply.f k t424 t427).bind fun bt440 => ((marchlandlaw04_told.f k).bind fun t444 => (if t444 = true then (if bt436.2 = bt440.2 then ((marchlandlaw03_From.f k bt436.1).bind fun t445 => ((marchlandref03_Same.f k t445 bt440.1).bind fun t448 => (if t448 = true then ((bag_Least.f k t430 a2).bind fun t449 => ((marchlandref04_Least.f k t424 a2).bind fun t450 => (if t449 = t450 then ((bag_Sum.f t430).bind fun t451 => (if t451 = (t424.length : Int) then ((bag_Right.f k t430).bind fun t452 => (if t452 = true then ((bag_Right.f k t433).bind fun t453 => ((marchlandref04_Right.f k t427).bind fun t454 => (marchlandlaw04_BagApplies.j0 k t424 t427 t430 t433 bt436.1 bt436.2 (t453 != t454)))) else (marchlandlaw04_BagApplies.j0 k t424 t427 t430 t433 bt436.1 bt436.2 true))) else (marchlandlaw04_BagApplies.j0 k t424 t427 t430 t433 bt436.1 bt436.2 true))) else (marchlandlaw04_BagApplies.j0 k t424 t427 t430 t433 bt436.1 bt436.2 true)))) else (marchlandlaw04_BagApplies.j0 k t424 t427 t430 t433 bt436.1 bt436.2 true)))) else (marchlandlaw04_BagApplies.j0 k t424 t427 t430 t433 bt436.1 bt436.2 true)) else (marchlandlaw04_BagApplies.j0 k t424 t427 t430 t433 bt436.1 bt436.2 true))))))))
set_option maxHeartbeats 8000000 in
set_option maxRecDepth 100000 in
theorem marchlandlaw04_BagApplies.calls (k : Nat) (A0 : Option Addr) (c0 : Nat) (l0 : List (S40)) (A1 : Option Addr) (c1 : Nat) (l1 : List (S40)) (a2 : Int) (r : Bool) (w : World) (hr0 : Kd.C k40 w A0 l0.length l0) (hc0 : l0.length ≤ c0) (hr1 : Kd.C k40 w A1 l1.length l1) (hc1 : l1.length ≤ c1) (h : marchlandlaw04_BagApplies.f k l0 l1 a2 = some r) :
  Calls Try.prog 6 #[.slice A0 l0.length c0, .slice A1 l1.length c1, .int .i64 a2] w fun e w' => e = .returned (.bool r) ∧ Below w.heap.size w w' := by
 have HR0 := Aside0.mk hr0
 have HC0 := Aside0.mk hc0
 clear hr0 hc0
 have HR1 := Aside0.mk hr1
 have HC1 := Aside0.mk hc1
 clear hr1 hc1
 have HB := Aside0.mk (Below.refl w.heap.size w)
 have H : ((marchlandref04_Fix.f k l0).bind fun t424 => ((marchlandref03_Fix.f k l1).bind fun t427 => ((marchlandlaw03_To.f k t424).bind fun t430 => ((marchlandlaw03_To.f k t427).bind fun t433 => ((bag_Apply.f k t430 t433).bind fun bt436 => ((marchlandref04_Apply.f k t424 t427).bind fun bt440 => ((marchlandlaw04_told.f k).bind fun t444 => (if t444 = true then (if bt436.2 = bt440.2 then ((marchlandlaw03_From.f k bt436.1).bind fun t445 => ((marchlandref03_Same.f k t445 bt440.1).bind fun t448 => (if t448 = true then ((bag_Least.f k t430 a2).bind fun t449 => ((marchlandref04_Least.f k t424 a2).bind fun t450 => (if t449 = t450 then ((bag_Sum.f t430).bind fun t451 => (if t451 = (t424.length : Int) then ((bag_Right.f k t430).bind fun t452 => (if t452 = true then ((bag_Right.f k t433).bind fun t453 => ((marchlandref04_Right.f k t427).bind fun t454 => (marchlandlaw04_BagApplies.j0 k t424 t427 t430 t433 bt436.1 bt436.2 (t453 != t454)))) else (marchlandlaw04_BagApplies.j0 k t424 t427 t430 t433 bt436.1 bt436.2 true))) else (marchlandlaw04_BagApplies.j0 k t424 t427 t430 t433 bt436.1 bt436.2 true))) else (marchlandlaw04_BagApplies.j0 k t424 t427 t430 t433 bt436.1 bt436.2 true)))) else (marchlandlaw04_BagApplies.j0 k t424 t427 t430 t433 bt436.1 bt436.2 true)))) else (marchlandlaw04_BagApplies.j0 k t424 t427 t430 t433 bt436.1 bt436.2 true)) else (marchlandlaw04_BagApplies.j0 k t424 t427 t430 t433 bt436.1 bt436.2 true))))))))) = some r := h
 clear h
 replace H := Option.bind_eq_some_iff.mp H
 obtain ⟨t424, A40, H⟩ := H
 replace H : ((marchlandref03_Fix.f k l1).bind fun t427 => ((marchlandlaw03_To.f k t424).bind fun t430 => ((marchlandlaw03_To.f k t427).bind fun t433 => ((bag_Apply.f k t430 t433).bind fun bt436 => ((marchlandref04_Apply.f k t424 t427).bind fun bt440 => ((marchlandlaw04_told.f k).bind fun t444 => (if t444 = true then (if bt436.2 = bt440.2 then ((marchlandlaw03_From.f k bt436.1).bind fun t445 => ((marchlandref03_Same.f k t445 bt440.1).bind fun t448 => (if t448 = true then ((bag_Least.f k t430 a2).bind fun t449 => ((marchlandref04_Least.f k t424 a2).bind fun t450 => (if t449 = t450 then ((bag_Sum.f t430).bind fun t451 => (if t451 = (t424.length : Int) then ((bag_Right.f k t430).bind fun t452 => (if t452 = true then ((bag_Right.f k t433).bind fun t453 => ((marchlandref04_Right.f k t427).bind fun t454 => (marchlandlaw04_BagApplies.j0 k t424 t427 t430 t433 bt436.1 bt436.2 (t453 != t454)))) else (marchlandlaw04_BagApplies.j0 k t424 t427 t430 t433 bt436.1 bt436.2 true))) else (marchlandlaw04_BagApplies.j0 k t424 t427 t430 t433 bt436.1 bt436.2 true))) else (marchlandlaw04_BagApplies.j0 k t424 t427 t430 t433 bt436.1 bt436.2 true)))) else (marchlandlaw04_BagApplies.j0 k t424 t427 t430 t433 bt436.1 bt436.2 true)))) else (marchlandlaw04_BagApplies.j0 k t424 t427 t430 t433 bt436.1 bt436.2 true)) else (marchlandlaw04_BagApplies.j0 k t424 t427 t430 t433 bt436.1 bt436.2 true)))))))) = some r := H
 have A4 := Aside0.mk A40
 clear A40
 replace H := Option.bind_eq_some_iff.mp H
 obtain ⟨t427, A50, H⟩ := H
 replace H : ((marchlandlaw03_To.f k t424).bind fun t430 => ((marchlandlaw03_To.f k t427).bind fun t433 => ((bag_Apply.f k t430 t433).bind fun bt436 => ((marchlandref04_Apply.f k t424 t427).bind fun bt440 => ((marchlandlaw04_told.f k).bind fun t444 => (if t444 = true then (if bt436.2 = bt440.2 then ((marchlandlaw03_From.f k bt436.1).bind fun t445 => ((marchlandref03_Same.f k t445 bt440.1).bind fun t448 => (if t448 = true then ((bag_Least.f k t430 a2).bind fun t449 => ((marchlandref04_Least.f k t424 a2).bind fun t450 => (if t449 = t450 then ((bag_Sum.f t430).bind fun t451 => (if t451 = (t424.length : Int) then ((bag_Right.f k t430).bind fun t452 => (if t452 = true then ((bag_Right.f k t433).bind fun t453 => ((marchlandref04_Right.f k t427).bind fun t454 => (marchlandlaw04_BagApplies.j0 k t424 t427 t430 t433 bt436.1 bt436.2 (t453 != t454)))) else (marchlandlaw04_BagApplies.j0 k t424 t427 t430 t433 bt436.1 bt436.2 true))) else (marchlandlaw04_BagApplies.j0 k t424 t427 t430 t433 bt436.1 bt436.2 true))) else (marchlandlaw04_BagApplies.j0 k t424 t427 t430 t433 bt436.1 bt436.2 true)))) else (marchlandlaw04_BagApplies.j0 k t424 t427 t430 t433 bt436.1 bt436.2 true)))) else (marchlandlaw04_BagApplies.j0 k t424 t427 t430 t433 bt436.1 bt436.2 true)) else (marchlandlaw04_BagApplies.j0 k t424 t427 t430 t433 bt436.1 bt436.2 true))))))) = some r := H
 have A5 := Aside0.mk A50
 clear A50
 replace H := Option.bind_eq_some_iff.mp H
 obtain ⟨t430, A60, H⟩ := H
 replace H : ((marchlandlaw03_To.f k t427).bind fun t433 => ((bag_Apply.f k t430 t433).bind fun bt436 => ((marchlandref04_Apply.f k t424 t427).bind fun bt440 => ((marchlandlaw04_told.f k).bind fun t444 => (if t444 = true then (if bt436.2 = bt440.2 then ((marchlandlaw03_From.f k bt436.1).bind fun t445 => ((marchlandref03_Same.f k t445 bt440.1).bind fun t448 => (if t448 = true then ((bag_Least.f k t430 a2).bind fun t449 => ((marchlandref04_Least.f k t424 a2).bind fun t450 => (if t449 = t450 then ((bag_Sum.f t430).bind fun t451 => (if t451 = (t424.length : Int) then ((bag_Right.f k t430).bind fun t452 => (if t452 = true then ((bag_Right.f k t433).bind fun t453 => ((marchlandref04_Right.f k t427).bind fun t454 => (marchlandlaw04_BagApplies.j0 k t424 t427 t430 t433 bt436.1 bt436.2 (t453 != t454)))) else (marchlandlaw04_BagApplies.j0 k t424 t427 t430 t433 bt436.1 bt436.2 true))) else (marchlandlaw04_BagApplies.j0 k t424 t427 t430 t433 bt436.1 bt436.2 true))) else (marchlandlaw04_BagApplies.j0 k t424 t427 t430 t433 bt436.1 bt436.2 true)))) else (marchlandlaw04_BagApplies.j0 k t424 t427 t430 t433 bt436.1 bt436.2 true)))) else (marchlandlaw04_BagApplies.j0 k t424 t427 t430 t433 bt436.1 bt436.2 true)) else (marchlandlaw04_BagApplies.j0 k t424 t427 t430 t433 bt436.1 bt436.2 true)))))) = some r := H
 have A6 := Aside0.mk A60
 clear A60
 replace H := Option.bind_eq_some_iff.mp H
 obtain ⟨t433, A70, H⟩ := H
 replace H : ((bag_Apply.f k t430 t433).bind fun bt436 => ((marchlandref04_Apply.f k t424 t427).bind fun bt440 => ((marchlandlaw04_told.f k).bind fun t444 => (if t444 = true then (if bt436.2 = bt440.2 then ((marchlandlaw03_From.f k bt436.1).bind fun t445 => ((marchlandref03_Same.f k t445 bt440.1).bind fun t448 => (if t448 = true then ((bag_Least.f k t430 a2).bind fun t449 => ((marchlandref04_Least.f k t424 a2).bind fun t450 => (if t449 = t450 then ((bag_Sum.f t430).bind fun t451 => (if t451 = (t424.length : Int) then ((bag_Right.f k t430).bind fun t452 => (if t452 = true then ((bag_Right.f k t433).bind fun t453 => ((marchlandref04_Right.f k t427).bind fun t454 => (marchlandlaw04_BagApplies.j0 k t424 t427 t430 t433 bt436.1 bt436.2 (t453 != t454)))) else (marchlandlaw04_BagApplies.j0 k t424 t427 t430 t433 bt436.1 bt436.2 true))) else (marchlandlaw04_BagApplies.j0 k t424 t427 t430 t433 bt436.1 bt436.2 true))) else (marchlandlaw04_BagApplies.j0 k t424 t427 t430 t433 bt436.1 bt436.2 true)))) else (marchlandlaw04_BagApplies.j0 k t424 t427 t430 t433 bt436.1 bt436.2 true)))) else (marchlandlaw04_BagApplies.j0 k t424 t427 t430 t433 bt436.1 bt436.2 true)) else (marchlandlaw04_BagApplies.j0 k t424 t427 t430 t433 bt436.1 bt436.2 true))))) = some r := H
 have A7 := Aside0.mk A70
 clear A70
 replace H := Option.bind_eq_some_iff.mp H
 obtain ⟨⟨t436, t437⟩, A80, H⟩ := H
 replace H : ((marchlandref04_Apply.f k t424 t427).bind fun bt440 => ((marchlandlaw04_told.f k).bind fun t444 => (if t444 = true then (if t437 = bt440.2 then ((marchlandlaw03_From.f k t436).bind fun t445 => ((marchlandref03_Same.f k t445 bt440.1).bind fun t448 => (if t448 = true then ((bag_Least.f k t430 a2).bind fun t449 => ((marchlandref04_Least.f k t424 a2).bind fun t450 => (if t449 = t450 then ((bag_Sum.f t430).bind fun t451 => (if t451 = (t424.length : Int) then ((bag_Right.f k t430).bind fun t452 => (if t452 = true then ((bag_Right.f k t433).bind fun t453 => ((marchlandref04_Right.f k t427).bind fun t454 => (marchlandlaw04_BagApplies.j0 k t424 t427 t430 t433 t436 t437 (t453 != t454)))) else (marchlandlaw04_BagApplies.j0 k t424 t427 t430 t433 t436 t437 true))) else (marchlandlaw04_BagApplies.j0 k t424 t427 t430 t433 t436 t437 true))) else (marchlandlaw04_BagApplies.j0 k t424 t427 t430 t433 t436 t437 true)))) else (marchlandlaw04_BagApplies.j0 k t424 t427 t430 t433 t436 t437 true)))) else (marchlandlaw04_BagApplies.j0 k t424 t427 t430 t433 t436 t437 true)) else (marchlandlaw04_BagApplies.j0 k t424 t427 t430 t433 t436 t437 true)))) = some r := H
 have A8 := Aside0.mk A80
 clear A80
 replace H := Option.bind_eq_some_iff.mp H
 obtain ⟨⟨t440, t441⟩, A90, H⟩ := H
 replace H : ((marchlandlaw04_told.f k).bind fun t444 => (if t444 = true then (if t437 = t441 then ((marchlandlaw03_From.f k t436).bind fun t445 => ((marchlandref03_Same.f k t445 t440).bind fun t448 => (if t448 = true then ((bag_Least.f k t430 a2).bind fun t449 => ((marchlandref04_Least.f k t424 a2).bind fun t450 => (if t449 = t450 then ((bag_Sum.f t430).bind fun t451 => (if t451 = (t424.length : Int) then ((bag_Right.f k t430).bind fun t452 => (if t452 = true then ((bag_Right.f k t433).bind fun t453 => ((marchlandref04_Right.f k t427).bind fun t454 => (marchlandlaw04_BagApplies.j0 k t424 t427 t430 t433 t436 t437 (t453 != t454)))) else (marchlandlaw04_BagApplies.j0 k t424 t427 t430 t433 t436 t437 true))) else (marchlandlaw04_BagApplies.j0 k t424 t427 t430 t433 t436 t437 true))) else (marchlandlaw04_BagApplies.j0 k t424 t427 t430 t433 t436 t437 true)))) else (marchlandlaw04_BagApplies.j0 k t424 t427 t430 t433 t436 t437 true)))) else (marchlandlaw04_BagApplies.j0 k t424 t427 t430 t433 t436 t437 true)) else (marchlandlaw04_BagApplies.j0 k t424 t427 t430 t433 t436 t437 true))) = some r := H
 have A9 := Aside0.mk A90
 clear A90
 have HC10 := Aside0.mk H
 clear H
 go_enter Try.func6, Try.ntmps6
 go_upto_region 5 with (first | ((with_reducible refine gate_callee (f := 26) rfl ?_); refine gl (some 14) Try.func26 #[.slice A0 l0.length c0] ?_; (with_reducible refine (marchlandref04_Fix.calls k _ _ l0 t424 _ ?side1 ?side2 A4.out).mono ?_); (case side1 => exact cn HR0.out); (case side2 => exact HC0.out); rintro e w11 ⟨v425, rfl, ho0, hb⟩; refine ⟨_, rfl, ?_⟩; have n0_ := Aside0.mk (Kd.R_lower ho0 (below_size (bn HB))); have HO426 := n0_; replace HB := bb HB hb; clear n0_; (try clear hb); (try clear ho0)) | ((with_reducible refine gate_callee (f := 22) rfl ?_); refine gl (some 16) Try.func22 #[.slice A1 l1.length c1] ?_; (with_reducible refine (marchlandref03_Fix.calls k _ _ l1 t427 _ ?side1 ?side2 A5.out).mono ?_); (case side1 => repeat (first | exact (Kd.C_below HR1.out HB.out) | (with_reducible refine Kd.C_alloc ?_ _) | (with_reducible refine Kd.C_drewN ?_ _) | (with_reducible refine Kd.C_drew ?_))); (case side2 => exact HC1.out); rintro e w12 ⟨v428, rfl, ho0, hb⟩; refine ⟨_, rfl, ?_⟩; have n1_ := Aside0.mk (Kd.R_lower (Kd.R_new' ho0 (Kd.R_lt (rn HO426))) (below_size (bn HB))); replace HO426 := rl HO426 (Kd.R_base ho0) hb; have HO429 := n1_; replace HB := bb HB hb; clear n1_; (try clear hb); (try clear ho0); obtain ⟨Ao13, co13, eo13⟩ := Kd.R_slice HO426.out; subst eo13) | ((with_reducible refine gate_callee (f := 14) rfl ?_); refine gl (some 18) Try.func14 #[.slice Ao13 t424.length co13] ?_; (with_reducible refine (marchlandlaw03_To.calls k _ _ t424 t430 _ ?side1 ?side2 A6.out).mono ?_); (case side1 => exact rc HO426); (case side2 => exact rs HO426); rintro e w14 ⟨v431, rfl, ho0, hb⟩; refine ⟨_, rfl, ?_⟩; have n2_ := Aside0.mk (Kd.R_lower ho0 (below_size (bn HB))); replace HO426 := rb HO426 hb; replace HO429 := rb HO429 hb; have HO432 := n2_; replace HB := bb HB hb; clear n2_; (try clear hb); (try clear ho0); obtain ⟨Ao15, co15, eo15⟩ := Kd.R_slice HO429.out; subst eo15) | ((with_reducible refine gate_callee (f := 14) rfl ?_); refine gl (some 20) Try.func14 #[.slice Ao15 t427.length co15] ?_; (with_reducible refine (marchlandlaw03_To.calls k _ _ t427 t433 _ ?side1 ?side2 A7.out).mono ?_); (case side1 => exact rc HO429); (case side2 => exact rs HO429); rintro e w16 ⟨v434, rfl, ho0, hb⟩; refine ⟨_, rfl, ?_⟩; have n3_ := Aside0.mk (Kd.R_lower (Kd.R_new' ho0 (Kd.R_lt (rn HO432))) (below_size (bn HB))); replace HO426 := rb HO426 hb; replace HO429 := rb HO429 hb; replace HO432 := rl HO432 (Kd.R_base ho0) hb; have HO435 := n3_; replace HB := bb HB hb; clear n3_; (try clear hb); (try clear ho0); obtain ⟨Ao17, co17, eo17⟩ := Kd.R_slice HO432.out; subst eo17; obtain ⟨Ao18, co18, eo18⟩ := Kd.R_slice HO435.out; subst eo18) | ((with_reducible refine gate_callee (f := 27) rfl ?_); refine gl (some 24) Try.func27 #[.slice Ao17 t430.length co17, .slice Ao18 t433.length co18] ?_; (with_reducible refine (bag_Apply.calls k _ _ t430 _ _ t433 t436 t437 _ ?side1 ?side2 ?side3 ?side4 A8.out).mono ?_); (case side1 => exact rc HO432); (case side2 => exact rs HO432); (case side3 => exact rc HO435); (case side4 => exact rs HO435); rintro e w19 ⟨v438, rfl, ho0, hb⟩; refine ⟨_, rfl, ?_⟩; have n4_ := Aside0.mk (Kd.R_lower (Kd.R_new' (Kd.R_new' ho0 (Kd.R_lt (rn HO432))) (Kd.R_lt (rn HO435))) (below_size (bn HB))); replace HO426 := rb HO426 hb; replace HO429 := rb HO429 hb; replace HO432 := rl HO432 (Kd.R_base ho0) hb; replace HO435 := rl HO435 (Kd.R_base ho0) hb; have HO439 := n4_; replace HB := bb HB hb; clear n4_; (try clear hb); (try clear ho0)) | ((with_reducible refine gate_callee (f := 28) rfl ?_); refine gl (some 30) Try.func28 #[.slice Ao13 t424.length co13, .slice Ao15 t427.length co15] ?_; (with_reducible refine (marchlandref04_Apply.calls k _ _ t424 _ _ t427 t440 t441 _ ?side1 ?side2 ?side3 ?side4 A9.out).mono ?_); (case side1 => exact rc HO426); (case side2 => exact rs HO426); (case side3 => exact rc HO429); (case side4 => exact rs HO429); rintro e w20 ⟨v442, rfl, ho0, hb⟩; refine ⟨_, rfl, ?_⟩; have n5_ := Aside0.mk (Kd.R_lower (Kd.R_new' (Kd.R_new' ho0 (Kd.R_lt (rn HO426))) (Kd.R_lt (rn HO429))) (below_size (bn HB))); replace HO426 := rl HO426 (Kd.R_base ho0) hb; replace HO429 := rl HO429 (Kd.R_base ho0) hb; replace HO432 := rb HO432 hb; replace HO435 := rb HO435 hb; replace HO439 := rb HO439 hb; have HO443 := n5_; replace HB := bb HB hb; clear n5_; (try clear hb); (try clear ho0)))
 (try simp only [Act.put, List.setIfInBounds_toArray, List.set_cons_zero, List.set_cons_succ])
 go_cut [74] (fun v74 wc => ∃ (kq : Nat) (x74_9 : Bool), v74 = .bool x74_9 ∧ Aside0 (marchlandlaw04_BagApplies.j0 kq t424 t427 t430 t433 t436 t437 x74_9 = some r) ∧ Aside0 (kq ≤ k) ∧ Aside0 (Kd.R k40 40 wc w.heap.size (fun k_ => some k_ ≠ ((.slice Ao15 t427.length co15) : Value).ownBlock) (.slice Ao13 t424.length co13) t424) ∧ Aside0 (Kd.R k40 40 wc w.heap.size (fun k_ => some k_ ≠ ((.slice Ao13 t424.length co13) : Value).ownBlock) (.slice Ao15 t427.length co15) t427) ∧ Aside0 (Kd.R k50 50 wc w.heap.size (fun k_ => some k_ ≠ ((.slice Ao18 t433.length co18) : Value).ownBlock ∧ some k_ ≠ (v438 : Value).ownBlock) (.slice Ao17 t430.length co17) t430) ∧ Aside0 (Kd.R k50 50 wc w.heap.size (fun k_ => some k_ ≠ ((.slice Ao17 t430.length co17) : Value).ownBlock ∧ some k_ ≠ (v438 : Value).ownBlock) (.slice Ao18 t433.length co18) t433) ∧ Aside0 (Kd.R k50 50 wc w.heap.size (fun k_ => some k_ ≠ ((.slice Ao17 t430.length co17) : Value).ownBlock ∧ some k_ ≠ ((.slice Ao18 t433.length co18) : Value).ownBlock) v438 t436) ∧ Aside0 (Below w.heap.size w wc))
 case first =>
  have H := HC10.out
  clear HC10
  replace H := Option.bind_eq_some_iff.mp H
  obtain ⟨t444, A210, H⟩ := H
  replace H : (if t444 = true then (if t437 = t441 then ((marchlandlaw03_From.f k t436).bind fun t445 => ((marchlandref03_Same.f k t445 t440).bind fun t448 => (if t448 = true then ((bag_Least.f k t430 a2).bind fun t449 => ((marchlandref04_Least.f k t424 a2).bind fun t450 => (if t449 = t450 then ((bag_Sum.f t430).bind fun t451 => (if t451 = (t424.length : Int) then ((bag_Right.f k t430).bind fun t452 => (if t452 = true then ((bag_Right.f k t433).bind fun t453 => ((marchlandref04_Right.f k t427).bind fun t454 => (marchlandlaw04_BagApplies.j0 k t424 t427 t430 t433 t436 t437 (t453 != t454)))) else (marchlandlaw04_BagApplies.j0 k t424 t427 t430 t433 t436 t437 true))) else (marchlandlaw04_BagApplies.j0 k t424 t427 t430 t433 t436 t437 true))) else (marchlandlaw04_BagApplies.j0 k t424 t427 t430 t433 t436 t437 true)))) else (marchlandlaw04_BagApplies.j0 k t424 t427 t430 t433 t436 t437 true)))) else (marchlandlaw04_BagApplies.j0 k t424 t427 t430 t433 t436 t437 true)) else (marchlandlaw04_BagApplies.j0 k t424 t427 t430 t433 t436 t437 true)) = some r := H
  have A21 := Aside0.mk A210
  clear A210
  by_cases c22 : t444 = true
  ·subst c22
   have H1 : (if t437 = t441 then ((marchlandlaw03_From.f k t436).bind fun t445 => ((marchlandref03_Same.f k t445 t440).bind fun t448 => (if t448 = true then ((bag_Least.f k t430 a2).bind fun t449 => ((marchlandref04_Least.f k t424 a2).bind fun t450 => (if t449 = t450 then ((bag_Sum.f t430).bind fun t451 => (if t451 = (t424.length : Int) then ((bag_Right.f k t430).bind fun t452 => (if t452 = true then ((bag_Right.f k t433).bind fun t453 => ((marchlandref04_Right.f k t427).bind fun t454 => (marchlandlaw04_BagApplies.j0 k t424 t427 t430 t433 t436 t437 (t453 != t454)))) else (marchlandlaw04_BagApplies.j0 k t424 t427 t430 t433 t436 t437 true))) else (marchlandlaw04_BagApplies.j0 k t424 t427 t430 t433 t436 t437 true))) else (marchlandlaw04_BagApplies.j0 k t424 t427 t430 t433 t436 t437 true)))) else (marchlandlaw04_BagApplies.j0 k t424 t427 t430 t433 t436 t437 true)))) else (marchlandlaw04_BagApplies.j0 k t424 t427 t430 t433 t436 t437 true)) = some r := by rw [if_pos rfl] at H; exact H
   clear H
   have H := H1
   clear H1
   by_cases c23 : t437 = t441
   ·rw [if_pos c23] at H
    have c23b0 : (t437 == t441) = true := beq_iff_eq.mpr c23
    have c23b1 : (t437 != t441) = false := bne_eq_false_iff_eq.mpr c23
    clear c23
    (first | rw [c23b0] | (simp only [i64_w, i32_w]; rw [c23b0]) | skip)
    replace H := Option.bind_eq_some_iff.mp H
    obtain ⟨t445, A240, H⟩ := H
    replace H : ((marchlandref03_Same.f k t445 t440).bind fun t448 => (if t448 = true then ((bag_Least.f k t430 a2).bind fun t449 => ((marchlandref04_Least.f k t424 a2).bind fun t450 => (if t449 = t450 then ((bag_Sum.f t430).bind fun t451 => (if t451 = (t424.length : Int) then ((bag_Right.f k t430).bind fun t452 => (if t452 = true then ((bag_Right.f k t433).bind fun t453 => ((marchlandref04_Right.f k t427).bind fun t454 => (marchlandlaw04_BagApplies.j0 k t424 t427 t430 t433 t436 t437 (t453 != t454)))) else (marchlandlaw04_BagApplies.j0 k t424 t427 t430 t433 t436 t437 true))) else (marchlandlaw04_BagApplies.j0 k t424 t427 t430 t433 t436 t437 true))) else (marchlandlaw04_BagApplies.j0 k t424 t427 t430 t433 t436 t437 true)))) else (marchlandlaw04_BagApplies.j0 k t424 t427 t430 t433 t436 t437 true))) = some r := H
    have A24 := Aside0.mk A240
    clear A240
    replace H := Option.bind_eq_some_iff.mp H
    obtain ⟨t448, A250, H⟩ := H
    replace H : (if t448 = true then ((bag_Least.f k t430 a2).bind fun t449 => ((marchlandref04_Least.f k t424 a2).bind fun t450 => (if t449 = t450 then ((bag_Sum.f t430).bind fun t451 => (if t451 = (t424.length : Int) then ((bag_Right.f k t430).bind fun t452 => (if t452 = true then ((bag_Right.f k t433).bind fun t453 => ((marchlandref04_Right.f k t427).bind fun t454 => (marchlandlaw04_BagApplies.j0 k t424 t427 t430 t433 t436 t437 (t453 != t454)))) else (marchlandlaw04_BagApplies.j0 k t424 t427 t430 t433 t436 t437 true))) else (marchlandlaw04_BagApplies.j0 k t424 t427 t430 t433 t436 t437 true))) else (marchlandlaw04_BagApplies.j0 k t424 t427 t430 t433 t436 t437 true)))) else (marchlandlaw04_BagApplies.j0 k t424 t427 t430 t433 t436 t437 true)) = some r := H
    have A25 := Aside0.mk A250
    clear A250
    by_cases c26 : t448 = true
    ·subst c26
     have H1 : ((bag_Least.f k t430 a2).bind fun t449 => ((marchlandref04_Least.f k t424 a2).bind fun t450 => (if t449 = t450 then ((bag_Sum.f t430).bind fun t451 => (if t451 = (t424.length : Int) then ((bag_Right.f k t430).bind fun t452 => (if t452 = true then ((bag_Right.f k t433).bind fun t453 => ((marchlandref04_Right.f k t427).bind fun t454 => (marchlandlaw04_BagApplies.j0 k t424 t427 t430 t433 t436 t437 (t453 != t454)))) else (marchlandlaw04_BagApplies.j0 k t424 t427 t430 t433 t436 t437 true))) else (marchlandlaw04_BagApplies.j0 k t424 t427 t430 t433 t436 t437 true))) else (marchlandlaw04_BagApplies.j0 k t424 t427 t430 t433 t436 t437 true)))) = some r := by rw [if_pos rfl] at H; exact H
     clear H
     have H := H1
     clear H1
     replace H := Option.bind_eq_some_iff.mp H
     obtain ⟨t449, A270, H⟩ := H
     replace H : ((marchlandref04_Least.f k t424 a2).bind fun t450 => (if t449 = t450 then ((bag_Sum.f t430).bind fun t451 => (if t451 = (t424.length : Int) then ((bag_Right.f k t430).bind fun t452 => (if t452 = true then ((bag_Right.f k t433).bind fun t453 => ((marchlandref04_Right.f k t427).bind fun t454 => (marchlandlaw04_BagApplies.j0 k t424 t427 t430 t433 t436 t437 (t453 != t454)))) else (marchlandlaw04_BagApplies.j0 k t424 t427 t430 t433 t436 t437 true))) else (marchlandlaw04_BagApplies.j0 k t424 t427 t430 t433 t436 t437 true))) else (marchlandlaw04_BagApplies.j0 k t424 t427 t430 t433 t436 t437 true))) = some r := H
     have A27 := Aside0.mk A270
     clear A270
     replace H := Option.bind_eq_some_iff.mp H
     obtain ⟨t450, A280, H⟩ := H
     replace H : (if t449 = t450 then ((bag_Sum.f t430).bind fun t451 => (if t451 = (t424.length : Int) then ((bag_Right.f k t430).bind fun t452 => (if t452 = true then ((bag_Right.f k t433).bind fun t453 => ((marchlandref04_Right.f k t427).bind fun t454 => (marchlandlaw04_BagApplies.j0 k t424 t427 t430 t433 t436 t437 (t453 != t454)))) else (marchlandlaw04_BagApplies.j0 k t424 t427 t430 t433 t436 t437 true))) else (marchlandlaw04_BagApplies.j0 k t424 t427 t430 t433 t436 t437 true))) else (marchlandlaw04_BagApplies.j0 k t424 t427 t430 t433 t436 t437 true)) = some r := H
     have A28 := Aside0.mk A280
     clear A280
     by_cases c29 : t449 = t450
     ·rw [if_pos c29] at H
      have c29b0 : (t449 == t450) = true := beq_iff_eq.mpr c29
      have c29b1 : (t449 != t450) = false := bne_eq_false_iff_eq.mpr c29
      clear c29
      replace H := Option.bind_eq_some_iff.mp H
      obtain ⟨t451, A300, H⟩ := H
      replace H : (if t451 = (t424.length : Int) then ((bag_Right.f k t430).bind fun t452 => (if t452 = true then ((bag_Right.f k t433).bind fun t453 => ((marchlandref04_Right.f k t427).bind fun t454 => (marchlandlaw04_BagApplies.j0 k t424 t427 t430 t433 t436 t437 (t453 != t454)))) else (marchlandlaw04_BagApplies.j0 k t424 t427 t430 t433 t436 t437 true))) else (marchlandlaw04_BagApplies.j0 k t424 t427 t430 t433 t436 t437 true)) = some r := H
      have A30 := Aside0.mk A300
      clear A300
      by_cases c31 : t451 = (t424.length : Int)
      ·rw [if_pos c31] at H
       have c31b0 : (t451 == (t424.length : Int)) = true := beq_iff_eq.mpr c31
       have c31b1 : (t451 != (t424.length : Int)) = false := bne_eq_false_iff_eq.mpr c31
       clear c31
       replace H := Option.bind_eq_some_iff.mp H
       obtain ⟨t452, A320, H⟩ := H
       replace H : (if t452 = true then ((bag_Right.f k t433).bind fun t453 => ((marchlandref04_Right.f k t427).bind fun t454 => (marchlandlaw04_BagApplies.j0 k t424 t427 t430 t433 t436 t437 (t453 != t454)))) else (marchlandlaw04_BagApplies.j0 k t424 t427 t430 t433 t436 t437 true)) = some r := H
       have A32 := Aside0.mk A320
       clear A320
       by_cases c33 : t452 = true
       ·subst c33
        have H1 : ((bag_Right.f k t433).bind fun t453 => ((marchlandref04_Right.f k t427).bind fun t454 => (marchlandlaw04_BagApplies.j0 k t424 t427 t430 t433 t436 t437 (t453 != t454)))) = some r := by rw [if_pos rfl] at H; exact H
        clear H
        have H := H1
        clear H1
        replace H := Option.bind_eq_some_iff.mp H
        obtain ⟨t453, A340, H⟩ := H
        replace H : ((marchlandref04_Right.f k t427).bind fun t454 => (marchlandlaw04_BagApplies.j0 k t424 t427 t430 t433 t436 t437 (t453 != t454))) = some r := H
        have A34 := Aside0.mk A340
        clear A340
        replace H := Option.bind_eq_some_iff.mp H
        obtain ⟨t454, A350, H⟩ := H
        replace H : (marchlandlaw04_BagApplies.j0 k t424 t427 t430 t433 t436 t437 (t453 != t454)) = some r := H
        have A35 := Aside0.mk A350
        clear A350
        have H' := Aside0.mk H
        clear H
        go_wp2_with (first | ((with_reducible refine gate_callee (f := 29) rfl ?_); refine gl (some 33) Try.func29 #[] ?_; (with_reducible refine (marchlandlaw04_told.calls k  true _ A21.out).mono ?_); rintro e w36 ⟨rfl, hb⟩; refine ⟨_, rfl, ?_⟩; replace HO426 := rb HO426 hb; replace HO429 := rb HO429 hb; replace HO432 := rb HO432 hb; replace HO435 := rb HO435 hb; replace HO439 := rb HO439 hb; replace HO443 := rb HO443 hb; replace HB := bb HB hb; (try clear hb); obtain ⟨Ao37, co37, eo37⟩ := Kd.R_slice HO439.out; subst eo37) | (go_at_call 19; (with_reducible refine (marchlandlaw03_From.calls k _ _ t436 t445 _ ?side1 ?side2 A24.out).mono ?_); (case side1 => exact rc HO439); (case side2 => exact rs HO439); rintro e w38 ⟨v446, rfl, ho0, hb⟩; have n6_ := Aside0.mk (Kd.R_lower (Kd.R_new' (Kd.R_new' (Kd.R_new' ho0 (Kd.R_lt (rn HO426))) (Kd.R_lt (rn HO429))) (Kd.R_lt (rn HO443))) (below_size (bn HB))); replace HO426 := rl HO426 (Kd.R_base ho0) hb; replace HO429 := rl HO429 (Kd.R_base ho0) hb; replace HO432 := rb HO432 hb; replace HO435 := rb HO435 hb; replace HO439 := rb HO439 hb; replace HO443 := rl HO443 (Kd.R_base ho0) hb; have HO447 := n6_; replace HB := bb HB hb; clear n6_; (try clear hb); (try clear ho0); obtain ⟨Ao39, co39, eo39⟩ := Kd.R_slice HO447.out; subst eo39; obtain ⟨Ao40, co40, eo40⟩ := Kd.R_slice HO443.out; subst eo40) | (go_at_call 18; (with_reducible refine (marchlandref03_Same.calls k _ _ t445 _ _ t440 true _ ?side1 ?side2 ?side3 ?side4 A25.out).mono ?_); (case side1 => exact rc HO447); (case side2 => exact rs HO447); (case side3 => exact rc HO443); (case side4 => exact rs HO443); rintro e w' ⟨rfl, ⟨nd, rfl⟩⟩) | (go_at_call 30; (with_reducible refine (bag_Least.calls k _ _ t430 a2 t449 _ ?side1 ?side2 A27.out).mono ?_); (case side1 => exact rc HO432); (case side2 => exact rs HO432); rintro e w41 ⟨rfl, hb⟩; replace HO426 := rb HO426 hb; replace HO429 := rb HO429 hb; replace HO432 := rb HO432 hb; replace HO435 := rb HO435 hb; replace HO439 := rb HO439 hb; replace HO443 := rb HO443 hb; replace HO447 := rb HO447 hb; replace HB := bb HB hb; (try clear hb)) | (go_at_call 31; (with_reducible refine (marchlandref04_Least.calls k _ _ t424 a2 t450 _ ?side1 ?side2 A28.out).mono ?_); (case side1 => exact rc HO426); (case side2 => exact rs HO426); rintro e w' ⟨rfl, ⟨nd, rfl⟩⟩) | (go_at_call 32; (with_reducible refine (bag_Sum.calls _ _ t430 t451 _ ?side1 ?side2 A30.out).mono ?_); (case side1 => exact rc HO432); (case side2 => exact rs HO432); rintro e w' ⟨rfl, ⟨nd, rfl⟩⟩) | (go_at_call 33; (with_reducible refine (bag_Right.calls k _ _ t430 true _ ?side1 ?side2 A32.out).mono ?_); (case side1 => exact rc HO432); (case side2 => exact rs HO432); rintro e w42 ⟨rfl, hb⟩; replace HO426 := rb HO426 hb; replace HO429 := rb HO429 hb; replace HO432 := rb HO432 hb; replace HO435 := rb HO435 hb; replace HO439 := rb HO439 hb; replace HO443 := rb HO443 hb; replace HO447 := rb HO447 hb; replace HB := bb HB hb; (try clear hb)) | (go_at_call 33; (with_reducible refine (bag_Right.calls k _ _ t433 t453 _ ?side1 ?side2 A34.out).mono ?_); (case side1 => exact rc HO435); (case side2 => exact rs HO435); rintro e w43 ⟨rfl, hb⟩; replace HO426 := rb HO426 hb; replace HO429 := rb HO429 hb; replace HO432 := rb HO432 hb; replace HO435 := rb HO435 hb; replace HO439 := rb HO439 hb; replace HO443 := rb HO443 hb; replace HO447 := rb HO447 hb; replace HB := bb HB hb; (try clear hb)) | (go_at_call 34; (with_reducible refine (marchlandref04_Right.calls k _ _ t427 t454 _ ?side1 ?side2 A35.out).mono ?_); (case side1 => exact rc HO429); (case side2 => exact rs HO429); rintro e w44 ⟨rfl, hb⟩; replace HO426 := rb HO426 hb; replace HO429 := rb HO429 hb; replace HO432 := rb HO432 hb; replace HO435 := rb HO435 hb; replace HO439 := rb HO439 hb; replace HO443 := rb HO443 hb; replace HO447 := rb HO447 hb; replace HB := bb HB hb; (try clear hb)))
        go_meet
        case rel => exact ⟨_, ((t453 != t454)), (by first | rfl | (simp; done) | (simp [*]; done)), H', ⟨by first | omega | exact Nat.le_refl _⟩, ⟨by (with_reducible repeat (first | apply Kd.R_alloc | apply Kd.R_drewN | apply Kd.R_drew)); exact Kd.R_mono HO426.out (fun _ hk => hk.1.1.2)⟩, ⟨by (with_reducible repeat (first | apply Kd.R_alloc | apply Kd.R_drewN | apply Kd.R_drew)); exact Kd.R_mono HO429.out (fun _ hk => hk.1.1.2)⟩, ⟨by (with_reducible repeat (first | apply Kd.R_alloc | apply Kd.R_drewN | apply Kd.R_drew)); exact Kd.R_mono HO432.out (fun _ hk => ⟨hk.1.2, hk.2⟩)⟩, ⟨by (with_reducible repeat (first | apply Kd.R_alloc | apply Kd.R_drewN | apply Kd.R_drew)); exact Kd.R_mono HO435.out (fun _ hk => ⟨hk.1.2, hk.2⟩)⟩, ⟨by (with_reducible repeat (first | apply Kd.R_alloc | apply Kd.R_drewN | apply Kd.R_drew)); exact Kd.R_mono HO439.out (fun _ hk => ⟨hk.1.2, hk.2⟩)⟩, ⟨by repeat (first | (with_reducible first | exact HB.out | apply below_alloc | apply pw_below_drewN | apply below_drew1) | exact HB.out)⟩⟩
       ·replace c33 := Bool.eq_false_iff.mpr c33
        subst c33
        have H1 : (marchlandlaw04_BagApplies.j0 k t424 t427 t430 t433 t436 t437 true) = some r := by rw [if_neg (show ¬ (false = true) by decide)] at H; exact H
        clear H
        have H := H1
        clear H1
        have H' := Aside0.mk H
        clear H
        go_wp2_with (first | ((with_reducible refine gate_callee (f := 29) rfl ?_); refine gl (some 33) Try.func29 #[] ?_; (with_reducible refine (marchlandlaw04_told.calls k  true _ A21.out).mono ?_); rintro e w45 ⟨rfl, hb⟩; refine ⟨_, rfl, ?_⟩; replace HO426 := rb HO426 hb; replace HO429 := rb HO429 hb; replace HO432 := rb HO432 hb; replace HO435 := rb HO435 hb; replace HO439 := rb HO439 hb; replace HO443 := rb HO443 hb; replace HB := bb HB hb; (try clear hb); obtain ⟨Ao46, co46, eo46⟩ := Kd.R_slice HO439.out; subst eo46) | (go_at_call 19; (with_reducible refine (marchlandlaw03_From.calls k _ _ t436 t445 _ ?side1 ?side2 A24.out).mono ?_); (case side1 => exact rc HO439); (case side2 => exact rs HO439); rintro e w47 ⟨v446, rfl, ho0, hb⟩; have n6_ := Aside0.mk (Kd.R_lower (Kd.R_new' (Kd.R_new' (Kd.R_new' ho0 (Kd.R_lt (rn HO426))) (Kd.R_lt (rn HO429))) (Kd.R_lt (rn HO443))) (below_size (bn HB))); replace HO426 := rl HO426 (Kd.R_base ho0) hb; replace HO429 := rl HO429 (Kd.R_base ho0) hb; replace HO432 := rb HO432 hb; replace HO435 := rb HO435 hb; replace HO439 := rb HO439 hb; replace HO443 := rl HO443 (Kd.R_base ho0) hb; have HO447 := n6_; replace HB := bb HB hb; clear n6_; (try clear hb); (try clear ho0); obtain ⟨Ao48, co48, eo48⟩ := Kd.R_slice HO447.out; subst eo48; obtain ⟨Ao49, co49, eo49⟩ := Kd.R_slice HO443.out; subst eo49) | (go_at_call 18; (with_reducible refine (marchlandref03_Same.calls k _ _ t445 _ _ t440 true _ ?side1 ?side2 ?side3 ?side4 A25.out).mono ?_); (case side1 => exact rc HO447); (case side2 => exact rs HO447); (case side3 => exact rc HO443); (case side4 => exact rs HO443); rintro e w' ⟨rfl, ⟨nd, rfl⟩⟩) | (go_at_call 30; (with_reducible refine (bag_Least.calls k _ _ t430 a2 t449 _ ?side1 ?side2 A27.out).mono ?_); (case side1 => exact rc HO432); (case side2 => exact rs HO432); rintro e w50 ⟨rfl, hb⟩; replace HO426 := rb HO426 hb; replace HO429 := rb HO429 hb; replace HO432 := rb HO432 hb; replace HO435 := rb HO435 hb; replace HO439 := rb HO439 hb; replace HO443 := rb HO443 hb; replace HO447 := rb HO447 hb; replace HB := bb HB hb; (try clear hb)) | (go_at_call 31; (with_reducible refine (marchlandref04_Least.calls k _ _ t424 a2 t450 _ ?side1 ?side2 A28.out).mono ?_); (case side1 => exact rc HO426); (case side2 => exact rs HO426); rintro e w' ⟨rfl, ⟨nd, rfl⟩⟩) | (go_at_call 32; (with_reducible refine (bag_Sum.calls _ _ t430 t451 _ ?side1 ?side2 A30.out).mono ?_); (case side1 => exact rc HO432); (case side2 => exact rs HO432); rintro e w' ⟨rfl, ⟨nd, rfl⟩⟩) | (go_at_call 33; (with_reducible refine (bag_Right.calls k _ _ t430 false _ ?side1 ?side2 A32.out).mono ?_); (case side1 => exact rc HO432); (case side2 => exact rs HO432); rintro e w51 ⟨rfl, hb⟩; replace HO426 := rb HO426 hb; replace HO429 := rb HO429 hb; replace HO432 := rb HO432 hb; replace HO435 := rb HO435 hb; replace HO439 := rb HO439 hb; replace HO443 := rb HO443 hb; replace HO447 := rb HO447 hb; replace HB := bb HB hb; (try clear hb)))
        go_meet
        case rel => exact ⟨_, (true), (by first | rfl | (simp; done) | (simp [*]; done)), H', ⟨by first | omega | exact Nat.le_refl _⟩, ⟨by (with_reducible repeat (first | apply Kd.R_alloc | apply Kd.R_drewN | apply Kd.R_drew)); exact Kd.R_mono HO426.out (fun _ hk => hk.1.1.2)⟩, ⟨by (with_reducible repeat (first | apply Kd.R_alloc | apply Kd.R_drewN | apply Kd.R_drew)); exact Kd.R_mono HO429.out (fun _ hk => hk.1.1.2)⟩, ⟨by (with_reducible repeat (first | apply Kd.R_alloc | apply Kd.R_drewN | apply Kd.R_drew)); exact Kd.R_mono HO432.out (fun _ hk => ⟨hk.1.2, hk.2⟩)⟩, ⟨by (with_reducible repeat (first | apply Kd.R_alloc | apply Kd.R_drewN | apply Kd.R_drew)); exact Kd.R_mono HO435.out (fun _ hk => ⟨hk.1.2, hk.2⟩)⟩, ⟨by (with_reducible repeat (first | apply Kd.R_alloc | apply Kd.R_drewN | apply Kd.R_drew)); exact Kd.R_mono HO439.out (fun _ hk => ⟨hk.1.2, hk.2⟩)⟩, ⟨by repeat (first | (with_reducible first | exact HB.out | apply below_alloc | apply pw_below_drewN | apply below_drew1) | exact HB.out)⟩⟩
      ·rw [if_neg c31] at H
       have c31b0 : (t451 == (t424.length : Int)) = false := beq_eq_false_iff_ne.mpr c31
       have c31b1 : (t451 != (t424.length : Int)) = true := bne_iff_ne.mpr c31
       have H' := Aside0.mk H
       clear H
       go_wp2_with (first | ((with_reducible refine gate_callee (f := 29) rfl ?_); refine gl (some 33) Try.func29 #[] ?_; (with_reducible refine (marchlandlaw04_told.calls k  true _ A21.out).mono ?_); rintro e w52 ⟨rfl, hb⟩; refine ⟨_, rfl, ?_⟩; replace HO426 := rb HO426 hb; replace HO429 := rb HO429 hb; replace HO432 := rb HO432 hb; replace HO435 := rb HO435 hb; replace HO439 := rb HO439 hb; replace HO443 := rb HO443 hb; replace HB := bb HB hb; (try clear hb); obtain ⟨Ao53, co53, eo53⟩ := Kd.R_slice HO439.out; subst eo53) | (go_at_call 19; (with_reducible refine (marchlandlaw03_From.calls k _ _ t436 t445 _ ?side1 ?side2 A24.out).mono ?_); (case side1 => exact rc HO439); (case side2 => exact rs HO439); rintro e w54 ⟨v446, rfl, ho0, hb⟩; have n6_ := Aside0.mk (Kd.R_lower (Kd.R_new' (Kd.R_new' (Kd.R_new' ho0 (Kd.R_lt (rn HO426))) (Kd.R_lt (rn HO429))) (Kd.R_lt (rn HO443))) (below_size (bn HB))); replace HO426 := rl HO426 (Kd.R_base ho0) hb; replace HO429 := rl HO429 (Kd.R_base ho0) hb; replace HO432 := rb HO432 hb; replace HO435 := rb HO435 hb; replace HO439 := rb HO439 hb; replace HO443 := rl HO443 (Kd.R_base ho0) hb; have HO447 := n6_; replace HB := bb HB hb; clear n6_; (try clear hb); (try clear ho0); obtain ⟨Ao55, co55, eo55⟩ := Kd.R_slice HO447.out; subst eo55; obtain ⟨Ao56, co56, eo56⟩ := Kd.R_slice HO443.out; subst eo56) | (go_at_call 18; (with_reducible refine (marchlandref03_Same.calls k _ _ t445 _ _ t440 true _ ?side1 ?side2 ?side3 ?side4 A25.out).mono ?_); (case side1 => exact rc HO447); (case side2 => exact rs HO447); (case side3 => exact rc HO443); (case side4 => exact rs HO443); rintro e w' ⟨rfl, ⟨nd, rfl⟩⟩) | (go_at_call 30; (with_reducible refine (bag_Least.calls k _ _ t430 a2 t449 _ ?side1 ?side2 A27.out).mono ?_); (case side1 => exact rc HO432); (case side2 => exact rs HO432); rintro e w57 ⟨rfl, hb⟩; replace HO426 := rb HO426 hb; replace HO429 := rb HO429 hb; replace HO432 := rb HO432 hb; replace HO435 := rb HO435 hb; replace HO439 := rb HO439 hb; replace HO443 := rb HO443 hb; replace HO447 := rb HO447 hb; replace HB := bb HB hb; (try clear hb)) | (go_at_call 31; (with_reducible refine (marchlandref04_Least.calls k _ _ t424 a2 t450 _ ?side1 ?side2 A28.out).mono ?_); (case side1 => exact rc HO426); (case side2 => exact rs HO426); rintro e w' ⟨rfl, ⟨nd, rfl⟩⟩) | (go_at_call 32; (with_reducible refine (bag_Sum.calls _ _ t430 t451 _ ?side1 ?side2 A30.out).mono ?_); (case side1 => exact rc HO432); (case side2 => exact rs HO432); rintro e w' ⟨rfl, ⟨nd, rfl⟩⟩))
       go_meet
       case rel => exact ⟨_, (true), (by first | rfl | (simp; done) | (simp [*]; done)), H', ⟨by first | omega | exact Nat.le_refl _⟩, ⟨by (with_reducible repeat (first | apply Kd.R_alloc | apply Kd.R_drewN | apply Kd.R_drew)); exact Kd.R_mono HO426.out (fun _ hk => hk.1.1.2)⟩, ⟨by (with_reducible repeat (first | apply Kd.R_alloc | apply Kd.R_drewN | apply Kd.R_drew)); exact Kd.R_mono HO429.out (fun _ hk => hk.1.1.2)⟩, ⟨by (with_reducible repeat (first | apply Kd.R_alloc | apply Kd.R_drewN | apply Kd.R_drew)); exact Kd.R_mono HO432.out (fun _ hk => ⟨hk.1.2, hk.2⟩)⟩, ⟨by (with_reducible repeat (first | apply Kd.R_alloc | apply Kd.R_drewN | apply Kd.R_drew)); exact Kd.R_mono HO435.out (fun _ hk => ⟨hk.1.2, hk.2⟩)⟩, ⟨by (with_reducible repeat (first | apply Kd.R_alloc | apply Kd.R_drewN | apply Kd.R_drew)); exact Kd.R_mono HO439.out (fun _ hk => ⟨hk.1.2, hk.2⟩)⟩, ⟨by repeat (first | (with_reducible first | exact HB.out | apply below_alloc | apply pw_below_drewN | apply below_drew1) | exact HB.out)⟩⟩
     ·rw [if_neg c29] at H
      have c29b0 : (t449 == t450) = false := beq_eq_false_iff_ne.mpr c29
      have c29b1 : (t449 != t450) = true := bne_iff_ne.mpr c29
      have H' := Aside0.mk H
      clear H
      go_wp2_with (first | ((with_reducible refine gate_callee (f := 29) rfl ?_); refine gl (some 33) Try.func29 #[] ?_; (with_reducible refine (marchlandlaw04_told.calls k  true _ A21.out).mono ?_); rintro e w58 ⟨rfl, hb⟩; refine ⟨_, rfl, ?_⟩; replace HO426 := rb HO426 hb; replace HO429 := rb HO429 hb; replace HO432 := rb HO432 hb; replace HO435 := rb HO435 hb; replace HO439 := rb HO439 hb; replace HO443 := rb HO443 hb; replace HB := bb HB hb; (try clear hb); obtain ⟨Ao59, co59, eo59⟩ := Kd.R_slice HO439.out; subst eo59) | (go_at_call 19; (with_reducible refine (marchlandlaw03_From.calls k _ _ t436 t445 _ ?side1 ?side2 A24.out).mono ?_); (case side1 => exact rc HO439); (case side2 => exact rs HO439); rintro e w60 ⟨v446, rfl, ho0, hb⟩; have n6_ := Aside0.mk (Kd.R_lower (Kd.R_new' (Kd.R_new' (Kd.R_new' ho0 (Kd.R_lt (rn HO426))) (Kd.R_lt (rn HO429))) (Kd.R_lt (rn HO443))) (below_size (bn HB))); replace HO426 := rl HO426 (Kd.R_base ho0) hb; replace HO429 := rl HO429 (Kd.R_base ho0) hb; replace HO432 := rb HO432 hb; replace HO435 := rb HO435 hb; replace HO439 := rb HO439 hb; replace HO443 := rl HO443 (Kd.R_base ho0) hb; have HO447 := n6_; replace HB := bb HB hb; clear n6_; (try clear hb); (try clear ho0); obtain ⟨Ao61, co61, eo61⟩ := Kd.R_slice HO447.out; subst eo61; obtain ⟨Ao62, co62, eo62⟩ := Kd.R_slice HO443.out; subst eo62) | (go_at_call 18; (with_reducible refine (marchlandref03_Same.calls k _ _ t445 _ _ t440 true _ ?side1 ?side2 ?side3 ?side4 A25.out).mono ?_); (case side1 => exact rc HO447); (case side2 => exact rs HO447); (case side3 => exact rc HO443); (case side4 => exact rs HO443); rintro e w' ⟨rfl, ⟨nd, rfl⟩⟩) | (go_at_call 30; (with_reducible refine (bag_Least.calls k _ _ t430 a2 t449 _ ?side1 ?side2 A27.out).mono ?_); (case side1 => exact rc HO432); (case side2 => exact rs HO432); rintro e w63 ⟨rfl, hb⟩; replace HO426 := rb HO426 hb; replace HO429 := rb HO429 hb; replace HO432 := rb HO432 hb; replace HO435 := rb HO435 hb; replace HO439 := rb HO439 hb; replace HO443 := rb HO443 hb; replace HO447 := rb HO447 hb; replace HB := bb HB hb; (try clear hb)) | (go_at_call 31; (with_reducible refine (marchlandref04_Least.calls k _ _ t424 a2 t450 _ ?side1 ?side2 A28.out).mono ?_); (case side1 => exact rc HO426); (case side2 => exact rs HO426); rintro e w' ⟨rfl, ⟨nd, rfl⟩⟩))
      go_meet
      case rel => exact ⟨_, (true), (by first | rfl | (simp; done) | (simp [*]; done)), H', ⟨by first | omega | exact Nat.le_refl _⟩, ⟨by (with_reducible repeat (first | apply Kd.R_alloc | apply Kd.R_drewN | apply Kd.R_drew)); exact Kd.R_mono HO426.out (fun _ hk => hk.1.1.2)⟩, ⟨by (with_reducible repeat (first | apply Kd.R_alloc | apply Kd.R_drewN | apply Kd.R_drew)); exact Kd.R_mono HO429.out (fun _ hk => hk.1.1.2)⟩, ⟨by (with_reducible repeat (first | apply Kd.R_alloc | apply Kd.R_drewN | apply Kd.R_drew)); exact Kd.R_mono HO432.out (fun _ hk => ⟨hk.1.2, hk.2⟩)⟩, ⟨by (with_reducible repeat (first | apply Kd.R_alloc | apply Kd.R_drewN | apply Kd.R_drew)); exact Kd.R_mono HO435.out (fun _ hk => ⟨hk.1.2, hk.2⟩)⟩, ⟨by (with_reducible repeat (first | apply Kd.R_alloc | apply Kd.R_drewN | apply Kd.R_drew)); exact Kd.R_mono HO439.out (fun _ hk => ⟨hk.1.2, hk.2⟩)⟩, ⟨by repeat (first | (with_reducible first | exact HB.out | apply below_alloc | apply pw_below_drewN | apply below_drew1) | exact HB.out)⟩⟩
    ·replace c26 := Bool.eq_false_iff.mpr c26
     subst c26
     have H1 : (marchlandlaw04_BagApplies.j0 k t424 t427 t430 t433 t436 t437 true) = some r := by rw [if_neg (show ¬ (false = true) by decide)] at H; exact H
     clear H
     have H := H1
     clear H1
     have H' := Aside0.mk H
     clear H
     go_wp2_with (first | ((with_reducible refine gate_callee (f := 29) rfl ?_); refine gl (some 33) Try.func29 #[] ?_; (with_reducible refine (marchlandlaw04_told.calls k  true _ A21.out).mono ?_); rintro e w64 ⟨rfl, hb⟩; refine ⟨_, rfl, ?_⟩; replace HO426 := rb HO426 hb; replace HO429 := rb HO429 hb; replace HO432 := rb HO432 hb; replace HO435 := rb HO435 hb; replace HO439 := rb HO439 hb; replace HO443 := rb HO443 hb; replace HB := bb HB hb; (try clear hb); obtain ⟨Ao65, co65, eo65⟩ := Kd.R_slice HO439.out; subst eo65) | (go_at_call 19; (with_reducible refine (marchlandlaw03_From.calls k _ _ t436 t445 _ ?side1 ?side2 A24.out).mono ?_); (case side1 => exact rc HO439); (case side2 => exact rs HO439); rintro e w66 ⟨v446, rfl, ho0, hb⟩; have n6_ := Aside0.mk (Kd.R_lower (Kd.R_new' (Kd.R_new' (Kd.R_new' ho0 (Kd.R_lt (rn HO426))) (Kd.R_lt (rn HO429))) (Kd.R_lt (rn HO443))) (below_size (bn HB))); replace HO426 := rl HO426 (Kd.R_base ho0) hb; replace HO429 := rl HO429 (Kd.R_base ho0) hb; replace HO432 := rb HO432 hb; replace HO435 := rb HO435 hb; replace HO439 := rb HO439 hb; replace HO443 := rl HO443 (Kd.R_base ho0) hb; have HO447 := n6_; replace HB := bb HB hb; clear n6_; (try clear hb); (try clear ho0); obtain ⟨Ao67, co67, eo67⟩ := Kd.R_slice HO447.out; subst eo67; obtain ⟨Ao68, co68, eo68⟩ := Kd.R_slice HO443.out; subst eo68) | (go_at_call 18; (with_reducible refine (marchlandref03_Same.calls k _ _ t445 _ _ t440 false _ ?side1 ?side2 ?side3 ?side4 A25.out).mono ?_); (case side1 => exact rc HO447); (case side2 => exact rs HO447); (case side3 => exact rc HO443); (case side4 => exact rs HO443); rintro e w' ⟨rfl, ⟨nd, rfl⟩⟩))
     go_meet
     case rel => exact ⟨_, (true), (by first | rfl | (simp; done) | (simp [*]; done)), H', ⟨by first | omega | exact Nat.le_refl _⟩, ⟨by (with_reducible repeat (first | apply Kd.R_alloc | apply Kd.R_drewN | apply Kd.R_drew)); exact Kd.R_mono HO426.out (fun _ hk => hk.1.1.2)⟩, ⟨by (with_reducible repeat (first | apply Kd.R_alloc | apply Kd.R_drewN | apply Kd.R_drew)); exact Kd.R_mono HO429.out (fun _ hk => hk.1.1.2)⟩, ⟨by (with_reducible repeat (first | apply Kd.R_alloc | apply Kd.R_drewN | apply Kd.R_drew)); exact Kd.R_mono HO432.out (fun _ hk => ⟨hk.1.2, hk.2⟩)⟩, ⟨by (with_reducible repeat (first | apply Kd.R_alloc | apply Kd.R_drewN | apply Kd.R_drew)); exact Kd.R_mono HO435.out (fun _ hk => ⟨hk.1.2, hk.2⟩)⟩, ⟨by (with_reducible repeat (first | apply Kd.R_alloc | apply Kd.R_drewN | apply Kd.R_drew)); exact Kd.R_mono HO439.out (fun _ hk => ⟨hk.1.2, hk.2⟩)⟩, ⟨by repeat (first | (with_reducible first | exact HB.out | apply below_alloc | apply pw_below_drewN | apply below_drew1) | exact HB.out)⟩⟩
   ·rw [if_neg c23] at H
    have c23b0 : (t437 == t441) = false := beq_eq_false_iff_ne.mpr c23
    have c23b1 : (t437 != t441) = true := bne_iff_ne.mpr c23
    (first | rw [c23b0] | (simp only [i64_w, i32_w]; rw [c23b0]) | skip)
    have H' := Aside0.mk H
    clear H
    go_wp2_with (first | ((with_reducible refine gate_callee (f := 29) rfl ?_); refine gl (some 33) Try.func29 #[] ?_; (with_reducible refine (marchlandlaw04_told.calls k  true _ A21.out).mono ?_); rintro e w69 ⟨rfl, hb⟩; refine ⟨_, rfl, ?_⟩; replace HO426 := rb HO426 hb; replace HO429 := rb HO429 hb; replace HO432 := rb HO432 hb; replace HO435 := rb HO435 hb; replace HO439 := rb HO439 hb; replace HO443 := rb HO443 hb; replace HB := bb HB hb; (try clear hb)))
    go_meet
    case rel => exact ⟨_, (true), (by first | rfl | (simp; done) | (simp [*]; done)), H', ⟨by first | omega | exact Nat.le_refl _⟩, ⟨by (with_reducible repeat (first | apply Kd.R_alloc | apply Kd.R_drewN | apply Kd.R_drew)); exact Kd.R_mono HO426.out (fun _ hk => hk.1.2)⟩, ⟨by (with_reducible repeat (first | apply Kd.R_alloc | apply Kd.R_drewN | apply Kd.R_drew)); exact Kd.R_mono HO429.out (fun _ hk => hk.1.2)⟩, ⟨by (with_reducible repeat (first | apply Kd.R_alloc | apply Kd.R_drewN | apply Kd.R_drew)); exact Kd.R_mono HO432.out (fun _ hk => ⟨hk.1.2, hk.2⟩)⟩, ⟨by (with_reducible repeat (first | apply Kd.R_alloc | apply Kd.R_drewN | apply Kd.R_drew)); exact Kd.R_mono HO435.out (fun _ hk => ⟨hk.1.2, hk.2⟩)⟩, ⟨by (with_reducible repeat (first | apply Kd.R_alloc | apply Kd.R_drewN | apply Kd.R_drew)); exact Kd.R_mono HO439.out (fun _ hk => ⟨hk.1.2, hk.2⟩)⟩, ⟨by repeat (first | (with_reducible first | exact HB.out | apply below_alloc | apply pw_below_drewN | apply below_drew1) | exact HB.out)⟩⟩
  ·replace c22 := Bool.eq_false_iff.mpr c22
   subst c22
   have H1 : (marchlandlaw04_BagApplies.j0 k t424 t427 t430 t433 t436 t437 true) = some r := by rw [if_neg (show ¬ (false = true) by decide)] at H; exact H
   clear H
   have H := H1
   clear H1
   have H' := Aside0.mk H
   clear H
   go_wp2_with (first | ((with_reducible refine gate_callee (f := 29) rfl ?_); refine gl (some 33) Try.func29 #[] ?_; (with_reducible refine (marchlandlaw04_told.calls k  false _ A21.out).mono ?_); rintro e w70 ⟨rfl, hb⟩; refine ⟨_, rfl, ?_⟩; replace HO426 := rb HO426 hb; replace HO429 := rb HO429 hb; replace HO432 := rb HO432 hb; replace HO435 := rb HO435 hb; replace HO439 := rb HO439 hb; replace HO443 := rb HO443 hb; replace HB := bb HB hb; (try clear hb)))
   go_meet
   case rel => exact ⟨_, (true), (by first | rfl | (simp; done) | (simp [*]; done)), H', ⟨by first | omega | exact Nat.le_refl _⟩, ⟨by (with_reducible repeat (first | apply Kd.R_alloc | apply Kd.R_drewN | apply Kd.R_drew)); exact Kd.R_mono HO426.out (fun _ hk => hk.1.2)⟩, ⟨by (with_reducible repeat (first | apply Kd.R_alloc | apply Kd.R_drewN | apply Kd.R_drew)); exact Kd.R_mono HO429.out (fun _ hk => hk.1.2)⟩, ⟨by (with_reducible repeat (first | apply Kd.R_alloc | apply Kd.R_drewN | apply Kd.R_drew)); exact Kd.R_mono HO432.out (fun _ hk => ⟨hk.1.2, hk.2⟩)⟩, ⟨by (with_reducible repeat (first | apply Kd.R_alloc | apply Kd.R_drewN | apply Kd.R_drew)); exact Kd.R_mono HO435.out (fun _ hk => ⟨hk.1.2, hk.2⟩)⟩, ⟨by (with_reducible repeat (first | apply Kd.R_alloc | apply Kd.R_drewN | apply Kd.R_drew)); exact Kd.R_mono HO439.out (fun _ hk => ⟨hk.1.2, hk.2⟩)⟩, ⟨by repeat (first | (with_reducible first | exact HB.out | apply below_alloc | apply pw_below_drewN | apply below_drew1) | exact HB.out)⟩⟩
 case rest =>
  clear HC10
  (try clear c1); (try clear c2); (try clear p2); (try clear c3); (try clear c6); (try clear c14); (try clear c22); (try clear c23); (try clear c23b0); (try clear c23b1); (try clear c26); (try clear c27); (try clear c28); (try clear c29); (try clear c29b0); (try clear c29b1); (try clear c31); (try clear c31b0)
  (try clear c31b1); (try clear c33)
  obtain ⟨kq, x74_9, rfl, HA, HJ9, HO_0, HO_1, HO_7, HO_8, HO_9, HB⟩ := hcut
  cases kq with
  | zero => exact absurd HA.out (by simp [marchlandlaw04_BagApplies.j0])
  | succ kj9 =>
   have H := HA.out
   clear HA
   simp only [marchlandlaw04_BagApplies.j0] at H
   by_cases c71 : x74_9 = true
   ·subst c71
    have H1 : (some false) = some r := by rw [if_pos rfl] at H; exact H
    clear H
    have H := H1
    clear H1
    obtain rfl := Option.some.inj H
    go_wp2
    go_ret
    exact ⟨by first | rfl | (simp [errW_none, errW_some] <;> rfl) | (simp [*, errW_none, errW_some] <;> rfl), by repeat (first | (with_reducible first | exact HB.out | apply below_alloc | apply pw_below_drewN | apply below_drew1) | exact HB.out)⟩
   ·replace c71 := Bool.eq_false_iff.mpr c71
    subst c71
    have H1 : ((marchlandlaw03_From.f kj9 t430).bind fun t455 => ((marchlandref03_Same.f kj9 t455 t424).bind fun t458 => (if t458 = true then ((marchlandlaw03_From.f kj9 t433).bind fun t459 => ((marchlandref03_Same.f kj9 t459 t427).bind fun t462 => (if t462 = true then (if t437 = 0 then ((bag_Right.f kj9 t436).bind fun t463 => (some t463)) else (some true)) else (some false)))) else (some false)))) = some r := by rw [if_neg (show ¬ (false = true) by decide)] at H; exact H
    clear H
    have H := H1
    clear H1
    replace H := Option.bind_eq_some_iff.mp H
    obtain ⟨t455, A720, H⟩ := H
    replace H : ((marchlandref03_Same.f kj9 t455 t424).bind fun t458 => (if t458 = true then ((marchlandlaw03_From.f kj9 t433).bind fun t459 => ((marchlandref03_Same.f kj9 t459 t427).bind fun t462 => (if t462 = true then (if t437 = 0 then ((bag_Right.f kj9 t436).bind fun t463 => (some t463)) else (some true)) else (some false)))) else (some false))) = some r := H
    have A72 := Aside0.mk A720
    clear A720
    replace H := Option.bind_eq_some_iff.mp H
    obtain ⟨t458, A730, H⟩ := H
    replace H : (if t458 = true then ((marchlandlaw03_From.f kj9 t433).bind fun t459 => ((marchlandref03_Same.f kj9 t459 t427).bind fun t462 => (if t462 = true then (if t437 = 0 then ((bag_Right.f kj9 t436).bind fun t463 => (some t463)) else (some true)) else (some false)))) else (some false)) = some r := H
    have A73 := Aside0.mk A730
    clear A730
    by_cases c74 : t458 = true
    ·subst c74
     have H1 : ((marchlandlaw03_From.f kj9 t433).bind fun t459 => ((marchlandref03_Same.f kj9 t459 t427).bind fun t462 => (if t462 = true then (if t437 = 0 then ((bag_Right.f kj9 t436).bind fun t463 => (some t463)) else (some true)) else (some false)))) = some r := by rw [if_pos rfl] at H; exact H
     clear H
     have H := H1
     clear H1
     replace H := Option.bind_eq_some_iff.mp H
     obtain ⟨t459, A750, H⟩ := H
     replace H : ((marchlandref03_Same.f kj9 t459 t427).bind fun t462 => (if t462 = true then (if t437 = 0 then ((bag_Right.f kj9 t436).bind fun t463 => (some t463)) else (some true)) else (some false))) = some r := H
     have A75 := Aside0.mk A750
     clear A750
     replace H := Option.bind_eq_some_iff.mp H
     obtain ⟨t462, A760, H⟩ := H
     replace H : (if t462 = true then (if t437 = 0 then ((bag_Right.f kj9 t436).bind fun t463 => (some t463)) else (some true)) else (some false)) = some r := H
     have A76 := Aside0.mk A760
     clear A760
     by_cases c77 : t462 = true
     ·subst c77
      have H1 : (if t437 = 0 then ((bag_Right.f kj9 t436).bind fun t463 => (some t463)) else (some true)) = some r := by rw [if_pos rfl] at H; exact H
      clear H
      have H := H1
      clear H1
      by_cases c78 : t437 = 0
      ·rw [if_pos c78] at H
       have c78b0 : (t437 == 0) = true := beq_iff_eq.mpr c78
       have c78b1 : (t437 != 0) = false := bne_eq_false_iff_eq.mpr c78
       clear c78
       replace H := Option.bind_eq_some_iff.mp H
       obtain ⟨t463, A790, H⟩ := H
       replace H : (some t463) = some r := H
       have A79 := Aside0.mk A790
       clear A790
       obtain rfl := Option.some.inj H
       go_wp2_with (first | ((with_reducible refine gate_callee (f := 19) rfl ?_); refine gl (some 76) Try.func19 #[.slice Ao17 t430.length co17] ?_; (with_reducible refine (marchlandlaw03_From.calls kj9 _ _ t430 t455 _ ?side1 ?side2 A72.out).mono ?_); (case side1 => exact rc HO_7); (case side2 => exact rs HO_7); rintro e w80 ⟨v456, rfl, ho0, hb⟩; refine ⟨_, rfl, ?_⟩; have n5_ := Aside0.mk (Kd.R_lower (Kd.R_new' (Kd.R_new' ho0 (Kd.R_lt (rn HO_0))) (Kd.R_lt (rn HO_1))) (below_size (bn HB))); replace HO_0 := rl HO_0 (Kd.R_base ho0) hb; replace HO_1 := rl HO_1 (Kd.R_base ho0) hb; replace HO_7 := rb HO_7 hb; replace HO_8 := rb HO_8 hb; replace HO_9 := rb HO_9 hb; have HO457 := n5_; replace HB := bb HB hb; clear n5_; (try clear hb); (try clear ho0); obtain ⟨Ao81, co81, eo81⟩ := Kd.R_slice HO457.out; subst eo81) | ((with_reducible refine gate_callee (f := 18) rfl ?_); refine gl (some 78) Try.func18 #[.slice Ao81 t455.length co81, .slice Ao13 t424.length co13] ?_; (with_reducible refine (marchlandref03_Same.calls kj9 _ _ t455 _ _ t424 true _ ?side1 ?side2 ?side3 ?side4 A73.out).mono ?_); (case side1 => exact rc HO457); (case side2 => exact rs HO457); (case side3 => exact rc HO_0); (case side4 => exact rs HO_0); rintro e w' ⟨rfl, ⟨nd, rfl⟩⟩; refine ⟨_, rfl, ?_⟩) | (go_at_call 19; (with_reducible refine (marchlandlaw03_From.calls kj9 _ _ t433 t459 _ ?side1 ?side2 A75.out).mono ?_); (case side1 => exact rc HO_8); (case side2 => exact rs HO_8); rintro e w82 ⟨v460, rfl, ho0, hb⟩; have n6_ := Aside0.mk (Kd.R_lower (Kd.R_new' (Kd.R_new' (Kd.R_new' ho0 (Kd.R_lt (rn HO_0))) (Kd.R_lt (rn HO_1))) (Kd.R_lt (rn HO457))) (below_size (bn HB))); replace HO_0 := rl HO_0 (Kd.R_base ho0) hb; replace HO_1 := rl HO_1 (Kd.R_base ho0) hb; replace HO_7 := rb HO_7 hb; replace HO_8 := rb HO_8 hb; replace HO_9 := rb HO_9 hb; replace HO457 := rl HO457 (Kd.R_base ho0) hb; have HO461 := n6_; replace HB := bb HB hb; clear n6_; (try clear hb); (try clear ho0); obtain ⟨Ao83, co83, eo83⟩ := Kd.R_slice HO461.out; subst eo83) | (go_at_call 18; (with_reducible refine (marchlandref03_Same.calls kj9 _ _ t459 _ _ t427 true _ ?side1 ?side2 ?side3 ?side4 A76.out).mono ?_); (case side1 => exact rc HO461); (case side2 => exact rs HO461); (case side3 => exact rc HO_1); (case side4 => exact rs HO_1); rintro e w' ⟨rfl, ⟨nd, rfl⟩⟩; obtain ⟨Ao84, co84, eo84⟩ := Kd.R_slice HO_9.out; subst eo84) | (go_at_call 33; (with_reducible refine (bag_Right.calls kj9 _ _ t436 t463 _ ?side1 ?side2 A79.out).mono ?_); (case side1 => exact rc HO_9); (case side2 => exact rs HO_9); rintro e w85 ⟨rfl, hb⟩; replace HO_0 := rb HO_0 hb; replace HO_1 := rb HO_1 hb; replace HO_7 := rb HO_7 hb; replace HO_8 := rb HO_8 hb; replace HO_9 := rb HO_9 hb; replace HO457 := rb HO457 hb; replace HO461 := rb HO461 hb; replace HB := bb HB hb; (try clear hb)))
       go_ret
       exact ⟨by first | rfl | (simp [errW_none, errW_some] <;> rfl) | (simp [*, errW_none, errW_some] <;> rfl), by repeat (first | (with_reducible first | exact HB.out | apply below_alloc | apply pw_below_drewN | apply below_drew1) | exact HB.out)⟩
      ·rw [if_neg c78] at H
       have c78b0 : (t437 == 0) = false := beq_eq_false_iff_ne.mpr c78
       have c78b1 : (t437 != 0) = true := bne_iff_ne.mpr c78
       obtain rfl := Option.some.inj H
       go_wp2_with (first | ((with_reducible refine gate_callee (f := 19) rfl ?_); refine gl (some 76) Try.func19 #[.slice Ao17 t430.length co17] ?_; (with_reducible refine (marchlandlaw03_From.calls kj9 _ _ t430 t455 _ ?side1 ?side2 A72.out).mono ?_); (case side1 => exact rc HO_7); (case side2 => exact rs HO_7); rintro e w86 ⟨v456, rfl, ho0, hb⟩; refine ⟨_, rfl, ?_⟩; have n5_ := Aside0.mk (Kd.R_lower (Kd.R_new' (Kd.R_new' ho0 (Kd.R_lt (rn HO_0))) (Kd.R_lt (rn HO_1))) (below_size (bn HB))); replace HO_0 := rl HO_0 (Kd.R_base ho0) hb; replace HO_1 := rl HO_1 (Kd.R_base ho0) hb; replace HO_7 := rb HO_7 hb; replace HO_8 := rb HO_8 hb; replace HO_9 := rb HO_9 hb; have HO457 := n5_; replace HB := bb HB hb; clear n5_; (try clear hb); (try clear ho0); obtain ⟨Ao87, co87, eo87⟩ := Kd.R_slice HO457.out; subst eo87) | ((with_reducible refine gate_callee (f := 18) rfl ?_); refine gl (some 78) Try.func18 #[.slice Ao87 t455.length co87, .slice Ao13 t424.length co13] ?_; (with_reducible refine (marchlandref03_Same.calls kj9 _ _ t455 _ _ t424 true _ ?side1 ?side2 ?side3 ?side4 A73.out).mono ?_); (case side1 => exact rc HO457); (case side2 => exact rs HO457); (case side3 => exact rc HO_0); (case side4 => exact rs HO_0); rintro e w' ⟨rfl, ⟨nd, rfl⟩⟩; refine ⟨_, rfl, ?_⟩) | (go_at_call 19; (with_reducible refine (marchlandlaw03_From.calls kj9 _ _ t433 t459 _ ?side1 ?side2 A75.out).mono ?_); (case side1 => exact rc HO_8); (case side2 => exact rs HO_8); rintro e w88 ⟨v460, rfl, ho0, hb⟩; have n6_ := Aside0.mk (Kd.R_lower (Kd.R_new' (Kd.R_new' (Kd.R_new' ho0 (Kd.R_lt (rn HO_0))) (Kd.R_lt (rn HO_1))) (Kd.R_lt (rn HO457))) (below_size (bn HB))); replace HO_0 := rl HO_0 (Kd.R_base ho0) hb; replace HO_1 := rl HO_1 (Kd.R_base ho0) hb; replace HO_7 := rb HO_7 hb; replace HO_8 := rb HO_8 hb; replace HO_9 := rb HO_9 hb; replace HO457 := rl HO457 (Kd.R_base ho0) hb; have HO461 := n6_; replace HB := bb HB hb; clear n6_; (try clear hb); (try clear ho0); obtain ⟨Ao89, co89, eo89⟩ := Kd.R_slice HO461.out; subst eo89) | (go_at_call 18; (with_reducible refine (marchlandref03_Same.calls kj9 _ _ t459 _ _ t427 true _ ?side1 ?side2 ?side3 ?side4 A76.out).mono ?_); (case side1 => exact rc HO461); (case side2 => exact rs HO461); (case side3 => exact rc HO_1); (case side4 => exact rs HO_1); rintro e w' ⟨rfl, ⟨nd, rfl⟩⟩))
       go_ret
       exact ⟨by first | rfl | (simp [errW_none, errW_some] <;> rfl) | (simp [*, errW_none, errW_some] <;> rfl), by repeat (first | (with_reducible first | exact HB.out | apply below_alloc | apply pw_below_drewN | apply below_drew1) | exact HB.out)⟩
     ·replace c77 := Bool.eq_false_iff.mpr c77
      subst c77
      have H1 : (some false) = some r := by rw [if_neg (show ¬ (false = true) by decide)] at H; exact H
      clear H
      have H := H1
      clear H1
      obtain rfl := Option.some.inj H
      go_wp2_with (first | ((with_reducible refine gate_callee (f := 19) rfl ?_); refine gl (some 76) Try.func19 #[.slice Ao17 t430.length co17] ?_; (with_reducible refine (marchlandlaw03_From.calls kj9 _ _ t430 t455 _ ?side1 ?side2 A72.out).mono ?_); (case side1 => exact rc HO_7); (case side2 => exact rs HO_7); rintro e w90 ⟨v456, rfl, ho0, hb⟩; refine ⟨_, rfl, ?_⟩; have n5_ := Aside0.mk (Kd.R_lower (Kd.R_new' (Kd.R_new' ho0 (Kd.R_lt (rn HO_0))) (Kd.R_lt (rn HO_1))) (below_size (bn HB))); replace HO_0 := rl HO_0 (Kd.R_base ho0) hb; replace HO_1 := rl HO_1 (Kd.R_base ho0) hb; replace HO_7 := rb HO_7 hb; replace HO_8 := rb HO_8 hb; replace HO_9 := rb HO_9 hb; have HO457 := n5_; replace HB := bb HB hb; clear n5_; (try clear hb); (try clear ho0); obtain ⟨Ao91, co91, eo91⟩ := Kd.R_slice HO457.out; subst eo91) | ((with_reducible refine gate_callee (f := 18) rfl ?_); refine gl (some 78) Try.func18 #[.slice Ao91 t455.length co91, .slice Ao13 t424.length co13] ?_; (with_reducible refine (marchlandref03_Same.calls kj9 _ _ t455 _ _ t424 true _ ?side1 ?side2 ?side3 ?side4 A73.out).mono ?_); (case side1 => exact rc HO457); (case side2 => exact rs HO457); (case side3 => exact rc HO_0); (case side4 => exact rs HO_0); rintro e w' ⟨rfl, ⟨nd, rfl⟩⟩; refine ⟨_, rfl, ?_⟩) | (go_at_call 19; (with_reducible refine (marchlandlaw03_From.calls kj9 _ _ t433 t459 _ ?side1 ?side2 A75.out).mono ?_); (case side1 => exact rc HO_8); (case side2 => exact rs HO_8); rintro e w92 ⟨v460, rfl, ho0, hb⟩; have n6_ := Aside0.mk (Kd.R_lower (Kd.R_new' (Kd.R_new' (Kd.R_new' ho0 (Kd.R_lt (rn HO_0))) (Kd.R_lt (rn HO_1))) (Kd.R_lt (rn HO457))) (below_size (bn HB))); replace HO_0 := rl HO_0 (Kd.R_base ho0) hb; replace HO_1 := rl HO_1 (Kd.R_base ho0) hb; replace HO_7 := rb HO_7 hb; replace HO_8 := rb HO_8 hb; replace HO_9 := rb HO_9 hb; replace HO457 := rl HO457 (Kd.R_base ho0) hb; have HO461 := n6_; replace HB := bb HB hb; clear n6_; (try clear hb); (try clear ho0); obtain ⟨Ao93, co93, eo93⟩ := Kd.R_slice HO461.out; subst eo93) | (go_at_call 18; (with_reducible refine (marchlandref03_Same.calls kj9 _ _ t459 _ _ t427 false _ ?side1 ?side2 ?side3 ?side4 A76.out).mono ?_); (case side1 => exact rc HO461); (case side2 => exact rs HO461); (case side3 => exact rc HO_1); (case side4 => exact rs HO_1); rintro e w' ⟨rfl, ⟨nd, rfl⟩⟩))
      go_ret
      exact ⟨by first | rfl | (simp [errW_none, errW_some] <;> rfl) | (simp [*, errW_none, errW_some] <;> rfl), by repeat (first | (with_reducible first | exact HB.out | apply below_alloc | apply pw_below_drewN | apply below_drew1) | exact HB.out)⟩
    ·replace c74 := Bool.eq_false_iff.mpr c74
     subst c74
     have H1 : (some false) = some r := by rw [if_neg (show ¬ (false = true) by decide)] at H; exact H
     clear H
     have H := H1
     clear H1
     obtain rfl := Option.some.inj H
     go_wp2_with (first | ((with_reducible refine gate_callee (f := 19) rfl ?_); refine gl (some 76) Try.func19 #[.slice Ao17 t430.length co17] ?_; (with_reducible refine (marchlandlaw03_From.calls kj9 _ _ t430 t455 _ ?side1 ?side2 A72.out).mono ?_); (case side1 => exact rc HO_7); (case side2 => exact rs HO_7); rintro e w94 ⟨v456, rfl, ho0, hb⟩; refine ⟨_, rfl, ?_⟩; have n5_ := Aside0.mk (Kd.R_lower (Kd.R_new' (Kd.R_new' ho0 (Kd.R_lt (rn HO_0))) (Kd.R_lt (rn HO_1))) (below_size (bn HB))); replace HO_0 := rl HO_0 (Kd.R_base ho0) hb; replace HO_1 := rl HO_1 (Kd.R_base ho0) hb; replace HO_7 := rb HO_7 hb; replace HO_8 := rb HO_8 hb; replace HO_9 := rb HO_9 hb; have HO457 := n5_; replace HB := bb HB hb; clear n5_; (try clear hb); (try clear ho0); obtain ⟨Ao95, co95, eo95⟩ := Kd.R_slice HO457.out; subst eo95) | ((with_reducible refine gate_callee (f := 18) rfl ?_); refine gl (some 78) Try.func18 #[.slice Ao95 t455.length co95, .slice Ao13 t424.length co13] ?_; (with_reducible refine (marchlandref03_Same.calls kj9 _ _ t455 _ _ t424 false _ ?side1 ?side2 ?side3 ?side4 A73.out).mono ?_); (case side1 => exact rc HO457); (case side2 => exact rs HO457); (case side3 => exact rc HO_0); (case side4 => exact rs HO_0); rintro e w' ⟨rfl, ⟨nd, rfl⟩⟩; refine ⟨_, rfl, ?_⟩))
     go_ret
     exact ⟨by first | rfl | (simp [errW_none, errW_some] <;> rfl) | (simp [*, errW_none, errW_some] <;> rfl), by repeat (first | (with_reducible first | exact HB.out | apply below_alloc | apply pw_below_drewN | apply below_drew1) | exact HB.out)⟩
end Go.Proofs.Ytgeldmhgbnamcaa.P
end
section
/- Plain laws of bags: counts above nought stay so; the reference's Least and Right. -/
namespace Go.Proofs.Ytgeldmhgbnamcaa.Pure
open Go.RowKit Go.Proofs.Ytgeldmhgbnamcaa.P Go.Proofs.YtgeldmhgbnamcaaW.PrintWords Go.Proofs.YtgeldmhgbnamcaaW.PrintLast
set_option linter.unusedVariables false
set_option linter.unusedSimpArgs false
/-! ### the reference's Least -/
theorem rleast_two (p : Int) (X : List S50) (hl : Short X.length) : ∀ (r pre : List S50) (m : Int), X = pre ++ r → (∀ x ∈ r, x.f0 = p → m ≤ x.f1) → Ev (fun k => marchlandref04_Least.l0 k (X.map v) p m (pre.length : Int)) m := by
 unfold Short at hl
 intro r
 induction r with
 | nil =>
  intro pre m e _
  refine ⟨1, fun k hk => ?_⟩
  obtain ⟨k, rfl⟩ : ∃ m, k = m + 1 := ⟨k - 1, by omega⟩
  show marchlandref04_Least.l0 (k + 1) _ _ _ _ = _
  rw [marchlandref04_Least.l0, if_neg (by subst e; simp)]
 | cons x r ih =>
  intro pre m e hm
  obtain ⟨K1, h1⟩ := ih (pre ++ [x]) m (by simp [e]) (fun y hy => hm y (by simp [hy]))
  refine ⟨K1 + 1, fun k hk => ?_⟩
  obtain ⟨k, rfl⟩ : ∃ m, k = m + 1 := ⟨k - 1, by omega⟩
  have h1 := h1 k (by omega); dsimp only at h1
  have ll : X.length = pre.length + (r.length + 1) := by rw [e]; simp
  have e1 : rd_T40 (X.map v) (pre.length : Int) = v x := by rw [e]; exact rd4m _ _ _ rfl
  have ew : wrap64 ((pre.length : Int) + 1) = ((pre ++ [x]).length : Int) := by rw [w64s (by omega)]; simp
  show marchlandref04_Least.l0 (k + 1) _ _ _ _ = _
  rw [marchlandref04_Least.l0, if_pos (by simp; omega), if_pos (by omega), e1, ew]
  by_cases c : (v x).f0 = p
  ·have := hm x (by simp) c
   rw [if_pos c, if_neg (show ¬ (v x).f1 < m from Int.not_lt.2 this), h1]
  ·rw [if_neg c, h1]
theorem rleast_one (p : Int) (X : List S50) (hl : Short X.length) (hf : ∀ x ∈ X, x.f1 < 18446744073709551615) : ∀ (r pre : List S50), X = pre ++ r → Str r → Ev (fun k => marchlandref04_Least.l0 k (X.map v) p 18446744073709551615 (pre.length : Int)) (leastv p r) := by
 have hl0 := hl
 unfold Short at hl
 intro r
 induction r with
 | nil =>
  intro pre e _
  refine ⟨1, fun k hk => ?_⟩
  obtain ⟨k, rfl⟩ : ∃ m, k = m + 1 := ⟨k - 1, by omega⟩
  show marchlandref04_Least.l0 (k + 1) _ _ _ _ = _
  rw [marchlandref04_Least.l0, if_neg (by subst e; simp)]
  rfl
 | cons x r ih =>
  intro pre e hs
  obtain ⟨h0, h2⟩ := List.pairwise_cons.1 hs
  have ll : X.length = pre.length + (r.length + 1) := by rw [e]; simp
  have e1 : rd_T40 (X.map v) (pre.length : Int) = v x := by rw [e]; exact rd4m _ _ _ rfl
  have ew : wrap64 ((pre.length : Int) + 1) = ((pre ++ [x]).length : Int) := by rw [w64s (by omega)]; simp
  by_cases c : x.f0 = p
  ·obtain ⟨K1, h1⟩ := rleast_two p X hl0 r (pre ++ [x]) x.f1 (by simp [e]) (fun y hy ey => by have := h0 y hy; unfold kl at this; omega)
   refine ⟨K1 + 1, fun k hk => ?_⟩
   obtain ⟨k, rfl⟩ : ∃ m, k = m + 1 := ⟨k - 1, by omega⟩
   have h1 := h1 k (by omega); dsimp only at h1
   show marchlandref04_Least.l0 (k + 1) _ _ _ _ = _
   rw [marchlandref04_Least.l0, if_pos (by simp; omega), if_pos (by omega), e1, ew, if_pos (show (v x).f0 = p from c), if_pos (show (v x).f1 < 18446744073709551615 from hf x (by rw [e]; simp))]
   simp only [leastv, if_pos c]
   exact h1
  ·obtain ⟨K1, h1⟩ := ih (pre ++ [x]) (by simp [e]) h2
   refine ⟨K1 + 1, fun k hk => ?_⟩
   obtain ⟨k, rfl⟩ : ∃ m, k = m + 1 := ⟨k - 1, by omega⟩
   have h1 := h1 k (by omega); dsimp only at h1
   show marchlandref04_Least.l0 (k + 1) _ _ _ _ = _
   rw [marchlandref04_Least.l0, if_pos (by simp; omega), if_pos (by omega), e1, ew, if_neg (show ¬ (v x).f0 = p from c), h1]
   simp only [leastv, if_neg c]
theorem rleast_ev (p : Int) (X : List S50) (hl : Short X.length) (hs : Str X) (hf : ∀ x ∈ X, x.f1 < 18446744073709551615) : Ev (fun k => marchlandref04_Least.f k (X.map v) p) (leastv p X) := rleast_one p X hl hf X [] rfl hs
theorem fix1_f1 {x : S40} (h : wfC x) : (fix1 x).f1 < 18446744073709551615 := by
 obtain ⟨_, ⟨a, b⟩, _⟩ := h
 exact Int.tmod_lt_of_pos _ (by omega)
theorem sumk_f1 {l : List S50} (h : ∀ x ∈ l, x.f1 < 18446744073709551615) : ∀ x ∈ sumk l, x.f1 < 18446744073709551615 := by
 intro x hx
 unfold sumk at hx; split at hx
 ·obtain ⟨hm, _⟩ := List.mem_filter.1 hx
  obtain ⟨y, hy, ek⟩ := tot_mem hm
  rw [ek.2]; exact h y hy
 ·cases hx
theorem fix4_f1 {X : List S40} (h : ∀ y ∈ X, wfC y) : ∀ x ∈ sumk (((X.take 12).map fix4).map fix1), x.f1 < 18446744073709551615 := sumk_f1 (fun x hx => by
 obtain ⟨y, hy, rfl⟩ := List.mem_map.1 hx
 obtain ⟨w, hw, rfl⟩ := List.mem_map.1 hy
 exact fix1_f1 (fix4_wf (h w (List.mem_of_mem_take hw))))
/-! ### Right of bags -/
def allpos (X : List S50) : Bool := X.all (fun x => decide (1 ≤ x.f2))
theorem allpos_of {X : List S50} (h : Pos X) : allpos X = true := List.all_eq_true.2 fun x hx => decide_eq_true (h x hx)
theorem bright_ev {X : List S50} (hl : X.length ≤ 1000000) (h : rightv X = true) : Ev (fun k => bag_Right.f k X) (allpos X) := by
 obtain ⟨K1, h1⟩ := right_ev X (by omega)
 refine ⟨K1, fun k hk => ?_⟩
 have h1 := h1 k hk; dsimp only at h1
 show bag_Right.f k X = _
 rw [bag_Right.f, h1, Option.bind_some, if_pos h, slices_ContainsNone.f, Option.bind_some]
 congr 1
 unfold allpos
 rw [List.all_eq_not_any_not]
 congr 1
 refine List.any_congr ?_ fun x => ?_
 ·rfl
 ·rw [Bool.eq_iff_iff]; simp; omega
theorem rright4_l0 (X : List S50) (hl : X.length ≤ 1000000) (h : rightv X = true) : ∀ (r pre : List S50), X = pre ++ r → Ev (fun k => marchlandref04_Right.l0 k (X.map v) (pre.length : Int)) (allpos r) := by
 intro r
 induction r with
 | nil =>
  intro pre e
  obtain ⟨K1, h1⟩ := rright_ev X (by omega)
  refine ⟨K1 + 1, fun k hk => ?_⟩
  obtain ⟨k, rfl⟩ : ∃ m, k = m + 1 := ⟨k - 1, by omega⟩
  have h1 := h1 k (by omega); dsimp only at h1
  show marchlandref04_Right.l0 (k + 1) _ _ = _
  rw [marchlandref04_Right.l0, if_neg (by subst e; simp), h1, h]
  rfl
 | cons x r ih =>
  intro pre e
  obtain ⟨K1, h1⟩ := ih (pre ++ [x]) (by simp [e])
  refine ⟨K1 + 1, fun k hk => ?_⟩
  obtain ⟨k, rfl⟩ : ∃ m, k = m + 1 := ⟨k - 1, by omega⟩
  have h1 := h1 k (by omega); dsimp only at h1
  have ll : X.length = pre.length + (r.length + 1) := by rw [e]; simp
  have e1 : rd_T40 (X.map v) (pre.length : Int) = v x := by rw [e]; exact rd4m _ _ _ rfl
  have ew : wrap64 ((pre.length : Int) + 1) = ((pre ++ [x]).length : Int) := by rw [w64s (by omega)]; simp
  show marchlandref04_Right.l0 (k + 1) _ _ = _
  rw [marchlandref04_Right.l0, if_pos (by simp; omega), if_pos (by omega), e1, ew]
  have b : allpos (x :: r) = (decide (1 ≤ x.f2) && allpos r) := rfl
  rw [b]
  by_cases c : x.f2 < 1
  ·rw [if_pos (show (v x).f2 < 1 from c), decide_eq_false (by omega)]; rfl
  ·rw [if_neg (show ¬ (v x).f2 < 1 from c), decide_eq_true (by omega), Bool.true_and]; exact h1
theorem rright4_ev {X : List S50} (hl : X.length ≤ 1000000) (h : rightv X = true) : Ev (fun k => marchlandref04_Right.f k (X.map v)) (allpos X) := rright4_l0 X hl h X [] rfl
end Go.Proofs.Ytgeldmhgbnamcaa.Pure
end
section
/- The plain law of BagApplies. -/
namespace Go.Proofs.Ytgeldmhgbnamcaa.Pure
open Go.RowKit Go.Proofs.Ytgeldmhgbnamcaa.P Go.Proofs.YtgeldmhgbnamcaaW.PrintWords Go.Proofs.YtgeldmhgbnamcaaW.PrintLast
set_option linter.unusedVariables false
set_option linter.unusedSimpArgs false
theorem applies_j0 {B C Z : List S50} {e : Int} (lB : B.length ≤ 12) (lC : C.length ≤ 12) (hz : e = 0 → Z.length ≤ 24 ∧ rightv Z = true ∧ Pos Z) : Ev (fun k => marchlandlaw04_BagApplies.j0 k (B.map v) (C.map v) B C Z e false) true := by
  obtain ⟨K1, h1⟩ := from_ev B (by unfold Short; omega)
  obtain ⟨K2, h2⟩ := rsame_true B (by omega)
  obtain ⟨K3, h3⟩ := from_ev C (by unfold Short; omega)
  obtain ⟨K4, h4⟩ := rsame_true C (by omega)
  by_cases c : e = 0
  · obtain ⟨z1, z2, z3⟩ := hz c
    obtain ⟨K5, h5⟩ := bright_ev (X := Z) (by omega) z2
    rw [allpos_of z3] at h5
    refine ⟨K1 + K2 + K3 + K4 + K5 + 1, fun k hk => ?_⟩
    obtain ⟨k, rfl⟩ : ∃ m, k = m + 1 := ⟨k - 1, by omega⟩
    have h1 := h1 k (by omega); have h2 := h2 k (by omega); have h3 := h3 k (by omega); have h4 := h4 k (by omega); have h5 := h5 k (by omega)
    dsimp only at h1 h2 h3 h4 h5
    show marchlandlaw04_BagApplies.j0 (k + 1) _ _ _ _ _ _ _ = _
    rw [marchlandlaw04_BagApplies.j0, if_neg (by decide)]
    simp only [h1, h2, h3, h4, h5, Option.bind_some, if_true, if_pos c]
  · refine ⟨K1 + K2 + K3 + K4 + 1, fun k hk => ?_⟩
    obtain ⟨k, rfl⟩ : ∃ m, k = m + 1 := ⟨k - 1, by omega⟩
    have h1 := h1 k (by omega); have h2 := h2 k (by omega); have h3 := h3 k (by omega); have h4 := h4 k (by omega)
    dsimp only at h1 h2 h3 h4
    show marchlandlaw04_BagApplies.j0 (k + 1) _ _ _ _ _ _ _ = _
    rw [marchlandlaw04_BagApplies.j0, if_neg (by decide)]
    simp only [h1, h2, h3, h4, Option.bind_some, if_true, if_neg c]
theorem BagApplies : ∀ l0 : List S40, l0.length * 24 ≤ 140737488351232 → (∀ y ∈ l0, wfC y) → ∀ l1 : List S40, l1.length * 24 ≤ 140737488351232 → (∀ y ∈ l1, wfC y) → ∀ a2 : Int, (-9223372036854775808 ≤ a2 ∧ a2 ≤ 9223372036854775807) → ∃ k, marchlandlaw04_BagApplies.f k l0 l1 a2 = some true := by
  intro l0 _ q0 l1 _ q1 p _
  obtain ⟨K1, h1⟩ := fix4_ev l0
  obtain ⟨K2, h2⟩ := fix_ev l1
  have hB := fix4_sm q0
  have hC := fix_sm q1
  have pB : Pos (sumk (((l0.take 12).map fix4).map fix1)) := fun x hx => (fix4_pos l0 x hx).1
  have fB := fix4_f1 q0
  generalize sumk (((l0.take 12).map fix4).map fix1) = B at *
  generalize sumk ((l1.take 12).map fix1) = C at *
  have lB := hB.len; have lC := hC.len
  have hm := mass_two hB hC (by omega)
  obtain ⟨K3, h3⟩ := to_ev B (by unfold Short; omega)
  obtain ⟨K4, h4⟩ := to_ev C (by unfold Short; omega)
  obtain ⟨K5, h5⟩ := ap_ev (A := B) (B := C) hB.rt.1 (by omega)
  obtain ⟨K6, h6⟩ := rapply_ev B C (by omega) hB.rt.1 hm
  have hZ : (applyv B C).1.length ≤ 24 ∧ ((applyv B C).2 = 0 → rightv (applyv B C).1 = true ∧ Pos (applyv B C).1) := by
    rw [applyv_small hm]
    have hS := sm_append hB hC (by omega)
    cases hb : bel B C with
    | true => rw [if_pos rfl]; exact ⟨by simp, fun h => by simp at h⟩
    | false => rw [if_neg (by decide)]; exact ⟨hS.len, fun _ => ⟨rt_right hS.rt, ap_pos hB.rt.1 hC.rt.1 hm pB hb⟩⟩
  generalize applyv B C = Z at *
  obtain ⟨Z, e⟩ := Z
  dsimp only at hZ h5 h6
  obtain ⟨K7, h7⟩ := told4
  obtain ⟨K8, h8⟩ := from_ev Z (by unfold Short; omega)
  obtain ⟨K9, h9⟩ := rsame_true Z (by omega)
  obtain ⟨K10, h10⟩ := least_ev B (by omega) p
  obtain ⟨K11, h11⟩ := rleast_ev p B (by unfold Short; omega) hB.rt.1 fB
  obtain ⟨K12, h12⟩ := bright_ev (X := B) (by omega) (rt_right hB.rt)
  obtain ⟨K13, h13⟩ := bright_ev (X := C) (by omega) (rt_right hC.rt)
  obtain ⟨K14, h14⟩ := rright4_ev (X := C) (by omega) (rt_right hC.rt)
  obtain ⟨K15, h15⟩ := applies_j0 (B := B) (C := C) (Z := Z) (e := e) lB lC (fun h => ⟨hZ.1, hZ.2 h⟩)
  rw [allpos_of pB] at h12
  let k := K1 + K2 + K3 + K4 + K5 + K6 + K7 + K8 + K9 + K10 + K11 + K12 + K13 + K14 + K15
  refine ⟨k, ?_⟩
  have h1 := h1 k (by omega); have h2 := h2 k (by omega); have h3 := h3 k (by omega); have h4 := h4 k (by omega); have h5 := h5 k (by omega); have h6 := h6 k (by omega); have h7 := h7 k (by omega); have h8 := h8 k (by omega); have h9 := h9 k (by omega); have h10 := h10 k (by omega); have h11 := h11 k (by omega); have h12 := h12 k (by omega); have h13 := h13 k (by omega); have h14 := h14 k (by omega); have h15 := h15 k (by omega)
  dsimp only at h1 h2 h3 h4 h5 h6 h7 h8 h9 h10 h11 h12 h13 h14 h15
  rw [marchlandlaw04_BagApplies.f]
  simp only [h1, h2, h3, h4, h5, h6, h7, h8, h9, h10, h11, h12, h13, h14, Option.bind_some, if_true, bag_Sum.f, List.length_map, bne_self_eq_false]
  exact h15
end Go.Proofs.Ytgeldmhgbnamcaa.Pure
end
