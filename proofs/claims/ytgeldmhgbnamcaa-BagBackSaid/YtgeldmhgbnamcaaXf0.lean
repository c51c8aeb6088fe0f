/- Walks and laws of several statements of this seat, joined into one text; no condition. -/
import Derived.Test.YtgeldmhgbnamcaaProg
import Derived.Below
import Derived.Deep.Draws
import Derived.Deep.AppendLies
import Derived.Maps.AppendAt
import Derived.OwnWalk
import Derived.Laws.BytesArg
import Derived.Laws.MakeOwn
import Derived.Laws.OwnMore
import Derived.Deep.OwnRows
import Derived.Tactics
import Derived.Lib.ConvBytes
import Derived.Laws.Slices
import Derived.WalkKit
import Derived.KernelRfl
import Derived.RowKit3
import Derived.Deep.LoopGhost
import Derived.Deep.QuietTactic
import Derived.BigQuiet
import Derived.WideLaws
import Derived.Deep.DeepCutAuto
import Derived.Deep.CutBlock
import Derived.Deep.RegionHeld3
import Derived.Laws.Rows
import Derived.Lib.AppendStr
import Derived.ArgAppend
import Derived.Laws.IdiomCopy
import Derived.OrdersHeld
import Derived.Laws.BitsLemmas
import Derived.RowKit
import Derived.Laws.StructEq
import Derived.Lib.BufferMore
import Derived.Deep.Slices
import Derived.SizedLaws
import Derived.OpenShut
import Derived.IntWalk
import Derived.Outline
import Derived.Test.YtgeldmhgbnamcaaXa0
import Derived.Test.YtgeldmhgbnamcaaXa1
import Derived.Test.YtgeldmhgbnamcaaXa2
import Derived.Test.YtgeldmhgbnamcaaXa6
import Derived.Test.YtgeldmhgbnamcaaXa7
import Derived.Test.YtgeldmhgbnamcaaXb0
import Derived.Test.YtgeldmhgbnamcaaXa5
import Derived.Test.YtgeldmhgbnamcaaXd0
section
/- Plain laws of bags: counts above nought stay so; the reference's Least and Right. -/
namespace Go.Proofs.Ytgeldmhgbnamcaa.Pure
open Go.RowKit Go.Proofs.Ytgeldmhgbnamcaa.P Go.Proofs.YtgeldmhgbnamcaaW.PrintWords Go.Proofs.YtgeldmhgbnamcaaW.PrintLast
set_option linter.unusedVariables false
set_option linter.unusedSimpArgs false
theorem bel_of {A B : List S50} (hs : Str A) (hm : mass (A ++ B) ≤ 1000000000) (h : ∀ x ∈ B, 0 ≤ ofv A x + x.f2) : bel A B = false := by
 refine List.any_eq_false.2 fun x hx => ?_
 have e : ofv A ⟨x.f0, x.f1, 0⟩ = ofv A x := ofv_key ⟨rfl, rfl⟩ A
 have h0 := h x hx
 have h1 := ofv_small hs x
 have h2 := mass_mem hx
 rw [mass_append] at hm
 rw [e]
 simp only [decide_eq_true_eq]
 unfold wrap64
 omega
/-! ### the reference's Least -/
/-! ### Right of bags -/
end Go.Proofs.Ytgeldmhgbnamcaa.Pure
end
section
-- Printed by the session's own turn of the print (wip/tools/print2.sh): some callees are proved by hand.
namespace Go.Proofs.Ytgeldmhgbnamcaa.P
open Go.RowKit Go.Proofs.YtgeldmhgbnamcaaW.PrintWords Go.Proofs.YtgeldmhgbnamcaaW.PrintLast Go.Proofs.YtgeldmhgbnamcaaW.PrintMore
attribute [local go_sem] max2_int min2_int max_two min_two max_three min_three max_four min_four   -- for this text's walks alone
set_option linter.unusedVariables false
set_option linter.unusedSimpArgs false
/-! ### marchlandlaw04_BagBack: function 10 -/
def marchlandlaw04_BagBack.j0 : Nat → List (S50) → List (S50) → List (S50) → List (S50) → Bool → Option (Bool)
 | 0, _, _, _, _, _ => none
 | k + 1, x7, x8, x9, x10, x60 => if x60 = true then (some false) else ((bag_Apply.f k x10 x9).bind fun bt630 => ((batch_Merge.f k x8 x9).bind fun bt634 => ((bag_Apply.f k x7 bt634.1).bind fun bt638 => (if bt634.2 = 0 then (if bt630.2 = 0 then (if bt638.2 = 0 then ((batch_Same.f k bt630.1 bt638.1).bind fun t642 => (some t642)) else (some false)) else (some true)) else (some false)))))
def marchlandlaw04_BagBack.f (k : Nat) (l0 : List (S40)) (l1 : List (S40)) (l2 : List (S40)) : Option (Bool) := (marchlandref04_Fix.f k l0).bind fun t599 => ((marchlandlaw03_To.f k t599).bind fun t602 => ((marchlandref03_Fix.f k l1).bind fun t605 => ((marchlandlaw03_To.f k t605).bind fun t608 => ((marchlandref03_Fix.f k l2).bind fun t611 => ((marchlandlaw03_To.f k t611).bind fun t614 => ((bag_Apply.f k t602 t608).bind fun bt617 => ((marchlandlaw04_told.f k).bind fun t621 => (if t621 = true then (if bt617.2 = 0 then ((batch_Minus.f k t608).bind fun t622 => ((bag_Apply.f k bt617.1 t622).bind fun bt625 => (if bt625.2 = 0 then ((batch_Same.f k bt625.1 t602).bind fun t629 => (marchlandlaw04_BagBack.j0 k t602 t608 t614 bt617.1 (!t629))) else (marchlandlaw04_BagBack.j0 k t602 t608 t614 bt617.1 true)))) else (if bt617.2 = 11 then (some ((bt617.1.length : Int) == 0)) else (some false))) else (some false)))))))))
set_option maxHeartbeats 8000000 in
set_option maxRecDepth 100000 in
theorem marchlandlaw04_BagBack.calls (k : Nat) (A0 : Option Addr) (c0 : Nat) (l0 : List (S40)) (A1 : Option Addr) (c1 : Nat) (l1 : List (S40)) (A2 : Option Addr) (c2 : Nat) (l2 : List (S40)) (r : Bool) (w : World) (hr0 : Kd.C k40 w A0 l0.length l0) (hc0 : l0.length ≤ c0) (hr1 : Kd.C k40 w A1 l1.length l1) (hc1 : l1.length ≤ c1) (hr2 : Kd.C k40 w A2 l2.length l2) (hc2 : l2.length ≤ c2) (h : marchlandlaw04_BagBack.f k l0 l1 l2 = some r) :
  Calls Try.prog 10 #[.slice A0 l0.length c0, .slice A1 l1.length c1, .slice A2 l2.length c2] w fun e w' => e = .returned (.bool r) ∧ Below w.heap.size w w' := by
 have HR0 := Aside0.mk hr0
 have HC0 := Aside0.mk hc0
 clear hr0 hc0
 have HR1 := Aside0.mk hr1
 have HC1 := Aside0.mk hc1
 clear hr1 hc1
 have HR2 := Aside0.mk hr2
 have HC2 := Aside0.mk hc2
 clear hr2 hc2
 have HB := Aside0.mk (Below.refl w.heap.size w)
 have H : ((marchlandref04_Fix.f k l0).bind fun t599 => ((marchlandlaw03_To.f k t599).bind fun t602 => ((marchlandref03_Fix.f k l1).bind fun t605 => ((marchlandlaw03_To.f k t605).bind fun t608 => ((marchlandref03_Fix.f k l2).bind fun t611 => ((marchlandlaw03_To.f k t611).bind fun t614 => ((bag_Apply.f k t602 t608).bind fun bt617 => ((marchlandlaw04_told.f k).bind fun t621 => (if t621 = true then (if bt617.2 = 0 then ((batch_Minus.f k t608).bind fun t622 => ((bag_Apply.f k bt617.1 t622).bind fun bt625 => (if bt625.2 = 0 then ((batch_Same.f k bt625.1 t602).bind fun t629 => (marchlandlaw04_BagBack.j0 k t602 t608 t614 bt617.1 (!t629))) else (marchlandlaw04_BagBack.j0 k t602 t608 t614 bt617.1 true)))) else (if bt617.2 = 11 then (some ((bt617.1.length : Int) == 0)) else (some false))) else (some false)))))))))) = some r := h
 clear h
 replace H := Option.bind_eq_some_iff.mp H
 obtain ⟨t599, A40, H⟩ := H
 replace H : ((marchlandlaw03_To.f k t599).bind fun t602 => ((marchlandref03_Fix.f k l1).bind fun t605 => ((marchlandlaw03_To.f k t605).bind fun t608 => ((marchlandref03_Fix.f k l2).bind fun t611 => ((marchlandlaw03_To.f k t611).bind fun t614 => ((bag_Apply.f k t602 t608).bind fun bt617 => ((marchlandlaw04_told.f k).bind fun t621 => (if t621 = true then (if bt617.2 = 0 then ((batch_Minus.f k t608).bind fun t622 => ((bag_Apply.f k bt617.1 t622).bind fun bt625 => (if bt625.2 = 0 then ((batch_Same.f k bt625.1 t602).bind fun t629 => (marchlandlaw04_BagBack.j0 k t602 t608 t614 bt617.1 (!t629))) else (marchlandlaw04_BagBack.j0 k t602 t608 t614 bt617.1 true)))) else (if bt617.2 = 11 then (some ((bt617.1.length : Int) == 0)) else (some false))) else (some false))))))))) = some r := H
 have A4 := Aside0.mk A40
 clear A40
 replace H := Option.bind_eq_some_iff.mp H
 obtain ⟨t602, A50, H⟩ := H
 replace H : ((marchlandref03_Fix.f k l1).bind fun t605 => ((marchlandlaw03_To.f k t605).bind fun t608 => ((marchlandref03_Fix.f k l2).bind fun t611 => ((marchlandlaw03_To.f k t611).bind fun t614 => ((bag_Apply.f k t602 t608).bind fun bt617 => ((marchlandlaw04_told.f k).bind fun t621 => (if t621 = true then (if bt617.2 = 0 then ((batch_Minus.f k t608).bind fun t622 => ((bag_Apply.f k bt617.1 t622).bind fun bt625 => (if bt625.2 = 0 then ((batch_Same.f k bt625.1 t602).bind fun t629 => (marchlandlaw04_BagBack.j0 k t602 t608 t614 bt617.1 (!t629))) else (marchlandlaw04_BagBack.j0 k t602 t608 t614 bt617.1 true)))) else (if bt617.2 = 11 then (some ((bt617.1.length : Int) == 0)) else (some false))) else (some false)))))))) = some r := H
 have A5 := Aside0.mk A50
 clear A50
 replace H := Option.bind_eq_some_iff.mp H
 obtain ⟨t605, A60, H⟩ := H
 replace H : ((marchlandlaw03_To.f k t605).bind fun t608 => ((marchlandref03_Fix.f k l2).bind fun t611 => ((marchlandlaw03_To.f k t611).bind fun t614 => ((bag_Apply.f k t602 t608).bind fun bt617 => ((marchlandlaw04_told.f k).bind fun t621 => (if t621 = true then (if bt617.2 = 0 then ((batch_Minus.f k t608).bind fun t622 => ((bag_Apply.f k bt617.1 t622).bind fun bt625 => (if bt625.2 = 0 then ((batch_Same.f k bt625.1 t602).bind fun t629 => (marchlandlaw04_BagBack.j0 k t602 t608 t614 bt617.1 (!t629))) else (marchlandlaw04_BagBack.j0 k t602 t608 t614 bt617.1 true)))) else (if bt617.2 = 11 then (some ((bt617.1.length : Int) == 0)) else (some false))) else (some false))))))) = some r := H
 have A6 := Aside0.mk A60
 clear A60
 replace H := Option.bind_eq_some_iff.mp H
 obtain ⟨t608, A70, H⟩ := H
 replace H : ((marchlandref03_Fix.f k l2).bind fun t611 => ((marchlandlaw03_To.f k t611).bind fun t614 => ((bag_Apply.f k t602 t608).bind fun bt617 => ((marchlandlaw04_told.f k).bind fun t621 => (if t621 = true then (if bt617.2 = 0 then ((batch_Minus.f k t608).bind fun t622 => ((bag_Apply.f k bt617.1 t622).bind fun bt625 => (if bt625.2 = 0 then ((batch_Same.f k bt625.1 t602).bind fun t629 => (marchlandlaw04_BagBack.j0 k t602 t608 t614 bt617.1 (!t629))) else (marchlandlaw04_BagBack.j0 k t602 t608 t614 bt617.1 true)))) else (if bt617.2 = 11 then (some ((bt617.1.length : Int) == 0)) else (some false))) else (some false)))))) = some r := H
 have A7 := Aside0.mk A70
 clear A70
 replace H := Option.bind_eq_some_iff.mp H
 obtain ⟨t611, A80, H⟩ := H
 replace H : ((marchlandlaw03_To.f k t611).bind fun t614 => ((bag_Apply.f k t602 t608).bind fun bt617 => ((marchlandlaw04_told.f k).bind fun t621 => (if t621 = true then (if bt617.2 = 0 then ((batch_Minus.f k t608).bind fun t622 => ((bag_Apply.f k bt617.1 t622).bind fun bt625 => (if bt625.2 = 0 then ((batch_Same.f k bt625.1 t602).bind fun t629 => (marchlandlaw04_BagBack.j0 k t602 t608 t614 bt617.1 (!t629))) else (marchlandlaw04_BagBack.j0 k t602 t608 t614 bt617.1 true)))) else (if bt617.2 = 11 then (some ((bt617.1.length : Int) == 0)) else (some false))) else (some false))))) = some r := H
 have A8 := Aside0.mk A80
 clear A80
 replace H := Option.bind_eq_some_iff.mp H
 obtain ⟨t614, A90, H⟩ := H
 replace H : ((bag_Apply.f k t602 t608).bind fun bt617 => ((marchlandlaw04_told.f k).bind fun t621 => (if t621 = true then (if bt617.2 = 0 then ((batch_Minus.f k t608).bind fun t622 => ((bag_Apply.f k bt617.1 t622).bind fun bt625 => (if bt625.2 = 0 then ((batch_Same.f k bt625.1 t602).bind fun t629 => (marchlandlaw04_BagBack.j0 k t602 t608 t614 bt617.1 (!t629))) else (marchlandlaw04_BagBack.j0 k t602 t608 t614 bt617.1 true)))) else (if bt617.2 = 11 then (some ((bt617.1.length : Int) == 0)) else (some false))) else (some false)))) = some r := H
 have A9 := Aside0.mk A90
 clear A90
 replace H := Option.bind_eq_some_iff.mp H
 obtain ⟨⟨t617, t618⟩, A100, H⟩ := H
 replace H : ((marchlandlaw04_told.f k).bind fun t621 => (if t621 = true then (if t618 = 0 then ((batch_Minus.f k t608).bind fun t622 => ((bag_Apply.f k t617 t622).bind fun bt625 => (if bt625.2 = 0 then ((batch_Same.f k bt625.1 t602).bind fun t629 => (marchlandlaw04_BagBack.j0 k t602 t608 t614 t617 (!t629))) else (marchlandlaw04_BagBack.j0 k t602 t608 t614 t617 true)))) else (if t618 = 11 then (some ((t617.length : Int) == 0)) else (some false))) else (some false))) = some r := H
 have A10 := Aside0.mk A100
 clear A100
 replace H := Option.bind_eq_some_iff.mp H
 obtain ⟨t621, A110, H⟩ := H
 replace H : (if t621 = true then (if t618 = 0 then ((batch_Minus.f k t608).bind fun t622 => ((bag_Apply.f k t617 t622).bind fun bt625 => (if bt625.2 = 0 then ((batch_Same.f k bt625.1 t602).bind fun t629 => (marchlandlaw04_BagBack.j0 k t602 t608 t614 t617 (!t629))) else (marchlandlaw04_BagBack.j0 k t602 t608 t614 t617 true)))) else (if t618 = 11 then (some ((t617.length : Int) == 0)) else (some false))) else (some false)) = some r := H
 have A11 := Aside0.mk A110
 clear A110
 by_cases c12 : t621 = true
 ·subst c12
  have H1 : (if t618 = 0 then ((batch_Minus.f k t608).bind fun t622 => ((bag_Apply.f k t617 t622).bind fun bt625 => (if bt625.2 = 0 then ((batch_Same.f k bt625.1 t602).bind fun t629 => (marchlandlaw04_BagBack.j0 k t602 t608 t614 t617 (!t629))) else (marchlandlaw04_BagBack.j0 k t602 t608 t614 t617 true)))) else (if t618 = 11 then (some ((t617.length : Int) == 0)) else (some false))) = some r := by rw [if_pos rfl] at H; exact H
  clear H
  have H := H1
  clear H1
  by_cases c13 : t618 = 0
  ·rw [if_pos c13] at H
   have c13b0 : (t618 == 0) = true := beq_iff_eq.mpr c13
   have c13b1 : (t618 != 0) = false := bne_eq_false_iff_eq.mpr c13
   clear c13
   replace H := Option.bind_eq_some_iff.mp H
   obtain ⟨t622, A140, H⟩ := H
   replace H : ((bag_Apply.f k t617 t622).bind fun bt625 => (if bt625.2 = 0 then ((batch_Same.f k bt625.1 t602).bind fun t629 => (marchlandlaw04_BagBack.j0 k t602 t608 t614 t617 (!t629))) else (marchlandlaw04_BagBack.j0 k t602 t608 t614 t617 true))) = some r := H
   have A14 := Aside0.mk A140
   clear A140
   replace H := Option.bind_eq_some_iff.mp H
   obtain ⟨⟨t625, t626⟩, A150, H⟩ := H
   replace H : (if t626 = 0 then ((batch_Same.f k t625 t602).bind fun t629 => (marchlandlaw04_BagBack.j0 k t602 t608 t614 t617 (!t629))) else (marchlandlaw04_BagBack.j0 k t602 t608 t614 t617 true)) = some r := H
   have A15 := Aside0.mk A150
   clear A150
   have HC16 := Aside0.mk H
   clear H
   go_enter Try.func10, Try.ntmps10
   go_upto_region 8 with (first | ((with_reducible refine gate_callee (f := 26) rfl ?_); refine gl (some 21) Try.func26 #[.slice A0 l0.length c0] ?_; (with_reducible refine (marchlandref04_Fix.calls k _ _ l0 t599 _ ?side1 ?side2 A4.out).mono ?_); (case side1 => exact cn HR0.out); (case side2 => exact HC0.out); rintro e w17 ⟨v600, rfl, ho0, hb⟩; refine ⟨_, rfl, ?_⟩; have n0_ := Aside0.mk (Kd.R_lower ho0 (below_size (bn HB))); have HO601 := n0_; replace HB := bb HB hb; clear n0_; (try clear hb); (try clear ho0); obtain ⟨Ao18, co18, eo18⟩ := Kd.R_slice HO601.out; subst eo18) | ((with_reducible refine gate_callee (f := 14) rfl ?_); refine gl (some 22) Try.func14 #[.slice Ao18 t599.length co18] ?_; (with_reducible refine (marchlandlaw03_To.calls k _ _ t599 t602 _ ?side1 ?side2 A5.out).mono ?_); (case side1 => exact rc HO601); (case side2 => exact rs HO601); rintro e w19 ⟨v603, rfl, ho0, hb⟩; refine ⟨_, rfl, ?_⟩; have n1_ := Aside0.mk (Kd.R_lower ho0 (below_size (bn HB))); replace HO601 := rb HO601 hb; have HO604 := n1_; replace HB := bb HB hb; clear n1_; (try clear hb); (try clear ho0)) | ((with_reducible refine gate_callee (f := 22) rfl ?_); refine gl (some 24) Try.func22 #[.slice A1 l1.length c1] ?_; (with_reducible refine (marchlandref03_Fix.calls k _ _ l1 t605 _ ?side1 ?side2 A6.out).mono ?_); (case side1 => repeat (first | exact (Kd.C_below HR1.out HB.out) | (with_reducible refine Kd.C_alloc ?_ _) | (with_reducible refine Kd.C_drewN ?_ _) | (with_reducible refine Kd.C_drew ?_))); (case side2 => exact HC1.out); rintro e w20 ⟨v606, rfl, ho0, hb⟩; refine ⟨_, rfl, ?_⟩; have n2_ := Aside0.mk (Kd.R_lower (Kd.R_new' ho0 (Kd.R_lt (rn HO601))) (below_size (bn HB))); replace HO601 := rl HO601 (Kd.R_base ho0) hb; replace HO604 := rb HO604 hb; have HO607 := n2_; replace HB := bb HB hb; clear n2_; (try clear hb); (try clear ho0); obtain ⟨Ao21, co21, eo21⟩ := Kd.R_slice HO607.out; subst eo21) | ((with_reducible refine gate_callee (f := 14) rfl ?_); refine gl (some 25) Try.func14 #[.slice Ao21 t605.length co21] ?_; (with_reducible refine (marchlandlaw03_To.calls k _ _ t605 t608 _ ?side1 ?side2 A7.out).mono ?_); (case side1 => exact rc HO607); (case side2 => exact rs HO607); rintro e w22 ⟨v609, rfl, ho0, hb⟩; refine ⟨_, rfl, ?_⟩; have n3_ := Aside0.mk (Kd.R_lower (Kd.R_new' ho0 (Kd.R_lt (rn HO604))) (below_size (bn HB))); replace HO601 := rb HO601 hb; replace HO604 := rl HO604 (Kd.R_base ho0) hb; replace HO607 := rb HO607 hb; have HO610 := n3_; replace HB := bb HB hb; clear n3_; (try clear hb); (try clear ho0)) | ((with_reducible refine gate_callee (f := 22) rfl ?_); refine gl (some 27) Try.func22 #[.slice A2 l2.length c2] ?_; (with_reducible refine (marchlandref03_Fix.calls k _ _ l2 t611 _ ?side1 ?side2 A8.out).mono ?_); (case side1 => repeat (first | exact (Kd.C_below HR2.out HB.out) | (with_reducible refine Kd.C_alloc ?_ _) | (with_reducible refine Kd.C_drewN ?_ _) | (with_reducible refine Kd.C_drew ?_))); (case side2 => exact HC2.out); rintro e w23 ⟨v612, rfl, ho0, hb⟩; refine ⟨_, rfl, ?_⟩; have n4_ := Aside0.mk (Kd.R_lower (Kd.R_new' (Kd.R_new' ho0 (Kd.R_lt (rn HO601))) (Kd.R_lt (rn HO607))) (below_size (bn HB))); replace HO601 := rl HO601 (Kd.R_base ho0) hb; replace HO604 := rb HO604 hb; replace HO607 := rl HO607 (Kd.R_base ho0) hb; replace HO610 := rb HO610 hb; have HO613 := n4_; replace HB := bb HB hb; clear n4_; (try clear hb); (try clear ho0); obtain ⟨Ao24, co24, eo24⟩ := Kd.R_slice HO613.out; subst eo24) | ((with_reducible refine gate_callee (f := 14) rfl ?_); refine gl (some 28) Try.func14 #[.slice Ao24 t611.length co24] ?_; (with_reducible refine (marchlandlaw03_To.calls k _ _ t611 t614 _ ?side1 ?side2 A9.out).mono ?_); (case side1 => exact rc HO613); (case side2 => exact rs HO613); rintro e w25 ⟨v615, rfl, ho0, hb⟩; refine ⟨_, rfl, ?_⟩; have n5_ := Aside0.mk (Kd.R_lower (Kd.R_new' (Kd.R_new' ho0 (Kd.R_lt (rn HO604))) (Kd.R_lt (rn HO610))) (below_size (bn HB))); replace HO601 := rb HO601 hb; replace HO604 := rl HO604 (Kd.R_base ho0) hb; replace HO607 := rb HO607 hb; replace HO610 := rl HO610 (Kd.R_base ho0) hb; replace HO613 := rb HO613 hb; have HO616 := n5_; replace HB := bb HB hb; clear n5_; (try clear hb); (try clear ho0); obtain ⟨Ao26, co26, eo26⟩ := Kd.R_slice HO604.out; subst eo26; obtain ⟨Ao27, co27, eo27⟩ := Kd.R_slice HO610.out; subst eo27) | ((with_reducible refine gate_callee (f := 27) rfl ?_); refine gl (some 32) Try.func27 #[.slice Ao26 t602.length co26, .slice Ao27 t608.length co27] ?_; (with_reducible refine (bag_Apply.calls k _ _ t602 _ _ t608 t617 t618 _ ?side1 ?side2 ?side3 ?side4 A10.out).mono ?_); (case side1 => exact rc HO604); (case side2 => exact rs HO604); (case side3 => exact rc HO610); (case side4 => exact rs HO610); rintro e w28 ⟨v619, rfl, ho0, hb⟩; refine ⟨_, rfl, ?_⟩; have n6_ := Aside0.mk (Kd.R_lower (Kd.R_new' (Kd.R_new' (Kd.R_new' ho0 (Kd.R_lt (rn HO604))) (Kd.R_lt (rn HO610))) (Kd.R_lt (rn HO616))) (below_size (bn HB))); replace HO601 := rb HO601 hb; replace HO604 := rl HO604 (Kd.R_base ho0) hb; replace HO607 := rb HO607 hb; replace HO610 := rl HO610 (Kd.R_base ho0) hb; replace HO613 := rb HO613 hb; replace HO616 := rl HO616 (Kd.R_base ho0) hb; have HO620 := n6_; replace HB := bb HB hb; clear n6_; (try clear hb); (try clear ho0)) | ((with_reducible refine gate_callee (f := 29) rfl ?_); refine gl (some 35) Try.func29 #[] ?_; (with_reducible refine (marchlandlaw04_told.calls k  true _ A11.out).mono ?_); rintro e w29 ⟨rfl, hb⟩; refine ⟨_, rfl, ?_⟩; replace HO601 := rb HO601 hb; replace HO604 := rb HO604 hb; replace HO607 := rb HO607 hb; replace HO610 := rb HO610 hb; replace HO613 := rb HO613 hb; replace HO616 := rb HO616 hb; replace HO620 := rb HO620 hb; replace HB := bb HB hb; (try clear hb)) | ((with_reducible refine gate_callee (f := 36) rfl ?_); refine gl (some 49) Try.func36 #[.slice Ao27 t608.length co27] ?_; (with_reducible refine (batch_Minus.calls k _ _ t608 t622 _ ?side1 ?side2 A14.out).mono ?_); (case side1 => exact rc HO610); (case side2 => exact rs HO610); rintro e w30 ⟨v623, rfl, ho0, hb⟩; refine ⟨_, rfl, ?_⟩; have n7_ := Aside0.mk (Kd.R_lower (Kd.R_new' (Kd.R_new' (Kd.R_new' (Kd.R_new' ho0 (Kd.R_lt (rn HO604))) (Kd.R_lt (rn HO610))) (Kd.R_lt (rn HO616))) (Kd.R_lt (rn HO620))) (below_size (bn HB))); replace HO601 := rb HO601 hb; replace HO604 := rl HO604 (Kd.R_base ho0) hb; replace HO607 := rb HO607 hb; replace HO610 := rl HO610 (Kd.R_base ho0) hb; replace HO613 := rb HO613 hb; replace HO616 := rl HO616 (Kd.R_base ho0) hb; replace HO620 := rl HO620 (Kd.R_base ho0) hb; have HO624 := n7_; replace HB := bb HB hb; clear n7_; (try clear hb); (try clear ho0); obtain ⟨Ao31, co31, eo31⟩ := Kd.R_slice HO620.out; subst eo31; obtain ⟨Ao32, co32, eo32⟩ := Kd.R_slice HO624.out; subst eo32) | ((with_reducible refine gate_callee (f := 27) rfl ?_); refine gl (some 50) Try.func27 #[.slice Ao31 t617.length co31, .slice Ao32 t622.length co32] ?_; (with_reducible refine (bag_Apply.calls k _ _ t617 _ _ t622 t625 t626 _ ?side1 ?side2 ?side3 ?side4 A15.out).mono ?_); (case side1 => exact rc HO620); (case side2 => exact rs HO620); (case side3 => exact rc HO624); (case side4 => exact rs HO624); rintro e w33 ⟨v627, rfl, ho0, hb⟩; refine ⟨_, rfl, ?_⟩; have n8_ := Aside0.mk (Kd.R_lower (Kd.R_new' (Kd.R_new' (Kd.R_new' (Kd.R_new' (Kd.R_new' ho0 (Kd.R_lt (rn HO604))) (Kd.R_lt (rn HO610))) (Kd.R_lt (rn HO616))) (Kd.R_lt (rn HO620))) (Kd.R_lt (rn HO624))) (below_size (bn HB))); replace HO601 := rb HO601 hb; replace HO604 := rl HO604 (Kd.R_base ho0) hb; replace HO607 := rb HO607 hb; replace HO610 := rl HO610 (Kd.R_base ho0) hb; replace HO613 := rb HO613 hb; replace HO616 := rl HO616 (Kd.R_base ho0) hb; replace HO620 := rl HO620 (Kd.R_base ho0) hb; replace HO624 := rl HO624 (Kd.R_base ho0) hb; have HO628 := n8_; replace HB := bb HB hb; clear n8_; (try clear hb); (try clear ho0)))
   (try simp only [Act.put, List.setIfInBounds_toArray, List.set_cons_zero, List.set_cons_succ])
   go_cut [60] (fun v60 wc => ∃ (kq : Nat) (x60_15 : Bool), v60 = .bool x60_15 ∧ Aside0 (marchlandlaw04_BagBack.j0 kq t602 t608 t614 t617 x60_15 = some r) ∧ Aside0 (kq ≤ k) ∧ Aside0 (Kd.R k50 50 wc w.heap.size (fun k_ => some k_ ≠ ((.slice Ao27 t608.length co27) : Value).ownBlock ∧ some k_ ≠ (v615 : Value).ownBlock ∧ some k_ ≠ ((.slice Ao31 t617.length co31) : Value).ownBlock) (.slice Ao26 t602.length co26) t602) ∧ Aside0 (Kd.R k50 50 wc w.heap.size (fun k_ => some k_ ≠ ((.slice Ao26 t602.length co26) : Value).ownBlock ∧ some k_ ≠ (v615 : Value).ownBlock ∧ some k_ ≠ ((.slice Ao31 t617.length co31) : Value).ownBlock) (.slice Ao27 t608.length co27) t608) ∧ Aside0 (Kd.R k50 50 wc w.heap.size (fun k_ => some k_ ≠ ((.slice Ao26 t602.length co26) : Value).ownBlock ∧ some k_ ≠ ((.slice Ao27 t608.length co27) : Value).ownBlock ∧ some k_ ≠ ((.slice Ao31 t617.length co31) : Value).ownBlock) v615 t614) ∧ Aside0 (Kd.R k50 50 wc w.heap.size (fun k_ => some k_ ≠ ((.slice Ao26 t602.length co26) : Value).ownBlock ∧ some k_ ≠ ((.slice Ao27 t608.length co27) : Value).ownBlock ∧ some k_ ≠ (v615 : Value).ownBlock) (.slice Ao31 t617.length co31) t617) ∧ Aside0 (Below w.heap.size w wc))
   case first =>
    have H := HC16.out
    clear HC16
    by_cases c34 : t626 = 0
    ·rw [if_pos c34] at H
     have c34b0 : (t626 == 0) = true := beq_iff_eq.mpr c34
     have c34b1 : (t626 != 0) = false := bne_eq_false_iff_eq.mpr c34
     clear c34
     (first | rw [c34b0] | (simp only [i64_w, i32_w]; rw [c34b0]) | skip)
     replace H := Option.bind_eq_some_iff.mp H
     obtain ⟨t629, A350, H⟩ := H
     replace H : (marchlandlaw04_BagBack.j0 k t602 t608 t614 t617 (!t629)) = some r := H
     have A35 := Aside0.mk A350
     clear A350
     have H' := Aside0.mk H
     clear H
     obtain ⟨Ao36, co36, eo36⟩ := Kd.R_slice HO628.out
     subst eo36
     go_wp2_with (first | (go_at_call 24; (with_reducible refine (batch_Same.calls k _ _ t625 _ _ t602 t629 _ ?side1 ?side2 ?side3 ?side4 A35.out).mono ?_); (case side1 => exact rc HO628); (case side2 => exact rs HO628); (case side3 => exact rc HO604); (case side4 => exact rs HO604); rintro e w' ⟨rfl, ⟨nd, rfl⟩⟩))
     go_meet
     case rel => exact ⟨_, (!t629), (by first | rfl | (simp; done) | (simp [*]; done)), H', ⟨by first | omega | exact Nat.le_refl _⟩, ⟨by (with_reducible repeat (first | apply Kd.R_alloc | apply Kd.R_drewN | apply Kd.R_drew)); exact Kd.R_mono HO604.out (fun _ hk => ⟨hk.1.1.1.1.2, ⟨hk.1.1.1.2, hk.1.1.2⟩⟩)⟩, ⟨by (with_reducible repeat (first | apply Kd.R_alloc | apply Kd.R_drewN | apply Kd.R_drew)); exact Kd.R_mono HO610.out (fun _ hk => ⟨hk.1.1.1.1.2, ⟨hk.1.1.1.2, hk.1.1.2⟩⟩)⟩, ⟨by (with_reducible repeat (first | apply Kd.R_alloc | apply Kd.R_drewN | apply Kd.R_drew)); exact Kd.R_mono HO616.out (fun _ hk => ⟨hk.1.1.1.1.2, ⟨hk.1.1.1.2, hk.1.1.2⟩⟩)⟩, ⟨by (with_reducible repeat (first | apply Kd.R_alloc | apply Kd.R_drewN | apply Kd.R_drew)); exact Kd.R_mono HO620.out (fun _ hk => ⟨hk.1.1.1.1.2, ⟨hk.1.1.1.2, hk.1.1.2⟩⟩)⟩, ⟨by repeat (first | (with_reducible first | exact HB.out | apply below_alloc | apply pw_below_drewN | apply below_drew1) | exact HB.out)⟩⟩
    ·rw [if_neg c34] at H
     have c34b0 : (t626 == 0) = false := beq_eq_false_iff_ne.mpr c34
     have c34b1 : (t626 != 0) = true := bne_iff_ne.mpr c34
     (first | rw [c34b0] | (simp only [i64_w, i32_w]; rw [c34b0]) | skip)
     have H' := Aside0.mk H
     clear H
     go_wp2
     go_meet
     case rel => exact ⟨_, (true), (by first | rfl | (simp; done) | (simp [*]; done)), H', ⟨by first | omega | exact Nat.le_refl _⟩, ⟨by (with_reducible repeat (first | apply Kd.R_alloc | apply Kd.R_drewN | apply Kd.R_drew)); exact Kd.R_mono HO604.out (fun _ hk => ⟨hk.1.1.1.1.2, ⟨hk.1.1.1.2, hk.1.1.2⟩⟩)⟩, ⟨by (with_reducible repeat (first | apply Kd.R_alloc | apply Kd.R_drewN | apply Kd.R_drew)); exact Kd.R_mono HO610.out (fun _ hk => ⟨hk.1.1.1.1.2, ⟨hk.1.1.1.2, hk.1.1.2⟩⟩)⟩, ⟨by (with_reducible repeat (first | apply Kd.R_alloc | apply Kd.R_drewN | apply Kd.R_drew)); exact Kd.R_mono HO616.out (fun _ hk => ⟨hk.1.1.1.1.2, ⟨hk.1.1.1.2, hk.1.1.2⟩⟩)⟩, ⟨by (with_reducible repeat (first | apply Kd.R_alloc | apply Kd.R_drewN | apply Kd.R_drew)); exact Kd.R_mono HO620.out (fun _ hk => ⟨hk.1.1.1.1.2, ⟨hk.1.1.1.2, hk.1.1.2⟩⟩)⟩, ⟨by repeat (first | (with_reducible first | exact HB.out | apply below_alloc | apply pw_below_drewN | apply below_drew1) | exact HB.out)⟩⟩
   case rest =>
    clear HC16
    (try clear c1); (try clear c2); (try clear p2); (try clear c3); (try clear c10); (try clear c12); (try clear c13); (try clear c13b0); (try clear c13b1); (try clear c14); (try clear c22); (try clear c26); (try clear c27); (try clear c29); (try clear c34); (try clear c34b0); (try clear c34b1); (try clear c36)
    obtain ⟨kq, x60_15, rfl, HA, HJ15, HO_7, HO_8, HO_9, HO_10, HB⟩ := hcut
    cases kq with
    | zero => exact absurd HA.out (by simp [marchlandlaw04_BagBack.j0])
    | succ kj15 =>
     have H := HA.out
     clear HA
     simp only [marchlandlaw04_BagBack.j0] at H
     by_cases c37 : x60_15 = true
     ·subst c37
      have H1 : (some false) = some r := by rw [if_pos rfl] at H; exact H
      clear H
      have H := H1
      clear H1
      obtain rfl := Option.some.inj H
      go_wp2
      go_ret
      exact ⟨by first | rfl | (simp [errW_none, errW_some] <;> rfl) | (simp [*, errW_none, errW_some] <;> rfl), by repeat (first | (with_reducible first | exact HB.out | apply below_alloc | apply pw_below_drewN | apply below_drew1) | exact HB.out)⟩
     ·replace c37 := Bool.eq_false_iff.mpr c37
      subst c37
      have H1 : ((bag_Apply.f kj15 t617 t614).bind fun bt630 => ((batch_Merge.f kj15 t608 t614).bind fun bt634 => ((bag_Apply.f kj15 t602 bt634.1).bind fun bt638 => (if bt634.2 = 0 then (if bt630.2 = 0 then (if bt638.2 = 0 then ((batch_Same.f kj15 bt630.1 bt638.1).bind fun t642 => (some t642)) else (some false)) else (some true)) else (some false))))) = some r := by rw [if_neg (show ¬ (false = true) by decide)] at H; exact H
      clear H
      have H := H1
      clear H1
      replace H := Option.bind_eq_some_iff.mp H
      obtain ⟨⟨t630, t631⟩, A380, H⟩ := H
      replace H : ((batch_Merge.f kj15 t608 t614).bind fun bt634 => ((bag_Apply.f kj15 t602 bt634.1).bind fun bt638 => (if bt634.2 = 0 then (if t631 = 0 then (if bt638.2 = 0 then ((batch_Same.f kj15 t630 bt638.1).bind fun t642 => (some t642)) else (some false)) else (some true)) else (some false)))) = some r := H
      have A38 := Aside0.mk A380
      clear A380
      replace H := Option.bind_eq_some_iff.mp H
      obtain ⟨⟨t634, t637⟩, A390, H⟩ := H
      replace H : ((bag_Apply.f kj15 t602 t634).bind fun bt638 => (if t637 = 0 then (if t631 = 0 then (if bt638.2 = 0 then ((batch_Same.f kj15 t630 bt638.1).bind fun t642 => (some t642)) else (some false)) else (some true)) else (some false))) = some r := H
      have A39 := Aside0.mk A390
      clear A390
      replace H := Option.bind_eq_some_iff.mp H
      obtain ⟨⟨t638, t639⟩, A400, H⟩ := H
      replace H : (if t637 = 0 then (if t631 = 0 then (if t639 = 0 then ((batch_Same.f kj15 t630 t638).bind fun t642 => (some t642)) else (some false)) else (some true)) else (some false)) = some r := H
      have A40 := Aside0.mk A400
      clear A400
      by_cases c41 : t637 = 0
      ·rw [if_pos c41] at H
       have c41b0 : (t637 == 0) = true := beq_iff_eq.mpr c41
       have c41b1 : (t637 != 0) = false := bne_eq_false_iff_eq.mpr c41
       clear c41
       by_cases c42 : t631 = 0
       ·rw [if_pos c42] at H
        have c42b0 : (t631 == 0) = true := beq_iff_eq.mpr c42
        have c42b1 : (t631 != 0) = false := bne_eq_false_iff_eq.mpr c42
        clear c42
        by_cases c43 : t639 = 0
        ·rw [if_pos c43] at H
         have c43b0 : (t639 == 0) = true := beq_iff_eq.mpr c43
         have c43b1 : (t639 != 0) = false := bne_eq_false_iff_eq.mpr c43
         clear c43
         replace H := Option.bind_eq_some_iff.mp H
         obtain ⟨t642, A440, H⟩ := H
         replace H : (some t642) = some r := H
         have A44 := Aside0.mk A440
         clear A440
         obtain rfl := Option.some.inj H
         obtain ⟨Ao45, co45, eo45⟩ := Kd.R_slice HO_9.out
         subst eo45
         go_wp2_with (first | ((with_reducible refine gate_callee (f := 27) rfl ?_); refine gl (some 64) Try.func27 #[.slice Ao31 t617.length co31, .slice Ao45 t614.length co45] ?_; (with_reducible refine (bag_Apply.calls kj15 _ _ t617 _ _ t614 t630 t631 _ ?side1 ?side2 ?side3 ?side4 A38.out).mono ?_); (case side1 => exact rc HO_10); (case side2 => exact rs HO_10); (case side3 => exact rc HO_9); (case side4 => exact rs HO_9); rintro e w46 ⟨v632, rfl, ho0, hb⟩; refine ⟨_, rfl, ?_⟩; have n4_ := Aside0.mk (Kd.R_lower (Kd.R_new' (Kd.R_new' (Kd.R_new' (Kd.R_new' ho0 (Kd.R_lt (rn HO_7))) (Kd.R_lt (rn HO_8))) (Kd.R_lt (rn HO_9))) (Kd.R_lt (rn HO_10))) (below_size (bn HB))); replace HO_7 := rl HO_7 (Kd.R_base ho0) hb; replace HO_8 := rl HO_8 (Kd.R_base ho0) hb; replace HO_9 := rl HO_9 (Kd.R_base ho0) hb; replace HO_10 := rl HO_10 (Kd.R_base ho0) hb; have HO633 := n4_; replace HB := bb HB hb; clear n4_; (try clear hb); (try clear ho0)) | ((with_reducible refine gate_callee (f := 25) rfl ?_); refine gl (some 70) Try.func25 #[.slice Ao27 t608.length co27, .slice Ao45 t614.length co45] ?_; (with_reducible refine (batch_Merge.calls kj15 (fun k_ => some k_ = (.slice Ao27 t608.length co27 : Value).ownBlock) _ _ t608 (fun k_ => some k_ = (.slice Ao45 t614.length co45 : Value).ownBlock) _ _ t614 t634 t637 _ ?side1 ?side2 A39.out).mono ?_); (case side1 => exact Kd.R_V (Kd.R_tight rfl (HO_8.out))); (case side2 => exact Kd.R_V (Kd.R_tight rfl (HO_9.out))); rintro e w47 ⟨v635, rfl, ho0, hb⟩; refine ⟨_, rfl, ?_⟩; have n5_ := Aside0.mk (Kd.R_lower (Kd.R_new' (Kd.R_new' (Kd.R_new' (Kd.R_new' (Kd.R_new' (Kd.R_mono (ok' := fun k_ => True) ho0 (fun _ hk_ => trivial)) (Kd.R_lt (rn HO_7))) (Kd.R_lt (rn HO_8))) (Kd.R_lt (rn HO_9))) (Kd.R_lt (rn HO_10))) (Kd.R_lt (rn HO633))) (below_size (bn HB))); replace HO_7 := rl HO_7 (Kd.R_base ho0) hb; replace HO_8 := rl HO_8 (Kd.R_base ho0) hb; replace HO_9 := rl HO_9 (Kd.R_base ho0) hb; replace HO_10 := rl HO_10 (Kd.R_base ho0) hb; replace HO633 := rl HO633 (Kd.R_base ho0) hb; have HO636 := n5_; replace HB := bb HB hb; clear n5_; (try clear hb); (try clear ho0); obtain ⟨Ao48, co48, eo48⟩ := Kd.R_slice HO636.out; subst eo48) | ((with_reducible refine gate_callee (f := 27) rfl ?_); refine gl (some 76) Try.func27 #[.slice Ao26 t602.length co26, .slice Ao48 t634.length co48] ?_; (with_reducible refine (bag_Apply.calls kj15 _ _ t602 _ _ t634 t638 t639 _ ?side1 ?side2 ?side3 ?side4 A40.out).mono ?_); (case side1 => exact rc HO_7); (case side2 => exact rs HO_7); (case side3 => exact rc HO636); (case side4 => exact rs HO636); rintro e w49 ⟨v640, rfl, ho0, hb⟩; refine ⟨_, rfl, ?_⟩; have n6_ := Aside0.mk (Kd.R_lower (Kd.R_new' (Kd.R_new' (Kd.R_new' (Kd.R_new' (Kd.R_new' (Kd.R_new' ho0 (Kd.R_lt (rn HO_7))) (Kd.R_lt (rn HO_8))) (Kd.R_lt (rn HO_9))) (Kd.R_lt (rn HO_10))) (Kd.R_lt (rn HO633))) (Kd.R_lt (rn HO636))) (below_size (bn HB))); replace HO_7 := rl HO_7 (Kd.R_base ho0) hb; replace HO_8 := rl HO_8 (Kd.R_base ho0) hb; replace HO_9 := rl HO_9 (Kd.R_base ho0) hb; replace HO_10 := rl HO_10 (Kd.R_base ho0) hb; replace HO633 := rl HO633 (Kd.R_base ho0) hb; replace HO636 := rl HO636 (Kd.R_base ho0) hb; have HO641 := n6_; replace HB := bb HB hb; clear n6_; (try clear hb); (try clear ho0); obtain ⟨Ao50, co50, eo50⟩ := Kd.R_slice HO633.out; subst eo50; obtain ⟨Ao51, co51, eo51⟩ := Kd.R_slice HO641.out; subst eo51) | (go_at_call 24; (with_reducible refine (batch_Same.calls kj15 _ _ t630 _ _ t638 t642 _ ?side1 ?side2 ?side3 ?side4 A44.out).mono ?_); (case side1 => exact rc HO633); (case side2 => exact rs HO633); (case side3 => exact rc HO641); (case side4 => exact rs HO641); rintro e w' ⟨rfl, ⟨nd, rfl⟩⟩))
         go_ret
         exact ⟨by first | rfl | (simp [errW_none, errW_some] <;> rfl) | (simp [*, errW_none, errW_some] <;> rfl), by repeat (first | (with_reducible first | exact HB.out | apply below_alloc | apply pw_below_drewN | apply below_drew1) | exact HB.out)⟩
        ·rw [if_neg c43] at H
         have c43b0 : (t639 == 0) = false := beq_eq_false_iff_ne.mpr c43
         have c43b1 : (t639 != 0) = true := bne_iff_ne.mpr c43
         obtain rfl := Option.some.inj H
         obtain ⟨Ao52, co52, eo52⟩ := Kd.R_slice HO_9.out
         subst eo52
         go_wp2_with (first | ((with_reducible refine gate_callee (f := 27) rfl ?_); refine gl (some 64) Try.func27 #[.slice Ao31 t617.length co31, .slice Ao52 t614.length co52] ?_; (with_reducible refine (bag_Apply.calls kj15 _ _ t617 _ _ t614 t630 t631 _ ?side1 ?side2 ?side3 ?side4 A38.out).mono ?_); (case side1 => exact rc HO_10); (case side2 => exact rs HO_10); (case side3 => exact rc HO_9); (case side4 => exact rs HO_9); rintro e w53 ⟨v632, rfl, ho0, hb⟩; refine ⟨_, rfl, ?_⟩; have n4_ := Aside0.mk (Kd.R_lower (Kd.R_new' (Kd.R_new' (Kd.R_new' (Kd.R_new' ho0 (Kd.R_lt (rn HO_7))) (Kd.R_lt (rn HO_8))) (Kd.R_lt (rn HO_9))) (Kd.R_lt (rn HO_10))) (below_size (bn HB))); replace HO_7 := rl HO_7 (Kd.R_base ho0) hb; replace HO_8 := rl HO_8 (Kd.R_base ho0) hb; replace HO_9 := rl HO_9 (Kd.R_base ho0) hb; replace HO_10 := rl HO_10 (Kd.R_base ho0) hb; have HO633 := n4_; replace HB := bb HB hb; clear n4_; (try clear hb); (try clear ho0)) | ((with_reducible refine gate_callee (f := 25) rfl ?_); refine gl (some 70) Try.func25 #[.slice Ao27 t608.length co27, .slice Ao52 t614.length co52] ?_; (with_reducible refine (batch_Merge.calls kj15 (fun k_ => some k_ = (.slice Ao27 t608.length co27 : Value).ownBlock) _ _ t608 (fun k_ => some k_ = (.slice Ao52 t614.length co52 : Value).ownBlock) _ _ t614 t634 t637 _ ?side1 ?side2 A39.out).mono ?_); (case side1 => exact Kd.R_V (Kd.R_tight rfl (HO_8.out))); (case side2 => exact Kd.R_V (Kd.R_tight rfl (HO_9.out))); rintro e w54 ⟨v635, rfl, ho0, hb⟩; refine ⟨_, rfl, ?_⟩; have n5_ := Aside0.mk (Kd.R_lower (Kd.R_new' (Kd.R_new' (Kd.R_new' (Kd.R_new' (Kd.R_new' (Kd.R_mono (ok' := fun k_ => True) ho0 (fun _ hk_ => trivial)) (Kd.R_lt (rn HO_7))) (Kd.R_lt (rn HO_8))) (Kd.R_lt (rn HO_9))) (Kd.R_lt (rn HO_10))) (Kd.R_lt (rn HO633))) (below_size (bn HB))); replace HO_7 := rl HO_7 (Kd.R_base ho0) hb; replace HO_8 := rl HO_8 (Kd.R_base ho0) hb; replace HO_9 := rl HO_9 (Kd.R_base ho0) hb; replace HO_10 := rl HO_10 (Kd.R_base ho0) hb; replace HO633 := rl HO633 (Kd.R_base ho0) hb; have HO636 := n5_; replace HB := bb HB hb; clear n5_; (try clear hb); (try clear ho0); obtain ⟨Ao55, co55, eo55⟩ := Kd.R_slice HO636.out; subst eo55) | ((with_reducible refine gate_callee (f := 27) rfl ?_); refine gl (some 76) Try.func27 #[.slice Ao26 t602.length co26, .slice Ao55 t634.length co55] ?_; (with_reducible refine (bag_Apply.calls kj15 _ _ t602 _ _ t634 t638 t639 _ ?side1 ?side2 ?side3 ?side4 A40.out).mono ?_); (case side1 => exact rc HO_7); (case side2 => exact rs HO_7); (case side3 => exact rc HO636); (case side4 => exact rs HO636); rintro e w56 ⟨v640, rfl, ho0, hb⟩; refine ⟨_, rfl, ?_⟩; have n6_ := Aside0.mk (Kd.R_lower (Kd.R_new' (Kd.R_new' (Kd.R_new' (Kd.R_new' (Kd.R_new' (Kd.R_new' ho0 (Kd.R_lt (rn HO_7))) (Kd.R_lt (rn HO_8))) (Kd.R_lt (rn HO_9))) (Kd.R_lt (rn HO_10))) (Kd.R_lt (rn HO633))) (Kd.R_lt (rn HO636))) (below_size (bn HB))); replace HO_7 := rl HO_7 (Kd.R_base ho0) hb; replace HO_8 := rl HO_8 (Kd.R_base ho0) hb; replace HO_9 := rl HO_9 (Kd.R_base ho0) hb; replace HO_10 := rl HO_10 (Kd.R_base ho0) hb; replace HO633 := rl HO633 (Kd.R_base ho0) hb; replace HO636 := rl HO636 (Kd.R_base ho0) hb; have HO641 := n6_; replace HB := bb HB hb; clear n6_; (try clear hb); (try clear ho0)))
         go_ret
         exact ⟨by first | rfl | (simp [errW_none, errW_some] <;> rfl) | (simp [*, errW_none, errW_some] <;> rfl), by repeat (first | (with_reducible first | exact HB.out | apply below_alloc | apply pw_below_drewN | apply below_drew1) | exact HB.out)⟩
       ·rw [if_neg c42] at H
        have c42b0 : (t631 == 0) = false := beq_eq_false_iff_ne.mpr c42
        have c42b1 : (t631 != 0) = true := bne_iff_ne.mpr c42
        obtain rfl := Option.some.inj H
        obtain ⟨Ao57, co57, eo57⟩ := Kd.R_slice HO_9.out
        subst eo57
        go_wp2_with (first | ((with_reducible refine gate_callee (f := 27) rfl ?_); refine gl (some 64) Try.func27 #[.slice Ao31 t617.length co31, .slice Ao57 t614.length co57] ?_; (with_reducible refine (bag_Apply.calls kj15 _ _ t617 _ _ t614 t630 t631 _ ?side1 ?side2 ?side3 ?side4 A38.out).mono ?_); (case side1 => exact rc HO_10); (case side2 => exact rs HO_10); (case side3 => exact rc HO_9); (case side4 => exact rs HO_9); rintro e w58 ⟨v632, rfl, ho0, hb⟩; refine ⟨_, rfl, ?_⟩; have n4_ := Aside0.mk (Kd.R_lower (Kd.R_new' (Kd.R_new' (Kd.R_new' (Kd.R_new' ho0 (Kd.R_lt (rn HO_7))) (Kd.R_lt (rn HO_8))) (Kd.R_lt (rn HO_9))) (Kd.R_lt (rn HO_10))) (below_size (bn HB))); replace HO_7 := rl HO_7 (Kd.R_base ho0) hb; replace HO_8 := rl HO_8 (Kd.R_base ho0) hb; replace HO_9 := rl HO_9 (Kd.R_base ho0) hb; replace HO_10 := rl HO_10 (Kd.R_base ho0) hb; have HO633 := n4_; replace HB := bb HB hb; clear n4_; (try clear hb); (try clear ho0)) | ((with_reducible refine gate_callee (f := 25) rfl ?_); refine gl (some 70) Try.func25 #[.slice Ao27 t608.length co27, .slice Ao57 t614.length co57] ?_; (with_reducible refine (batch_Merge.calls kj15 (fun k_ => some k_ = (.slice Ao27 t608.length co27 : Value).ownBlock) _ _ t608 (fun k_ => some k_ = (.slice Ao57 t614.length co57 : Value).ownBlock) _ _ t614 t634 t637 _ ?side1 ?side2 A39.out).mono ?_); (case side1 => exact Kd.R_V (Kd.R_tight rfl (HO_8.out))); (case side2 => exact Kd.R_V (Kd.R_tight rfl (HO_9.out))); rintro e w59 ⟨v635, rfl, ho0, hb⟩; refine ⟨_, rfl, ?_⟩; have n5_ := Aside0.mk (Kd.R_lower (Kd.R_new' (Kd.R_new' (Kd.R_new' (Kd.R_new' (Kd.R_new' (Kd.R_mono (ok' := fun k_ => True) ho0 (fun _ hk_ => trivial)) (Kd.R_lt (rn HO_7))) (Kd.R_lt (rn HO_8))) (Kd.R_lt (rn HO_9))) (Kd.R_lt (rn HO_10))) (Kd.R_lt (rn HO633))) (below_size (bn HB))); replace HO_7 := rl HO_7 (Kd.R_base ho0) hb; replace HO_8 := rl HO_8 (Kd.R_base ho0) hb; replace HO_9 := rl HO_9 (Kd.R_base ho0) hb; replace HO_10 := rl HO_10 (Kd.R_base ho0) hb; replace HO633 := rl HO633 (Kd.R_base ho0) hb; have HO636 := n5_; replace HB := bb HB hb; clear n5_; (try clear hb); (try clear ho0); obtain ⟨Ao60, co60, eo60⟩ := Kd.R_slice HO636.out; subst eo60) | ((with_reducible refine gate_callee (f := 27) rfl ?_); refine gl (some 76) Try.func27 #[.slice Ao26 t602.length co26, .slice Ao60 t634.length co60] ?_; (with_reducible refine (bag_Apply.calls kj15 _ _ t602 _ _ t634 t638 t639 _ ?side1 ?side2 ?side3 ?side4 A40.out).mono ?_); (case side1 => exact rc HO_7); (case side2 => exact rs HO_7); (case side3 => exact rc HO636); (case side4 => exact rs HO636); rintro e w61 ⟨v640, rfl, ho0, hb⟩; refine ⟨_, rfl, ?_⟩; have n6_ := Aside0.mk (Kd.R_lower (Kd.R_new' (Kd.R_new' (Kd.R_new' (Kd.R_new' (Kd.R_new' (Kd.R_new' ho0 (Kd.R_lt (rn HO_7))) (Kd.R_lt (rn HO_8))) (Kd.R_lt (rn HO_9))) (Kd.R_lt (rn HO_10))) (Kd.R_lt (rn HO633))) (Kd.R_lt (rn HO636))) (below_size (bn HB))); replace HO_7 := rl HO_7 (Kd.R_base ho0) hb; replace HO_8 := rl HO_8 (Kd.R_base ho0) hb; replace HO_9 := rl HO_9 (Kd.R_base ho0) hb; replace HO_10 := rl HO_10 (Kd.R_base ho0) hb; replace HO633 := rl HO633 (Kd.R_base ho0) hb; replace HO636 := rl HO636 (Kd.R_base ho0) hb; have HO641 := n6_; replace HB := bb HB hb; clear n6_; (try clear hb); (try clear ho0)))
        go_ret
        exact ⟨by first | rfl | (simp [errW_none, errW_some] <;> rfl) | (simp [*, errW_none, errW_some] <;> rfl), by repeat (first | (with_reducible first | exact HB.out | apply below_alloc | apply pw_below_drewN | apply below_drew1) | exact HB.out)⟩
      ·rw [if_neg c41] at H
       have c41b0 : (t637 == 0) = false := beq_eq_false_iff_ne.mpr c41
       have c41b1 : (t637 != 0) = true := bne_iff_ne.mpr c41
       obtain rfl := Option.some.inj H
       obtain ⟨Ao62, co62, eo62⟩ := Kd.R_slice HO_9.out
       subst eo62
       go_wp2_with (first | ((with_reducible refine gate_callee (f := 27) rfl ?_); refine gl (some 64) Try.func27 #[.slice Ao31 t617.length co31, .slice Ao62 t614.length co62] ?_; (with_reducible refine (bag_Apply.calls kj15 _ _ t617 _ _ t614 t630 t631 _ ?side1 ?side2 ?side3 ?side4 A38.out).mono ?_); (case side1 => exact rc HO_10); (case side2 => exact rs HO_10); (case side3 => exact rc HO_9); (case side4 => exact rs HO_9); rintro e w63 ⟨v632, rfl, ho0, hb⟩; refine ⟨_, rfl, ?_⟩; have n4_ := Aside0.mk (Kd.R_lower (Kd.R_new' (Kd.R_new' (Kd.R_new' (Kd.R_new' ho0 (Kd.R_lt (rn HO_7))) (Kd.R_lt (rn HO_8))) (Kd.R_lt (rn HO_9))) (Kd.R_lt (rn HO_10))) (below_size (bn HB))); replace HO_7 := rl HO_7 (Kd.R_base ho0) hb; replace HO_8 := rl HO_8 (Kd.R_base ho0) hb; replace HO_9 := rl HO_9 (Kd.R_base ho0) hb; replace HO_10 := rl HO_10 (Kd.R_base ho0) hb; have HO633 := n4_; replace HB := bb HB hb; clear n4_; (try clear hb); (try clear ho0)) | ((with_reducible refine gate_callee (f := 25) rfl ?_); refine gl (some 70) Try.func25 #[.slice Ao27 t608.length co27, .slice Ao62 t614.length co62] ?_; (with_reducible refine (batch_Merge.calls kj15 (fun k_ => some k_ = (.slice Ao27 t608.length co27 : Value).ownBlock) _ _ t608 (fun k_ => some k_ = (.slice Ao62 t614.length co62 : Value).ownBlock) _ _ t614 t634 t637 _ ?side1 ?side2 A39.out).mono ?_); (case side1 => exact Kd.R_V (Kd.R_tight rfl (HO_8.out))); (case side2 => exact Kd.R_V (Kd.R_tight rfl (HO_9.out))); rintro e w64 ⟨v635, rfl, ho0, hb⟩; refine ⟨_, rfl, ?_⟩; have n5_ := Aside0.mk (Kd.R_lower (Kd.R_new' (Kd.R_new' (Kd.R_new' (Kd.R_new' (Kd.R_new' (Kd.R_mono (ok' := fun k_ => True) ho0 (fun _ hk_ => trivial)) (Kd.R_lt (rn HO_7))) (Kd.R_lt (rn HO_8))) (Kd.R_lt (rn HO_9))) (Kd.R_lt (rn HO_10))) (Kd.R_lt (rn HO633))) (below_size (bn HB))); replace HO_7 := rl HO_7 (Kd.R_base ho0) hb; replace HO_8 := rl HO_8 (Kd.R_base ho0) hb; replace HO_9 := rl HO_9 (Kd.R_base ho0) hb; replace HO_10 := rl HO_10 (Kd.R_base ho0) hb; replace HO633 := rl HO633 (Kd.R_base ho0) hb; have HO636 := n5_; replace HB := bb HB hb; clear n5_; (try clear hb); (try clear ho0); obtain ⟨Ao65, co65, eo65⟩ := Kd.R_slice HO636.out; subst eo65) | ((with_reducible refine gate_callee (f := 27) rfl ?_); refine gl (some 76) Try.func27 #[.slice Ao26 t602.length co26, .slice Ao65 t634.length co65] ?_; (with_reducible refine (bag_Apply.calls kj15 _ _ t602 _ _ t634 t638 t639 _ ?side1 ?side2 ?side3 ?side4 A40.out).mono ?_); (case side1 => exact rc HO_7); (case side2 => exact rs HO_7); (case side3 => exact rc HO636); (case side4 => exact rs HO636); rintro e w66 ⟨v640, rfl, ho0, hb⟩; refine ⟨_, rfl, ?_⟩; have n6_ := Aside0.mk (Kd.R_lower (Kd.R_new' (Kd.R_new' (Kd.R_new' (Kd.R_new' (Kd.R_new' (Kd.R_new' ho0 (Kd.R_lt (rn HO_7))) (Kd.R_lt (rn HO_8))) (Kd.R_lt (rn HO_9))) (Kd.R_lt (rn HO_10))) (Kd.R_lt (rn HO633))) (Kd.R_lt (rn HO636))) (below_size (bn HB))); replace HO_7 := rl HO_7 (Kd.R_base ho0) hb; replace HO_8 := rl HO_8 (Kd.R_base ho0) hb; replace HO_9 := rl HO_9 (Kd.R_base ho0) hb; replace HO_10 := rl HO_10 (Kd.R_base ho0) hb; replace HO633 := rl HO633 (Kd.R_base ho0) hb; replace HO636 := rl HO636 (Kd.R_base ho0) hb; have HO641 := n6_; replace HB := bb HB hb; clear n6_; (try clear hb); (try clear ho0)))
       go_ret
       exact ⟨by first | rfl | (simp [errW_none, errW_some] <;> rfl) | (simp [*, errW_none, errW_some] <;> rfl), by repeat (first | (with_reducible first | exact HB.out | apply below_alloc | apply pw_below_drewN | apply below_drew1) | exact HB.out)⟩
  ·rw [if_neg c13] at H
   have c13b0 : (t618 == 0) = false := beq_eq_false_iff_ne.mpr c13
   have c13b1 : (t618 != 0) = true := bne_iff_ne.mpr c13
   by_cases c67 : t618 = 11
   ·rw [if_pos c67] at H
    have c67b0 : (t618 == 11) = true := beq_iff_eq.mpr c67
    have c67b1 : (t618 != 11) = false := bne_eq_false_iff_eq.mpr c67
    clear c67
    obtain rfl := Option.some.inj H
    go_enter Try.func10, Try.ntmps10
    go_wp2_with (first | ((with_reducible refine gate_callee (f := 26) rfl ?_); refine gl (some 21) Try.func26 #[.slice A0 l0.length c0] ?_; (with_reducible refine (marchlandref04_Fix.calls k _ _ l0 t599 _ ?side1 ?side2 A4.out).mono ?_); (case side1 => exact cn HR0.out); (case side2 => exact HC0.out); rintro e w68 ⟨v600, rfl, ho0, hb⟩; refine ⟨_, rfl, ?_⟩; have n0_ := Aside0.mk (Kd.R_lower ho0 (below_size (bn HB))); have HO601 := n0_; replace HB := bb HB hb; clear n0_; (try clear hb); (try clear ho0); obtain ⟨Ao69, co69, eo69⟩ := Kd.R_slice HO601.out; subst eo69) | ((with_reducible refine gate_callee (f := 14) rfl ?_); refine gl (some 22) Try.func14 #[.slice Ao69 t599.length co69] ?_; (with_reducible refine (marchlandlaw03_To.calls k _ _ t599 t602 _ ?side1 ?side2 A5.out).mono ?_); (case side1 => exact rc HO601); (case side2 => exact rs HO601); rintro e w70 ⟨v603, rfl, ho0, hb⟩; refine ⟨_, rfl, ?_⟩; have n1_ := Aside0.mk (Kd.R_lower ho0 (below_size (bn HB))); replace HO601 := rb HO601 hb; have HO604 := n1_; replace HB := bb HB hb; clear n1_; (try clear hb); (try clear ho0)) | ((with_reducible refine gate_callee (f := 22) rfl ?_); refine gl (some 24) Try.func22 #[.slice A1 l1.length c1] ?_; (with_reducible refine (marchlandref03_Fix.calls k _ _ l1 t605 _ ?side1 ?side2 A6.out).mono ?_); (case side1 => repeat (first | exact (Kd.C_below HR1.out HB.out) | (with_reducible refine Kd.C_alloc ?_ _) | (with_reducible refine Kd.C_drewN ?_ _) | (with_reducible refine Kd.C_drew ?_))); (case side2 => exact HC1.out); rintro e w71 ⟨v606, rfl, ho0, hb⟩; refine ⟨_, rfl, ?_⟩; have n2_ := Aside0.mk (Kd.R_lower (Kd.R_new' ho0 (Kd.R_lt (rn HO601))) (below_size (bn HB))); replace HO601 := rl HO601 (Kd.R_base ho0) hb; replace HO604 := rb HO604 hb; have HO607 := n2_; replace HB := bb HB hb; clear n2_; (try clear hb); (try clear ho0); obtain ⟨Ao72, co72, eo72⟩ := Kd.R_slice HO607.out; subst eo72) | ((with_reducible refine gate_callee (f := 14) rfl ?_); refine gl (some 25) Try.func14 #[.slice Ao72 t605.length co72] ?_; (with_reducible refine (marchlandlaw03_To.calls k _ _ t605 t608 _ ?side1 ?side2 A7.out).mono ?_); (case side1 => exact rc HO607); (case side2 => exact rs HO607); rintro e w73 ⟨v609, rfl, ho0, hb⟩; refine ⟨_, rfl, ?_⟩; have n3_ := Aside0.mk (Kd.R_lower (Kd.R_new' ho0 (Kd.R_lt (rn HO604))) (below_size (bn HB))); replace HO601 := rb HO601 hb; replace HO604 := rl HO604 (Kd.R_base ho0) hb; replace HO607 := rb HO607 hb; have HO610 := n3_; replace HB := bb HB hb; clear n3_; (try clear hb); (try clear ho0)) | ((with_reducible refine gate_callee (f := 22) rfl ?_); refine gl (some 27) Try.func22 #[.slice A2 l2.length c2] ?_; (with_reducible refine (marchlandref03_Fix.calls k _ _ l2 t611 _ ?side1 ?side2 A8.out).mono ?_); (case side1 => repeat (first | exact (Kd.C_below HR2.out HB.out) | (with_reducible refine Kd.C_alloc ?_ _) | (with_reducible refine Kd.C_drewN ?_ _) | (with_reducible refine Kd.C_drew ?_))); (case side2 => exact HC2.out); rintro e w74 ⟨v612, rfl, ho0, hb⟩; refine ⟨_, rfl, ?_⟩; have n4_ := Aside0.mk (Kd.R_lower (Kd.R_new' (Kd.R_new' ho0 (Kd.R_lt (rn HO601))) (Kd.R_lt (rn HO607))) (below_size (bn HB))); replace HO601 := rl HO601 (Kd.R_base ho0) hb; replace HO604 := rb HO604 hb; replace HO607 := rl HO607 (Kd.R_base ho0) hb; replace HO610 := rb HO610 hb; have HO613 := n4_; replace HB := bb HB hb; clear n4_; (try clear hb); (try clear ho0); obtain ⟨Ao75, co75, eo75⟩ := Kd.R_slice HO613.out; subst eo75) | ((with_reducible refine gate_callee (f := 14) rfl ?_); refine gl (some 28) Try.func14 #[.slice Ao75 t611.length co75] ?_; (with_reducible refine (marchlandlaw03_To.calls k _ _ t611 t614 _ ?side1 ?side2 A9.out).mono ?_); (case side1 => exact rc HO613); (case side2 => exact rs HO613); rintro e w76 ⟨v615, rfl, ho0, hb⟩; refine ⟨_, rfl, ?_⟩; have n5_ := Aside0.mk (Kd.R_lower (Kd.R_new' (Kd.R_new' ho0 (Kd.R_lt (rn HO604))) (Kd.R_lt (rn HO610))) (below_size (bn HB))); replace HO601 := rb HO601 hb; replace HO604 := rl HO604 (Kd.R_base ho0) hb; replace HO607 := rb HO607 hb; replace HO610 := rl HO610 (Kd.R_base ho0) hb; replace HO613 := rb HO613 hb; have HO616 := n5_; replace HB := bb HB hb; clear n5_; (try clear hb); (try clear ho0); obtain ⟨Ao77, co77, eo77⟩ := Kd.R_slice HO604.out; subst eo77; obtain ⟨Ao78, co78, eo78⟩ := Kd.R_slice HO610.out; subst eo78) | ((with_reducible refine gate_callee (f := 27) rfl ?_); refine gl (some 32) Try.func27 #[.slice Ao77 t602.length co77, .slice Ao78 t608.length co78] ?_; (with_reducible refine (bag_Apply.calls k _ _ t602 _ _ t608 t617 t618 _ ?side1 ?side2 ?side3 ?side4 A10.out).mono ?_); (case side1 => exact rc HO604); (case side2 => exact rs HO604); (case side3 => exact rc HO610); (case side4 => exact rs HO610); rintro e w79 ⟨v619, rfl, ho0, hb⟩; refine ⟨_, rfl, ?_⟩; have n6_ := Aside0.mk (Kd.R_lower (Kd.R_new' (Kd.R_new' (Kd.R_new' ho0 (Kd.R_lt (rn HO604))) (Kd.R_lt (rn HO610))) (Kd.R_lt (rn HO616))) (below_size (bn HB))); replace HO601 := rb HO601 hb; replace HO604 := rl HO604 (Kd.R_base ho0) hb; replace HO607 := rb HO607 hb; replace HO610 := rl HO610 (Kd.R_base ho0) hb; replace HO613 := rb HO613 hb; replace HO616 := rl HO616 (Kd.R_base ho0) hb; have HO620 := n6_; replace HB := bb HB hb; clear n6_; (try clear hb); (try clear ho0)) | ((with_reducible refine gate_callee (f := 29) rfl ?_); refine gl (some 35) Try.func29 #[] ?_; (with_reducible refine (marchlandlaw04_told.calls k  true _ A11.out).mono ?_); rintro e w80 ⟨rfl, hb⟩; refine ⟨_, rfl, ?_⟩; replace HO601 := rb HO601 hb; replace HO604 := rb HO604 hb; replace HO607 := rb HO607 hb; replace HO610 := rb HO610 hb; replace HO613 := rb HO613 hb; replace HO616 := rb HO616 hb; replace HO620 := rb HO620 hb; replace HB := bb HB hb; (try clear hb); obtain ⟨Ao81, co81, eo81⟩ := Kd.R_slice HO620.out; subst eo81))
    go_ret
    exact ⟨by first | rfl | (simp [errW_none, errW_some] <;> rfl) | (simp [*, errW_none, errW_some] <;> rfl), by repeat (first | (with_reducible first | exact HB.out | apply below_alloc | apply pw_below_drewN | apply below_drew1) | exact HB.out)⟩
   ·rw [if_neg c67] at H
    have c67b0 : (t618 == 11) = false := beq_eq_false_iff_ne.mpr c67
    have c67b1 : (t618 != 11) = true := bne_iff_ne.mpr c67
    obtain rfl := Option.some.inj H
    go_enter Try.func10, Try.ntmps10
    go_wp2_with (first | ((with_reducible refine gate_callee (f := 26) rfl ?_); refine gl (some 21) Try.func26 #[.slice A0 l0.length c0] ?_; (with_reducible refine (marchlandref04_Fix.calls k _ _ l0 t599 _ ?side1 ?side2 A4.out).mono ?_); (case side1 => exact cn HR0.out); (case side2 => exact HC0.out); rintro e w82 ⟨v600, rfl, ho0, hb⟩; refine ⟨_, rfl, ?_⟩; have n0_ := Aside0.mk (Kd.R_lower ho0 (below_size (bn HB))); have HO601 := n0_; replace HB := bb HB hb; clear n0_; (try clear hb); (try clear ho0); obtain ⟨Ao83, co83, eo83⟩ := Kd.R_slice HO601.out; subst eo83) | ((with_reducible refine gate_callee (f := 14) rfl ?_); refine gl (some 22) Try.func14 #[.slice Ao83 t599.length co83] ?_; (with_reducible refine (marchlandlaw03_To.calls k _ _ t599 t602 _ ?side1 ?side2 A5.out).mono ?_); (case side1 => exact rc HO601); (case side2 => exact rs HO601); rintro e w84 ⟨v603, rfl, ho0, hb⟩; refine ⟨_, rfl, ?_⟩; have n1_ := Aside0.mk (Kd.R_lower ho0 (below_size (bn HB))); replace HO601 := rb HO601 hb; have HO604 := n1_; replace HB := bb HB hb; clear n1_; (try clear hb); (try clear ho0)) | ((with_reducible refine gate_callee (f := 22) rfl ?_); refine gl (some 24) Try.func22 #[.slice A1 l1.length c1] ?_; (with_reducible refine (marchlandref03_Fix.calls k _ _ l1 t605 _ ?side1 ?side2 A6.out).mono ?_); (case side1 => repeat (first | exact (Kd.C_below HR1.out HB.out) | (with_reducible refine Kd.C_alloc ?_ _) | (with_reducible refine Kd.C_drewN ?_ _) | (with_reducible refine Kd.C_drew ?_))); (case side2 => exact HC1.out); rintro e w85 ⟨v606, rfl, ho0, hb⟩; refine ⟨_, rfl, ?_⟩; have n2_ := Aside0.mk (Kd.R_lower (Kd.R_new' ho0 (Kd.R_lt (rn HO601))) (below_size (bn HB))); replace HO601 := rl HO601 (Kd.R_base ho0) hb; replace HO604 := rb HO604 hb; have HO607 := n2_; replace HB := bb HB hb; clear n2_; (try clear hb); (try clear ho0); obtain ⟨Ao86, co86, eo86⟩ := Kd.R_slice HO607.out; subst eo86) | ((with_reducible refine gate_callee (f := 14) rfl ?_); refine gl (some 25) Try.func14 #[.slice Ao86 t605.length co86] ?_; (with_reducible refine (marchlandlaw03_To.calls k _ _ t605 t608 _ ?side1 ?side2 A7.out).mono ?_); (case side1 => exact rc HO607); (case side2 => exact rs HO607); rintro e w87 ⟨v609, rfl, ho0, hb⟩; refine ⟨_, rfl, ?_⟩; have n3_ := Aside0.mk (Kd.R_lower (Kd.R_new' ho0 (Kd.R_lt (rn HO604))) (below_size (bn HB))); replace HO601 := rb HO601 hb; replace HO604 := rl HO604 (Kd.R_base ho0) hb; replace HO607 := rb HO607 hb; have HO610 := n3_; replace HB := bb HB hb; clear n3_; (try clear hb); (try clear ho0)) | ((with_reducible refine gate_callee (f := 22) rfl ?_); refine gl (some 27) Try.func22 #[.slice A2 l2.length c2] ?_; (with_reducible refine (marchlandref03_Fix.calls k _ _ l2 t611 _ ?side1 ?side2 A8.out).mono ?_); (case side1 => repeat (first | exact (Kd.C_below HR2.out HB.out) | (with_reducible refine Kd.C_alloc ?_ _) | (with_reducible refine Kd.C_drewN ?_ _) | (with_reducible refine Kd.C_drew ?_))); (case side2 => exact HC2.out); rintro e w88 ⟨v612, rfl, ho0, hb⟩; refine ⟨_, rfl, ?_⟩; have n4_ := Aside0.mk (Kd.R_lower (Kd.R_new' (Kd.R_new' ho0 (Kd.R_lt (rn HO601))) (Kd.R_lt (rn HO607))) (below_size (bn HB))); replace HO601 := rl HO601 (Kd.R_base ho0) hb; replace HO604 := rb HO604 hb; replace HO607 := rl HO607 (Kd.R_base ho0) hb; replace HO610 := rb HO610 hb; have HO613 := n4_; replace HB := bb HB hb; clear n4_; (try clear hb); (try clear ho0); obtain ⟨Ao89, co89, eo89⟩ := Kd.R_slice HO613.out; subst eo89) | ((with_reducible refine gate_callee (f := 14) rfl ?_); refine gl (some 28) Try.func14 #[.slice Ao89 t611.length co89] ?_; (with_reducible refine (marchlandlaw03_To.calls k _ _ t611 t614 _ ?side1 ?side2 A9.out).mono ?_); (case side1 => exact rc HO613); (case side2 => exact rs HO613); rintro e w90 ⟨v615, rfl, ho0, hb⟩; refine ⟨_, rfl, ?_⟩; have n5_ := Aside0.mk (Kd.R_lower (Kd.R_new' (Kd.R_new' ho0 (Kd.R_lt (rn HO604))) (Kd.R_lt (rn HO610))) (below_size (bn HB))); replace HO601 := rb HO601 hb; replace HO604 := rl HO604 (Kd.R_base ho0) hb; replace HO607 := rb HO607 hb; replace HO610 := rl HO610 (Kd.R_base ho0) hb; replace HO613 := rb HO613 hb; have HO616 := n5_; replace HB := bb HB hb; clear n5_; (try clear hb); (try clear ho0); obtain ⟨Ao91, co91, eo91⟩ := Kd.R_slice HO604.out; subst eo91; obtain ⟨Ao92, co92, eo92⟩ := Kd.R_slice HO610.out; subst eo92) | ((with_reducible refine gate_callee (f := 27) rfl ?_); refine gl (some 32) Try.func27 #[.slice Ao91 t602.length co91, .slice Ao92 t608.length co92] ?_; (with_reducible refine (bag_Apply.calls k _ _ t602 _ _ t608 t617 t618 _ ?side1 ?side2 ?side3 ?side4 A10.out).mono ?_); (case side1 => exact rc HO604); (case side2 => exact rs HO604); (case side3 => exact rc HO610); (case side4 => exact rs HO610); rintro e w93 ⟨v619, rfl, ho0, hb⟩; refine ⟨_, rfl, ?_⟩; have n6_ := Aside0.mk (Kd.R_lower (Kd.R_new' (Kd.R_new' (Kd.R_new' ho0 (Kd.R_lt (rn HO604))) (Kd.R_lt (rn HO610))) (Kd.R_lt (rn HO616))) (below_size (bn HB))); replace HO601 := rb HO601 hb; replace HO604 := rl HO604 (Kd.R_base ho0) hb; replace HO607 := rb HO607 hb; replace HO610 := rl HO610 (Kd.R_base ho0) hb; replace HO613 := rb HO613 hb; replace HO616 := rl HO616 (Kd.R_base ho0) hb; have HO620 := n6_; replace HB := bb HB hb; clear n6_; (try clear hb); (try clear ho0)) | ((with_reducible refine gate_callee (f := 29) rfl ?_); refine gl (some 35) Try.func29 #[] ?_; (with_reducible refine (marchlandlaw04_told.calls k  true _ A11.out).mono ?_); rintro e w94 ⟨rfl, hb⟩; refine ⟨_, rfl, ?_⟩; replace HO601 := rb HO601 hb; replace HO604 := rb HO604 hb; replace HO607 := rb HO607 hb; replace HO610 := rb HO610 hb; replace HO613 := rb HO613 hb; replace HO616 := rb HO616 hb; replace HO620 := rb HO620 hb; replace HB := bb HB hb; (try clear hb)))
    go_ret
    exact ⟨by first | rfl | (simp [errW_none, errW_some] <;> rfl) | (simp [*, errW_none, errW_some] <;> rfl), by repeat (first | (with_reducible first | exact HB.out | apply below_alloc | apply pw_below_drewN | apply below_drew1) | exact HB.out)⟩
 ·replace c12 := Bool.eq_false_iff.mpr c12
  subst c12
  have H1 : (some false) = some r := by rw [if_neg (show ¬ (false = true) by decide)] at H; exact H
  clear H
  have H := H1
  clear H1
  obtain rfl := Option.some.inj H
  go_enter Try.func10, Try.ntmps10
  go_wp2_with (first | ((with_reducible refine gate_callee (f := 26) rfl ?_); refine gl (some 21) Try.func26 #[.slice A0 l0.length c0] ?_; (with_reducible refine (marchlandref04_Fix.calls k _ _ l0 t599 _ ?side1 ?side2 A4.out).mono ?_); (case side1 => exact cn HR0.out); (case side2 => exact HC0.out); rintro e w95 ⟨v600, rfl, ho0, hb⟩; refine ⟨_, rfl, ?_⟩; have n0_ := Aside0.mk (Kd.R_lower ho0 (below_size (bn HB))); have HO601 := n0_; replace HB := bb HB hb; clear n0_; (try clear hb); (try clear ho0); obtain ⟨Ao96, co96, eo96⟩ := Kd.R_slice HO601.out; subst eo96) | ((with_reducible refine gate_callee (f := 14) rfl ?_); refine gl (some 22) Try.func14 #[.slice Ao96 t599.length co96] ?_; (with_reducible refine (marchlandlaw03_To.calls k _ _ t599 t602 _ ?side1 ?side2 A5.out).mono ?_); (case side1 => exact rc HO601); (case side2 => exact rs HO601); rintro e w97 ⟨v603, rfl, ho0, hb⟩; refine ⟨_, rfl, ?_⟩; have n1_ := Aside0.mk (Kd.R_lower ho0 (below_size (bn HB))); replace HO601 := rb HO601 hb; have HO604 := n1_; replace HB := bb HB hb; clear n1_; (try clear hb); (try clear ho0)) | ((with_reducible refine gate_callee (f := 22) rfl ?_); refine gl (some 24) Try.func22 #[.slice A1 l1.length c1] ?_; (with_reducible refine (marchlandref03_Fix.calls k _ _ l1 t605 _ ?side1 ?side2 A6.out).mono ?_); (case side1 => repeat (first | exact (Kd.C_below HR1.out HB.out) | (with_reducible refine Kd.C_alloc ?_ _) | (with_reducible refine Kd.C_drewN ?_ _) | (with_reducible refine Kd.C_drew ?_))); (case side2 => exact HC1.out); rintro e w98 ⟨v606, rfl, ho0, hb⟩; refine ⟨_, rfl, ?_⟩; have n2_ := Aside0.mk (Kd.R_lower (Kd.R_new' ho0 (Kd.R_lt (rn HO601))) (below_size (bn HB))); replace HO601 := rl HO601 (Kd.R_base ho0) hb; replace HO604 := rb HO604 hb; have HO607 := n2_; replace HB := bb HB hb; clear n2_; (try clear hb); (try clear ho0); obtain ⟨Ao99, co99, eo99⟩ := Kd.R_slice HO607.out; subst eo99) | ((with_reducible refine gate_callee (f := 14) rfl ?_); refine gl (some 25) Try.func14 #[.slice Ao99 t605.length co99] ?_; (with_reducible refine (marchlandlaw03_To.calls k _ _ t605 t608 _ ?side1 ?side2 A7.out).mono ?_); (case side1 => exact rc HO607); (case side2 => exact rs HO607); rintro e w100 ⟨v609, rfl, ho0, hb⟩; refine ⟨_, rfl, ?_⟩; have n3_ := Aside0.mk (Kd.R_lower (Kd.R_new' ho0 (Kd.R_lt (rn HO604))) (below_size (bn HB))); replace HO601 := rb HO601 hb; replace HO604 := rl HO604 (Kd.R_base ho0) hb; replace HO607 := rb HO607 hb; have HO610 := n3_; replace HB := bb HB hb; clear n3_; (try clear hb); (try clear ho0)) | ((with_reducible refine gate_callee (f := 22) rfl ?_); refine gl (some 27) Try.func22 #[.slice A2 l2.length c2] ?_; (with_reducible refine (marchlandref03_Fix.calls k _ _ l2 t611 _ ?side1 ?side2 A8.out).mono ?_); (case side1 => repeat (first | exact (Kd.C_below HR2.out HB.out) | (with_reducible refine Kd.C_alloc ?_ _) | (with_reducible refine Kd.C_drewN ?_ _) | (with_reducible refine Kd.C_drew ?_))); (case side2 => exact HC2.out); rintro e w101 ⟨v612, rfl, ho0, hb⟩; refine ⟨_, rfl, ?_⟩; have n4_ := Aside0.mk (Kd.R_lower (Kd.R_new' (Kd.R_new' ho0 (Kd.R_lt (rn HO601))) (Kd.R_lt (rn HO607))) (below_size (bn HB))); replace HO601 := rl HO601 (Kd.R_base ho0) hb; replace HO604 := rb HO604 hb; replace HO607 := rl HO607 (Kd.R_base ho0) hb; replace HO610 := rb HO610 hb; have HO613 := n4_; replace HB := bb HB hb; clear n4_; (try clear hb); (try clear ho0); obtain ⟨Ao102, co102, eo102⟩ := Kd.R_slice HO613.out; subst eo102) | ((with_reducible refine gate_callee (f := 14) rfl ?_); refine gl (some 28) Try.func14 #[.slice Ao102 t611.length co102] ?_; (with_reducible refine (marchlandlaw03_To.calls k _ _ t611 t614 _ ?side1 ?side2 A9.out).mono ?_); (case side1 => exact rc HO613); (case side2 => exact rs HO613); rintro e w103 ⟨v615, rfl, ho0, hb⟩; refine ⟨_, rfl, ?_⟩; have n5_ := Aside0.mk (Kd.R_lower (Kd.R_new' (Kd.R_new' ho0 (Kd.R_lt (rn HO604))) (Kd.R_lt (rn HO610))) (below_size (bn HB))); replace HO601 := rb HO601 hb; replace HO604 := rl HO604 (Kd.R_base ho0) hb; replace HO607 := rb HO607 hb; replace HO610 := rl HO610 (Kd.R_base ho0) hb; replace HO613 := rb HO613 hb; have HO616 := n5_; replace HB := bb HB hb; clear n5_; (try clear hb); (try clear ho0); obtain ⟨Ao104, co104, eo104⟩ := Kd.R_slice HO604.out; subst eo104; obtain ⟨Ao105, co105, eo105⟩ := Kd.R_slice HO610.out; subst eo105) | ((with_reducible refine gate_callee (f := 27) rfl ?_); refine gl (some 32) Try.func27 #[.slice Ao104 t602.length co104, .slice Ao105 t608.length co105] ?_; (with_reducible refine (bag_Apply.calls k _ _ t602 _ _ t608 t617 t618 _ ?side1 ?side2 ?side3 ?side4 A10.out).mono ?_); (case side1 => exact rc HO604); (case side2 => exact rs HO604); (case side3 => exact rc HO610); (case side4 => exact rs HO610); rintro e w106 ⟨v619, rfl, ho0, hb⟩; refine ⟨_, rfl, ?_⟩; have n6_ := Aside0.mk (Kd.R_lower (Kd.R_new' (Kd.R_new' (Kd.R_new' ho0 (Kd.R_lt (rn HO604))) (Kd.R_lt (rn HO610))) (Kd.R_lt (rn HO616))) (below_size (bn HB))); replace HO601 := rb HO601 hb; replace HO604 := rl HO604 (Kd.R_base ho0) hb; replace HO607 := rb HO607 hb; replace HO610 := rl HO610 (Kd.R_base ho0) hb; replace HO613 := rb HO613 hb; replace HO616 := rl HO616 (Kd.R_base ho0) hb; have HO620 := n6_; replace HB := bb HB hb; clear n6_; (try clear hb); (try clear ho0)) | ((with_reducible refine gate_callee (f := 29) rfl ?_); refine gl (some 35) Try.func29 #[] ?_; (with_reducible refine (marchlandlaw04_told.calls k  false _ A11.out).mono ?_); rintro e w107 ⟨rfl, hb⟩; refine ⟨_, rfl, ?_⟩; replace HO601 := rb HO601 hb; replace HO604 := rb HO604 hb; replace HO607 := rb HO607 hb; replace HO610 := rb HO610 hb; replace HO613 := rb HO613 hb; replace HO616 := rb HO616 hb; replace HO620 := rb HO620 hb; replace HB := bb HB hb; (try clear hb)))
  go_ret
  exact ⟨by first | rfl | (simp [errW_none, errW_some] <;> rfl) | (simp [*, errW_none, errW_some] <;> rfl), by repeat (first | (with_reducible first | exact HB.out | apply below_alloc | apply pw_below_drewN | apply below_drew1) | exact HB.out)⟩
end Go.Proofs.Ytgeldmhgbnamcaa.P
end
section
/- The plain law of BagBack. -/
namespace Go.Proofs.Ytgeldmhgbnamcaa.Pure
open Go.RowKit Go.Proofs.Ytgeldmhgbnamcaa.P Go.Proofs.YtgeldmhgbnamcaaW.PrintWords Go.Proofs.YtgeldmhgbnamcaaW.PrintLast
set_option linter.unusedVariables false
set_option linter.unusedSimpArgs false
theorem back_j0 {B C D : List S50} (hB : Sm B 12) (hC : Sm C 12) (hD : Sm D 12) (pB : Pos B) (hb : bel B C = false) : Ev (fun k => marchlandlaw04_BagBack.j0 k B C D (K (B ++ C)) false) true := by
  have hP := sm_append hB hC (by omega)
  have hM := sm_append hC hD (by omega)
  have lB := hB.len; have lC := hC.len; have lD := hD.len; have lP := hP.len; have lM := hM.len
  have mB := hB.ms; have mC := hC.ms; have mD := hD.ms
  have m1 := mass_two hB hC (by omega)
  have m2 := mass_two hP hD (by omega)
  have m3 := mass_two hB hM (by omega)
  have m4 := mass_two hC hD (by omega)
  have pP : Pos (K (B ++ C)) := ap_pos hB.rt.1 hC.rt.1 m1 pB hb
  obtain ⟨K1, h1⟩ := ap_ev (A := K (B ++ C)) (B := D) hP.rt.1 (by omega)
  obtain ⟨K2, h2⟩ := mg_ev (A := C) (B := D) (by omega) m4
  obtain ⟨K3, h3⟩ := ap_ev (A := B) (B := K (C ++ D)) hB.rt.1 (by omega)
  obtain ⟨K4, h4⟩ := same_true (K (K (B ++ C) ++ D)) (by have := K_len (K (B ++ C) ++ D); simp only [List.length_append] at this; omega)
  rw [applyv_small m2] at h1
  rw [applyv_small m3, ← K_assoc (by omega)] at h3
  refine ⟨K1 + K2 + K3 + K4 + 1, fun k hk => ?_⟩
  obtain ⟨k, rfl⟩ : ∃ m, k = m + 1 := ⟨k - 1, by omega⟩
  have h1 := h1 k (by omega); have h2 := h2 k (by omega); have h3 := h3 k (by omega); have h4 := h4 k (by omega)
  dsimp only at h1 h2 h3 h4
  show marchlandlaw04_BagBack.j0 (k + 1) _ _ _ _ _ = _
  rw [marchlandlaw04_BagBack.j0, if_neg (by decide)]
  simp only [h1, h2, h3, Option.bind_some, if_true]
  cases c : bel (K (B ++ C)) D with
  | true => simp
  | false =>
    have c2 : bel B (K (C ++ D)) = false := bel_of hB.rt.1 m3 (fun x hx => by
      have e := ofv_self (K_cn (C ++ D)).1 hx
      rw [sum_ofv hC.rt.1 hD.rt.1 m4] at e
      have := sum_nonneg hP.rt.1 m2 pP c x
      rw [sum_ofv hB.rt.1 hC.rt.1 m1] at this
      omega)
    simp [c2, h4]
theorem BagBack : ∀ l0 : List S40, l0.length * 24 ≤ 140737488351232 → (∀ y ∈ l0, wfC y) → ∀ l1 : List S40, l1.length * 24 ≤ 140737488351232 → (∀ y ∈ l1, wfC y) → ∀ l2 : List S40, l2.length * 24 ≤ 140737488351232 → (∀ y ∈ l2, wfC y) → ∃ k, marchlandlaw04_BagBack.f k l0 l1 l2 = some true := by
  intro l0 _ q0 l1 _ q1 l2 _ q2
  obtain ⟨K1, h1⟩ := fix4_ev l0
  obtain ⟨K2, h2⟩ := fix_ev l1
  obtain ⟨K3, h3⟩ := fix_ev l2
  have hB := fix4_sm q0
  have hC := fix_sm q1
  have hD := fix_sm q2
  have pB : Pos (sumk (((l0.take 12).map fix4).map fix1)) := fun x hx => (fix4_pos l0 x hx).1
  generalize sumk (((l0.take 12).map fix4).map fix1) = B at *
  generalize sumk ((l1.take 12).map fix1) = C at *
  generalize sumk ((l2.take 12).map fix1) = D at *
  have hP := sm_append hB hC (by omega)
  have lB := hB.len; have lC := hC.len; have lD := hD.len; have lP := hP.len
  have mB := hB.ms; have mC := hC.ms; have mP := hP.ms
  have m1 := mass_two hB hC (by omega)
  have mN := mass_neg C
  have m5 : mass (K (B ++ C) ++ C.map neg) ≤ 1000000000 := by rw [mass_append]; omega
  obtain ⟨K4, h4⟩ := to_ev B (by unfold Short; omega)
  obtain ⟨K5, h5⟩ := to_ev C (by unfold Short; omega)
  obtain ⟨K6, h6⟩ := to_ev D (by unfold Short; omega)
  obtain ⟨K7, h7⟩ := ap_ev (A := B) (B := C) hB.rt.1 (by omega)
  obtain ⟨K8, h8⟩ := told4
  obtain ⟨K9, h9⟩ := minus_ev C (by unfold Short; omega)
  obtain ⟨K10, h10⟩ := ap_ev (A := K (B ++ C)) (B := C.map neg) hP.rt.1 (by simp; omega)
  obtain ⟨K11, h11⟩ := same_true B (by omega)
  rw [applyv_small m1] at h7
  rw [applyv_small m5] at h10
  cases c : bel B C with
  | true =>
    let k := K1 + K2 + K3 + K4 + K5 + K6 + K7 + K8
    refine ⟨k, ?_⟩
    have h1 := h1 k (by omega); have h2 := h2 k (by omega); have h3 := h3 k (by omega); have h4 := h4 k (by omega); have h5 := h5 k (by omega); have h6 := h6 k (by omega); have h7 := h7 k (by omega); have h8 := h8 k (by omega)
    dsimp only at h1 h2 h3 h4 h5 h6 h7 h8
    rw [marchlandlaw04_BagBack.f]
    simp only [h1, h2, h3, h4, h5, h6, h7, h8, Option.bind_some, if_true, c]
    rfl
  | false =>
    obtain ⟨K12, h12⟩ := back_j0 hB hC hD pB c
    have c2 : bel (K (B ++ C)) (C.map neg) = false := bel_of hP.rt.1 m5 (fun x hx => by
      obtain ⟨y, hy, rfl⟩ := List.mem_map.1 hx
      have my := mass_mem hy
      have e := neg_f2 (x := y) (by omega)
      have ek : ofv (K (B ++ C)) (neg y) = ofv (K (B ++ C)) y := ofv_key ⟨rfl, rfl⟩ _
      rw [ek, e, sum_ofv hB.rt.1 hC.rt.1 m1, ofv_self hC.rt.1 hy]
      have := pos_ofv pB y
      omega)
    have back : K (K (B ++ C) ++ C.map neg) = B := cn_eq (K_cn _) hB.cn (fun q => by
      rw [ofv_K m5, cnt_append, cnt_str hP.rt.1, sum_ofv hB.rt.1 hC.rt.1 m1, cnt_neg (by omega), cnt_str hC.rt.1]; omega)
    rw [c2, if_neg (by decide), back] at h10
    let k := K1 + K2 + K3 + K4 + K5 + K6 + K7 + K8 + K9 + K10 + K11 + K12
    refine ⟨k, ?_⟩
    have h1 := h1 k (by omega); have h2 := h2 k (by omega); have h3 := h3 k (by omega); have h4 := h4 k (by omega); have h5 := h5 k (by omega); have h6 := h6 k (by omega); have h7 := h7 k (by omega); have h8 := h8 k (by omega); have h9 := h9 k (by omega); have h10 := h10 k (by omega); have h11 := h11 k (by omega); have h12 := h12 k (by omega)
    dsimp only at h1 h2 h3 h4 h5 h6 h7 h8 h9 h10 h11 h12
    rw [marchlandlaw04_BagBack.f]
    rw [c, if_neg (by decide)] at h7
    simp only [h1, h2, h3, h4, h5, h6, h7, h8, h9, h10, h11, Option.bind_some, if_true, Bool.not_true]
    exact h12
end Go.Proofs.Ytgeldmhgbnamcaa.Pure
end
