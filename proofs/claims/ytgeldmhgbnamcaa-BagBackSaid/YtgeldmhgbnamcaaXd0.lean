/- Walks and laws of several statements of this seat, joined into one text; no condition. -/
import Derived.Test.YtgeldmhgbnamcaaProg
import Derived.Below
import Derived.Deep.Draws
import Derived.Deep.AppendLies
import Derived.Maps.AppendAt
import Derived.OwnWalk
import Derived.Laws.BytesArg
import Derived.Laws.MakeOwn
import Derived.Laws.OwnMore
import Derived.Deep.OwnRows
import Derived.Tactics
import Derived.Lib.ConvBytes
import Derived.Laws.Slices
import Derived.WalkKit
import Derived.KernelRfl
import Derived.RowKit3
import Derived.Deep.LoopGhost
import Derived.Deep.QuietTactic
import Derived.BigQuiet
import Derived.WideLaws
import Derived.Deep.DeepCutAuto
import Derived.Deep.CutBlock
import Derived.Deep.RegionHeld3
import Derived.Laws.Rows
import Derived.Lib.AppendStr
import Derived.ArgAppend
import Derived.Laws.IdiomCopy
import Derived.OrdersHeld
import Derived.Laws.BitsLemmas
import Derived.RowKit
import Derived.Laws.StructEq
import Derived.Lib.BufferMore
import Derived.Deep.Slices
import Derived.SizedLaws
import Derived.OpenShut
import Derived.IntWalk
import Derived.Outline
import Derived.Test.YtgeldmhgbnamcaaXa0
import Derived.Test.YtgeldmhgbnamcaaXa1
import Derived.Test.YtgeldmhgbnamcaaXa2
import Derived.Test.YtgeldmhgbnamcaaXa5
import Derived.Test.YtgeldmhgbnamcaaXa6
import Derived.Test.YtgeldmhgbnamcaaXa7
section
-- Printed by the session's own turn of the print (wip/tools/print2.sh): some callees are proved by hand.
namespace Go.Proofs.Ytgeldmhgbnamcaa.P
open Go.RowKit Go.Proofs.YtgeldmhgbnamcaaW.PrintWords Go.Proofs.YtgeldmhgbnamcaaW.PrintLast Go.Proofs.YtgeldmhgbnamcaaW.PrintMore
attribute [local go_sem] max2_int min2_int max_two min_two max_three min_three max_four min_four   -- for this text's walks alone
set_option linter.unusedVariables false
set_option linter.unusedSimpArgs false
attribute [local go_sem high] eqA50
/-! ### batch_Change_56: function 56 -/
def batch_Change_56.l0 : Nat → List (S50) → List (S50) → Int → Int → Option (Bool)
 | 0, _, _, _, _ => none
 | k + 1, x0, x1, x12, x13 => if x13 < x12 then (if 0 ≤ x13 then (if x13 < (x0.length : Int) then (if x13 < (x1.length : Int) then (if (!(((rd_T50 x0 x13).f0) == ((rd_T50 x1 x13).f0)) || (!(((rd_T50 x0 x13).f1) == ((rd_T50 x1 x13).f1)) || (!(((rd_T50 x0 x13).f2) == ((rd_T50 x1 x13).f2))))) = true then (some false) else (batch_Change_56.l0 k x0 x1 x12 (wrap64 (x13 + 1)))) else (none)) else (none)) else (none)) else (some true)
def batch_Change_56.f (k : Nat) (l0 : List (S50)) (l1 : List (S50)) : Option (Bool) := if (l0.length : Int) = (l1.length : Int) then (batch_Change_56.l0 k l0 l1 (l0.length : Int) 0) else (some false)
set_option maxHeartbeats 8000000 in
set_option maxRecDepth 100000 in
theorem batch_Change_56.calls (k : Nat) (A0 : Option Addr) (c0 : Nat) (l0 : List (S50)) (A1 : Option Addr) (c1 : Nat) (l1 : List (S50)) (r : Bool) (w : World) (hr0 : Kd.C k50 w A0 l0.length l0) (hc0 : l0.length ≤ c0) (hr1 : Kd.C k50 w A1 l1.length l1) (hc1 : l1.length ≤ c1) (h : batch_Change_56.f k l0 l1 = some r) :
  Calls Try.prog 56 #[.slice A0 l0.length c0, .slice A1 l1.length c1] w fun e w' => e = .returned (.bool r) ∧ Drawn0 w w' := by
 have hu50 := Try.underlying50
 have HR0 := Aside0.mk hr0
 have HC0 := Aside0.mk hc0
 clear hr0 hc0
 have HR1 := Aside0.mk hr1
 have HC1 := Aside0.mk hc1
 clear hr1 hc1
 have H : (if (l0.length : Int) = (l1.length : Int) then (batch_Change_56.l0 k l0 l1 (l0.length : Int) 0) else (some false)) = some r := h
 clear h
 by_cases c3 : (l0.length : Int) = (l1.length : Int)
 ·rw [if_pos c3] at H
  have c3b0 : ((l0.length : Int) == (l1.length : Int)) = true := beq_iff_eq.mpr c3
  have c3b1 : ((l0.length : Int) != (l1.length : Int)) = false := bne_eq_false_iff_eq.mpr c3
  have c3b2 : (l0.length == l1.length) = true := by first | simpa using c3 | (simp at c3 ⊢; omega)
  clear c3
  have H' := Aside0.mk H
  clear H
  go_enter Try.func56, Try.ntmps56
  go_wp2
  repeat (go_quiet (fail); try go_wp2)
  go_loopg [13] k (fun kq v13 w' => ∃ (x13_1 : Int), v13 = .int .i64 x13_1 ∧ Aside0 (batch_Change_56.l0 kq l0 l1 (l0.length : Int) x13_1 = some r) ∧ Aside0 (kq ≤ k) ∧ Drawn0 w w')
  case atStart => exact ⟨(0), (by first | rfl | (simp; done) | (simp [*]; done)), H', ⟨Nat.le_refl _⟩, by repeat (first | exact Drawn0.refl _ | apply Drawn0.step)⟩
  case round =>
   clear H'
   (try clear c1); (try clear p2); (try clear c3); (try clear c3b0); (try clear c3b1); (try clear c3b2)
   obtain ⟨x13_1, rfl, HA, HK1, ⟨m1, rfl⟩⟩ := hrel
   cases gk with
   | zero => exact absurd HA.out (by simp [batch_Change_56.l0])
   | succ k1 =>
    have H := HA.out
    clear HA
    simp only [batch_Change_56.l0] at H
    by_cases c4 : x13_1 < (l0.length : Int)
    ·rw [if_pos c4] at H
     have c4b0 : decide (x13_1 < (l0.length : Int)) = true := decide_eq_true c4
     clear c4
     by_cases c5 : 0 ≤ x13_1
     ·rw [if_pos c5] at H
      have c5b0 : decide (0 ≤ x13_1) = true := decide_eq_true c5
      clear c5
      by_cases c6 : x13_1 < (l0.length : Int)
      ·rw [if_pos c6] at H
       have c6b0 : decide (x13_1 < (l0.length : Int)) = true := decide_eq_true c6
       clear c6
       by_cases c7 : x13_1 < (l1.length : Int)
       ·rw [if_pos c7] at H
        have c7b0 : decide (x13_1 < (l1.length : Int)) = true := decide_eq_true c7
        clear c7
        by_cases c8 : (!(((rd_T50 l0 x13_1).f0) == ((rd_T50 l1 x13_1).f0)) || (!(((rd_T50 l0 x13_1).f1) == ((rd_T50 l1 x13_1).f1)) || (!(((rd_T50 l0 x13_1).f2) == ((rd_T50 l1 x13_1).f2))))) = true
        ·rw [if_pos c8] at H
         have c8b0 : (!(((rd_T50 l0 x13_1).f0) == ((rd_T50 l1 x13_1).f0)) || (!(((rd_T50 l0 x13_1).f1) == ((rd_T50 l1 x13_1).f1)) || (!(((rd_T50 l0 x13_1).f2) == ((rd_T50 l1 x13_1).f2))))) = true := c8
         clear c8
         obtain rfl := Option.some.inj H
         have p309 : 0 ≤ (x13_1 : Int) := of_decide_eq_true (by assumption)
         have q309 : x13_1 < (l0.length : Int) := of_decide_eq_true (by assumption)
         obtain ⟨ad309, e309, hx309_0, hx309_1, hx309_2⟩ := at_T50 HR0.out x13_1 p309 q309
         cases e309
         replace p309 := eq_true p309
         replace q309 := eq_true q309
         have p310 : 0 ≤ (x13_1 : Int) := of_decide_eq_true (by assumption)
         have q310 : x13_1 < (l1.length : Int) := of_decide_eq_true (by assumption)
         obtain ⟨ad310, e310, hx310_0, hx310_1, hx310_2⟩ := at_T50 HR1.out x13_1 p310 q310
         cases e310
         replace p310 := eq_true p310
         replace q310 := eq_true q310
         go_wp2
         repeat (go_quiet (fail); try go_wp2)
         go_ret
         exact ⟨by first | rfl | (simp; done) | (simp [*]; done), by repeat (first | exact Drawn0.refl _ | apply Drawn0.step)⟩
        ·rw [if_neg c8] at H
         have c8b0 : (!(((rd_T50 l0 x13_1).f0) == ((rd_T50 l1 x13_1).f0)) || (!(((rd_T50 l0 x13_1).f1) == ((rd_T50 l1 x13_1).f1)) || (!(((rd_T50 l0 x13_1).f2) == ((rd_T50 l1 x13_1).f2))))) = false := by simpa using c8
         clear c8
         have H' := Aside0.mk H
         clear H
         have p309 : 0 ≤ (x13_1 : Int) := of_decide_eq_true (by assumption)
         have q309 : x13_1 < (l0.length : Int) := of_decide_eq_true (by assumption)
         obtain ⟨ad309, e309, hx309_0, hx309_1, hx309_2⟩ := at_T50 HR0.out x13_1 p309 q309
         cases e309
         replace p309 := eq_true p309
         replace q309 := eq_true q309
         have p310 : 0 ≤ (x13_1 : Int) := of_decide_eq_true (by assumption)
         have q310 : x13_1 < (l1.length : Int) := of_decide_eq_true (by assumption)
         obtain ⟨ad310, e310, hx310_0, hx310_1, hx310_2⟩ := at_T50 HR1.out x13_1 p310 q310
         cases e310
         replace p310 := eq_true p310
         replace q310 := eq_true q310
         go_wp2
         repeat (go_quiet (fail); try go_wp2)
         go_roundg k1
         case measure => have := HK1.out; omega
         case rel => exact ⟨(wrap64 (x13_1 + 1)), (by first | rfl | (simp; done) | (simp [*]; done)), H', ⟨by have := HK1.out; omega⟩, by repeat (first | exact Drawn0.refl _ | apply Drawn0.step)⟩
       ·rw [if_neg c7] at H
        exact absurd H (by simp)
      ·rw [if_neg c6] at H
       exact absurd H (by simp)
     ·rw [if_neg c5] at H
      exact absurd H (by simp)
    ·rw [if_neg c4] at H
     have c4b0 : decide (x13_1 < (l0.length : Int)) = false := decide_eq_false c4
     clear c4
     obtain rfl := Option.some.inj H
     go_wp2
     repeat (go_quiet (fail); try go_wp2)
     go_ret
     exact ⟨by first | rfl | (simp; done) | (simp [*]; done), by repeat (first | exact Drawn0.refl _ | apply Drawn0.step)⟩
 ·rw [if_neg c3] at H
  have c3b0 : ((l0.length : Int) == (l1.length : Int)) = false := beq_eq_false_iff_ne.mpr c3
  have c3b1 : ((l0.length : Int) != (l1.length : Int)) = true := bne_iff_ne.mpr c3
  have c3b2 : (l0.length == l1.length) = false := by first | simpa using c3 | (simp at c3 ⊢; omega)
  obtain rfl := Option.some.inj H
  go_enter Try.func56, Try.ntmps56
  go_wp2
  repeat (go_quiet (fail); try go_wp2)
  go_ret
  exact ⟨by first | rfl | (simp; done) | (simp [*]; done), by repeat (first | exact Drawn0.refl _ | apply Drawn0.step)⟩
end Go.Proofs.Ytgeldmhgbnamcaa.P
end
section
-- Printed by the session's own turn of the print (wip/tools/print2.sh): some callees are proved by hand.
namespace Go.Proofs.Ytgeldmhgbnamcaa.P
open Go.RowKit Go.Proofs.YtgeldmhgbnamcaaW.PrintWords Go.Proofs.YtgeldmhgbnamcaaW.PrintLast Go.Proofs.YtgeldmhgbnamcaaW.PrintMore
attribute [local go_sem] max2_int min2_int max_two min_two max_three min_three max_four min_four   -- for this text's walks alone
set_option linter.unusedVariables false
set_option linter.unusedSimpArgs false
/-! ### batch_Same: function 24 -/
def batch_Same.f (k : Nat) (l0 : List (S50)) (l1 : List (S50)) : Option (Bool) := (batch_Change_56.f k l0 l1).bind fun t311 => (some t311)
set_option maxHeartbeats 8000000 in
set_option maxRecDepth 100000 in
theorem batch_Same.calls (k : Nat) (A0 : Option Addr) (c0 : Nat) (l0 : List (S50)) (A1 : Option Addr) (c1 : Nat) (l1 : List (S50)) (r : Bool) (w : World) (hr0 : Kd.C k50 w A0 l0.length l0) (hc0 : l0.length ≤ c0) (hr1 : Kd.C k50 w A1 l1.length l1) (hc1 : l1.length ≤ c1) (h : batch_Same.f k l0 l1 = some r) :
  Calls Try.prog 24 #[.slice A0 l0.length c0, .slice A1 l1.length c1] w fun e w' => e = .returned (.bool r) ∧ Drawn0 w w' := by
 have HR0 := Aside0.mk hr0
 have HC0 := Aside0.mk hc0
 clear hr0 hc0
 have HR1 := Aside0.mk hr1
 have HC1 := Aside0.mk hc1
 clear hr1 hc1
 have H : ((batch_Change_56.f k l0 l1).bind fun t311 => (some t311)) = some r := h
 clear h
 replace H := Option.bind_eq_some_iff.mp H
 obtain ⟨t311, A30, H⟩ := H
 replace H : (some t311) = some r := H
 have A3 := Aside0.mk A30
 clear A30
 obtain rfl := Option.some.inj H
 go_enter Try.func24, Try.ntmps24
 go_wp2_with (first | ((with_reducible refine gate_callee (f := 56) rfl ?_); refine gl (some 7) Try.func56 #[.slice A0 l0.length c0, .slice A1 l1.length c1] ?_; (with_reducible refine (batch_Change_56.calls k _ _ l0 _ _ l1 t311 _ ?side1 ?side2 ?side3 ?side4 A3.out).mono ?_); (case side1 => exact cn HR0.out); (case side2 => exact HC0.out); (case side3 => exact cn HR1.out); (case side4 => exact HC1.out); rintro e w' ⟨rfl, ⟨nd, rfl⟩⟩; refine ⟨_, rfl, ?_⟩))
 go_ret
 exact ⟨by first | rfl | (simp; done) | (simp [*]; done), by repeat (first | exact Drawn0.refl _ | apply Drawn0.step)⟩
end Go.Proofs.Ytgeldmhgbnamcaa.P
end
section
-- Printed by the session's own turn of the print (wip/tools/print2.sh): some callees are proved by hand.
namespace Go.Proofs.Ytgeldmhgbnamcaa.P
open Go.RowKit Go.Proofs.YtgeldmhgbnamcaaW.PrintWords Go.Proofs.YtgeldmhgbnamcaaW.PrintLast Go.Proofs.YtgeldmhgbnamcaaW.PrintMore
attribute [local go_sem] max2_int min2_int max_two min_two max_three min_three max_four min_four   -- for this text's walks alone
set_option linter.unusedVariables false
set_option linter.unusedSimpArgs false
/-! ### batch_Minus: function 36 -/
def batch_Minus.l0 : Nat → List (S50) → Int → Int → Option ((List (S50)))
 | 0, _, _, _ => none
 | k + 1, x3, x8, x9 => if x9 < x8 then (if 0 ≤ x9 then (if x9 < (x3.length : Int) then (batch_Minus.l0 k (x3.set (x9 : Int).toNat (⟨(rd_T50 x3 x9).f0, (rd_T50 x3 x9).f1, wrap64 (-((rd_T50 x3 x9).f2))⟩ : S50)) x8 (wrap64 (x9 + 1))) else (none)) else (none)) else (some x3)
def batch_Minus.f (k : Nat) (l0 : List (S50)) : Option ((List (S50))) := (slices_CloneB.f l0).bind fun t489 => (batch_Minus.l0 k t489 (t489.length : Int) 0)
set_option maxHeartbeats 8000000 in
set_option maxRecDepth 100000 in
theorem batch_Minus.calls (k : Nat) (A0 : Option Addr) (c0 : Nat) (l0 : List (S50)) (r : List (S50)) (w : World) (hr0 : Kd.C k50 w A0 l0.length l0) (hc0 : l0.length ≤ c0) (h : batch_Minus.f k l0 = some r) :
  Calls Try.prog 36 #[.slice A0 l0.length c0] w fun e w' => ∃ v0_ : Value, e = .returned (v0_) ∧ Kd.R k50 50 w' w.heap.size (fun _ => True) v0_ r ∧ Below w.heap.size w w' := by
 have HR0 := Aside0.mk hr0
 have HC0 := Aside0.mk hc0
 clear hr0 hc0
 have HB := Aside0.mk (Below.refl w.heap.size w)
 have H : ((slices_CloneB.f l0).bind fun t489 => (batch_Minus.l0 k t489 (t489.length : Int) 0)) = some r := h
 clear h
 replace H := Option.bind_eq_some_iff.mp H
 obtain ⟨t489, A20, H⟩ := H
 replace H : (batch_Minus.l0 k t489 (t489.length : Int) 0) = some r := H
 have A2 := Aside0.mk A20
 clear A20
 have H' := Aside0.mk H
 clear H
 go_enter Try.func36, Try.ntmps36
 go_wp2_with (first | ((with_reducible refine gate_callee (f := 62) rfl ?_); refine gl (some 6) Try.func62 #[.slice A0 l0.length c0] ?_; (with_reducible refine (slices_CloneB.calls _ _ l0 t489 _ ?side1 ?side2 A2.out).mono ?_); (case side1 => exact cn HR0.out); (case side2 => exact HC0.out); rintro e w3 ⟨v490, rfl, ho0, hb⟩; refine ⟨_, rfl, ?_⟩; have n0_ := Aside0.mk (Kd.R_lower ho0 (below_size (bn HB))); have HO491 := n0_; replace HB := bb HB hb; clear n0_; (try clear hb); (try clear ho0); obtain ⟨Ao4, co4, eo4⟩ := Kd.R_slice HO491.out; subst eo4))
 go_loopg [9] k (fun kq v9 w' => ∃ (x3_1 : List (S50)) (x9_1 : Int), v9 = .int .i64 x9_1 ∧ Aside0 (batch_Minus.l0 kq x3_1 (t489.length : Int) x9_1 = some r) ∧ Aside0 (kq ≤ k) ∧ Aside0 (Kd.R k50 50 w' w.heap.size (fun _ => True) (.slice Ao4 t489.length co4) x3_1) ∧ Aside0 (Below w.heap.size w w'))
 case atStart => exact ⟨(t489), (0), (by first | rfl | (simp; done) | (simp [*]; done)), H', ⟨Nat.le_refl _⟩, ⟨by (with_reducible repeat (first | apply Kd.R_alloc | apply Kd.R_drewN | apply Kd.R_drew)); exact HO491.out⟩, ⟨by repeat (first | (with_reducible first | exact HB.out | apply below_alloc | apply pw_below_drewN | apply below_drew1) | exact HB.out)⟩⟩
 case round =>
  clear H'
  (try clear p2); (try clear c3)
  obtain ⟨x3_1, x9_1, rfl, HA, HK1, HO_3, HB⟩ := hrel
  have hl3_1 := (Kd.R_reads' HO_3.out).1
  rw [hl3_1] at HO_3
  (try simp only [hl3_1])
  cases gk with
  | zero => exact absurd HA.out (by simp [batch_Minus.l0])
  | succ k1 =>
   have H := HA.out
   clear HA
   simp only [batch_Minus.l0] at H
   by_cases c5 : x9_1 < (t489.length : Int)
   ·rw [if_pos c5] at H
    have c5b0 : decide (x9_1 < (t489.length : Int)) = true := decide_eq_true c5
    clear c5
    by_cases c6 : 0 ≤ x9_1
    ·rw [if_pos c6] at H
     have c6b0 : decide (0 ≤ x9_1) = true := decide_eq_true c6
     clear c6
     by_cases c7 : x9_1 < (x3_1.length : Int)
     ·rw [if_pos c7] at H
      have c7b0 : decide (x9_1 < (x3_1.length : Int)) = true := decide_eq_true c7
      clear c7
      obtain ⟨y493, hy493⟩ : ∃ y_ : List (S50), y_ = (x3_1.set (x9_1 : Int).toNat (⟨(rd_T50 x3_1 x9_1).f0, (rd_T50 x3_1 x9_1).f1, wrap64 (-((rd_T50 x3_1 x9_1).f2))⟩ : S50)) := ⟨_, rfl⟩
      replace H : (batch_Minus.l0 k1 y493 (t489.length : Int) (wrap64 (x9_1 + 1))) = some r := by first | (rw [hy493]; with_reducible exact H) | (have H2_ := (Option.bind_some _ _).symm.trans H; rw [hy493]; with_reducible exact H2_) | (have H2_ := (Option.bind_some _ _).symm.trans H; with_reducible exact H2_) | with_reducible exact H | (rw [hy493]; exact H) | exact H
      have Ny493 := Aside0.mk hy493
      clear hy493
      have H' := Aside0.mk H
      clear H
      have p492 : 0 ≤ (x9_1 : Int) := of_decide_eq_true (by assumption)
      have q492 : x9_1 < (x3_1.length : Int) := of_decide_eq_true (by assumption)
      obtain ⟨ad492, e492, hx492_0, hx492_1, hx492_2⟩ := at_T50 (Kd.R_reads' HO_3.out).2.2 x9_1 p492 q492
      cases e492
      replace p492 := eq_true p492
      replace q492 := eq_true q492
      have p8 : 0 ≤ (x9_1 : Int) := of_decide_eq_true (by assumption)
      have q8 : (x9_1 : Int) < ((x3_1.length : Int) : Int) := of_decide_eq_true (by assumption)
      obtain ⟨go8, co8, eo8, gb8, gl8, cl8, HG8⟩ := Kd.R_form HO_3.out (by omega)
      (first | cases eo8 | (injection eo8 with ea_ en_ ec_; (first | subst ea_ | (injection ea_ with ea_; subst ea_)); subst ec_; clear en_))
      have GB8 := Aside0.mk gb8
      have GG8 := Aside0.mk HG8
      clear gb8 gl8 HG8
      (first | simp only [add_plain] at hx492_0 | skip)
      (first | simp only [add_plain] at hx492_1 | skip)
      (first | simp only [add_plain] at hx492_2 | skip)
      obtain ⟨ce8, hcl8, hM8, hcc8, hfr8⟩ := Kd.R_elem HO_3.out z50 (x9_1 : Int) p8 q8
      obtain rfl := k50_openM hM8
      have hx8_0 : wr.cell? ⟨go8, (x9_1 : Int).toNat * 3, none⟩ = some (.int .i64 ((rd_T50 x3_1 x9_1).f0)) := hcc8 0 _ rfl
      have hx8_1 : wr.cell? ⟨go8, (x9_1 : Int).toNat * 3 + 1, none⟩ = some (.int .u64 ((rd_T50 x3_1 x9_1).f1)) := hcc8 1 _ rfl
      have hx8_2 : wr.cell? ⟨go8, (x9_1 : Int).toNat * 3 + 2, none⟩ = some (.int .i64 ((rd_T50 x3_1 x9_1).f2)) := hcc8 2 _ rfl
      have hf8_0 : wr.frozen? ⟨go8, (x9_1 : Int).toNat * 3, none⟩ = false := hfr8 0
      have hf8_1 : wr.frozen? ⟨go8, (x9_1 : Int).toNat * 3 + 1, none⟩ = false := hfr8 1
      have hf8_2 : wr.frozen? ⟨go8, (x9_1 : Int).toNat * 3 + 2, none⟩ = false := hfr8 2
      clear hcl8 hcc8 hfr8 hM8
      replace p8 := eq_true p8
      replace q8 := eq_true q8
      have HX9 := Aside0.mk (show Kd.R k50 50 wr w.heap.size (fun _ => True) (.slice (some ⟨go8, 0, none⟩) x3_1.length co4) x3_1 from (rn HO_3))
      obtain ⟨ce9, hcl9, hM9, hcc9, hfr9⟩ := Kd.R_elem HX9.out z50 (x9_1 : Int) (of_decide_eq_true (by assumption)) (by have h_ : (x9_1 : Int) < ((x3_1.length : Int) : Int) := of_decide_eq_true (by assumption); first | exact h_ | (have e_ := (Kd.R_reads' HO_3.out).1; omega) | simpa using h_)
      obtain rfl := k50_openM hM9
      have HP9 := Kd.R_seg HX9.out (x9_1 : Int) (of_decide_eq_true (by assumption)) (by have h_ : (x9_1 : Int) < ((x3_1.length : Int) : Int) := of_decide_eq_true (by assumption); first | exact h_ | (have e_ := (Kd.R_reads' HO_3.out).1; omega) | simpa using h_) (seg := [.int .i64 (wrap64 (-((rd_T50 x3_1 x9_1).f2)))]) (j := 2) hcl9 hcc9 (show 3 ≤ 3 from by decide) (x' := (⟨(rd_T50 x3_1 x9_1).f0, (rd_T50 x3_1 x9_1).f1, wrap64 (-((rd_T50 x3_1 x9_1).f2))⟩ : S50)) (k50_mkM _ _ _ (⟨(rd_T50 x3_1 x9_1).f0, (rd_T50 x3_1 x9_1).f1, wrap64 (-((rd_T50 x3_1 x9_1).f2))⟩ : S50) ) (fun _ hk => hk)
      have hx9_2 := hcc9 2 _ rfl
      (try simp only [show (k50).sz = 3 from rfl, Nat.mul_one, Nat.add_zero] at hx9_2)
      have hf9_2 := hfr9 2
      (try simp only [show (k50).sz = 3 from rfl, Nat.mul_one, Nat.add_zero] at hf9_2)
      clear hcl9 hcc9 hfr9 hM9
      go_wp2_with (first | ((with_reducible refine gate_store (t := 2) (p := 21) rfl ?_); refine store_event (t := 2) (p := 21) (v := ?vo_w10) (w1 := (wr.setCell ⟨go8, (x9_1 : Int).toNat * 3 + 2, none⟩ (.int .i64 (wrap64 (-((rd_T50 x3_1 x9_1).f2)))))) ?hg ?ho ?hn ?hr ?_; (case ho => rfl); (case hg => rfl); (case hn => rfl); (case hr => first | (go_simp; done) | (go_simp; rfl)); intro w10 hw; have hg : wr.grownBy w10 (some go8) := (by rw [hw]; exact HP9.2); have hp_ : Kd.R k50 50 w10 w.heap.size (fun _ => True) (.slice (some ⟨go8, 0, none⟩) x3_1.length co4) y493 := (by rw [hw, Ny493.out]; exact HP9.1); clear HP9; have n0_ := Aside0.mk (hp_); have n1_ := Aside0.mk ((by rw [hw]; exact below_set (HB.out) GB8.out : Below w.heap.size w w10)); clear HO_3; clear HB; have HO_3 := n0_; have HB := n1_; clear n0_ n1_; clear hg hw hp_))
      (try simp only [← hl3_1])
      go_roundg k1
      case measure => have := HK1.out; omega
      case rel => exact ⟨(y493), (wrap64 (x9_1 + 1)), (by first | rfl | (simp; done) | (simp [*]; done)), H', ⟨by have := HK1.out; omega⟩, ⟨by (try simp only [hl3_1]); (with_reducible repeat (first | apply Kd.R_alloc | apply Kd.R_drewN | apply Kd.R_drew)); exact HO_3.out⟩, ⟨by repeat (first | (with_reducible first | exact HB.out | apply below_alloc | apply pw_below_drewN | apply below_drew1) | exact HB.out)⟩⟩
     ·rw [if_neg c7] at H
      exact absurd H (by simp)
    ·rw [if_neg c6] at H
     exact absurd H (by simp)
   ·rw [if_neg c5] at H
    have c5b0 : decide (x9_1 < (t489.length : Int)) = false := decide_eq_false c5
    have c5b0_ : decide (x9_1 < (x3_1.length : Int)) = false := by rw [← hl3_1]; exact c5b0
    clear c5
    obtain rfl := Option.some.inj H
    go_wp2
    go_ret
    exact ⟨_, by first | rfl | (simp [errW_none, errW_some] <;> rfl) | (simp [*, errW_none, errW_some] <;> rfl), (by first | exact (rn HO_3) | (simp only [hl3_1]; exact (rn HO_3))), by repeat (first | (with_reducible first | exact HB.out | apply below_alloc | apply pw_below_drewN | apply below_drew1) | exact HB.out)⟩
end Go.Proofs.Ytgeldmhgbnamcaa.P
end
section
/- Plain laws of batches, fifth part: Of, Same, Fix. -/
namespace Go.Proofs.Ytgeldmhgbnamcaa.Pure
open Go.RowKit Go.Proofs.Ytgeldmhgbnamcaa.P Go.Proofs.YtgeldmhgbnamcaaW.PrintWords Go.Proofs.YtgeldmhgbnamcaaW.PrintLast
set_option linter.unusedVariables false
set_option linter.unusedSimpArgs false
theorem same_l0 (A B : List S50) (hl : A.length ≤ 8000000000000000000) (he : A.length = B.length) : ∀ (a b pre : List S50), A = pre ++ a → B = pre ++ b → a.length = b.length →
  Ev (fun k => batch_Change_56.l0 k A B (A.length : Int) (pre.length : Int)) (decide (A = B)) := by
 intro a
 induction a with
 | nil =>
  intro b pre e1 e2 e3
  obtain rfl : b = [] := List.eq_nil_of_length_eq_zero e3.symm
  refine ⟨1, fun k hk => ?_⟩
  obtain ⟨k, rfl⟩ : ∃ m, k = m + 1 := ⟨k - 1, by omega⟩
  show batch_Change_56.l0 (k + 1) _ _ _ _ = _
  rw [batch_Change_56.l0, if_neg (by subst e1; simp)]
  simp [e1, e2]
 | cons x a ih =>
  intro b pre e1 e2 e3
  cases b with
  | nil => simp at e3
  | cons y b =>
   have ll : A.length = pre.length + (a.length + 1) := by rw [e1]; simp
   have r1 : rd_T50 A (pre.length : Int) = x := by rw [e1]; exact rd5 _ _ _ rfl
   have r2 : rd_T50 B (pre.length : Int) = y := by rw [e2]; exact rd5 _ _ _ rfl
   by_cases hxy : x = y
   ·subst hxy
    obtain ⟨K1, h1⟩ := ih b (pre ++ [x]) (by simp [e1]) (by simp [e2]) (by simpa using e3)
    refine ⟨K1 + 1, fun k hk => ?_⟩
    obtain ⟨k, rfl⟩ : ∃ m, k = m + 1 := ⟨k - 1, by omega⟩
    have h1 := h1 k (by omega); dsimp only at h1
    have ew : wrap64 ((pre.length : Int) + 1) = ((pre ++ [x]).length : Int) := by rw [w64s (by omega)]; simp
    show batch_Change_56.l0 (k + 1) _ _ _ _ = _
    rw [batch_Change_56.l0, if_pos (by omega), if_pos (by omega), if_pos (by omega), if_pos (by omega), r1, r2, if_neg (by simp), ew]
    exact h1
   ·refine ⟨1, fun k hk => ?_⟩
    obtain ⟨k, rfl⟩ : ∃ m, k = m + 1 := ⟨k - 1, by omega⟩
    have hne : A ≠ B := by rw [e1, e2]; simp [hxy]
    show batch_Change_56.l0 (k + 1) _ _ _ _ = _
    rw [batch_Change_56.l0, if_pos (by omega), if_pos (by omega), if_pos (by omega), if_pos (by omega), r1, r2, if_pos]
    ·simp [hne]
    ·obtain ⟨a0, a1, a2⟩ := x
     obtain ⟨b0, b1, b2⟩ := y
     simp only [S50.mk.injEq, not_and] at hxy ⊢
     by_cases q0 : a0 = b0 <;> by_cases q1 : a1 = b1 <;> simp_all
theorem same_ev (A B : List S50) (hl : A.length ≤ 8000000000000000000) : Ev (fun k => batch_Same.f k A B) (decide (A = B)) := by
 have h : Ev (fun k => batch_Change_56.f k A B) (decide (A = B)) := by
  by_cases he : A.length = B.length
  ·refine Ev.congr (fun k => ?_) (same_l0 A B hl he A B [] rfl rfl he)
   show batch_Change_56.f k _ _ = _
   rw [batch_Change_56.f, if_pos (by omega)]; rfl
  ·refine ⟨0, fun k hk => ?_⟩
   show batch_Change_56.f k _ _ = _
   rw [batch_Change_56.f, if_neg (by omega)]
   have : A ≠ B := fun h => he (by rw [h])
   simp [this]
 exact Ev.bind h (Ev.now _)
theorem str_eq : ∀ {A B : List S50}, Str A → Str B → (∀ x ∈ A, x ∈ B) → (∀ x ∈ B, x ∈ A) → A = B := by
 intro A
 induction A with
 | nil => intro B _ _ _ h; cases B with
  | nil => rfl
  | cons b B => exact absurd (h b (by simp)) (by simp)
 | cons a A ih =>
  intro B hA hB h1 h2
  cases B with
  | nil => exact absurd (h1 a (by simp)) (by simp)
  | cons b B =>
   obtain ⟨a1, a2⟩ := List.pairwise_cons.1 hA
   obtain ⟨b1, b2⟩ := List.pairwise_cons.1 hB
   have e : a = b := by
    rcases List.mem_cons.1 (h1 a (by simp)) with e | e
    ·exact e
    ·rcases List.mem_cons.1 (h2 b (by simp)) with f | f
     ·exact f.symm
     ·exact absurd (kl_trans (b1 a e) (a1 b f)) kl_irrefl
   subst e
   rw [ih a2 b2 (fun x hx => ?_) (fun x hx => ?_)]
   ·rcases List.mem_cons.1 (h1 x (by simp [hx])) with e | e
    ·subst e; exact absurd (a1 x hx) kl_irrefl
    ·exact e
   ·rcases List.mem_cons.1 (h2 x (by simp [hx])) with e | e
    ·subst e; exact absurd (b1 x hx) kl_irrefl
    ·exact e
/-! ### Fix -/
end Go.Proofs.Ytgeldmhgbnamcaa.Pure
end
section
/- Plain laws of batches: how many there are of each key; what is small is told by that alone. -/
namespace Go.Proofs.Ytgeldmhgbnamcaa.Pure
open Go.RowKit Go.Proofs.Ytgeldmhgbnamcaa.P Go.Proofs.YtgeldmhgbnamcaaW.PrintWords Go.Proofs.YtgeldmhgbnamcaaW.PrintLast
set_option linter.unusedVariables false
set_option linter.unusedSimpArgs false
theorem cn_eq {A B : List S50} (hA : Cn A) (hB : Cn B) (h : ∀ q, ofv A q = ofv B q) : A = B := by
 have sub : ∀ {A B : List S50}, Cn A → Cn B → (∀ q, ofv A q = ofv B q) → ∀ x ∈ A, x ∈ B := by
  intro A B hA hB h x hx
  have e := ofv_self hA.1 hx
  rw [h x] at e
  have nz := hA.2 x hx
  obtain ⟨y, hy, ky, vy⟩ := ofv_mem (X := B) (q := x) (by omega)
  have : y = x := by
   obtain ⟨a, b, c⟩ := x
   obtain ⟨a', b', c'⟩ := y
   unfold ke at ky
   simp only at ky vy e
   obtain ⟨rfl, rfl⟩ := ky
   congr 1
   omega
  rw [← this]; exact hy
 exact str_eq hA.1 hB.1 (sub hA hB h) (sub hB hA (fun q => (h q).symm))
/-- the other way round -/
def neg (x : S50) : S50 := ⟨x.f0, x.f1, wrap64 (-x.f2)⟩
theorem neg_f2 {x : S50} (h : x.f2.natAbs ≤ 1000000000) : (neg x).f2 = -x.f2 := by show wrap64 (-x.f2) = _; unfold wrap64; omega
theorem mass_neg (l : List S50) : mass (l.map neg) ≤ mass l := by
 induction l with
 | nil => exact Nat.le_refl _
 | cons x l ih => have := wrap_abs (-x.f2); simp only [List.map_cons, mass, neg]; omega
theorem cnt_neg : ∀ {l : List S50}, mass l ≤ 1000000000 → ∀ q, cnt (l.map neg) q = - cnt l q := by
 intro l
 induction l with
 | nil => intro _ q; rfl
 | cons x l ih =>
  intro h q
  simp only [mass] at h
  have e := neg_f2 (x := x) (by omega)
  have k : ke (neg x) q ↔ ke x q := Iff.rfl
  simp only [List.map_cons, cnt, ih (show mass l ≤ 1000000000 by omega) q, e]
  by_cases c : ke x q
  ·rw [if_pos (k.2 c), if_pos c]; omega
  ·rw [if_neg (fun h => c (k.1 h)), if_neg c]; omega
/-! ### what is computed -/
theorem minus_l0 : ∀ (r pre : List S50), pre.length + r.length ≤ 8000000000000000000 → Ev (fun k => batch_Minus.l0 k (pre ++ r) ((pre.length + r.length : Nat) : Int) (pre.length : Int)) (pre ++ r.map neg) := by
 intro r
 induction r with
 | nil =>
  intro pre hl
  refine ⟨1, fun k hk => ?_⟩
  obtain ⟨k, rfl⟩ : ∃ m, k = m + 1 := ⟨k - 1, by omega⟩
  show batch_Minus.l0 (k + 1) _ _ _ = _
  rw [batch_Minus.l0, if_neg (by simp)]
  simp
 | cons x r ih =>
  intro pre hl
  simp only [List.length_cons] at hl
  obtain ⟨K1, h1⟩ := ih (pre ++ [neg x]) (by simp; omega)
  refine ⟨K1 + 1, fun k hk => ?_⟩
  obtain ⟨k, rfl⟩ : ∃ m, k = m + 1 := ⟨k - 1, by omega⟩
  have h1 := h1 k (by omega); dsimp only at h1
  have e1 : rd_T50 (pre ++ x :: r) (pre.length : Int) = x := rd5 _ _ _ rfl
  have ew : wrap64 ((pre.length : Int) + 1) = ((pre ++ [neg x]).length : Int) := by rw [w64s (by omega)]; simp
  have ll : ((pre ++ x :: r).length : Int) = ((pre.length + (r.length + 1) : Nat) : Int) := by simp
  show batch_Minus.l0 (k + 1) _ _ _ = _
  rw [batch_Minus.l0, if_pos (by simp; omega), if_pos (by omega), if_pos (by omega), e1, ew, set5 pre x r _ (by simp)]
  have e2 : pre ++ (⟨x.f0, x.f1, wrap64 (-x.f2)⟩ : S50) :: r = (pre ++ [neg x]) ++ r := by simp [neg]
  have e3 : ((pre.length + (x :: r).length : Nat) : Int) = (((pre ++ [neg x]).length + r.length : Nat) : Int) := by simp; omega
  rw [e2, e3, h1]; simp
theorem minus_ev (l : List S50) (hl : Short l.length) : Ev (fun k => batch_Minus.f k l) (l.map neg) := by
 unfold Short at hl
 obtain ⟨K1, h1⟩ := minus_l0 l [] (by simp; omega)
 refine ⟨K1, fun k hk => ?_⟩
 have h1 := h1 k hk; dsimp only at h1
 show batch_Minus.f k l = _
 rw [batch_Minus.f, slices_CloneB.f, if_pos (by omega), Option.bind_some]
 simpa using h1
end Go.Proofs.Ytgeldmhgbnamcaa.Pure
end
section
/- Plain laws of batches: what the laws' Fixes make is small; merges of what is small. -/
namespace Go.Proofs.Ytgeldmhgbnamcaa.Pure
open Go.RowKit Go.Proofs.Ytgeldmhgbnamcaa.P Go.Proofs.YtgeldmhgbnamcaaW.PrintWords Go.Proofs.YtgeldmhgbnamcaaW.PrintLast
set_option linter.unusedVariables false
set_option linter.unusedSimpArgs false
theorem mg_ev {A B : List S50} (hl : A.length + B.length ≤ 1000000) (hm : mass (A ++ B) ≤ 1000000000) : Ev (fun k => batch_Merge.f k A B) (K (A ++ B), 0) := by
 have := merge_ev (a := A) (b := B) (sorts_all _ (by simp only [List.length_append]; omega)) (by unfold Short; omega)
 rwa [sumv_K hm] at this
theorem K_assoc {A B C : List S50} (h : mass A + mass B + mass C ≤ 1000000000) : K (K (A ++ B) ++ C) = K (A ++ K (B ++ C)) := by
 have m1 := mass_K (A ++ B); have m2 := mass_K (B ++ C)
 rw [mass_append] at m1 m2
 refine cn_eq (K_cn _) (K_cn _) (fun q => ?_)
 rw [ofv_K (by rw [mass_append]; omega), ofv_K (by rw [mass_append]; omega), cnt_append, cnt_append, cnt_str (K_cn _).1, cnt_str (K_cn _).1, ofv_K (by rw [mass_append]; omega), ofv_K (by rw [mass_append]; omega), cnt_append, cnt_append]
 omega
theorem same_true (X : List S50) (hl : X.length ≤ 1000000) : Ev (fun k => batch_Same.f k X X) true := by have := same_ev X X (by omega); rwa [decide_eq_true rfl] at this
end Go.Proofs.Ytgeldmhgbnamcaa.Pure
end
