/- Walks and laws of several statements of this seat, joined into one text; no condition. -/
import Derived.Test.YtgeldmhgbnamcaaDoorProg
import Derived.Below
import Derived.Deep.Draws
import Derived.Deep.AppendLies
import Derived.Maps.AppendAt
import Derived.OwnWalk
import Derived.Laws.BytesArg
import Derived.Laws.MakeOwn
import Derived.Laws.OwnMore
import Derived.Deep.OwnRows
import Derived.Tactics
import Derived.Lib.ConvBytes
import Derived.Laws.Slices
import Derived.WalkKit
import Derived.KernelRfl
import Derived.RowKit3
import Derived.Deep.LoopGhost
import Derived.Deep.QuietTactic
import Derived.BigQuiet
import Derived.WideLaws
import Derived.Deep.DeepCutAuto
import Derived.Deep.CutBlock
import Derived.Deep.RegionHeld3
import Derived.Laws.Rows
import Derived.Lib.AppendStr
import Derived.ArgAppend
import Derived.Laws.IdiomCopy
import Derived.OrdersHeld
import Derived.Laws.BitsLemmas
import Derived.RowKit
import Derived.Laws.StructEq
import Derived.Laws.CopyOwn
import Derived.Deep.RegionLaw
import Derived.LoopTactic
import Derived.Outline
import Derived.IntWalk
import Derived.Test.YtgeldmhgbnamcaaDoorGXa0
import Derived.Test.YtgeldmhgbnamcaaDoorGXa1
import Derived.Test.YtgeldmhgbnamcaaDoorGXa2
import Derived.Test.YtgeldmhgbnamcaaDoorGXa4
import Derived.Test.YtgeldmhgbnamcaaDoorGXa5
import Derived.Test.YtgeldmhgbnamcaaDoorGXa7
import Derived.Test.YtgeldmhgbnamcaaDoorGXa3
import Derived.Test.YtgeldmhgbnamcaaDoorGXa6
section
namespace Go.Proofs.YtgeldmhgbnamcaaDoor.Q
open Go.RowKit Go.Proofs.YtgeldmhgbnamcaaDoorW.PrintWords Go.Proofs.YtgeldmhgbnamcaaDoorW.PrintLast Go.Proofs.YtgeldmhgbnamcaaDoorW.PrintMore
attribute [local go_sem] max2_int min2_int max_two min_two max_three min_three max_four min_four
set_option linter.unusedVariables false
set_option linter.unusedSimpArgs false
mutual
def marchlandlaw05_Rows.l0 : Nat → List (List Int) → List (List Int) → Int → Option (Bool)
  | 0, _, _, _ => none
  | k + 1, x0, x1, x5 => if x5 < (x0.length : Int) then (if 0 ≤ x5 then (if x5 < (x1.length : Int) then (if ((rd_L8 x0 x5).length : Int) = ((rd_L8 x1 x5).length : Int) then (marchlandlaw05_Rows.l1 k x0 x1 x5 0) else (some false)) else (none)) else (none)) else (some true)
def marchlandlaw05_Rows.l1 : Nat → List (List Int) → List (List Int) → Int → Int → Option (Bool)
  | 0, _, _, _, _ => none
  | k + 1, x0, x1, x5, x6 => if 0 ≤ x5 then (if x5 < (x0.length : Int) then (if x6 < ((rd_L8 x0 x5).length : Int) then (if 0 ≤ x6 then (if x5 < (x1.length : Int) then (if x6 < ((rd_L8 x1 x5).length : Int) then (if (rd (rd_L8 x0 x5) x6) = (rd (rd_L8 x1 x5) x6) then (marchlandlaw05_Rows.l1 k x0 x1 x5 (wrap64 (x6 + 1))) else (some false)) else (none)) else (none)) else (none)) else (marchlandlaw05_Rows.l0 k x0 x1 (wrap64 (x5 + 1)))) else (none)) else (none)
end
def marchlandlaw05_Rows.f (k : Nat) (l0 : List (List Int)) (l1 : List (List Int)) : Option (Bool) := if (l0.length : Int) = (l1.length : Int) then (marchlandlaw05_Rows.l0 k l0 l1 0) else (some false)
set_option maxHeartbeats 8000000 in
set_option maxRecDepth 100000 in
theorem marchlandlaw05_Rows.calls (k : Nat) (A0 : Option Addr) (c0 : Nat) (l0 : List (List Int)) (A1 : Option Addr) (c1 : Nat) (l1 : List (List Int)) (r : Bool) (w : World) (hr0 : Kd.C (Kd.slice 22 (Kd.int .u64)) w A0 l0.length l0) (hc0 : l0.length ≤ c0) (hr1 : Kd.C (Kd.slice 22 (Kd.int .u64)) w A1 l1.length l1) (hc1 : l1.length ≤ c1) (h : marchlandlaw05_Rows.f k l0 l1 = some r) :
    Calls Tryd.prog 38 #[.slice A0 l0.length c0, .slice A1 l1.length c1] w fun e w' => e = .returned (.bool r) ∧ Drawn0 w w' := by
  have HR0 := Aside0.mk hr0
  have HC0 := Aside0.mk hc0
  clear hr0 hc0
  have HR1 := Aside0.mk hr1
  have HC1 := Aside0.mk hc1
  clear hr1 hc1
  have H : (if (l0.length : Int) = (l1.length : Int) then (marchlandlaw05_Rows.l0 k l0 l1 0) else (some false)) = some r := h
  clear h
  by_cases c3 : (l0.length : Int) = (l1.length : Int)
  · rw [if_pos c3] at H
    have c3b0 : ((l0.length : Int) == (l1.length : Int)) = true := beq_iff_eq.mpr c3
    have c3b1 : ((l0.length : Int) != (l1.length : Int)) = false := bne_eq_false_iff_eq.mpr c3
    have c3b2 : (l0.length == l1.length) = true := by first | simpa using c3 | (simp at c3 ⊢; omega)
    clear c3
    have H' := Aside0.mk H
    clear H
    go_enter Tryd.func38, Tryd.ntmps38
    go_wp2
    repeat (go_quiet (fail); try go_wp2)
    go_loopg [5] k (fun kq v5 w' => ∃ (x5_1 : Int), v5 = .int .i64 x5_1 ∧ Aside0 (marchlandlaw05_Rows.l0 kq l0 l1 x5_1 = some r) ∧ Aside0 (kq ≤ k) ∧ Drawn0 w w')
    case atStart => exact ⟨(0), (by first | rfl | (simp; done) | (simp [*]; done)), H', ⟨Nat.le_refl _⟩, by repeat (first | exact Drawn0.refl _ | apply Drawn0.step)⟩
    case round =>
      clear H'
      try clear c1
      try clear p2
      try clear c3
      try clear c3b0
      try clear c3b1
      try clear c3b2
      obtain ⟨x5_1, rfl, HA, HK1, ⟨m1, rfl⟩⟩ := hrel
      cases gk with
      | zero => exact absurd HA.out (by simp [marchlandlaw05_Rows.l0])
      | succ k1 =>
        have H := HA.out
        clear HA
        simp only [marchlandlaw05_Rows.l0] at H
        by_cases c4 : x5_1 < (l0.length : Int)
        · rw [if_pos c4] at H
          have c4b0 : decide (x5_1 < (l0.length : Int)) = true := decide_eq_true c4
          clear c4
          by_cases c5 : 0 ≤ x5_1
          · rw [if_pos c5] at H
            have c5b0 : decide (0 ≤ x5_1) = true := decide_eq_true c5
            clear c5
            by_cases c6 : x5_1 < (l1.length : Int)
            · rw [if_pos c6] at H
              have c6b0 : decide (x5_1 < (l1.length : Int)) = true := decide_eq_true c6
              clear c6
              by_cases c7 : ((rd_L8 l0 x5_1).length : Int) = ((rd_L8 l1 x5_1).length : Int)
              · rw [if_pos c7] at H
                have c7b0 : (((rd_L8 l0 x5_1).length : Int) == ((rd_L8 l1 x5_1).length : Int)) = true := beq_iff_eq.mpr c7
                have c7b1 : (((rd_L8 l0 x5_1).length : Int) != ((rd_L8 l1 x5_1).length : Int)) = false := bne_eq_false_iff_eq.mpr c7
                have c7b2 : ((rd_L8 l0 x5_1).length == (rd_L8 l1 x5_1).length) = true := by first | simpa using c7 | (simp at c7 ⊢; omega)
                clear c7
                have H' := Aside0.mk H
                clear H
                have p321 : 0 ≤ (x5_1 : Int) := of_decide_eq_true (by first | (with_reducible assumption) | assumption)
                have q321 : x5_1 < (l0.length : Int) := of_decide_eq_true (by first | (with_reducible assumption) | assumption)
                obtain ⟨ad321, A321_0, c321_0, e321, hx321_0, hl321_0, hi321_0⟩ := at_L8 HR0.out x5_1 p321 q321
                cases e321
                have HR321_0 := Aside0.mk hi321_0
                have HC321_0 := Aside0.mk hl321_0
                clear hi321_0 hl321_0
                replace p321 := eq_true p321
                replace q321 := eq_true q321
                have p322 : 0 ≤ (x5_1 : Int) := of_decide_eq_true (by first | (with_reducible assumption) | assumption)
                have q322 : x5_1 < (l1.length : Int) := of_decide_eq_true (by first | (with_reducible assumption) | assumption)
                obtain ⟨ad322, A322_0, c322_0, e322, hx322_0, hl322_0, hi322_0⟩ := at_L8 HR1.out x5_1 p322 q322
                cases e322
                have HR322_0 := Aside0.mk hi322_0
                have HC322_0 := Aside0.mk hl322_0
                clear hi322_0 hl322_0
                replace p322 := eq_true p322
                replace q322 := eq_true q322
                go_wp2
                repeat (go_quiet (fail); try go_wp2)
                go_loopg [6] k1 (fun kq v6 w' => ∃ (x6_2 : Int), v6 = .int .i64 x6_2 ∧ Aside0 (marchlandlaw05_Rows.l1 kq l0 l1 x5_1 x6_2 = some r) ∧ Aside0 (kq ≤ k1) ∧ Drawn0 w w')
                case atStart => exact ⟨(0), (by first | rfl | (simp; done) | (simp [*]; done)), H', ⟨Nat.le_refl _⟩, by repeat (first | exact Drawn0.refl _ | apply Drawn0.step)⟩
                case round =>
                  clear H'
                  try clear c1
                  try clear p2
                  try clear c3
                  try clear c3b0
                  try clear c3b1
                  try clear c3b2
                  try clear p3
                  try clear q3
                  try clear hx3
                  try clear c4
                  try clear c4b0
                  try clear c5
                  try clear c5b0
                  try clear c6
                  try clear c6b0
                  try clear c7
                  try clear c7b0
                  try clear c7b1
                  try clear c7b2
                  try clear hx321_0
                  try clear hx322_0
                  try clear p2
                  try clear p321
                  try clear p322
                  try clear q321
                  try clear q322
                  obtain ⟨x6_2, rfl, HA, HK2, ⟨m2, rfl⟩⟩ := hrel
                  cases gk with
                  | zero => exact absurd HA.out (by simp [marchlandlaw05_Rows.l1])
                  | succ k2 =>
                    have H := HA.out
                    clear HA
                    simp only [marchlandlaw05_Rows.l1] at H
                    by_cases c8 : 0 ≤ x5_1
                    · rw [if_pos c8] at H
                      have c8b0 : decide (0 ≤ x5_1) = true := decide_eq_true c8
                      clear c8
                      by_cases c9 : x5_1 < (l0.length : Int)
                      · rw [if_pos c9] at H
                        have c9b0 : decide (x5_1 < (l0.length : Int)) = true := decide_eq_true c9
                        clear c9
                        by_cases c10 : x6_2 < ((rd_L8 l0 x5_1).length : Int)
                        · rw [if_pos c10] at H
                          have c10b0 : decide (x6_2 < ((rd_L8 l0 x5_1).length : Int)) = true := decide_eq_true c10
                          clear c10
                          by_cases c11 : 0 ≤ x6_2
                          · rw [if_pos c11] at H
                            have c11b0 : decide (0 ≤ x6_2) = true := decide_eq_true c11
                            clear c11
                            by_cases c12 : x5_1 < (l1.length : Int)
                            · rw [if_pos c12] at H
                              have c12b0 : decide (x5_1 < (l1.length : Int)) = true := decide_eq_true c12
                              clear c12
                              by_cases c13 : x6_2 < ((rd_L8 l1 x5_1).length : Int)
                              · rw [if_pos c13] at H
                                have c13b0 : decide (x6_2 < ((rd_L8 l1 x5_1).length : Int)) = true := decide_eq_true c13
                                clear c13
                                by_cases c14 : (rd (rd_L8 l0 x5_1) x6_2) = (rd (rd_L8 l1 x5_1) x6_2)
                                · rw [if_pos c14] at H
                                  have c14b0 : ((rd (rd_L8 l0 x5_1) x6_2) == (rd (rd_L8 l1 x5_1) x6_2)) = true := beq_iff_eq.mpr c14
                                  have c14b1 : ((rd (rd_L8 l0 x5_1) x6_2) != (rd (rd_L8 l1 x5_1) x6_2)) = false := bne_eq_false_iff_eq.mpr c14
                                  clear c14
                                  have H' := Aside0.mk H
                                  clear H
                                  have p323 : 0 ≤ (x5_1 : Int) := of_decide_eq_true (by first | (with_reducible assumption) | assumption)
                                  have q323 : x5_1 < (l0.length : Int) := of_decide_eq_true (by first | (with_reducible assumption) | assumption)
                                  obtain ⟨ad323, A323_0, c323_0, e323, hx323_0, hl323_0, hi323_0⟩ := at_L8 HR0.out x5_1 p323 q323
                                  obtain rfl : ad321 = ad323 := (by injection e323)
                                  have HR323_0 := Aside0.mk hi323_0
                                  have HC323_0 := Aside0.mk hl323_0
                                  clear hi323_0 hl323_0
                                  replace p323 := eq_true p323
                                  replace q323 := eq_true q323
                                  have p324 : 0 ≤ (x5_1 : Int) := of_decide_eq_true (by first | (with_reducible assumption) | assumption)
                                  have q324 : x5_1 < (l0.length : Int) := of_decide_eq_true (by first | (with_reducible assumption) | assumption)
                                  obtain ⟨ad324, A324_0, c324_0, e324, hx324_0, hl324_0, hi324_0⟩ := at_L8 HR0.out x5_1 p324 q324
                                  obtain rfl : ad321 = ad324 := (by injection e324)
                                  have HR324_0 := Aside0.mk hi324_0
                                  have HC324_0 := Aside0.mk hl324_0
                                  clear hi324_0 hl324_0
                                  replace p324 := eq_true p324
                                  replace q324 := eq_true q324
                                  have ea_ := Option.some.inj (hx323_0.symm.trans hx324_0)
                                  injection ea_ with ea_ en_ ec_
                                  subst ea_
                                  subst ec_
                                  clear en_
                                  have p325 : 0 ≤ (x6_2 : Int) := of_decide_eq_true (by first | (with_reducible assumption) | assumption)
                                  have q325 : x6_2 < ((rd_L8 l0 x5_1).length : Int) := of_decide_eq_true (by first | (with_reducible assumption) | assumption)
                                  obtain ⟨ad325, e325, hx325_0⟩ := Kd.at_int HR324_0.out x6_2 p325 q325
                                  cases e325
                                  replace p325 := eq_true p325
                                  replace q325 := eq_true q325
                                  have p326 : 0 ≤ (x5_1 : Int) := of_decide_eq_true (by first | (with_reducible assumption) | assumption)
                                  have q326 : x5_1 < (l1.length : Int) := of_decide_eq_true (by first | (with_reducible assumption) | assumption)
                                  obtain ⟨ad326, A326_0, c326_0, e326, hx326_0, hl326_0, hi326_0⟩ := at_L8 HR1.out x5_1 p326 q326
                                  obtain rfl : ad322 = ad326 := (by injection e326)
                                  have HR326_0 := Aside0.mk hi326_0
                                  have HC326_0 := Aside0.mk hl326_0
                                  clear hi326_0 hl326_0
                                  replace p326 := eq_true p326
                                  replace q326 := eq_true q326
                                  have p327 : 0 ≤ (x6_2 : Int) := of_decide_eq_true (by first | (with_reducible assumption) | assumption)
                                  have q327 : x6_2 < ((rd_L8 l1 x5_1).length : Int) := of_decide_eq_true (by first | (with_reducible assumption) | assumption)
                                  obtain ⟨ad327, e327, hx327_0⟩ := Kd.at_int HR326_0.out x6_2 p327 q327
                                  cases e327
                                  replace p327 := eq_true p327
                                  replace q327 := eq_true q327
                                  go_wp2
                                  repeat (go_quiet (fail); try go_wp2)
                                  go_roundg k2
                                  case measure => have := HK1.out; have := HK2.out; omega
                                  case rel => exact ⟨(wrap64 (x6_2 + 1)), (by first | rfl | (simp; done) | (simp [*]; done)), H', ⟨by have := HK1.out; have := HK2.out; omega⟩, by repeat (first | exact Drawn0.refl _ | apply Drawn0.step)⟩
                                · rw [if_neg c14] at H
                                  have c14b0 : ((rd (rd_L8 l0 x5_1) x6_2) == (rd (rd_L8 l1 x5_1) x6_2)) = false := beq_eq_false_iff_ne.mpr c14
                                  have c14b1 : ((rd (rd_L8 l0 x5_1) x6_2) != (rd (rd_L8 l1 x5_1) x6_2)) = true := bne_iff_ne.mpr c14
                                  obtain rfl := Option.some.inj H
                                  have p323 : 0 ≤ (x5_1 : Int) := of_decide_eq_true (by first | (with_reducible assumption) | assumption)
                                  have q323 : x5_1 < (l0.length : Int) := of_decide_eq_true (by first | (with_reducible assumption) | assumption)
                                  obtain ⟨ad323, A323_0, c323_0, e323, hx323_0, hl323_0, hi323_0⟩ := at_L8 HR0.out x5_1 p323 q323
                                  obtain rfl : ad321 = ad323 := (by injection e323)
                                  have HR323_0 := Aside0.mk hi323_0
                                  have HC323_0 := Aside0.mk hl323_0
                                  clear hi323_0 hl323_0
                                  replace p323 := eq_true p323
                                  replace q323 := eq_true q323
                                  have p324 : 0 ≤ (x5_1 : Int) := of_decide_eq_true (by first | (with_reducible assumption) | assumption)
                                  have q324 : x5_1 < (l0.length : Int) := of_decide_eq_true (by first | (with_reducible assumption) | assumption)
                                  obtain ⟨ad324, A324_0, c324_0, e324, hx324_0, hl324_0, hi324_0⟩ := at_L8 HR0.out x5_1 p324 q324
                                  obtain rfl : ad321 = ad324 := (by injection e324)
                                  have HR324_0 := Aside0.mk hi324_0
                                  have HC324_0 := Aside0.mk hl324_0
                                  clear hi324_0 hl324_0
                                  replace p324 := eq_true p324
                                  replace q324 := eq_true q324
                                  have ea_ := Option.some.inj (hx323_0.symm.trans hx324_0)
                                  injection ea_ with ea_ en_ ec_
                                  subst ea_
                                  subst ec_
                                  clear en_
                                  have p325 : 0 ≤ (x6_2 : Int) := of_decide_eq_true (by first | (with_reducible assumption) | assumption)
                                  have q325 : x6_2 < ((rd_L8 l0 x5_1).length : Int) := of_decide_eq_true (by first | (with_reducible assumption) | assumption)
                                  obtain ⟨ad325, e325, hx325_0⟩ := Kd.at_int HR324_0.out x6_2 p325 q325
                                  cases e325
                                  replace p325 := eq_true p325
                                  replace q325 := eq_true q325
                                  have p326 : 0 ≤ (x5_1 : Int) := of_decide_eq_true (by first | (with_reducible assumption) | assumption)
                                  have q326 : x5_1 < (l1.length : Int) := of_decide_eq_true (by first | (with_reducible assumption) | assumption)
                                  obtain ⟨ad326, A326_0, c326_0, e326, hx326_0, hl326_0, hi326_0⟩ := at_L8 HR1.out x5_1 p326 q326
                                  obtain rfl : ad322 = ad326 := (by injection e326)
                                  have HR326_0 := Aside0.mk hi326_0
                                  have HC326_0 := Aside0.mk hl326_0
                                  clear hi326_0 hl326_0
                                  replace p326 := eq_true p326
                                  replace q326 := eq_true q326
                                  have p327 : 0 ≤ (x6_2 : Int) := of_decide_eq_true (by first | (with_reducible assumption) | assumption)
                                  have q327 : x6_2 < ((rd_L8 l1 x5_1).length : Int) := of_decide_eq_true (by first | (with_reducible assumption) | assumption)
                                  obtain ⟨ad327, e327, hx327_0⟩ := Kd.at_int HR326_0.out x6_2 p327 q327
                                  cases e327
                                  replace p327 := eq_true p327
                                  replace q327 := eq_true q327
                                  go_wp2
                                  repeat (go_quiet (fail); try go_wp2)
                                  go_ret
                                  exact ⟨by first | rfl | (simp; done) | (simp [*]; done), by repeat (first | exact Drawn0.refl _ | apply Drawn0.step)⟩
                              · rw [if_neg c13] at H
                                exact absurd H (by simp)
                            · rw [if_neg c12] at H
                              exact absurd H (by simp)
                          · rw [if_neg c11] at H
                            exact absurd H (by simp)
                        · rw [if_neg c10] at H
                          have c10b0 : decide (x6_2 < ((rd_L8 l0 x5_1).length : Int)) = false := decide_eq_false c10
                          clear c10
                          have H' := Aside0.mk H
                          clear H
                          have p323 : 0 ≤ (x5_1 : Int) := of_decide_eq_true (by first | (with_reducible assumption) | assumption)
                          have q323 : x5_1 < (l0.length : Int) := of_decide_eq_true (by first | (with_reducible assumption) | assumption)
                          obtain ⟨ad323, A323_0, c323_0, e323, hx323_0, hl323_0, hi323_0⟩ := at_L8 HR0.out x5_1 p323 q323
                          obtain rfl : ad321 = ad323 := (by injection e323)
                          have HR323_0 := Aside0.mk hi323_0
                          have HC323_0 := Aside0.mk hl323_0
                          clear hi323_0 hl323_0
                          replace p323 := eq_true p323
                          replace q323 := eq_true q323
                          go_wp2
                          repeat (go_quiet (fail); try go_wp2)
                          go_roundg k2
                          case measure => have := HK1.out; have := HK2.out; omega
                          case rel => exact ⟨(wrap64 (x5_1 + 1)), (by first | rfl | (simp; done) | (simp [*]; done)), H', ⟨by have := HK1.out; have := HK2.out; omega⟩, by repeat (first | exact Drawn0.refl _ | apply Drawn0.step)⟩
                      · rw [if_neg c9] at H
                        exact absurd H (by simp)
                    · rw [if_neg c8] at H
                      exact absurd H (by simp)
              · rw [if_neg c7] at H
                have c7b0 : (((rd_L8 l0 x5_1).length : Int) == ((rd_L8 l1 x5_1).length : Int)) = false := beq_eq_false_iff_ne.mpr c7
                have c7b1 : (((rd_L8 l0 x5_1).length : Int) != ((rd_L8 l1 x5_1).length : Int)) = true := bne_iff_ne.mpr c7
                have c7b2 : ((rd_L8 l0 x5_1).length == (rd_L8 l1 x5_1).length) = false := by first | simpa using c7 | (simp at c7 ⊢; omega)
                obtain rfl := Option.some.inj H
                have p321 : 0 ≤ (x5_1 : Int) := of_decide_eq_true (by first | (with_reducible assumption) | assumption)
                have q321 : x5_1 < (l0.length : Int) := of_decide_eq_true (by first | (with_reducible assumption) | assumption)
                obtain ⟨ad321, A321_0, c321_0, e321, hx321_0, hl321_0, hi321_0⟩ := at_L8 HR0.out x5_1 p321 q321
                cases e321
                have HR321_0 := Aside0.mk hi321_0
                have HC321_0 := Aside0.mk hl321_0
                clear hi321_0 hl321_0
                replace p321 := eq_true p321
                replace q321 := eq_true q321
                have p322 : 0 ≤ (x5_1 : Int) := of_decide_eq_true (by first | (with_reducible assumption) | assumption)
                have q322 : x5_1 < (l1.length : Int) := of_decide_eq_true (by first | (with_reducible assumption) | assumption)
                obtain ⟨ad322, A322_0, c322_0, e322, hx322_0, hl322_0, hi322_0⟩ := at_L8 HR1.out x5_1 p322 q322
                cases e322
                have HR322_0 := Aside0.mk hi322_0
                have HC322_0 := Aside0.mk hl322_0
                clear hi322_0 hl322_0
                replace p322 := eq_true p322
                replace q322 := eq_true q322
                go_wp2
                repeat (go_quiet (fail); try go_wp2)
                go_ret
                exact ⟨by first | rfl | (simp; done) | (simp [*]; done), by repeat (first | exact Drawn0.refl _ | apply Drawn0.step)⟩
            · rw [if_neg c6] at H
              exact absurd H (by simp)
          · rw [if_neg c5] at H
            exact absurd H (by simp)
        · rw [if_neg c4] at H
          have c4b0 : decide (x5_1 < (l0.length : Int)) = false := decide_eq_false c4
          clear c4
          obtain rfl := Option.some.inj H
          go_wp2
          repeat (go_quiet (fail); try go_wp2)
          go_ret
          exact ⟨by first | rfl | (simp; done) | (simp [*]; done), by repeat (first | exact Drawn0.refl _ | apply Drawn0.step)⟩
  · rw [if_neg c3] at H
    have c3b0 : ((l0.length : Int) == (l1.length : Int)) = false := beq_eq_false_iff_ne.mpr c3
    have c3b1 : ((l0.length : Int) != (l1.length : Int)) = true := bne_iff_ne.mpr c3
    have c3b2 : (l0.length == l1.length) = false := by first | simpa using c3 | (simp at c3 ⊢; omega)
    obtain rfl := Option.some.inj H
    go_enter Tryd.func38, Tryd.ntmps38
    go_wp2
    repeat (go_quiet (fail); try go_wp2)
    go_ret
    exact ⟨by first | rfl | (simp; done) | (simp [*]; done), by repeat (first | exact Drawn0.refl _ | apply Drawn0.step)⟩
def marchlandref05_Paths.f (k : Nat) (a0_0 : Int) (l0_1 : List (S75)) (l0_2 : List Int) : Option ((List (List Int))) := (marchlandref05_Check.f k a0_0 l0_1 l0_2).bind fun bt329 => (if bt329.2 = 0 then ((marchlandref05_closed.f k a0_0 l0_1 l0_2).bind fun t333 => (some t333)) else (some ([] : List (List Int))))
set_option maxHeartbeats 8000000 in
set_option maxRecDepth 100000 in
theorem marchlandref05_Paths.calls (k : Nat) (a0_0 : Int) (A0_1 : Option Addr) (c0_1 : Nat) (l0_1 : List (S75)) (A0_2 : Option Addr) (c0_2 : Nat) (l0_2 : List Int) (r : List (List Int)) (w : World) (hr0_1 : Kd.C k75 w A0_1 l0_1.length l0_1) (hc0_1 : l0_1.length ≤ c0_1) (hr0_2 : Kd.C (Kd.int .i64) w A0_2 l0_2.length l0_2) (hc0_2 : l0_2.length ≤ c0_2) (h : marchlandref05_Paths.f k a0_0 l0_1 l0_2 = some r) :
    Calls Tryd.prog 40 #[.agg #[.int .i64 a0_0, .slice A0_1 l0_1.length c0_1, .slice A0_2 l0_2.length c0_2]] w fun e w' => ∃ v0_ : Value, e = .returned (v0_) ∧ Kd.S (Kd.slice 22 (Kd.int .u64)) 73 w' w.heap.size (fun _ => True) v0_ r ∧ Below w.heap.size w w' := by
  have hu59 := Tryd.underlying59
  have HR0_1 := Aside0.mk hr0_1
  have HC0_1 := Aside0.mk hc0_1
  clear hr0_1 hc0_1
  have HR0_2 := Aside0.mk hr0_2
  have HC0_2 := Aside0.mk hc0_2
  clear hr0_2 hc0_2
  have HB := Aside0.mk (Below.refl w.heap.size w)
  have H : ((marchlandref05_Check.f k a0_0 l0_1 l0_2).bind fun bt329 => (if bt329.2 = 0 then ((marchlandref05_closed.f k a0_0 l0_1 l0_2).bind fun t333 => (some t333)) else (some ([] : List (List Int))))) = some r := h
  clear h
  replace H := Option.bind_eq_some_iff.mp H
  obtain ⟨⟨t329, t332⟩, A20, H⟩ := H
  replace H : (if t332 = 0 then ((marchlandref05_closed.f k a0_0 l0_1 l0_2).bind fun t333 => (some t333)) else (some ([] : List (List Int)))) = some r := H
  have A2 := Aside0.mk A20
  clear A20
  by_cases c3 : t332 = 0
  · rw [if_pos c3] at H
    have c3b0 : (t332 == 0) = true := beq_iff_eq.mpr c3
    have c3b1 : (t332 != 0) = false := bne_eq_false_iff_eq.mpr c3
    clear c3
    replace H := Option.bind_eq_some_iff.mp H
    obtain ⟨t333, A40, H⟩ := H
    replace H : (some t333) = some r := H
    have A4 := Aside0.mk A40
    clear A40
    obtain rfl := Option.some.inj H
    go_enter Tryd.func40, Tryd.ntmps40
    go_wp2_with (first | ((with_reducible refine gate_dst (N := 1) rfl ?_); refine box_event ?hg (N := 1) ?hd (cs := #[.int .i64 a0_0, .slice A0_1 l0_1.length c0_1, .slice A0_2 l0_2.length c0_2]) (t := 59) ?hr ?_; (case hd => rfl); (case hg => rfl); (case hr => first | (go_simp; done) | (go_simp; rfl)); intro gb328 hg w5 hbox hb; have n0_ := Aside0.mk (below_step (by repeat (first | (with_reducible first | exact HB.out | apply below_alloc | apply pw_below_drewN | apply below_drew1) | exact HB.out)) hb); have n1_ := Aside0.mk (hbox); have n2_ := Aside0.mk ((by rw [hg]; exact (below_size (by repeat (first | (with_reducible first | exact HB.out | apply below_alloc | apply pw_below_drewN | apply below_drew1) | exact HB.out))) : w.heap.size ≤ gb328)); have n3_ := Aside0.mk ((by rw [hg]; exact (below_size (by repeat (first | (with_reducible first | exact HB.out | apply below_alloc | apply pw_below_drewN | apply below_drew1) | exact HB.out))) : w.heap.size ≤ gb328)); clear HB; have HB := n0_; have BK328 := n1_; have GW328 := n2_; have GE328 := n3_; clear n0_ n1_ n2_ n3_; clear hb hbox hg; have hcz6_0 : w5.cell? ⟨gb328, 0, none⟩ = some (.int .i64 a0_0) := (blk_cell BK328.out 0).trans rfl; have hcz6_1 : w5.cell? ⟨gb328, 1, none⟩ = some (.slice A0_1 l0_1.length c0_1) := (blk_cell BK328.out 1).trans rfl; have hcz6_2 : w5.cell? ⟨gb328, 2, none⟩ = some (.slice A0_2 l0_2.length c0_2) := (blk_cell BK328.out 2).trans rfl; have hfz6_0 := blk_frozen BK328.out 0; have hfz6_1 := blk_frozen BK328.out 1; have hfz6_2 := blk_frozen BK328.out 2) | ((with_reducible refine gate_callee (f := 36) rfl ?_); refine goesL_ (some 7) rfl rfl Tryd.func36 (by kernel_rfl) rfl #[.agg #[.int .i64 a0_0, .slice A0_1 l0_1.length c0_1, .slice A0_2 l0_2.length c0_2]] rfl (by (try simp only [List.map_toArray, List.map_cons, List.map_nil]); first | done | rfl | (simp only [List.length_drop, List.length_take]; rfl)) ?_; (with_reducible refine (marchlandref05_Check.calls k a0_0 _ _ l0_1 _ _ l0_2 t329 t332 _ ?side1 ?side2 ?side3 ?side4 A2.out).mono ?_); (case side1 => repeat (first | exact (Kd.C_below HR0_1.out HB.out) | (with_reducible refine Kd.C_alloc ?_ _) | (with_reducible refine Kd.C_drewN ?_ _) | (with_reducible refine Kd.C_drew ?_))); (case side2 => exact HC0_1.out); (case side3 => repeat (first | exact (Kd.C_below HR0_2.out HB.out) | (with_reducible refine Kd.C_alloc ?_ _) | (with_reducible refine Kd.C_drewN ?_ _) | (with_reducible refine Kd.C_drew ?_))); (case side4 => exact HC0_2.out); rintro e w7 ⟨v330, rfl, ho0, hb⟩; refine ⟨_, rfl, ?_⟩; have n0_ := Aside0.mk (Kd.R_lower ho0 (below_size (by repeat (first | (with_reducible first | exact HB.out | apply below_alloc | apply pw_below_drewN | apply below_drew1 | refine below_set ?_ GE328.out) | exact HB.out)))); have n1_ := Aside0.mk (blk_below (g := gb328) (o := .cells #[.int .i64 a0_0, .slice A0_1 l0_1.length c0_1, .slice A0_2 l0_2.length c0_2] 59 (0, 0)) (by (with_reducible repeat (first | refine blk_drewN ?_ _ | refine blk_drew ?_ | refine blk_alloc ?_ _)); exact BK328.out) hb); have n2_ := Aside0.mk (below_step (by repeat (first | (with_reducible first | exact HB.out | apply below_alloc | apply pw_below_drewN | apply below_drew1 | refine below_set ?_ GE328.out) | exact HB.out)) hb); clear BK328; clear HB; have HO331 := n0_; have BK328 := n1_; have HB := n2_; clear n0_ n1_ n2_; (try clear hb); (try clear hb2); (try clear hk); (try clear hi); (try clear ho0); have hcz8_0 : w7.cell? ⟨gb328, 0, none⟩ = some (.int .i64 a0_0) := (blk_cell BK328.out 0).trans rfl; have hcz8_1 : w7.cell? ⟨gb328, 1, none⟩ = some (.slice A0_1 l0_1.length c0_1) := (blk_cell BK328.out 1).trans rfl; have hcz8_2 : w7.cell? ⟨gb328, 2, none⟩ = some (.slice A0_2 l0_2.length c0_2) := (blk_cell BK328.out 2).trans rfl; have hfz8_0 := blk_frozen BK328.out 0; have hfz8_1 := blk_frozen BK328.out 1; have hfz8_2 := blk_frozen BK328.out 2) | ((with_reducible refine gate_callee (f := 71) rfl ?_); refine goesL_ (some 13) rfl rfl Tryd.func71 (by kernel_rfl) rfl #[.agg #[.int .i64 a0_0, .slice A0_1 l0_1.length c0_1, .slice A0_2 l0_2.length c0_2]] rfl (by (try simp only [List.map_toArray, List.map_cons, List.map_nil]); first | done | rfl | (simp only [List.length_drop, List.length_take]; rfl)) ?_; (with_reducible refine (marchlandref05_closed.calls k a0_0 _ _ l0_1 _ _ l0_2 t333 _ ?side1 ?side2 ?side3 ?side4 A4.out).mono ?_); (case side1 => repeat (first | exact (Kd.C_below HR0_1.out HB.out) | (with_reducible refine Kd.C_alloc ?_ _) | (with_reducible refine Kd.C_drewN ?_ _) | (with_reducible refine Kd.C_drew ?_))); (case side2 => exact HC0_1.out); (case side3 => repeat (first | exact (Kd.C_below HR0_2.out HB.out) | (with_reducible refine Kd.C_alloc ?_ _) | (with_reducible refine Kd.C_drewN ?_ _) | (with_reducible refine Kd.C_drew ?_))); (case side4 => exact HC0_2.out); rintro e w9 ⟨v334, rfl, ho0, hb⟩; refine ⟨_, rfl, ?_⟩; have n0_ := Aside0.mk (Kd.R_below (by (with_reducible repeat (first | apply Kd.R_alloc | apply Kd.R_drewN | apply Kd.R_drew)); exact HO331.out) hb); have n1_ := Aside0.mk (Kd.S_lower ho0 (below_size (by repeat (first | (with_reducible first | exact HB.out | apply below_alloc | apply pw_below_drewN | apply below_drew1 | refine below_set ?_ GE328.out) | exact HB.out)))); have n2_ := Aside0.mk (blk_below (g := gb328) (o := .cells #[.int .i64 a0_0, .slice A0_1 l0_1.length c0_1, .slice A0_2 l0_2.length c0_2] 59 (0, 0)) (by (with_reducible repeat (first | refine blk_drewN ?_ _ | refine blk_drew ?_ | refine blk_alloc ?_ _)); exact BK328.out) hb); have n3_ := Aside0.mk (below_step (by repeat (first | (with_reducible first | exact HB.out | apply below_alloc | apply pw_below_drewN | apply below_drew1 | refine below_set ?_ GE328.out) | exact HB.out)) hb); clear HO331; clear BK328; clear HB; have HO331 := n0_; have HO335 := n1_; have BK328 := n2_; have HB := n3_; clear n0_ n1_ n2_ n3_; (try clear hb); (try clear hb2); (try clear hk); (try clear hi); (try clear ho0)))
    go_ret
    exact ⟨_, by first | rfl | (simp [errW_none, errW_some] <;> rfl) | (simp [*, errW_none, errW_some] <;> rfl), by (with_reducible repeat (first | apply Kd.S_alloc | apply Kd.S_drewN | apply Kd.S_drew)); exact HO335.out, by repeat (first | (with_reducible first | exact HB.out | apply below_alloc | apply pw_below_drewN | apply below_drew1 | refine below_set ?_ GE328.out) | exact HB.out)⟩
  · rw [if_neg c3] at H
    have c3b0 : (t332 == 0) = false := beq_eq_false_iff_ne.mpr c3
    have c3b1 : (t332 != 0) = true := bne_iff_ne.mpr c3
    obtain rfl := Option.some.inj H
    go_enter Tryd.func40, Tryd.ntmps40
    go_wp2_with (first | ((with_reducible refine gate_dst (N := 1) rfl ?_); refine box_event ?hg (N := 1) ?hd (cs := #[.int .i64 a0_0, .slice A0_1 l0_1.length c0_1, .slice A0_2 l0_2.length c0_2]) (t := 59) ?hr ?_; (case hd => rfl); (case hg => rfl); (case hr => first | (go_simp; done) | (go_simp; rfl)); intro gb328 hg w10 hbox hb; have n0_ := Aside0.mk (below_step (by repeat (first | (with_reducible first | exact HB.out | apply below_alloc | apply pw_below_drewN | apply below_drew1) | exact HB.out)) hb); have n1_ := Aside0.mk (hbox); have n2_ := Aside0.mk ((by rw [hg]; exact (below_size (by repeat (first | (with_reducible first | exact HB.out | apply below_alloc | apply pw_below_drewN | apply below_drew1) | exact HB.out))) : w.heap.size ≤ gb328)); have n3_ := Aside0.mk ((by rw [hg]; exact (below_size (by repeat (first | (with_reducible first | exact HB.out | apply below_alloc | apply pw_below_drewN | apply below_drew1) | exact HB.out))) : w.heap.size ≤ gb328)); clear HB; have HB := n0_; have BK328 := n1_; have GW328 := n2_; have GE328 := n3_; clear n0_ n1_ n2_ n3_; clear hb hbox hg; have hcz11_0 : w10.cell? ⟨gb328, 0, none⟩ = some (.int .i64 a0_0) := (blk_cell BK328.out 0).trans rfl; have hcz11_1 : w10.cell? ⟨gb328, 1, none⟩ = some (.slice A0_1 l0_1.length c0_1) := (blk_cell BK328.out 1).trans rfl; have hcz11_2 : w10.cell? ⟨gb328, 2, none⟩ = some (.slice A0_2 l0_2.length c0_2) := (blk_cell BK328.out 2).trans rfl; have hfz11_0 := blk_frozen BK328.out 0; have hfz11_1 := blk_frozen BK328.out 1; have hfz11_2 := blk_frozen BK328.out 2) | ((with_reducible refine gate_callee (f := 36) rfl ?_); refine goesL_ (some 7) rfl rfl Tryd.func36 (by kernel_rfl) rfl #[.agg #[.int .i64 a0_0, .slice A0_1 l0_1.length c0_1, .slice A0_2 l0_2.length c0_2]] rfl (by (try simp only [List.map_toArray, List.map_cons, List.map_nil]); first | done | rfl | (simp only [List.length_drop, List.length_take]; rfl)) ?_; (with_reducible refine (marchlandref05_Check.calls k a0_0 _ _ l0_1 _ _ l0_2 t329 t332 _ ?side1 ?side2 ?side3 ?side4 A2.out).mono ?_); (case side1 => repeat (first | exact (Kd.C_below HR0_1.out HB.out) | (with_reducible refine Kd.C_alloc ?_ _) | (with_reducible refine Kd.C_drewN ?_ _) | (with_reducible refine Kd.C_drew ?_))); (case side2 => exact HC0_1.out); (case side3 => repeat (first | exact (Kd.C_below HR0_2.out HB.out) | (with_reducible refine Kd.C_alloc ?_ _) | (with_reducible refine Kd.C_drewN ?_ _) | (with_reducible refine Kd.C_drew ?_))); (case side4 => exact HC0_2.out); rintro e w12 ⟨v330, rfl, ho0, hb⟩; refine ⟨_, rfl, ?_⟩; have n0_ := Aside0.mk (Kd.R_lower ho0 (below_size (by repeat (first | (with_reducible first | exact HB.out | apply below_alloc | apply pw_below_drewN | apply below_drew1 | refine below_set ?_ GE328.out) | exact HB.out)))); have n1_ := Aside0.mk (blk_below (g := gb328) (o := .cells #[.int .i64 a0_0, .slice A0_1 l0_1.length c0_1, .slice A0_2 l0_2.length c0_2] 59 (0, 0)) (by (with_reducible repeat (first | refine blk_drewN ?_ _ | refine blk_drew ?_ | refine blk_alloc ?_ _)); exact BK328.out) hb); have n2_ := Aside0.mk (below_step (by repeat (first | (with_reducible first | exact HB.out | apply below_alloc | apply pw_below_drewN | apply below_drew1 | refine below_set ?_ GE328.out) | exact HB.out)) hb); clear BK328; clear HB; have HO331 := n0_; have BK328 := n1_; have HB := n2_; clear n0_ n1_ n2_; (try clear hb); (try clear hb2); (try clear hk); (try clear hi); (try clear ho0)))
    go_ret
    exact ⟨_, by first | rfl | (simp [errW_none, errW_some] <;> rfl) | (simp [*, errW_none, errW_some] <;> rfl), by first | exact Kd.S_nil _ _ _ _ _ | exact Kd.N_nil _ _ _ _ _ | exact Kd.V_nil _ _ _ _ _ | exact Kd.Q_nil _ _ _ _ _ | exact Kd.R_nil _ _ _ _ _, by repeat (first | (with_reducible first | exact HB.out | apply below_alloc | apply pw_below_drewN | apply below_drew1 | refine below_set ?_ GE328.out) | exact HB.out)⟩
end Go.Proofs.YtgeldmhgbnamcaaDoor.Q
end
section
namespace Go.Proofs.YtgeldmhgbnamcaaDoor.PureQ
open Go.RowKit Go.Proofs.YtgeldmhgbnamcaaDoor.Q Go.Proofs.YtgeldmhgbnamcaaDoorW.PrintWords Go.Proofs.YtgeldmhgbnamcaaDoorW.PrintLast Go.Proofs.YtgeldmhgbnamcaaDoorW.PrintMore
open Go.Proofs.YtgeldmhgbnamcaaDoor.Pure.FW
set_option linter.unusedVariables false
set_option linter.unusedSimpArgs false
theorem Ev.s {α : Type} {F G : Nat → Option α} {r : α} (h : ∀ k, F (k + 1) = G k) (g : Ev G r) : Ev F r := by
 obtain ⟨K, g⟩ := g
 refine ⟨K + 1, fun k hk => ?_⟩
 obtain ⟨k, rfl⟩ : ∃ m, k = m + 1 := ⟨k - 1, by omega⟩
 rw [h]; exact g k (by omega)
theorem Ev.o {α : Type} {F : Nat → Option α} {r : α} (h : ∀ k, F (k + 1) = some r) : Ev F r := by
 refine ⟨1, fun k hk => ?_⟩
 obtain ⟨k, rfl⟩ : ∃ m, k = m + 1 := ⟨k - 1, by omega⟩
 exact h k
theorem Ev.o2 {α : Type} {F : Nat → Option α} {r : α} (h : ∀ k, F (k + 2) = some r) : Ev F r := by
 refine ⟨2, fun k hk => ?_⟩
 obtain ⟨k, rfl⟩ : ∃ m, k = m + 2 := ⟨k - 2, by omega⟩
 exact h k
theorem Ev.s2 {α : Type} {F G : Nat → Option α} {r : α} (h : ∀ k, F (k + 2) = G k) (g : Ev G r) : Ev F r := by
 obtain ⟨K, g⟩ := g
 refine ⟨K + 2, fun k hk => ?_⟩
 obtain ⟨k, rfl⟩ : ∃ m, k = m + 2 := ⟨k - 2, by omega⟩
 rw [h]; exact g k (by omega)
def edS : ByteArray := ⟨#[101, 100, 103, 101]⟩
def frS : ByteArray := ⟨#[102, 114, 111, 109]⟩
def tS : ByteArray := ⟨#[116, 111]⟩
def inS : ByteArray := ⟨#[105, 110, 112, 117, 116]⟩
def poS : ByteArray := ⟨#[112, 111, 114, 116]⟩
def badE (a0 : Int) : Nat → List S75 → Option (List S42)
 | _, [] => none
 | i, e :: r => if e.f0 < 0 ∨ a0 ≤ e.f0 then some [⟨edS, (i : Int)⟩, ⟨frS, e.f0⟩] else if e.f1 < 0 ∨ a0 ≤ e.f1 then some [⟨edS, (i : Int)⟩, ⟨tS, e.f1⟩] else badE a0 (i + 1) r
def badI (a0 : Int) : List Int → List Int → Option (List S42 × Int)
 | _, [] => none
 | pre, p :: r => if p < 0 ∨ a0 ≤ p then some ([⟨inS, (pre.length : Int)⟩], 2) else if p ∈ pre then some ([⟨inS, (pre.length : Int)⟩], 1) else badI a0 (pre ++ [p]) r
def Zb (M : Mat) (p : Nat) (e : S75) : Bool := decide (e.f0 = (p : Int) ∧ e.f2 = 0 ∧ M e.f1.toNat p = 0)
def cycD (M : Mat) (E : List S75) : Nat → Nat → Option Nat
 | 0, _ => none
 | d + 1, p => if E.any (Zb M p) = true then some p else cycD M E d (p + 1)
def wE (a0 : Int) (E : List S75) : Mat := wk (E.map ed9) a0.toNat
def chk4 : Option Nat → List S42 × Int
 | some q => ([⟨poS, (q : Int)⟩], 3)
 | none => ([], 0)
def chk3 (a0 : Int) (E : List S75) : List S42 × Int := chk4 (cycD (wE a0 E) E a0.toNat 0)
def chk2 (a0 : Int) (E : List S75) (I : List Int) : List S42 × Int := (badI a0 [] I).getD (chk3 a0 E)
def chk1 (a0 : Int) (E : List S75) (I : List Int) : List S42 × Int := if 8 < I.length ∨ I.length < 1 then ([], 4) else chk2 a0 E I
def chk0 (a0 : Int) (E : List S75) (I : List Int) : List S42 × Int := ((badE a0 0 E).map fun L => (L, (2 : Int))).getD (chk1 a0 E I)
def chk (a0 : Int) (E : List S75) (I : List Int) : List S42 × Int := if a0 < 1 ∨ 64 < a0 then ([], 2) else if 256 < E.length then ([], 4) else chk0 a0 E I
theorem badE_none {a0 : Int} : ∀ {i : Nat} {r : List S75}, badE a0 i r = none → ∀ e ∈ r, 0 ≤ e.f0 ∧ e.f0 < a0 ∧ 0 ≤ e.f1 ∧ e.f1 < a0
 | _, [], _, e, he => by cases he
 | i, x :: r, h, e, he => by
  rw [badE] at h
  split at h
  ·cases h
  ·split at h
   ·cases h
   ·rcases List.mem_cons.1 he with rfl | he
    ·omega
    ·exact badE_none h e he
theorem badI_code {a0 : Int} : ∀ {pre r : List Int} {x : List S42 × Int}, badI a0 pre r = some x → x.2 = 1 ∨ x.2 = 2
 | _, [], _, h => by cases h
 | pre, p :: r, x, h => by
  rw [badI] at h
  split at h
  ·obtain rfl := Option.some.inj h; exact Or.inr rfl
  ·split at h
   ·obtain rfl := Option.some.inj h; exact Or.inl rfl
   ·exact badI_code h
section
variable {a0 : Int} {n : Nat} {E : List S75} {I : List Int}
theorem rchk_l4 {M : Mat} (hn : n ≤ 1000) (hE : WE9 n E) (hl : E.length ≤ 1000) {p : Nat} (hp : p < n) (R : List S42 × Int) (h : Ev (fun k => marchlandref05_Check.l3 k (mat n M) ((p + 1 : Nat) : Int) (n : Int) E I) R) :
  ∀ (rest pre : List S75), E = pre ++ rest → Ev (fun k => marchlandref05_Check.l4 k (mat n M) (p : Int) (pre.length : Int) (n : Int) E I) (if rest.any (Zb M p) = true then ([⟨poS, (p : Int)⟩], 3) else R)
 | [], pre, hh => by
  rw [List.append_nil] at hh
  subst hh
  rw [if_neg (by simp)]
  refine Ev.s (fun k => ?_) h
  show marchlandref05_Check.l4 (k + 1) _ _ _ _ _ _ = _
  rw [marchlandref05_Check.l4, if_neg (by omega), w64 (by omega)]
 | x :: rest, pre, hh => by
  have ih := rchk_l4 hn hE hl hp R h rest (pre ++ [x]) (by rw [hh]; simp)
  rw [List.length_append, List.length_singleton] at ih
  have hlen : pre.length + 1 ≤ E.length := by rw [hh, List.length_append, List.length_cons]; omega
  have hr : rd_T75 E (pre.length : Int) = x := by rw [hh]; exact rd90 pre x rest rfl
  obtain ⟨x0, x1, x2, x3, x4⟩ := hE x (by rw [hh]; simp)
  have f1 : x.f1 = ((x.f1.toNat : Nat) : Int) := by omega
  have r1 : rd_L8 (mat n M) x.f1 = Ls n (M x.f1.toNat) := by rw [f1]; exact mat_row n M (by omega)
  rw [List.any_cons]
  by_cases c : Zb M p x = true
  ·obtain ⟨c0, c1, c2⟩ := of_decide_eq_true c
   rw [c, Bool.true_or, if_pos rfl]
   refine Ev.o (fun k => ?_)
   show marchlandref05_Check.l4 (k + 1) _ _ _ _ _ _ = _
   rw [marchlandref05_Check.l4, if_pos (by omega), if_pos (by omega), hr, if_pos c0, if_pos c1, if_pos x2, mat_len, if_pos x3, if_pos (by omega), r1, ls_len, if_pos (by omega), ls_rd n _ hp, if_pos c2]
   rfl
  ·rw [Bool.not_eq_true] at c
   rw [c, Bool.false_or]
   have cn := of_decide_eq_false c
   refine Ev.s (fun k => ?_) ih
   show marchlandref05_Check.l4 (k + 1) _ _ _ _ _ _ = _
   rw [marchlandref05_Check.l4, if_pos (by omega), if_pos (by omega), hr, w64 (by omega)]
   by_cases c0 : x.f0 = (p : Int)
   ·rw [if_pos c0]
    by_cases c1 : x.f2 = 0
    ·rw [if_pos c1, if_pos x2, mat_len, if_pos x3, if_pos (by omega), r1, ls_len, if_pos (by omega), ls_rd n _ hp, if_neg (fun q => cn ⟨c0, c1, q⟩)]
    ·rw [if_neg c1]
   ·rw [if_neg c0]
theorem rchk_l3 {M : Mat} (hn : n ≤ 1000) (hE : WE9 n E) (hl : E.length ≤ 1000) : ∀ d p : Nat, p + d = n → Ev (fun k => marchlandref05_Check.l3 k (mat n M) (p : Int) (n : Int) E I) (chk4 (cycD M E d p))
 | 0, p, hp => by
  refine Ev.o (fun k => ?_)
  show marchlandref05_Check.l3 (k + 1) _ _ _ _ _ = _
  rw [marchlandref05_Check.l3, if_neg (by omega)]
  rfl
 | d + 1, p, hp => by
  have h4 := rchk_l4 hn hE hl (show p < n by omega) _ (rchk_l3 (M := M) hn hE hl d (p + 1) (by omega)) E [] rfl
  have e : chk4 (cycD M E (d + 1) p) = (if E.any (Zb M p) = true then ([⟨poS, (p : Int)⟩], 3) else chk4 (cycD M E d (p + 1))) := by
   rw [cycD]
   split <;> rfl
  rw [e]
  refine Ev.s (fun k => ?_) h4
  show marchlandref05_Check.l3 (k + 1) _ _ _ _ _ = _
  rw [marchlandref05_Check.l3, if_pos (by omega)]
  rfl
theorem rd_pre (p : List Int) (x : Int) (q : List Int) {i : Int} (h : i = p.length) : rd (p ++ x :: q) i = x := by subst h; simp [rd]
theorem rchk_l2 (hl : I.length ≤ 1000) {p : Int} {pre rest : List Int} (hI : I = pre ++ p :: rest) (R : List S42 × Int) (h : p ∉ pre → Ev (fun k => marchlandref05_Check.l1 k ((pre.length + 1 : Nat) : Int) a0 E I) R) :
  ∀ (r q : List Int), pre = q ++ r → p ∉ q → Ev (fun k => marchlandref05_Check.l2 k (pre.length : Int) (q.length : Int) a0 E I) (if p ∈ r then ([⟨inS, (pre.length : Int)⟩], 1) else R)
 | [], q, hq, hn => by
  rw [List.append_nil] at hq
  subst hq
  have hlen : pre.length + 1 ≤ I.length := by rw [hI, List.length_append, List.length_cons]; omega
  rw [if_neg (by simp)]
  refine Ev.s (fun k => ?_) (h hn)
  show marchlandref05_Check.l2 (k + 1) _ _ _ _ _ = _
  rw [marchlandref05_Check.l2, if_neg (by omega), w64 (by omega)]
 | x :: r, q, hq, hn => by
  have hlen : pre.length + 1 ≤ I.length := by rw [hI, List.length_append, List.length_cons]; omega
  have hlq : q.length + 1 ≤ pre.length := by rw [hq, List.length_append, List.length_cons]; omega
  have g1 : rd I (pre.length : Int) = p := by rw [hI]; exact rd_pre pre p rest rfl
  have g2 : rd I (q.length : Int) = x := by rw [hI, hq, List.append_assoc, List.cons_append]; exact rd_pre q x _ rfl
  by_cases c : x = p
  ·rw [if_pos (by rw [c]; simp)]
   refine Ev.o (fun k => ?_)
   show marchlandref05_Check.l2 (k + 1) _ _ _ _ _ = _
   rw [marchlandref05_Check.l2, if_pos (by omega), if_pos (by omega), if_pos (by omega), if_pos (by omega), if_pos (by omega), g1, g2, if_pos c]
   rfl
  ·have ih := rchk_l2 hl hI R h r (q ++ [x]) (by rw [hq]; simp) (by simp only [List.mem_append, List.mem_singleton]; rintro (z | z); exact hn z; exact c z.symm)
   rw [List.length_append, List.length_singleton] at ih
   have e : (if p ∈ x :: r then (([⟨inS, (pre.length : Int)⟩], 1) : List S42 × Int) else R) = (if p ∈ r then ([⟨inS, (pre.length : Int)⟩], 1) else R) := by
    by_cases z : p ∈ r
    ·rw [if_pos z, if_pos (List.mem_cons_of_mem _ z)]
    ·rw [if_neg z, if_neg (by rw [List.mem_cons]; rintro (y | y); exact c y.symm; exact z y)]
   rw [e]
   refine Ev.s (fun k => ?_) ih
   show marchlandref05_Check.l2 (k + 1) _ _ _ _ _ = _
   rw [marchlandref05_Check.l2, if_pos (by omega), if_pos (by omega), if_pos (by omega), if_pos (by omega), if_pos (by omega), g1, g2, if_neg c, w64 (by omega)]
theorem rchk_l1 (hl : I.length ≤ 1000) (R : List S42 × Int) : ∀ (rest pre : List Int), I = pre ++ rest →
  (badI a0 pre rest = none → Ev (fun k => (marchlandref05_closed.f k a0 E I).bind fun t => marchlandref05_Check.l3 k t 0 a0 E I) R) →
  Ev (fun k => marchlandref05_Check.l1 k (pre.length : Int) a0 E I) ((badI a0 pre rest).getD R)
 | [], pre, hI, h => by
  rw [List.append_nil] at hI
  subst hI
  refine Ev.s (fun k => ?_) (h rfl)
  show marchlandref05_Check.l1 (k + 1) _ _ _ _ = _
  rw [marchlandref05_Check.l1, if_neg (by omega)]
 | p :: rest, pre, hI, h => by
  have hlen : pre.length + 1 ≤ I.length := by rw [hI, List.length_append, List.length_cons]; omega
  have hg : rd I (pre.length : Int) = p := by rw [hI]; exact rd_pre pre p rest rfl
  rw [badI] at h ⊢
  by_cases c : p < 0 ∨ a0 ≤ p
  ·rw [if_pos c]
   refine Ev.o2 (fun k => ?_)
   show marchlandref05_Check.l1 (k + 2) _ _ _ _ = _
   rw [marchlandref05_Check.l1, if_pos (by omega), if_pos (by omega), hg]
   by_cases c0 : p < 0
   ·rw [if_pos c0, marchlandref05_Check.j5, if_pos rfl]; rfl
   ·rw [if_neg c0, decide_eq_true (by omega), marchlandref05_Check.j5, if_pos rfl]; rfl
  ·rw [if_neg c] at h ⊢
   have h2 := rchk_l2 (a0 := a0) (E := E) hl hI ((badI a0 (pre ++ [p]) rest).getD R) (fun hn => by
    rw [if_neg hn] at h
    have := rchk_l1 hl R rest (pre ++ [p]) (by rw [hI]; simp) h
    rw [List.length_append, List.length_singleton] at this
    exact this) pre [] rfl (by simp)
   have e : (if p ∈ pre then some ([(⟨inS, (pre.length : Int)⟩ : S42)], (1 : Int)) else badI a0 (pre ++ [p]) rest).getD R = (if p ∈ pre then ([⟨inS, (pre.length : Int)⟩], 1) else (badI a0 (pre ++ [p]) rest).getD R) := by split <;> rfl
   rw [e]
   refine Ev.s2 (fun k => ?_) h2
   show marchlandref05_Check.l1 (k + 2) _ _ _ _ = _
   rw [marchlandref05_Check.l1, if_pos (by omega), if_pos (by omega), hg, if_neg (by omega), decide_eq_false (by omega), marchlandref05_Check.j5, if_neg (by decide)]
   rfl
theorem rchk_l0 (hl : E.length ≤ 1000) (R : List S42 × Int) : ∀ (rest pre : List S75), E = pre ++ rest →
  (badE a0 pre.length rest = none → Ev (fun k => marchlandref05_Check.l1 k 0 a0 E I) R) →
  Ev (fun k => marchlandref05_Check.l0 k (pre.length : Int) a0 E I) (((badE a0 pre.length rest).map fun L => (L, (2 : Int))).getD (if 8 < I.length ∨ I.length < 1 then ([], 4) else R))
 | [], pre, hE, h => by
  rw [List.append_nil] at hE
  subst hE
  show Ev _ (if 8 < I.length ∨ I.length < 1 then ([], 4) else R)
  by_cases c : 8 < I.length ∨ I.length < 1
  ·rw [if_pos c]
   refine Ev.o2 (fun k => ?_)
   show marchlandref05_Check.l0 (k + 2) _ _ _ _ = _
   rw [marchlandref05_Check.l0, if_neg (by omega)]
   by_cases c0 : (I.length : Int) > 8
   ·rw [if_pos c0, marchlandref05_Check.j3, if_pos rfl]
   ·rw [if_neg c0, decide_eq_true (by omega), marchlandref05_Check.j3, if_pos rfl]
  ·rw [if_neg c]
   refine Ev.s2 (fun k => ?_) (h rfl)
   show marchlandref05_Check.l0 (k + 2) _ _ _ _ = _
   rw [marchlandref05_Check.l0, if_neg (by omega), if_neg (by omega), decide_eq_false (by omega), marchlandref05_Check.j3, if_neg (by decide)]
 | x :: rest, pre, hE, h => by
  have hlen : pre.length + 1 ≤ E.length := by rw [hE, List.length_append, List.length_cons]; omega
  have hr : rd_T75 E (pre.length : Int) = x := by rw [hE]; exact rd90 pre x rest rfl
  rw [badE] at h ⊢
  by_cases c : x.f0 < 0 ∨ a0 ≤ x.f0
  ·rw [if_pos c]
   refine Ev.o2 (fun k => ?_)
   show marchlandref05_Check.l0 (k + 2) _ _ _ _ = _
   rw [marchlandref05_Check.l0, if_pos (by omega), if_pos (by omega), hr]
   by_cases c0 : x.f0 < 0
   ·rw [if_pos c0, marchlandref05_Check.j2, if_pos rfl]; rfl
   ·rw [if_neg c0, decide_eq_true (by omega), marchlandref05_Check.j2, if_pos rfl]; rfl
  ·rw [if_neg c] at h ⊢
   by_cases d : x.f1 < 0 ∨ a0 ≤ x.f1
   ·rw [if_pos d]
    refine Ev.o2 (fun k => ?_)
    show marchlandref05_Check.l0 (k + 2) _ _ _ _ = _
    rw [marchlandref05_Check.l0, if_pos (by omega), if_pos (by omega), hr, if_neg (by omega), decide_eq_false (by omega), marchlandref05_Check.j2, if_neg (by decide), if_pos (by omega), if_pos (by omega), hr]
    by_cases c0 : x.f1 < 0
    ·rw [if_pos c0]; rfl
    ·rw [if_neg c0, if_pos (by omega)]; rfl
   ·rw [if_neg d] at h ⊢
    have ih := rchk_l0 hl R rest (pre ++ [x]) (by rw [hE]; simp) (by rw [List.length_append, List.length_singleton]; exact h)
    rw [List.length_append, List.length_singleton] at ih
    refine Ev.s2 (fun k => ?_) ih
    show marchlandref05_Check.l0 (k + 2) _ _ _ _ = _
    rw [marchlandref05_Check.l0, if_pos (by omega), if_pos (by omega), hr, if_neg (by omega), decide_eq_false (by omega), marchlandref05_Check.j2, if_neg (by decide), if_pos (by omega), if_pos (by omega), hr, if_neg (by omega), if_neg (by omega), w64 (by omega)]
theorem we_of (hf : ∀ e ∈ E, In e.f2) (h1 : 1 ≤ a0) (h : badE a0 0 E = none) : WE9 a0.toNat E := by
 intro e he
 have := badE_none h e he
 exact ⟨this.1, by omega, this.2.2.1, by omega, hf e he⟩
theorem rchk_ev (hf : ∀ e ∈ E, In e.f2) (hl : E.length ≤ 1000) (hI : I.length ≤ 1000) : Ev (fun k => marchlandref05_Check.f k a0 E I) (chk a0 E I) := by
 have hc : ¬ (a0 < 1 ∨ 64 < a0) → Ev (fun k => marchlandref05_Check.l0 k 0 a0 E I) (chk0 a0 E I) := fun c => by
  refine rchk_l0 hl (chk2 a0 E I) E [] rfl (fun hb => ?_)
  refine rchk_l1 hI (chk3 a0 E) I [] rfl (fun hbi => ?_)
  have hW := we_of hf (by omega) hb
  obtain ⟨n, rfl⟩ : ∃ n : Nat, a0 = (n : Int) := ⟨a0.toNat, by omega⟩
  rw [Int.toNat_natCast] at hW
  have h1 := closed_ev I hW (by omega) hl
  have h3 := rchk_l3 (I := I) (M := wk (E.map ed9) n) (by omega) hW hl n 0 (by omega)
  exact Ev.bind (f := fun k t => marchlandref05_Check.l3 k t 0 (n : Int) E I) h1 h3
 unfold chk
 by_cases c : a0 < 1 ∨ 64 < a0
 ·rw [if_pos c]
  refine Ev.o (fun k => ?_)
  show marchlandref05_Check.f (k + 1) _ _ _ = _
  unfold marchlandref05_Check.f
  by_cases c0 : a0 < 1
  ·rw [if_pos c0, marchlandref05_Check.j0, if_pos rfl]
  ·rw [if_neg c0, decide_eq_true (by omega), marchlandref05_Check.j0, if_pos rfl]
 ·rw [if_neg c]
  by_cases c1 : 256 < E.length
  ·rw [if_pos c1]
   refine Ev.o (fun k => ?_)
   show marchlandref05_Check.f (k + 1) _ _ _ = _
   unfold marchlandref05_Check.f
   rw [if_neg (by omega), decide_eq_false (by omega), marchlandref05_Check.j0, if_neg (by decide), if_pos (by omega)]
  ·rw [if_neg c1]
   refine Ev.s (fun k => ?_) (hc c)
   show marchlandref05_Check.f (k + 1) _ _ _ = _
   unfold marchlandref05_Check.f
   rw [if_neg (by omega), decide_eq_false (by omega), marchlandref05_Check.j0, if_neg (by decide), if_neg (by omega)]
theorem chk_zero (h : (chk a0 E I).2 = 0) : (1 ≤ a0 ∧ a0 ≤ 64) ∧ E.length ≤ 256 ∧ badE a0 0 E = none ∧ (1 ≤ I.length ∧ I.length ≤ 8) ∧ badI a0 [] I = none ∧ cycD (wE a0 E) E a0.toNat 0 = none := by
 unfold chk at h
 split at h
 ·exact absurd h (by decide)
 ·split at h
  ·exact absurd h (by decide)
  ·unfold chk0 at h
   cases hb : badE a0 0 E with
   | some L => rw [hb] at h; exact absurd h (show ¬ (2 : Int) = 0 by decide)
   | none =>
    rw [hb] at h
    have h : (chk1 a0 E I).2 = 0 := h
    unfold chk1 at h
    split at h
    ·exact absurd h (by decide)
    ·unfold chk2 at h
     cases hi : badI a0 [] I with
     | some x =>
      rw [hi] at h
      have h : x.2 = 0 := h
      rcases badI_code hi with z | z <;> omega
     | none =>
      rw [hi] at h
      have h : (chk3 a0 E).2 = 0 := h
      unfold chk3 at h
      cases hc : cycD (wE a0 E) E a0.toNat 0 with
      | some q => rw [hc] at h; exact absurd h (show ¬ (3 : Int) = 0 by decide)
      | none => exact ⟨by omega, by omega, rfl, by omega, rfl, rfl⟩
def pth (a0 : Int) (E : List S75) (I : List Int) : List (List Int) := if (chk a0 E I).2 = 0 then mat a0.toNat (wE a0 E) else []
theorem rpth_ev (hf : ∀ e ∈ E, In e.f2) (hl : E.length ≤ 1000) (hI : I.length ≤ 1000) : Ev (fun k => marchlandref05_Paths.f k a0 E I) (pth a0 E I) := by
 have h1 := rchk_ev (a0 := a0) (E := E) (I := I) hf hl hI
 unfold pth
 by_cases c : (chk a0 E I).2 = 0
 ·rw [if_pos c]
  obtain ⟨z1, z2, z3, -⟩ := chk_zero c
  have hW := we_of hf z1.1 z3
  have h2 := closed_ev I hW (by omega) hl
  rw [show ((a0.toNat : Nat) : Int) = a0 by omega] at h2
  refine Ev.bind (f := fun k (bt329 : List S42 × Int) => (if bt329.2 = 0 then ((marchlandref05_closed.f k a0 E I).bind fun t333 => (some t333)) else (some ([] : List (List Int))))) h1 ?_
  obtain ⟨K, h2⟩ := h2
  refine ⟨K, fun k hk => ?_⟩
  have h2 := h2 k hk
  dsimp only at h2
  dsimp only
  rw [if_pos c, h2]
  rfl
 ·rw [if_neg c]
  refine Ev.bind (f := fun k (bt329 : List S42 × Int) => (if bt329.2 = 0 then ((marchlandref05_closed.f k a0 E I).bind fun t333 => (some t333)) else (some ([] : List (List Int))))) h1 ?_
  refine ⟨0, fun k hk => ?_⟩
  dsimp only
  rw [if_neg c]
end
end Go.Proofs.YtgeldmhgbnamcaaDoor.PureQ
end
