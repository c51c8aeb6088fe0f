/- Walks and laws of several statements of this seat, joined into one text; no condition. -/
import Derived.Test.YtgeldmhgbnamcaaDoorProg
import Derived.Below
import Derived.Deep.Draws
import Derived.Deep.AppendLies
import Derived.Maps.AppendAt
import Derived.OwnWalk
import Derived.Laws.BytesArg
import Derived.Laws.MakeOwn
import Derived.Laws.OwnMore
import Derived.Deep.OwnRows
import Derived.Tactics
import Derived.Lib.ConvBytes
import Derived.Laws.Slices
import Derived.WalkKit
import Derived.KernelRfl
import Derived.RowKit3
import Derived.Deep.LoopGhost
import Derived.Deep.QuietTactic
import Derived.BigQuiet
import Derived.WideLaws
import Derived.Deep.DeepCutAuto
import Derived.Deep.CutBlock
import Derived.Deep.RegionHeld3
import Derived.Laws.Rows
import Derived.Lib.AppendStr
import Derived.ArgAppend
import Derived.Laws.IdiomCopy
import Derived.OrdersHeld
import Derived.Laws.BitsLemmas
import Derived.RowKit
import Derived.Laws.StructEq
import Derived.Lib.ItoaLen
import Derived.Lib.ParseIntB
import Derived.Shelf.Strconv.Itoa3
import Derived.Lib.AppendIntMem
import Derived.Lib.Walk
import Derived.Lib.ItoaMem
import Derived.BigCall
import Derived.BigGuard
import Derived.Shelf.Pu.ParseUintPublic10
import Derived.LaidEql
import Derived.Stop.Asserts
import Derived.RowKitTokens
import Derived.LoopTactic
import Derived.Elder7
import Derived.IntWalk
import Derived.Deep.Slices
import Derived.SizedLaws
import Derived.OpenShut
import Derived.Lib.SmallJoins
import Derived.Test.YtgeldmhgbnamcaaDoorRows
import Derived.LaidLaws
import Derived.LaidHandle
import Derived.Lay
import Derived.Stop.LaidErr
import Derived.Test.YtgeldmhgbnamcaaDoorSTa0
import Derived.Test.YtgeldmhgbnamcaaDoorSTa1
section
namespace Go.Proofs.YtgeldmhgbnamcaaDoor.Q
open Go.RowKit Go.Proofs.YtgeldmhgbnamcaaDoorW.PrintWords Go.Proofs.YtgeldmhgbnamcaaDoorW.PrintLast Go.Proofs.YtgeldmhgbnamcaaDoorW.PrintMore
attribute [local go_sem] max2_int min2_int max_two min_two max_three min_three max_four min_four
set_option linter.unusedVariables false
set_option linter.unusedSimpArgs false
mutual
def marchlandref01_Parse.j0 : Nat → ByteArray → Bool → Option (Int × Bool)
  | 0, _, _ => none
  | k + 1, x0, x16 => if x16 = true then (some (0, false)) else (marchlandref01_Parse.l0 k x0 0 0)
def marchlandref01_Parse.l0 : Nat → ByteArray → Int → Int → Option (Int × Bool)
  | 0, _, _, _ => none
  | k + 1, x0, x4, x5 => if x5 < (x0.size : Int) then (if 0 ≤ x5 then (if (bt x0 x5) < 48 then (marchlandref01_Parse.j2 k x0 x4 x5 true) else (marchlandref01_Parse.j2 k x0 x4 x5 (decide ((bt x0 x5) > 57)))) else (none)) else (if x4 = 18446744073709551615 then (some (0, false)) else ((marchlandref01_Num.f k x4).bind fun t167 => (if t167.toList = x0.toList then (some (x4, true)) else (some (0, false)))))
def marchlandref01_Parse.j2 : Nat → ByteArray → Int → Int → Bool → Option (Int × Bool)
  | 0, _, _, _, _ => none
  | k + 1, x0, x4, x5, x32 => if x32 = true then (some (0, false)) else (if 0 ≤ x5 then (if x5 < (x0.size : Int) then (if x4 > ((18446744073709551615 - (((bt x0 x5) - 48) % 256)) / 10) then (some (0, false)) else (marchlandref01_Parse.l0 k x0 (IntKind.u64.wrap ((IntKind.u64.wrap (10 * x4)) + (((bt x0 x5) - 48) % 256))) (wrap64 (x5 + 1)))) else (none)) else (none))
end
def marchlandref01_Parse.f (k : Nat) (a0 : ByteArray) : Option (Int × Bool) := if a0.toList = ([110, 101, 118, 101, 114] : List UInt8) then (some (18446744073709551615, true)) else (if (a0.size : Int) < 1 then (marchlandref01_Parse.j0 k a0 true) else (marchlandref01_Parse.j0 k a0 (decide ((a0.size : Int) > 20))))
theorem marchlandref01_Parse.mono_l : ∀ k, (∀ y0 y1, LeO (marchlandref01_Parse.j0 k y0 y1) (marchlandref01_Parse.j0 (k + 1) y0 y1)) ∧ (∀ y0 y1 y2, LeO (marchlandref01_Parse.l0 k y0 y1 y2) (marchlandref01_Parse.l0 (k + 1) y0 y1 y2)) ∧ (∀ y0 y1 y2 y3, LeO (marchlandref01_Parse.j2 k y0 y1 y2 y3) (marchlandref01_Parse.j2 (k + 1) y0 y1 y2 y3))
  | 0 => ⟨fun _ _ r h => by simp [marchlandref01_Parse.j0] at h, fun _ _ _ r h => by simp [marchlandref01_Parse.l0] at h, fun _ _ _ _ r h => by simp [marchlandref01_Parse.j2] at h⟩
  | k + 1 => by
    obtain ⟨ih0, ih1, ih2⟩ := marchlandref01_Parse.mono_l k
    refine ⟨?_, ?_, ?_⟩
    · intro y0 y1
      unfold marchlandref01_Parse.j0
      repeat' first
      | (with_reducible exact ih0 _ _)
      | (with_reducible exact ih1 _ _ _)
      | (with_reducible exact ih2 _ _ _ _)
      | (with_reducible exact marchlandref01_Num.mono _ _)
      | (with_reducible exact LeO.refl _)
      | (with_reducible exact LeO.none _)
      | (with_reducible refine LeO.ite ?_ ?_)
      | (with_reducible refine LeO.bind ?_ (fun _ => ?_))
      | exact ih0 _ _
      | exact ih1 _ _ _
      | exact ih2 _ _ _ _
      | exact marchlandref01_Num.mono _ _
      | exact LeO.none _
      | refine LeO.ite ?_ ?_
      | refine LeO.bind ?_ (fun _ => ?_)
    · intro y0 y1 y2
      unfold marchlandref01_Parse.l0
      repeat' first
      | (with_reducible exact ih0 _ _)
      | (with_reducible exact ih1 _ _ _)
      | (with_reducible exact ih2 _ _ _ _)
      | (with_reducible exact marchlandref01_Num.mono _ _)
      | (with_reducible exact LeO.refl _)
      | (with_reducible exact LeO.none _)
      | (with_reducible refine LeO.ite ?_ ?_)
      | (with_reducible refine LeO.bind ?_ (fun _ => ?_))
      | exact ih0 _ _
      | exact ih1 _ _ _
      | exact ih2 _ _ _ _
      | exact marchlandref01_Num.mono _ _
      | exact LeO.none _
      | refine LeO.ite ?_ ?_
      | refine LeO.bind ?_ (fun _ => ?_)
    · intro y0 y1 y2 y3
      unfold marchlandref01_Parse.j2
      repeat' first
      | (with_reducible exact ih0 _ _)
      | (with_reducible exact ih1 _ _ _)
      | (with_reducible exact ih2 _ _ _ _)
      | (with_reducible exact marchlandref01_Num.mono _ _)
      | (with_reducible exact LeO.refl _)
      | (with_reducible exact LeO.none _)
      | (with_reducible refine LeO.ite ?_ ?_)
      | (with_reducible refine LeO.bind ?_ (fun _ => ?_))
      | exact ih0 _ _
      | exact ih1 _ _ _
      | exact ih2 _ _ _ _
      | exact marchlandref01_Num.mono _ _
      | exact LeO.none _
      | refine LeO.ite ?_ ?_
      | refine LeO.bind ?_ (fun _ => ?_)
theorem marchlandref01_Parse.mono : ∀ a0 k, LeO (marchlandref01_Parse.f k a0) (marchlandref01_Parse.f (k + 1) a0) := by
  intro a0 k
  obtain ⟨ih0, ih1, ih2⟩ := marchlandref01_Parse.mono_l k
  unfold marchlandref01_Parse.f
  repeat' first
      | (with_reducible exact ih0 _ _)
      | (with_reducible exact ih1 _ _ _)
      | (with_reducible exact ih2 _ _ _ _)
      | (with_reducible exact marchlandref01_Num.mono _ _)
      | (with_reducible exact LeO.refl _)
      | (with_reducible exact LeO.none _)
      | (with_reducible refine LeO.ite ?_ ?_)
      | (with_reducible refine LeO.bind ?_ (fun _ => ?_))
      | exact ih0 _ _
      | exact ih1 _ _ _
      | exact ih2 _ _ _ _
      | exact marchlandref01_Num.mono _ _
      | exact LeO.none _
      | refine LeO.ite ?_ ?_
      | refine LeO.bind ?_ (fun _ => ?_)
set_option maxHeartbeats 8000000 in
set_option maxRecDepth 100000 in
theorem marchlandref01_Parse.calls (k : Nat) (a0 : ByteArray) (r1 : Int) (r2 : Bool) (w : World) (h : marchlandref01_Parse.f k a0 = some (r1, r2)) :
    Calls Tryd.prog 30 #[.string a0] w fun e w' => e = .returned (.tuple #[.int .u64 r1, .bool r2]) ∧ Below w.heap.size w w' := by
  have HB := Aside0.mk (Below.refl w.heap.size w)
  have H : (if a0.toList = ([110, 101, 118, 101, 114] : List UInt8) then (some (18446744073709551615, true)) else (if (a0.size : Int) < 1 then (marchlandref01_Parse.j0 k a0 true) else (marchlandref01_Parse.j0 k a0 (decide ((a0.size : Int) > 20))))) = some (r1, r2) := h
  clear h
  by_cases c2 : a0.toList = ([110, 101, 118, 101, 114] : List UInt8)
  · rw [if_pos c2] at H
    have c2b0 : (a0.toList == ([110, 101, 118, 101, 114] : List UInt8)) = true := beq_iff_eq.mpr c2
    have c2b1 : (a0.toList != ([110, 101, 118, 101, 114] : List UInt8)) = false := bne_eq_false_iff_eq.mpr c2
    clear c2
    simp only [Option.some.injEq, Prod.mk.injEq] at H
    obtain ⟨rfl, rfl⟩ := H
    go_enter Tryd.func30, Tryd.ntmps30
    go_wp2
    go_ret2
    exact ⟨by first | rfl | (simp [errW_none, errW_some] <;> rfl) | (simp [*, errW_none, errW_some] <;> rfl), by repeat (first | (with_reducible first | exact HB.out | apply below_alloc | apply pw_below_drewN | apply below_drew1) | exact HB.out)⟩
  · rw [if_neg c2] at H
    have c2b0 : (a0.toList == ([110, 101, 118, 101, 114] : List UInt8)) = false := beq_eq_false_iff_ne.mpr c2
    have c2b1 : (a0.toList != ([110, 101, 118, 101, 114] : List UInt8)) = true := bne_iff_ne.mpr c2
    have HC3 := Aside0.mk H
    clear H
    go_enter Tryd.func30, Tryd.ntmps30
    go_upto_region 3 with (fail)
    go_cut [16] (fun v16 wc => ∃ (kq : Nat) (x16_2 : Bool), v16 = .bool x16_2 ∧ Aside0 (marchlandref01_Parse.j0 kq a0 x16_2 = some (r1, r2)) ∧ Aside0 (kq ≤ k) ∧ Aside0 (Below w.heap.size w wc))
    case first =>
      have H := HC3.out
      clear HC3
      by_cases c4 : (a0.size : Int) < 1
      · rw [if_pos c4] at H
        have c4b0 : decide ((a0.size : Int) < 1) = true := decide_eq_true c4
        have c4b1 : decide (a0.size < 1) = true := decide_eq_true (by omega)
        clear c4
        (first | rw [c4b0] | (simp only [i64_w, i32_w]; rw [c4b0]) | skip)
        have H' := Aside0.mk H
        clear H
        go_wp2
        go_meet
        case rel => exact ⟨_, (true), (by first | rfl | (simp; done) | (simp [*]; done)), H', ⟨by first | omega | exact Nat.le_refl _⟩, ⟨by repeat (first | (with_reducible first | exact HB.out | apply below_alloc | apply pw_below_drewN | apply below_drew1) | exact HB.out)⟩⟩
      · rw [if_neg c4] at H
        have c4b0 : decide ((a0.size : Int) < 1) = false := decide_eq_false c4
        have c4b1 : decide (a0.size < 1) = false := decide_eq_false (by omega)
        clear c4
        (first | rw [c4b0] | (simp only [i64_w, i32_w]; rw [c4b0]) | skip)
        have H' := Aside0.mk H
        clear H
        go_wp2
        go_meet
        case rel => exact ⟨_, (decide ((a0.size : Int) > 20)), (by first | rfl | (simp; done) | (simp [*]; done)), H', ⟨by first | omega | exact Nat.le_refl _⟩, ⟨by repeat (first | (with_reducible first | exact HB.out | apply below_alloc | apply pw_below_drewN | apply below_drew1) | exact HB.out)⟩⟩
    case rest =>
      clear HC3
      try clear c2
      try clear c2b0
      try clear c2b1
      try clear p2
      try clear c3
      try clear c4
      try clear c4b0
      try clear c4b1
      obtain ⟨kq, x16_2, rfl, HA, HJ2, HB⟩ := hcut
      cases kq with
      | zero => exact absurd HA.out (by simp [marchlandref01_Parse.j0])
      | succ kj2 =>
        have H := HA.out
        clear HA
        simp only [marchlandref01_Parse.j0] at H
        by_cases c5 : x16_2 = true
        · subst c5
          have H1 : (some (0, false)) = some (r1, r2) := by rw [if_pos rfl] at H; exact H
          clear H
          have H := H1
          clear H1
          simp only [Option.some.injEq, Prod.mk.injEq] at H
          obtain ⟨rfl, rfl⟩ := H
          go_wp2
          go_ret2
          exact ⟨by first | rfl | (simp [errW_none, errW_some] <;> rfl) | (simp [*, errW_none, errW_some] <;> rfl), by repeat (first | (with_reducible first | exact HB.out | apply below_alloc | apply pw_below_drewN | apply below_drew1) | exact HB.out)⟩
        · replace c5 := Bool.eq_false_iff.mpr c5
          subst c5
          have H1 : (marchlandref01_Parse.l0 kj2 a0 0 0) = some (r1, r2) := by rw [if_neg (show ¬ (false = true) by decide)] at H; exact H
          clear H
          have H := H1
          clear H1
          have H' := Aside0.mk H
          clear H
          go_wp2
          go_loopg [4, 5] kj2 (fun kq v4 v5 w' => ∃ (x4_2 : Int) (x5_2 : Int), v4 = .int .u64 x4_2 ∧ v5 = .int .i64 x5_2 ∧ Aside0 (marchlandref01_Parse.l0 kq a0 x4_2 x5_2 = some (r1, r2)) ∧ Aside0 (kq ≤ kj2) ∧ Aside0 (Below w.heap.size w w'))
          case atStart => exact ⟨(0), (0), (by first | rfl | (simp; done) | (simp [*]; done)), (by first | rfl | (simp; done) | (simp [*]; done)), H', ⟨Nat.le_refl _⟩, ⟨by repeat (first | (with_reducible first | exact HB.out | apply below_alloc | apply pw_below_drewN | apply below_drew1) | exact HB.out)⟩⟩
          case round =>
            clear H'
            try clear c2
            try clear c2b0
            try clear c2b1
            try clear p2
            try clear c3
            try clear c4
            try clear c4b0
            try clear c4b1
            try clear c5
            try clear p2
            obtain ⟨x4_2, x5_2, rfl, rfl, HA, HK2, HB⟩ := hrel
            cases gk with
            | zero => exact absurd HA.out (by simp [marchlandref01_Parse.l0])
            | succ k2 =>
              have H := HA.out
              clear HA
              simp only [marchlandref01_Parse.l0] at H
              by_cases c6 : x5_2 < (a0.size : Int)
              · rw [if_pos c6] at H
                have c6b0 : decide (x5_2 < (a0.size : Int)) = true := decide_eq_true c6
                clear c6
                have HC7 := Aside0.mk H
                clear H
                go_upto_region 9 with (fail)
                go_cut [32] (fun v32 wc => ∃ (kq : Nat) (x32_6 : Bool), v32 = .bool x32_6 ∧ Aside0 (marchlandref01_Parse.j2 kq a0 x4_2 x5_2 x32_6 = some (r1, r2)) ∧ Aside0 (kq ≤ k2) ∧ Aside0 (Below w.heap.size w wc))
                case first =>
                  have H := HC7.out
                  clear HC7
                  by_cases c8 : 0 ≤ x5_2
                  · rw [if_pos c8] at H
                    have c8b0 : decide (0 ≤ x5_2) = true := decide_eq_true c8
                    clear c8
                    (first | rw [c8b0] | (simp only [i64_w, i32_w]; rw [c8b0]) | skip)
                    by_cases c10 : (bt a0 x5_2) < 48
                    · rw [if_pos c10] at H
                      have c10b0 : decide ((bt a0 x5_2) < 48) = true := decide_eq_true c10
                      clear c10
                      have H' := Aside0.mk H
                      clear H
                      have p9 : 0 ≤ (x5_2 : Int) := of_decide_eq_true (by first | (with_reducible assumption) | assumption)
                      have q9 : x5_2 < (a0.size : Int) := of_decide_eq_true (by first | (with_reducible assumption) | assumption)
                      have hx9 := bt_at a0 x5_2
                      replace p9 := eq_true p9
                      replace q9 := eq_true q9
                      go_wp2
                      go_meet
                      case rel => exact ⟨_, (true), (by first | rfl | (simp; done) | (simp [*]; done)), H', ⟨by have := HJ2.out; have := HK2.out; first | omega | exact Nat.le_refl _⟩, ⟨by repeat (first | (with_reducible first | exact HB.out | apply below_alloc | apply pw_below_drewN | apply below_drew1) | exact HB.out)⟩⟩
                    · rw [if_neg c10] at H
                      have c10b0 : decide ((bt a0 x5_2) < 48) = false := decide_eq_false c10
                      clear c10
                      have H' := Aside0.mk H
                      clear H
                      have p9 : 0 ≤ (x5_2 : Int) := of_decide_eq_true (by first | (with_reducible assumption) | assumption)
                      have q9 : x5_2 < (a0.size : Int) := of_decide_eq_true (by first | (with_reducible assumption) | assumption)
                      have hx9 := bt_at a0 x5_2
                      replace p9 := eq_true p9
                      replace q9 := eq_true q9
                      have p11 : 0 ≤ (x5_2 : Int) := of_decide_eq_true (by first | (with_reducible assumption) | assumption)
                      have q11 : x5_2 < (a0.size : Int) := of_decide_eq_true (by first | (with_reducible assumption) | assumption)
                      have hx11 := bt_at a0 x5_2
                      replace p11 := eq_true p11
                      replace q11 := eq_true q11
                      go_wp2
                      go_meet
                      case rel => exact ⟨_, (decide ((bt a0 x5_2) > 57)), (by first | rfl | (simp; done) | (simp [*]; done)), H', ⟨by have := HJ2.out; have := HK2.out; first | omega | exact Nat.le_refl _⟩, ⟨by repeat (first | (with_reducible first | exact HB.out | apply below_alloc | apply pw_below_drewN | apply below_drew1) | exact HB.out)⟩⟩
                  · rw [if_neg c8] at H
                    exact absurd H (by simp)
                case rest =>
                  clear HC7
                  try clear c1
                  try clear p1
                  try clear q1
                  try clear hx1
                  try clear c2
                  try clear c2b0
                  try clear c2b1
                  try clear p2
                  try clear c3
                  try clear c4
                  try clear c4b0
                  try clear c4b1
                  try clear c5
                  try clear c6
                  try clear c6b0
                  try clear c8
                  try clear c8b0
                  try clear p9
                  try clear q9
                  try clear hx9
                  try clear c10
                  try clear c10b0
                  try clear p11
                  try clear q11
                  try clear hx11
                  try clear p11
                  try clear p2
                  try clear p9
                  try clear q11
                  try clear q9
                  obtain ⟨kq, x32_6, rfl, HA, HJ6, HB⟩ := hcut
                  cases kq with
                  | zero => exact absurd HA.out (by simp [marchlandref01_Parse.j2])
                  | succ kj6 =>
                    have H := HA.out
                    clear HA
                    simp only [marchlandref01_Parse.j2] at H
                    by_cases c12 : x32_6 = true
                    · subst c12
                      have H1 : (some (0, false)) = some (r1, r2) := by rw [if_pos rfl] at H; exact H
                      clear H
                      have H := H1
                      clear H1
                      simp only [Option.some.injEq, Prod.mk.injEq] at H
                      obtain ⟨rfl, rfl⟩ := H
                      go_wp2
                      go_ret2
                      exact ⟨by first | rfl | (simp [errW_none, errW_some] <;> rfl) | (simp [*, errW_none, errW_some] <;> rfl), by repeat (first | (with_reducible first | exact HB.out | apply below_alloc | apply pw_below_drewN | apply below_drew1) | exact HB.out)⟩
                    · replace c12 := Bool.eq_false_iff.mpr c12
                      subst c12
                      have H1 : (if 0 ≤ x5_2 then (if x5_2 < (a0.size : Int) then (if x4_2 > ((18446744073709551615 - (((bt a0 x5_2) - 48) % 256)) / 10) then (some (0, false)) else (marchlandref01_Parse.l0 kj6 a0 (IntKind.u64.wrap ((IntKind.u64.wrap (10 * x4_2)) + (((bt a0 x5_2) - 48) % 256))) (wrap64 (x5_2 + 1)))) else (none)) else (none)) = some (r1, r2) := by rw [if_neg (show ¬ (false = true) by decide)] at H; exact H
                      clear H
                      have H := H1
                      clear H1
                      by_cases c13 : 0 ≤ x5_2
                      · rw [if_pos c13] at H
                        have c13b0 : decide (0 ≤ x5_2) = true := decide_eq_true c13
                        clear c13
                        by_cases c14 : x5_2 < (a0.size : Int)
                        · rw [if_pos c14] at H
                          have c14b0 : decide (x5_2 < (a0.size : Int)) = true := decide_eq_true c14
                          clear c14
                          by_cases c16 : x4_2 > ((18446744073709551615 - (((bt a0 x5_2) - 48) % 256)) / 10)
                          · rw [if_pos c16] at H
                            have c16b0 : decide (((18446744073709551615 - (((bt a0 x5_2) - 48) % 256)) / 10) < x4_2) = true := decide_eq_true c16
                            clear c16
                            simp only [Option.some.injEq, Prod.mk.injEq] at H
                            obtain ⟨rfl, rfl⟩ := H
                            have p15 : 0 ≤ (x5_2 : Int) := of_decide_eq_true (by first | (with_reducible assumption) | assumption)
                            have q15 : x5_2 < (a0.size : Int) := of_decide_eq_true (by first | (with_reducible assumption) | assumption)
                            have hx15 := bt_at a0 x5_2
                            replace p15 := eq_true p15
                            replace q15 := eq_true q15
                            go_wp2
                            go_ret2
                            exact ⟨by first | rfl | (simp [errW_none, errW_some] <;> rfl) | (simp [*, errW_none, errW_some] <;> rfl), by repeat (first | (with_reducible first | exact HB.out | apply below_alloc | apply pw_below_drewN | apply below_drew1) | exact HB.out)⟩
                          · rw [if_neg c16] at H
                            have c16b0 : decide (((18446744073709551615 - (((bt a0 x5_2) - 48) % 256)) / 10) < x4_2) = false := decide_eq_false c16
                            clear c16
                            have H' := Aside0.mk H
                            clear H
                            have p15 : 0 ≤ (x5_2 : Int) := of_decide_eq_true (by first | (with_reducible assumption) | assumption)
                            have q15 : x5_2 < (a0.size : Int) := of_decide_eq_true (by first | (with_reducible assumption) | assumption)
                            have hx15 := bt_at a0 x5_2
                            replace p15 := eq_true p15
                            replace q15 := eq_true q15
                            go_wp2
                            go_roundg kj6
                            case measure => have := HJ2.out; have := HK2.out; have := HJ6.out; omega
                            case rel => exact ⟨(IntKind.u64.wrap ((IntKind.u64.wrap (10 * x4_2)) + (((bt a0 x5_2) - 48) % 256))), (wrap64 (x5_2 + 1)), (by first | rfl | (simp; done) | (simp [*]; done)), (by first | rfl | (simp; done) | (simp [*]; done)), H', ⟨by have := HJ2.out; have := HK2.out; have := HJ6.out; omega⟩, ⟨by repeat (first | (with_reducible first | exact HB.out | apply below_alloc | apply pw_below_drewN | apply below_drew1) | exact HB.out)⟩⟩
                        · rw [if_neg c14] at H
                          exact absurd H (by simp)
                      · rw [if_neg c13] at H
                        exact absurd H (by simp)
              · rw [if_neg c6] at H
                have c6b0 : decide (x5_2 < (a0.size : Int)) = false := decide_eq_false c6
                clear c6
                by_cases c17 : x4_2 = 18446744073709551615
                · rw [if_pos c17] at H
                  have c17b0 : (x4_2 == 18446744073709551615) = true := beq_iff_eq.mpr c17
                  have c17b1 : (x4_2 != 18446744073709551615) = false := bne_eq_false_iff_eq.mpr c17
                  clear c17
                  simp only [Option.some.injEq, Prod.mk.injEq] at H
                  obtain ⟨rfl, rfl⟩ := H
                  go_wp2
                  go_ret2
                  exact ⟨by first | rfl | (simp [errW_none, errW_some] <;> rfl) | (simp [*, errW_none, errW_some] <;> rfl), by repeat (first | (with_reducible first | exact HB.out | apply below_alloc | apply pw_below_drewN | apply below_drew1) | exact HB.out)⟩
                · rw [if_neg c17] at H
                  have c17b0 : (x4_2 == 18446744073709551615) = false := beq_eq_false_iff_ne.mpr c17
                  have c17b1 : (x4_2 != 18446744073709551615) = true := bne_iff_ne.mpr c17
                  replace H := Option.bind_eq_some_iff.mp H
                  obtain ⟨t167, A180, H⟩ := H
                  replace H : (if t167.toList = a0.toList then (some (x4_2, true)) else (some (0, false))) = some (r1, r2) := H
                  have A18 := Aside0.mk A180
                  clear A180
                  by_cases c19 : t167.toList = a0.toList
                  · rw [if_pos c19] at H
                    have c19b0 : (t167.toList == a0.toList) = true := beq_iff_eq.mpr c19
                    have c19b1 : (t167.toList != a0.toList) = false := bne_eq_false_iff_eq.mpr c19
                    clear c19
                    simp only [Option.some.injEq, Prod.mk.injEq] at H
                    obtain ⟨rfl, rfl⟩ := H
                    go_wp2_with (first | (go_at_call 65; (with_reducible refine (marchlandref01_Num.calls k2 x4_2 t167 _ A18.out).mono ?_); rintro e w20 ⟨rfl, hb⟩; have n0_ := Aside0.mk (below_step (by repeat (first | (with_reducible first | exact HB.out | apply below_alloc | apply pw_below_drewN | apply below_drew1) | exact HB.out)) hb); clear HB; have HB := n0_; clear n0_; (try clear hb); (try clear hb2); (try clear hk); (try clear hi)))
                    go_ret2
                    exact ⟨by first | rfl | (simp [errW_none, errW_some] <;> rfl) | (simp [*, errW_none, errW_some] <;> rfl), by repeat (first | (with_reducible first | exact HB.out | apply below_alloc | apply pw_below_drewN | apply below_drew1) | exact HB.out)⟩
                  · rw [if_neg c19] at H
                    have c19b0 : (t167.toList == a0.toList) = false := beq_eq_false_iff_ne.mpr c19
                    have c19b1 : (t167.toList != a0.toList) = true := bne_iff_ne.mpr c19
                    simp only [Option.some.injEq, Prod.mk.injEq] at H
                    obtain ⟨rfl, rfl⟩ := H
                    go_wp2_with (first | (go_at_call 65; (with_reducible refine (marchlandref01_Num.calls k2 x4_2 t167 _ A18.out).mono ?_); rintro e w21 ⟨rfl, hb⟩; have n0_ := Aside0.mk (below_step (by repeat (first | (with_reducible first | exact HB.out | apply below_alloc | apply pw_below_drewN | apply below_drew1) | exact HB.out)) hb); clear HB; have HB := n0_; clear n0_; (try clear hb); (try clear hb2); (try clear hk); (try clear hi)))
                    go_ret2
                    exact ⟨by first | rfl | (simp [errW_none, errW_some] <;> rfl) | (simp [*, errW_none, errW_some] <;> rfl), by repeat (first | (with_reducible first | exact HB.out | apply below_alloc | apply pw_below_drewN | apply below_drew1) | exact HB.out)⟩
def marchlandref01_Text.f (k : Nat) (a0 : Int) : Option (ByteArray) := if a0 = 18446744073709551615 then (some (⟨#[110, 101, 118, 101, 114]⟩ : ByteArray)) else ((marchlandref01_Num.f k a0).bind fun t168 => (some t168))
theorem marchlandref01_Text.mono : ∀ a0 k, LeO (marchlandref01_Text.f k a0) (marchlandref01_Text.f (k + 1) a0) := by
  intro a0 k
  unfold marchlandref01_Text.f
  repeat' first
      | (with_reducible exact marchlandref01_Num.mono _ _)
      | (with_reducible exact LeO.refl _)
      | (with_reducible exact LeO.none _)
      | (with_reducible refine LeO.ite ?_ ?_)
      | (with_reducible refine LeO.bind ?_ (fun _ => ?_))
      | exact marchlandref01_Num.mono _ _
      | exact LeO.none _
      | refine LeO.ite ?_ ?_
      | refine LeO.bind ?_ (fun _ => ?_)
set_option maxHeartbeats 8000000 in
set_option maxRecDepth 100000 in
theorem marchlandref01_Text.calls (k : Nat) (a0 : Int) (r : ByteArray) (w : World) (h : marchlandref01_Text.f k a0 = some r) :
    Calls Tryd.prog 32 #[.int .u64 a0] w fun e w' => e = .returned (.string r) ∧ Below w.heap.size w w' := by
  have HB := Aside0.mk (Below.refl w.heap.size w)
  have H : (if a0 = 18446744073709551615 then (some (⟨#[110, 101, 118, 101, 114]⟩ : ByteArray)) else ((marchlandref01_Num.f k a0).bind fun t168 => (some t168))) = some r := h
  clear h
  by_cases c2 : a0 = 18446744073709551615
  · rw [if_pos c2] at H
    have c2b0 : (a0 == 18446744073709551615) = true := beq_iff_eq.mpr c2
    have c2b1 : (a0 != 18446744073709551615) = false := bne_eq_false_iff_eq.mpr c2
    clear c2
    obtain rfl := Option.some.inj H
    go_enter Tryd.func32, Tryd.ntmps32
    go_wp2
    go_ret
    exact ⟨by first | rfl | (simp [errW_none, errW_some] <;> rfl) | (simp [*, errW_none, errW_some] <;> rfl), by repeat (first | (with_reducible first | exact HB.out | apply below_alloc | apply pw_below_drewN | apply below_drew1) | exact HB.out)⟩
  · rw [if_neg c2] at H
    have c2b0 : (a0 == 18446744073709551615) = false := beq_eq_false_iff_ne.mpr c2
    have c2b1 : (a0 != 18446744073709551615) = true := bne_iff_ne.mpr c2
    replace H := Option.bind_eq_some_iff.mp H
    obtain ⟨t168, A30, H⟩ := H
    replace H : (some t168) = some r := H
    have A3 := Aside0.mk A30
    clear A30
    obtain rfl := Option.some.inj H
    go_enter Tryd.func32, Tryd.ntmps32
    go_wp2_with (first | ((with_reducible refine gate_callee (f := 65) rfl ?_); refine goesL_ (some 6) rfl rfl Tryd.func65 (by kernel_rfl) rfl #[.int .u64 a0] rfl (by (try simp only [List.map_toArray, List.map_cons, List.map_nil]); first | done | rfl | (simp only [List.length_drop, List.length_take]; rfl)) ?_; (with_reducible refine (marchlandref01_Num.calls k a0 t168 _ A3.out).mono ?_); rintro e w4 ⟨rfl, hb⟩; refine ⟨_, rfl, ?_⟩; have n0_ := Aside0.mk (below_step (by repeat (first | (with_reducible first | exact HB.out | apply below_alloc | apply pw_below_drewN | apply below_drew1) | exact HB.out)) hb); clear HB; have HB := n0_; clear n0_; (try clear hb); (try clear hb2); (try clear hk); (try clear hi)))
    go_ret
    exact ⟨by first | rfl | (simp [errW_none, errW_some] <;> rfl) | (simp [*, errW_none, errW_some] <;> rfl), by repeat (first | (with_reducible first | exact HB.out | apply below_alloc | apply pw_below_drewN | apply below_drew1) | exact HB.out)⟩
end Go.Proofs.YtgeldmhgbnamcaaDoor.Q
end
section
namespace Go.Proofs.YtgeldmhgbnamcaaDoor.P
open Go.RowKit Go.Proofs.YtgeldmhgbnamcaaDoorW.PrintWords Go.Proofs.YtgeldmhgbnamcaaDoorW.PrintLast Go.Proofs.YtgeldmhgbnamcaaDoorW.PrintMore
open Go.Proofs.YtgeldmhgbnamcaaDoor.Q (marchlandref01_Num.f marchlandref01_Parse.j0 marchlandref01_Parse.l0 marchlandref01_Parse.j2 marchlandref01_Parse.f marchlandref01_Text.f)
set_option linter.unusedVariables false
set_option linter.unusedSimpArgs false
theorem list_iff (s t : ByteArray) : s.toList = t.toList ↔ s = t := by
  constructor
  · intro e
    rw [ByteArray.toList_eq, ByteArray.toList_eq] at e
    exact ByteArray.ext (Array.toList_inj.1 e)
  · rintro rfl; rfl
def refA : Option Nat → Int × Bool
  | some u => ((u : Int), true)
  | none => (0, false)
def loopA (s : ByteArray) : Lib.NumEnd Nat → Option Nat
  | .ok u => okNum s u
  | _ => none
theorem rtext_ev (u : Nat) (hu : u < 18446744073709551616) : marchlandref01_Text.f 20 (u : Int) = some (textS u) := by
  unfold marchlandref01_Text.f textS
  by_cases h : u = 18446744073709551615
  · rw [if_pos (by omega), if_pos h]; rfl
  · rw [if_neg (by omega), if_neg h, num_ev 20 u (Lib.nDigits_le20 u hu) hu]; rfl
theorem bt_drop (s : ByteArray) (i : Nat) (hi : i < s.size) : ∃ c : UInt8, s.data.toList.drop i = c :: s.data.toList.drop (i + 1) ∧ bt s (i : Int) = ((c.toNat : Nat) : Int) := by
  have hl : i < s.data.toList.length := by rw [Array.length_toList]; exact hi
  refine ⟨s.data.toList[i], List.drop_eq_getElem_cons hl, ?_⟩
  rw [← bt_at s (i : Int) (by rw [Int.toNat_natCast]; exact hi)]
  rfl
theorem rparse_l0 (s : ByteArray) (hs : s.size ≤ 100) : ∀ (d i acc m : Nat), s.size = i + d → 25 + 2 * d ≤ m → acc ≤ 18446744073709551615 →
    marchlandref01_Parse.l0 (m + 1) s (acc : Int) (i : Int) = some (refA (loopA s (Lib.parseUintM 18446744073709551615 acc (s.data.toList.drop i)))) := by
  intro d
  induction d with
  | zero =>
    intro i acc m hi hm ha
    have e : s.data.toList.drop i = [] := List.drop_eq_nil_of_le (by rw [Array.length_toList]; show s.size ≤ i; omega)
    rw [e, Lib.parseUintM, marchlandref01_Parse.l0, if_neg (by omega)]
    show _ = some (refA (okNum s acc))
    unfold okNum
    by_cases h1 : acc = 18446744073709551615
    · rw [if_pos (by omega), if_pos (Or.inl h1)]; rfl
    · rw [if_neg (by omega), num_ev m acc (Nat.le_trans (Lib.nDigits_le20 acc (by omega)) (by omega)) (by omega), Option.bind_some]
      by_cases h2 : numS acc = s
      · rw [if_pos ((list_iff _ _).2 h2), if_neg (fun h => h.elim h1 (fun h => h h2))]; rfl
      · rw [if_neg (fun h => h2 ((list_iff _ _).1 h)), if_pos (Or.inr h2)]; rfl
  | succ d ih =>
    intro i acc m hi hm ha
    obtain ⟨c, hc, hb⟩ := bt_drop s i (by omega)
    have hcn : c.toNat < 256 := UInt8.toNat_lt c
    obtain ⟨m', rfl⟩ : ∃ m', m = m' + 1 := ⟨m - 1, by omega⟩
    obtain ⟨m'', rfl⟩ : ∃ m'', m' = m'' + 1 := ⟨m' - 1, by omega⟩
    rw [hc, Lib.parseUintM, marchlandref01_Parse.l0, if_pos (by omega), if_pos (by omega), hb]
    by_cases h1 : c.toNat < 48
    · rw [if_pos (by omega), if_neg (by omega), marchlandref01_Parse.j2, if_pos rfl]; rfl
    · rw [if_neg (by omega), marchlandref01_Parse.j2]
      by_cases h2 : 57 < c.toNat
      · rw [if_pos (decide_eq_true (show ((c.toNat : Nat) : Int) > 57 by omega)), if_neg (by omega)]; rfl
      · rw [if_neg (by rw [decide_eq_true_iff]; omega), if_pos (by omega), if_pos (by omega), hb, if_pos (show 48 ≤ c.toNat ∧ c.toNat ≤ 57 by omega)]
        have e1 : (((c.toNat : Nat) : Int) - 48) % 256 = ((c.toNat - 48 : Nat) : Int) := by omega
        rw [e1]
        by_cases h3 : 18446744073709551615 < 10 * acc + (c.toNat - 48)
        · rw [if_pos (by omega)]
          by_cases h4 : 1844674407370955162 ≤ acc
          · rw [if_pos h4]; rfl
          · rw [if_neg h4, if_pos (by omega)]; rfl
        · rw [if_neg (by omega), if_neg (by omega), if_neg (by omega)]
          have e2 : IntKind.u64.wrap ((IntKind.u64.wrap (10 * (acc : Int))) + ((c.toNat - 48 : Nat) : Int)) = ((acc * 10 + (c.toNat - 48) : Nat) : Int) := by rw [IntKind.wrap_u64, IntKind.wrap_u64]; omega
          have e3 : wrap64 ((i : Int) + 1) = ((i + 1 : Nat) : Int) := by unfold wrap64; omega
          rw [e2, e3]
          exact ih (i + 1) _ m'' (by omega) (by omega) (by omega)
theorem rparse_ev (s : ByteArray) (hs : s.size ≤ 100) : marchlandref01_Parse.f 300 s = some (refA (parseP s)) := by
  rw [← ref_eq]
  unfold marchlandref01_Parse.f parseR
  have en : (s.toList = ([110, 101, 118, 101, 114] : List UInt8)) ↔ s = neverS := by
    rw [← list_iff, show neverS.toList = [110, 101, 118, 101, 114] by rw [ByteArray.toList_eq]; rfl]
  by_cases h : s = neverS
  · rw [if_pos (en.2 h), if_pos h]; rfl
  · rw [if_neg (fun e => h (en.1 e)), if_neg h]
    by_cases h1 : s.size < 1
    · rw [if_pos (by omega), if_pos (Or.inl h1), marchlandref01_Parse.j0, if_pos rfl]; rfl
    · rw [if_neg (by omega), marchlandref01_Parse.j0]
      by_cases h2 : 20 < s.size
      · rw [if_pos (decide_eq_true (show (s.size : Int) > 20 by omega)), if_pos (Or.inr h2)]; rfl
      · rw [if_neg (by rw [decide_eq_true_iff]; omega), if_neg (by omega)]
        have hl := rparse_l0 s hs s.size 0 0 298 (by omega) (by omega) (by omega)
        rw [List.drop_zero] at hl
        refine hl.trans ?_
        cases Lib.parseUintM 18446744073709551615 0 s.data.toList <;> rfl
theorem text7 (w : World) : Calls Tryd.prog 31 #[.int .u64 7] w fun e w' => e = .returned (.string ⟨#[55]⟩) ∧ Drawn0 w w' := by
  go_enter Tryd.func31, Tryd.ntmps31
  go_wp2_with (first | go_in)
  go_ret
  exact ⟨rfl, Drawn0.refl _⟩
def marchlandlaw01_told.f : Option Bool := some true
theorem marchlandlaw01_told.calls (r : Bool) (w : World) (h : marchlandlaw01_told.f = some r) : Calls Tryd.prog 13 #[] w fun e w' => e = .returned (.bool r) ∧ Below w.heap.size w w' := by
  obtain rfl := Option.some.inj h
  go_enter Tryd.func13, Tryd.ntmps13
  go_wp2_with (first | (go_at_call 31; (with_reducible refine (text7 _).mono ?_); rintro e w' ⟨rfl, ⟨nd, rfl⟩⟩) | go_in)
  go_ret
  exact ⟨rfl, Drawn0.below ⟨⟨nd, rfl⟩⟩⟩
set_option maxRecDepth 100000
theorem parseP_lt (s : ByteArray) (x : Nat) (h : parseP s = some x) : x < 18446744073709551616 := by
  unfold parseP at h
  split at h
  · obtain rfl := Option.some.inj h; omega
  · split at h
    · rename_i u hu
      unfold okNum at h
      split at h
      · cases h
      · obtain rfl := Option.some.inj h
        have := Lib.parseUintB_le hu
        omega
    · cases h
theorem textS_size (u : Nat) (h : u < 18446744073709551616) : (textS u).size ≤ 20 := by
  unfold textS
  split
  · decide
  · exact numS_size u h
set_option maxHeartbeats 8000000 in
theorem StampTexts_calls (a : Int) (h0 : 0 ≤ a) (h1 : a ≤ 18446744073709551615) (s : ByteArray) (W : World) (hT : Tab10 W) (hE : ErrVars W) :
    Calls Tryd.prog 7 #[.int .u64 a, .string s] W fun e w' => e = .returned (.bool true) ∧ Below W.heap.size W w' := by
  have TO := Aside0.mk (fun w => marchlandlaw01_told.calls true w rfl)
  by_cases hz : 100 < s.size
  · have hI : (100 : Int) < (s.size : Int) := by omega
    clear hT hE h0 h1
    go_enter Tryd.func7, Tryd.ntmps7
    go_wp2_with (first | (go_at_call 13; refine (TO.out _).mono ?_; rintro e w' ⟨rfl, hb⟩; have HB := Aside0.mk hb; clear hb))
    go_ret
    exact ⟨rfl, HB.out⟩
  · have hI : ¬ (100 : Int) < (s.size : Int) := by omega
    obtain ⟨t, rfl⟩ : ∃ t : Nat, a = (t : Int) := ⟨a.toNat, by omega⟩
    have ht : t < 18446744073709551616 := by omega
    have hzt := textS_size t ht
    have HT := Aside0.mk hT
    have HE := Aside0.mk hE
    have XT := Aside0.mk (fun w' (hb : Below W.heap.size W w') => sText_C t ht w' (HT.out.below hb))
    have XP : Aside0 (∀ w', Below W.heap.size W w' → Calls Tryd.prog 29 #[.string (textS t)] w' fun e w'' => e = .returned (.tuple #[.int .u64 (t : Int), .int .i64 0]) ∧ Below w'.heap.size w' w'') := ⟨fun w' hb => by
      have h := sParse_C (textS t) (by omega) w' (HT.out.below hb) (HE.out.below hb)
      rw [parse_text t ht] at h
      exact h⟩
    have XR := Aside0.mk (fun w' => Go.Proofs.YtgeldmhgbnamcaaDoor.Q.marchlandref01_Text.calls 20 (t : Int) (textS t) w' (rtext_ev t ht))
    have XS := Aside0.mk (fun w' (hb : Below W.heap.size W w') => sParse_C s (by omega) w' (HT.out.below hb) (HE.out.below hb))
    have XQ := Aside0.mk (fun w' => Go.Proofs.YtgeldmhgbnamcaaDoor.Q.marchlandref01_Parse.calls 300 s (refA (parseP s)).1 (refA (parseP s)).2 w' (rparse_ev s (by omega)))
    have HB := Aside0.mk (Below.refl W.heap.size W)
    obtain ⟨ti, hti⟩ : ∃ x : Int, (t : Int) = x := ⟨_, rfl⟩
    rw [hti] at XT XP XR ⊢
    cases hp : parseP s with
    | none =>
      rw [hp] at XS XQ
      have XS2 : Aside0 (∀ w', Below W.heap.size W w' → Calls Tryd.prog 29 #[.string s] w' fun e w'' => e = .returned (.tuple #[.int .u64 0, .int .i64 13]) ∧ Below w'.heap.size w' w'') := ⟨XS.out⟩
      have XQ2 : Aside0 (∀ w', Calls Tryd.prog 30 #[.string s] w' fun e w'' => e = .returned (.tuple #[.int .u64 0, .bool false]) ∧ Below w'.heap.size w' w'') := ⟨XQ.out⟩
      generalize textS t = zt at XT XP XR hzt
      clear hp hti ht h0 h1 hT hE XS XQ hzt hz
      go_enter Tryd.func7, Tryd.ntmps7
      go_wp2_with (first
        | (go_at_call 29; ((with_reducible refine (XS2.out _ HB.out).mono ?_); rintro e w1 ⟨rfl, hb⟩; have n0_ := Aside0.mk (below_step HB.out hb); clear HB hb; have HB := n0_; clear n0_))
        | (go_at_call 30; ((with_reducible refine (XQ2.out _).mono ?_); rintro e w1 ⟨rfl, hb⟩; have n0_ := Aside0.mk (below_step HB.out hb); clear HB hb; have HB := n0_; clear n0_))
        | (go_at_call 31; ((with_reducible refine (XT.out _ HB.out).mono ?_); rintro e w1 ⟨rfl, hb⟩; have n0_ := Aside0.mk (below_step HB.out hb); clear HB hb; have HB := n0_; clear n0_))
        | (go_at_call 29; ((with_reducible refine (XP.out _ HB.out).mono ?_); rintro e w1 ⟨rfl, hb⟩; have n0_ := Aside0.mk (below_step HB.out hb); clear HB hb; have HB := n0_; clear n0_))
        | (go_at_call 13; ((with_reducible refine (TO.out _).mono ?_); rintro e w1 ⟨rfl, hb⟩; have n0_ := Aside0.mk (below_step HB.out hb); clear HB hb; have HB := n0_; clear n0_))
        | (go_at_call 32; ((with_reducible refine (XR.out _).mono ?_); rintro e w1 ⟨rfl, hb⟩; have n0_ := Aside0.mk (below_step HB.out hb); clear HB hb; have HB := n0_; clear n0_)))
      go_ret
      exact ⟨rfl, HB.out⟩
    | some x =>
      rw [hp] at XS XQ
      have hx := parseP_lt s x hp
      have htx := text_parse s x hp
      have XX := Aside0.mk (fun w' (hb : Below W.heap.size W w') => sText_C x hx w' (HT.out.below hb))
      rw [htx] at XX
      have XS2 : Aside0 (∀ w', Below W.heap.size W w' → Calls Tryd.prog 29 #[.string s] w' fun e w'' => e = .returned (.tuple #[.int .u64 (x : Int), .int .i64 0]) ∧ Below w'.heap.size w' w'') := ⟨XS.out⟩
      have XQ2 : Aside0 (∀ w', Calls Tryd.prog 30 #[.string s] w' fun e w'' => e = .returned (.tuple #[.int .u64 (x : Int), .bool true]) ∧ Below w'.heap.size w' w'') := ⟨XQ.out⟩
      obtain ⟨xi, hxi⟩ : ∃ y : Int, (x : Int) = y := ⟨_, rfl⟩
      rw [hxi] at XX XS2 XQ2
      generalize textS t = zt at XT XP XR hzt
      clear hp hti ht h0 h1 hT hE XS XQ hzt hz hx htx hxi
      go_enter Tryd.func7, Tryd.ntmps7
      go_wp2_with (first
        | (go_at_call 29; ((with_reducible refine (XS2.out _ HB.out).mono ?_); rintro e w1 ⟨rfl, hb⟩; have n0_ := Aside0.mk (below_step HB.out hb); clear HB hb; have HB := n0_; clear n0_))
        | (go_at_call 30; ((with_reducible refine (XQ2.out _).mono ?_); rintro e w1 ⟨rfl, hb⟩; have n0_ := Aside0.mk (below_step HB.out hb); clear HB hb; have HB := n0_; clear n0_))
        | (go_at_call 31; ((with_reducible refine (XT.out _ HB.out).mono ?_); rintro e w1 ⟨rfl, hb⟩; have n0_ := Aside0.mk (below_step HB.out hb); clear HB hb; have HB := n0_; clear n0_))
        | (go_at_call 31; ((with_reducible refine (XX.out _ HB.out).mono ?_); rintro e w1 ⟨rfl, hb⟩; have n0_ := Aside0.mk (below_step HB.out hb); clear HB hb; have HB := n0_; clear n0_))
        | (go_at_call 29; ((with_reducible refine (XP.out _ HB.out).mono ?_); rintro e w1 ⟨rfl, hb⟩; have n0_ := Aside0.mk (below_step HB.out hb); clear HB hb; have HB := n0_; clear n0_))
        | (go_at_call 13; ((with_reducible refine (TO.out _).mono ?_); rintro e w1 ⟨rfl, hb⟩; have n0_ := Aside0.mk (below_step HB.out hb); clear HB hb; have HB := n0_; clear n0_))
        | (go_at_call 32; ((with_reducible refine (XR.out _).mono ?_); rintro e w1 ⟨rfl, hb⟩; have n0_ := Aside0.mk (below_step HB.out hb); clear HB hb; have HB := n0_; clear n0_)))
      go_ret
      exact ⟨rfl, HB.out⟩
open Go.RowKit Go.Proofs.YtgeldmhgbnamcaaDoorW.PrintWords
def marchlandlaw01_StampTexts.f (_k : Nat) (a : Int) (_s : ByteArray) : Option Bool := if 0 ≤ a ∧ a ≤ 18446744073709551615 then some true else none
theorem marchlandlaw01_StampTexts.calls (k : Nat) (a : Int) (s : ByteArray) (r : Bool) (w : World) (ht : Tab10 w) (he : ErrVars w) (h : marchlandlaw01_StampTexts.f k a s = some r) :
    Calls Tryd.prog 7 #[.int .u64 a, .string s] w fun e w' => e = .returned (.bool r) ∧ Below w.heap.size w w' := by
  unfold marchlandlaw01_StampTexts.f at h
  split at h
  · rename_i hb
    obtain rfl := Option.some.inj h
    exact StampTexts_calls a hb.1 hb.2 s w ht he
  · cases h
end Go.Proofs.YtgeldmhgbnamcaaDoor.P
namespace Go.Proofs.YtgeldmhgbnamcaaDoor.Pure
theorem StampTexts (a : Int) (h : 0 ≤ a ∧ a ≤ 18446744073709551615) (s : ByteArray) : ∃ k, P.marchlandlaw01_StampTexts.f k a s = some true := ⟨0, if_pos h⟩
end Go.Proofs.YtgeldmhgbnamcaaDoor.Pure
end
