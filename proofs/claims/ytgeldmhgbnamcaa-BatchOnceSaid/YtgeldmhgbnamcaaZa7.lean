/- Walks and laws of several statements of this seat, joined into one text; no condition. -/
import Derived.Test.YtgeldmhgbnamcaaZa2
import Derived.Test.YtgeldmhgbnamcaaZa6
import Derived.Test.YtgeldmhgbnamcaaZa0
section
-- Printed by the session's own turn of the print (wip/tools/print2.sh): some callees are proved by hand.
namespace Go.Proofs.Ytgeldmhgbnamcaa.P
open Go.RowKit Go.Proofs.YtgeldmhgbnamcaaW.PrintWords Go.Proofs.YtgeldmhgbnamcaaW.PrintLast Go.Proofs.YtgeldmhgbnamcaaW.PrintMore
attribute [local go_sem] max2_int min2_int max_two min_two max_three min_three max_four min_four   -- for this text's walks alone
set_option linter.unusedVariables false
set_option linter.unusedSimpArgs false

/-! ### marchlandref03_sums: function 52 -/
mutual
def marchlandref03_sums.l0 : Nat → List (S40) → List (S40) → Int → Option ((List (S40)) × Bool)
 | 0, _, _, _ => none
 | k + 1, x0, x4, x5 => if x5 < (x0.length : Int) then (marchlandref03_sums.l1 k x0 x4 x5 (-1) 0) else (marchlandref03_sums.l3 k x4 ([] : List (S40)) 0)
def marchlandref03_sums.l1 : Nat → List (S40) → List (S40) → Int → Int → Int → Option ((List (S40)) × Bool)
 | 0, _, _, _, _, _ => none
 | k + 1, x0, x4, x5, x6, x7 => if x7 < (x4.length : Int) then (if 0 ≤ x7 then (if 0 ≤ x5 then (if x5 < (x0.length : Int) then (if ((rd_T40 x4 x7).f0) = ((rd_T40 x0 x5).f0) then (if ((rd_T40 x4 x7).f1) = ((rd_T40 x0 x5).f1) then (marchlandref03_sums.l1 k x0 x4 x5 x7 (wrap64 (x7 + 1))) else (marchlandref03_sums.l1 k x0 x4 x5 x6 (wrap64 (x7 + 1)))) else (marchlandref03_sums.l1 k x0 x4 x5 x6 (wrap64 (x7 + 1)))) else (none)) else (none)) else (none)) else (if x6 ≥ 0 then (if 0 ≤ x6 then (if x6 < (x4.length : Int) then (if 0 ≤ x5 then (if x5 < (x0.length : Int) then (marchlandref03_sums.l0 k x0 (x4.set (x6 : Int).toNat (⟨(rd_T40 x4 x6).f0, (rd_T40 x4 x6).f1, wrap64 (((rd_T40 x4 x6).f2) + ((rd_T40 x0 x5).f2))⟩ : S40)) (wrap64 (x5 + 1))) else (none)) else (none)) else (none)) else (none)) else (if 0 ≤ x5 then (if x5 < (x0.length : Int) then (if x4.length < 5864062014805 then ((some (x4 ++ [(⟨(rd_T40 x0 x5).f0, (rd_T40 x0 x5).f1, (rd_T40 x0 x5).f2⟩ : S40)] : List (S40))).bind fun y193 => (marchlandref03_sums.l2 k x0 y193 x5 (wrap64 ((y193.length : Int) - 1)))) else (none)) else (none)) else (none)))
def marchlandref03_sums.l2 : Nat → List (S40) → List (S40) → Int → Int → Option ((List (S40)) × Bool)
 | 0, _, _, _, _ => none
 | k + 1, x0, x4, x5, x8 => if x8 > 0 then (if 0 ≤ x8 then (if x8 < (x4.length : Int) then (if 0 ≤ (wrap64 (x8 - 1)) then (if (wrap64 (x8 - 1)) < (x4.length : Int) then ((marchlandref03_before.f ((rd_T40 x4 x8).f0) ((rd_T40 x4 x8).f1) ((rd_T40 x4 x8).f2) ((rd_T40 x4 (wrap64 (x8 - 1))).f0) ((rd_T40 x4 (wrap64 (x8 - 1))).f1) ((rd_T40 x4 (wrap64 (x8 - 1))).f2)).bind fun t198 => (if t198 = true then (marchlandref03_sums.l2 k x0 ((x4.set ((wrap64 (x8 - 1)) : Int).toNat (⟨(rd_T40 x4 x8).f0, (rd_T40 x4 x8).f1, (rd_T40 x4 x8).f2⟩ : S40)).set (x8 : Int).toNat (⟨(rd_T40 x4 (wrap64 (x8 - 1))).f0, (rd_T40 x4 (wrap64 (x8 - 1))).f1, (rd_T40 x4 (wrap64 (x8 - 1))).f2⟩ : S40)) x5 (wrap64 (x8 - 1))) else (marchlandref03_sums.l0 k x0 x4 (wrap64 (x5 + 1))))) else (none)) else (none)) else (none)) else (none)) else (marchlandref03_sums.l0 k x0 x4 (wrap64 (x5 + 1)))
def marchlandref03_sums.l3 : Nat → List (S40) → List (S40) → Int → Option ((List (S40)) × Bool)
 | 0, _, _, _ => none
 | k + 1, x4, x9, x10 => if x10 < (x4.length : Int) then (if 0 ≤ x10 then ((marchlandref03_within.f ((rd_T40 x4 x10).f2)).bind fun t204 => (if t204 = true then (if ((rd_T40 x4 x10).f2) = 0 then (marchlandref03_sums.l3 k x4 x9 (wrap64 (x10 + 1))) else (if x9.length < 5864062014805 then (marchlandref03_sums.l3 k x4 (x9 ++ [(⟨(rd_T40 x4 x10).f0, (rd_T40 x4 x10).f1, (rd_T40 x4 x10).f2⟩ : S40)]) (wrap64 (x10 + 1))) else (none))) else (some (([] : List (S40)), false)))) else (none)) else (some (x9, true))
end
def marchlandref03_sums.f (k : Nat) (l0 : List (S40)) : Option ((List (S40)) × Bool) := marchlandref03_sums.l0 k l0 ([] : List (S40)) 0
theorem marchlandref03_sums.mono_l : ∀ k, (∀ y0 y1 y2, LeO (marchlandref03_sums.l0 k y0 y1 y2) (marchlandref03_sums.l0 (k + 1) y0 y1 y2)) ∧ (∀ y0 y1 y2 y3 y4, LeO (marchlandref03_sums.l1 k y0 y1 y2 y3 y4) (marchlandref03_sums.l1 (k + 1) y0 y1 y2 y3 y4)) ∧ (∀ y0 y1 y2 y3, LeO (marchlandref03_sums.l2 k y0 y1 y2 y3) (marchlandref03_sums.l2 (k + 1) y0 y1 y2 y3)) ∧ (∀ y0 y1 y2, LeO (marchlandref03_sums.l3 k y0 y1 y2) (marchlandref03_sums.l3 (k + 1) y0 y1 y2))
 | 0 => ⟨fun _ _ _ r h => by simp [marchlandref03_sums.l0] at h, fun _ _ _ _ _ r h => by simp [marchlandref03_sums.l1] at h, fun _ _ _ _ r h => by simp [marchlandref03_sums.l2] at h, fun _ _ _ r h => by simp [marchlandref03_sums.l3] at h⟩
 | k + 1 => by
  obtain ⟨ih0, ih1, ih2, ih3⟩ := marchlandref03_sums.mono_l k
  refine ⟨?_, ?_, ?_, ?_⟩
  ·intro y0 y1 y2
   unfold marchlandref03_sums.l0
   repeat' first
   | (with_reducible exact ih0 _ _ _)
   | (with_reducible exact ih1 _ _ _ _ _)
   | (with_reducible exact ih2 _ _ _ _)
   | (with_reducible exact ih3 _ _ _)
   | (with_reducible exact LeO.refl _)
   | (with_reducible exact LeO.none _)
   | (with_reducible refine LeO.ite ?_ ?_)
   | (with_reducible refine LeO.bind ?_ (fun _ => ?_))
   | exact ih0 _ _ _
   | exact ih1 _ _ _ _ _
   | exact ih2 _ _ _ _
   | exact ih3 _ _ _
   | exact LeO.none _
   | refine LeO.ite ?_ ?_
   | refine LeO.bind ?_ (fun _ => ?_)
  ·intro y0 y1 y2 y3 y4
   unfold marchlandref03_sums.l1
   repeat' first
   | (with_reducible exact ih0 _ _ _)
   | (with_reducible exact ih1 _ _ _ _ _)
   | (with_reducible exact ih2 _ _ _ _)
   | (with_reducible exact ih3 _ _ _)
   | (with_reducible exact LeO.refl _)
   | (with_reducible exact LeO.none _)
   | (with_reducible refine LeO.ite ?_ ?_)
   | (with_reducible refine LeO.bind ?_ (fun _ => ?_))
   | exact ih0 _ _ _
   | exact ih1 _ _ _ _ _
   | exact ih2 _ _ _ _
   | exact ih3 _ _ _
   | exact LeO.none _
   | refine LeO.ite ?_ ?_
   | refine LeO.bind ?_ (fun _ => ?_)
  ·intro y0 y1 y2 y3
   unfold marchlandref03_sums.l2
   repeat' first
   | (with_reducible exact ih0 _ _ _)
   | (with_reducible exact ih1 _ _ _ _ _)
   | (with_reducible exact ih2 _ _ _ _)
   | (with_reducible exact ih3 _ _ _)
   | (with_reducible exact LeO.refl _)
   | (with_reducible exact LeO.none _)
   | (with_reducible refine LeO.ite ?_ ?_)
   | (with_reducible refine LeO.bind ?_ (fun _ => ?_))
   | exact ih0 _ _ _
   | exact ih1 _ _ _ _ _
   | exact ih2 _ _ _ _
   | exact ih3 _ _ _
   | exact LeO.none _
   | refine LeO.ite ?_ ?_
   | refine LeO.bind ?_ (fun _ => ?_)
  ·intro y0 y1 y2
   unfold marchlandref03_sums.l3
   repeat' first
   | (with_reducible exact ih0 _ _ _)
   | (with_reducible exact ih1 _ _ _ _ _)
   | (with_reducible exact ih2 _ _ _ _)
   | (with_reducible exact ih3 _ _ _)
   | (with_reducible exact LeO.refl _)
   | (with_reducible exact LeO.none _)
   | (with_reducible refine LeO.ite ?_ ?_)
   | (with_reducible refine LeO.bind ?_ (fun _ => ?_))
   | exact ih0 _ _ _
   | exact ih1 _ _ _ _ _
   | exact ih2 _ _ _ _
   | exact ih3 _ _ _
   | exact LeO.none _
   | refine LeO.ite ?_ ?_
   | refine LeO.bind ?_ (fun _ => ?_)
theorem marchlandref03_sums.mono : ∀ a0 k, LeO (marchlandref03_sums.f k a0) (marchlandref03_sums.f (k + 1) a0) := by
 intro a0 k
 obtain ⟨ih0, ih1, ih2, ih3⟩ := marchlandref03_sums.mono_l k
 unfold marchlandref03_sums.f
 repeat' first
   | (with_reducible exact ih0 _ _ _)
   | (with_reducible exact ih1 _ _ _ _ _)
   | (with_reducible exact ih2 _ _ _ _)
   | (with_reducible exact ih3 _ _ _)
   | (with_reducible exact LeO.refl _)
   | (with_reducible exact LeO.none _)
   | (with_reducible refine LeO.ite ?_ ?_)
   | (with_reducible refine LeO.bind ?_ (fun _ => ?_))
   | exact ih0 _ _ _
   | exact ih1 _ _ _ _ _
   | exact ih2 _ _ _ _
   | exact ih3 _ _ _
   | exact LeO.none _
   | refine LeO.ite ?_ ?_
   | refine LeO.bind ?_ (fun _ => ?_)
def marchlandref03_sums.T9 : Bool × List (List Nat × List Nat) := (true, [([], []), ([], []), ([0, 1], [0, 1]), ([2], [2]), ([3], [3]), ([], []), ([], []), ([5, 6], [5, 6]), ([7], [7]), ([8], [8]), ([4, 9], [4, 9]), ([10], [10]), ([11], [11]), ([11], [11]), ([12, 13, 11], [11, 12, 13]), ([14, 11], [11, 14]), ([15, 11], [11, 15]), ([11], [11]), ([11], [11]), ([17, 18, 11], [11, 17, 18]), ([19, 11], [11, 19]), ([20, 11], [11, 20]), ([16, 21, 11], [11, 16, 21]), ([11, 22], [11, 22])])
def marchlandref03_sums.B9 : List Nat := [0, 0, 3, 7, 15, 0, 0, 96, 224, 480, 1023, 2047, 4095, 4095, 16383, 32767, 65535, 4095, 4095, 397311, 921599, 1970175, 4194303, 8388607]
theorem marchlandref03_sums.tab9 : rtab .any (opsOf Try.f52 9) = marchlandref03_sums.T9 := by kernel_rfl
theorem marchlandref03_sums.bits9 : waitsOk marchlandref03_sums.T9.2 marchlandref03_sums.B9 = true := by kernel_rfl
def marchlandref03_sums.T12 : Bool × List (List Nat × List Nat) := (true, [([], []), ([], []), ([], []), ([], []), ([2, 3], [2, 3]), ([4], [4]), ([5], [5]), ([], []), ([], []), ([7, 8], [7, 8]), ([9], [9]), ([10], [10]), ([6, 11], [6, 11]), ([0, 1, 0, 1, 2, 3, 4, 5, 6, 7, 8, 9, 10, 11, 12], [0, 1]), ([13, 0, 1, 2, 3, 4, 5, 6, 7, 8, 9, 10, 11, 12], [13]), ([14, 12, 0, 1, 2, 3, 4, 5, 6, 7, 8, 9, 10, 11, 12], [12, 14])])
def marchlandref03_sums.B12 : List Nat := [0, 0, 0, 0, 12, 28, 60, 0, 0, 384, 896, 1920, 4092, 8191, 16383, 32767]
theorem marchlandref03_sums.tab12 : rtab .any (opsOf Try.f52 12) = marchlandref03_sums.T12 := by kernel_rfl
theorem marchlandref03_sums.bits12 : waitsOk marchlandref03_sums.T12.2 marchlandref03_sums.B12 = true := by kernel_rfl
def marchlandref03_sums.T15 : Bool × List (List Nat × List Nat) := (true, [([], []), ([0], [0]), ([1], [1]), ([2], [2]), ([2], [2]), ([3, 4, 2], [2, 3, 4]), ([5, 2], [2, 5]), ([2], [2]), ([2], [2]), ([8, 2], [2, 8]), ([7, 9, 2], [2, 7, 9]), ([10, 2], [2, 10]), ([6, 11, 2, 2], [2, 6, 11]), ([2, 12], [2, 12])])
def marchlandref03_sums.B15 : List Nat := [0, 1, 3, 7, 7, 31, 63, 7, 7, 263, 903, 1927, 4095, 8191]
theorem marchlandref03_sums.tab15 : rtab .any (opsOf Try.f52 15) = marchlandref03_sums.T15 := by kernel_rfl
theorem marchlandref03_sums.bits15 : waitsOk marchlandref03_sums.T15.2 marchlandref03_sums.B15 = true := by kernel_rfl
def marchlandref03_sums.T17 : Bool × List (List Nat × List Nat) := (true, [([], []), ([], []), ([1], [1]), ([], []), ([], []), ([], []), ([], []), ([5, 6], [5, 6]), ([7], [7]), ([], []), ([], []), ([10], [10]), ([9, 11], [9, 11]), ([12], [12]), ([0, 2, 0, 1, 2, 5, 6, 7, 8, 13], [0, 2]), ([14, 8, 0, 1, 2, 5, 6, 7, 8, 13], [8, 14]), ([3, 4, 0, 1, 2, 3, 4, 5, 6, 7, 8, 9, 10, 11, 12, 13, 14, 15], [3, 4]), ([16, 13, 15, 0, 1, 2, 3, 4, 5, 6, 7, 8, 9, 10, 11, 12, 13, 14, 15], [13, 16])])
def marchlandref03_sums.B17 : List Nat := [0, 0, 2, 0, 0, 0, 0, 96, 224, 0, 0, 1024, 3584, 7680, 16359, 32743, 65535, 131071]
theorem marchlandref03_sums.tab17 : rtab .any (opsOf Try.f52 17) = marchlandref03_sums.T17 := by kernel_rfl
theorem marchlandref03_sums.bits17 : waitsOk marchlandref03_sums.T17.2 marchlandref03_sums.B17 = true := by kernel_rfl
set_option maxHeartbeats 8000000 in
set_option maxRecDepth 100000 in
theorem marchlandref03_sums.calls (k : Nat) (A0 : Option Addr) (c0 : Nat) (l0 : List (S40)) (r1 : List (S40)) (r2 : Bool) (w : World) (hr0 : Kd.C k40 w A0 l0.length l0) (hc0 : l0.length ≤ c0) (h : marchlandref03_sums.f k l0 = some (r1, r2)) :
  Calls Try.prog 52 #[.slice A0 l0.length c0] w fun e w' => ∃ v0_ : Value, e = .returned (.tuple #[v0_, .bool r2]) ∧ Kd.R k40 40 w' w.heap.size (fun _ => True) v0_ r1 ∧ Below w.heap.size w w' := by
 have hu40 := Try.underlying40
 have HR0 := Aside0.mk hr0
 have HC0 := Aside0.mk hc0
 clear hr0 hc0
 have HB := Aside0.mk (Below.refl w.heap.size w)
 have H : (marchlandref03_sums.l0 k l0 ([] : List (S40)) 0) = some (r1, r2) := h
 clear h
 have H' := Aside0.mk H
 clear H
 go_enter Try.func52, Try.ntmps52
 go_wp2
 go_loopg [4, 5] k (fun kq v4 v5 w' => ∃ (x4_1 : List (S40)) (x5_1 : Int), v5 = .int .i64 x5_1 ∧ Aside0 (marchlandref03_sums.l0 kq l0 x4_1 x5_1 = some (r1, r2)) ∧ Aside0 (kq ≤ k) ∧ Aside0 (Kd.R k40 40 w' w.heap.size (fun _ => True) v4 x4_1) ∧ Aside0 (Below w.heap.size w w'))
 case atStart => exact ⟨(([] : List (S40))), (0), (by first | rfl | (simp; done) | (simp [*]; done)), H', ⟨Nat.le_refl _⟩, ⟨by first | exact Kd.R_nil _ _ _ _ _ | exact Kd.N_nil _ _ _ _ _ | exact Kd.V_nil _ _ _ _ _ | exact Kd.Q_nil _ _ _ _ _ | exact Kd.S_nil _ _ _ _ _⟩, ⟨by repeat (first | (with_reducible first | exact HB.out | apply below_alloc | apply pw_below_drewN | apply below_drew1) | exact HB.out)⟩⟩
 case round =>
  clear H'
  obtain ⟨x4_1, x5_1, rfl, HA, HK1, HO_4, HB⟩ := hrel
  cases gk with
  | zero => exact absurd HA.out (by simp [marchlandref03_sums.l0])
  | succ k1 =>
   have H := HA.out
   clear HA
   simp only [marchlandref03_sums.l0] at H
   by_cases c2 : x5_1 < (l0.length : Int)
   ·rw [if_pos c2] at H
    have c2b0 : decide (x5_1 < (l0.length : Int)) = true := decide_eq_true c2
    clear c2
    have H' := Aside0.mk H
    clear H
    go_wp2
    go_loopg [6, 7] k1 (fun kq v6 v7 w' => ∃ (x6_2 : Int) (x7_2 : Int), v6 = .int .i64 x6_2 ∧ v7 = .int .i64 x7_2 ∧ Aside0 (marchlandref03_sums.l1 kq l0 x4_1 x5_1 x6_2 x7_2 = some (r1, r2)) ∧ Aside0 (kq ≤ k1) ∧ Aside0 (Kd.R k40 40 w' w.heap.size (fun _ => True) u4 x4_1) ∧ Aside0 (Below w.heap.size w w'))
    case atStart => exact ⟨((-1)), (0), (by first | rfl | (simp; done) | (simp [*]; done)), (by first | rfl | (simp; done) | (simp [*]; done)), H', ⟨Nat.le_refl _⟩, ⟨by (with_reducible repeat (first | apply Kd.R_alloc | apply Kd.R_drewN | apply Kd.R_drew)); exact HO_4.out⟩, ⟨by repeat (first | (with_reducible first | exact HB.out | apply below_alloc | apply pw_below_drewN | apply below_drew1) | exact HB.out)⟩⟩
    case round =>
     clear H'
     try clear c2
     try clear c2b0
     try clear p2
     obtain ⟨x6_2, x7_2, rfl, rfl, HA, HK2, HO_4, HB⟩ := hrel
     cases gk with
     | zero => exact absurd HA.out (by simp [marchlandref03_sums.l1])
     | succ k2 =>
      have H := HA.out
      clear HA
      simp only [marchlandref03_sums.l1] at H
      by_cases c3 : x7_2 < (x4_1.length : Int)
      ·rw [if_pos c3] at H
       have c3b0 : decide (x7_2 < (x4_1.length : Int)) = true := decide_eq_true c3
       clear c3
       by_cases c4 : 0 ≤ x7_2
       ·rw [if_pos c4] at H
        have c4b0 : decide (0 ≤ x7_2) = true := decide_eq_true c4
        clear c4
        by_cases c5 : 0 ≤ x5_1
        ·rw [if_pos c5] at H
         have c5b0 : decide (0 ≤ x5_1) = true := decide_eq_true c5
         clear c5
         by_cases c6 : x5_1 < (l0.length : Int)
         ·rw [if_pos c6] at H
          have c6b0 : decide (x5_1 < (l0.length : Int)) = true := decide_eq_true c6
          clear c6
          by_cases c7 : ((rd_T40 x4_1 x7_2).f0) = ((rd_T40 l0 x5_1).f0)
          ·rw [if_pos c7] at H
           have c7b0 : (((rd_T40 x4_1 x7_2).f0) == ((rd_T40 l0 x5_1).f0)) = true := beq_iff_eq.mpr c7
           have c7b1 : (((rd_T40 x4_1 x7_2).f0) != ((rd_T40 l0 x5_1).f0)) = false := bne_eq_false_iff_eq.mpr c7
           clear c7
           by_cases c8 : ((rd_T40 x4_1 x7_2).f1) = ((rd_T40 l0 x5_1).f1)
           ·rw [if_pos c8] at H
            have c8b0 : (((rd_T40 x4_1 x7_2).f1) == ((rd_T40 l0 x5_1).f1)) = true := beq_iff_eq.mpr c8
            have c8b1 : (((rd_T40 x4_1 x7_2).f1) != ((rd_T40 l0 x5_1).f1)) = false := bne_eq_false_iff_eq.mpr c8
            clear c8
            have H' := Aside0.mk H
            clear H
            obtain ⟨Ao9, co9, eo9⟩ := Kd.R_slice HO_4.out
            subst eo9
            try go_wp2
            have n0_ := Aside0.mk (Kd.R_drew HO_4.out)
            have n1_ := Aside0.mk (below_drew1 HB.out)
            clear HO_4
            clear HB
            have HO_4 := n0_
            have HB := n1_
            clear n0_ n1_
            have p185 : 0 ≤ (x7_2 : Int) := of_decide_eq_true (by first | (with_reducible assumption) | assumption)
            have q185 : x7_2 < (x4_1.length : Int) := of_decide_eq_true (by first | (with_reducible assumption) | assumption)
            obtain ⟨ad185, e185, hx185_0, hx185_1, hx185_2⟩ := at_T40 (Kd.R_reads' HO_4.out).2.2 x7_2 p185 q185
            cases e185
            replace p185 := eq_true p185
            replace q185 := eq_true q185
            have p186 : 0 ≤ (x5_1 : Int) := of_decide_eq_true (by first | (with_reducible assumption) | assumption)
            have q186 : x5_1 < (l0.length : Int) := of_decide_eq_true (by first | (with_reducible assumption) | assumption)
            obtain ⟨ad186, e186, hx186_0, hx186_1, hx186_2⟩ := at_T40 HR0.out x5_1 p186 q186
            have hw186_2 := hx186_2
            have hw186_1 := hx186_1
            have hw186_0 := hx186_0
            cases e186
            replace hx186_0 := (HB.out.cell (World.block_lt_of_cell? w _ hx186_0)).trans hx186_0
            replace hx186_1 := (HB.out.cell (World.block_lt_of_cell? w _ hx186_1)).trans hx186_1
            replace hx186_2 := (HB.out.cell (World.block_lt_of_cell? w _ hx186_2)).trans hx186_2
            replace p186 := eq_true p186
            replace q186 := eq_true q186
            have p187 : 0 ≤ (x7_2 : Int) := of_decide_eq_true (by first | (with_reducible assumption) | assumption)
            have q187 : x7_2 < (x4_1.length : Int) := of_decide_eq_true (by first | (with_reducible assumption) | assumption)
            obtain ⟨ad187, e187, hx187_0, hx187_1, hx187_2⟩ := at_T40 (Kd.R_reads' HO_4.out).2.2 x7_2 p187 q187
            obtain rfl : ad185 = ad187 := (by injection e187)
            replace p187 := eq_true p187
            replace q187 := eq_true q187
            have p188 : 0 ≤ (x5_1 : Int) := of_decide_eq_true (by first | (with_reducible assumption) | assumption)
            have q188 : x5_1 < (l0.length : Int) := of_decide_eq_true (by first | (with_reducible assumption) | assumption)
            obtain ⟨ad188, e188, hx188_0, hx188_1, hx188_2⟩ := at_T40 HR0.out x5_1 p188 q188
            have hw188_2 := hx188_2
            have hw188_1 := hx188_1
            have hw188_0 := hx188_0
            obtain rfl : ad186 = ad188 := (by injection e188)
            replace hx188_0 := (HB.out.cell (World.block_lt_of_cell? w _ hx188_0)).trans hx188_0
            replace hx188_1 := (HB.out.cell (World.block_lt_of_cell? w _ hx188_1)).trans hx188_1
            replace hx188_2 := (HB.out.cell (World.block_lt_of_cell? w _ hx188_2)).trans hx188_2
            replace p188 := eq_true p188
            replace q188 := eq_true q188
            refine start_ (n := 24) (S := fun w' => w'.cell? (ad185.add ((x7_2).toNat * 3)) = some (.int .i64 ((rd_T40 x4_1 x7_2).f0)) ∧ w'.cell? ⟨(ad185.add ((x7_2).toNat * 3)).block, (ad185.add ((x7_2).toNat * 3)).off + 1, none⟩ = some (.int .u64 ((rd_T40 x4_1 x7_2).f1)) ∧ w'.cell? ⟨(ad185.add ((x7_2).toNat * 3)).block, (ad185.add ((x7_2).toNat * 3)).off + 2, none⟩ = some (.int .i64 ((rd_T40 x4_1 x7_2).f2)) ∧ w'.cell? (ad186.add ((x5_1).toNat * 3)) = some (.int .i64 ((rd_T40 l0 x5_1).f0)) ∧ w'.cell? ⟨(ad186.add ((x5_1).toNat * 3)).block, (ad186.add ((x5_1).toNat * 3)).off + 1, none⟩ = some (.int .u64 ((rd_T40 l0 x5_1).f1)) ∧ w'.cell? ⟨(ad186.add ((x5_1).toNat * 3)).block, (ad186.add ((x5_1).toNat * 3)).off + 2, none⟩ = some (.int .i64 ((rd_T40 l0 x5_1).f2)) ∧ w'.cell? (ad185.add ((x7_2).toNat * 3)) = some (.int .i64 ((rd_T40 x4_1 x7_2).f0)) ∧ w'.cell? ⟨(ad185.add ((x7_2).toNat * 3)).block, (ad185.add ((x7_2).toNat * 3)).off + 1, none⟩ = some (.int .u64 ((rd_T40 x4_1 x7_2).f1)) ∧ w'.cell? ⟨(ad185.add ((x7_2).toNat * 3)).block, (ad185.add ((x7_2).toNat * 3)).off + 2, none⟩ = some (.int .i64 ((rd_T40 x4_1 x7_2).f2)) ∧ w'.cell? (ad186.add ((x5_1).toNat * 3)) = some (.int .i64 ((rd_T40 l0 x5_1).f0)) ∧ w'.cell? ⟨(ad186.add ((x5_1).toNat * 3)).block, (ad186.add ((x5_1).toNat * 3)).off + 1, none⟩ = some (.int .u64 ((rd_T40 l0 x5_1).f1)) ∧ w'.cell? ⟨(ad186.add ((x5_1).toNat * 3)).block, (ad186.add ((x5_1).toNat * 3)).off + 2, none⟩ = some (.int .i64 ((rd_T40 l0 x5_1).f2))) (ds := []) (mk_ 0 24) (by kernel_rfl) rfl rfl ⟨hx185_0, hx185_1, hx185_2, ((HB.out.cell (World.block_lt_of_cell? w _ hw186_0)).trans hw186_0), ((HB.out.cell (World.block_lt_of_cell? w _ hw186_1)).trans hw186_1), ((HB.out.cell (World.block_lt_of_cell? w _ hw186_2)).trans hw186_2), hx187_0, hx187_1, hx187_2, ((HB.out.cell (World.block_lt_of_cell? w _ hw188_0)).trans hw188_0), ((HB.out.cell (World.block_lt_of_cell? w _ hw188_1)).trans hw188_1), ((HB.out.cell (World.block_lt_of_cell? w _ hw188_2)).trans hw188_2)⟩ (fun hHeld => ?_); refine with_tabW marchlandref03_sums.tab9 marchlandref03_sums.bits9 (fun HT_ HW_ => ?_)
            generalize wr.drew = w10 at HO_4 HB hx185_0 hx185_1 hx185_2 hx186_0 hx186_1 hx186_2 hx187_0 hx187_1 hx187_2 hx188_0 hx188_1 hx188_2 hHeld ⊢
            refine pv_ 0 23 (mk_ 1 23) HT_ ?_
            refine pv_ 1 24 (mk_ 2 22) HT_ ?_
            refine pv_ 2 25 (mk_ 3 21) HT_ ?_
            refine pv_ 3 26 (mk_ 4 20) HT_ ?_
            refine pv_ 5 28 #[true, true, true, true, false, true, false, false, false, false, false, false, false, false, false, false, false, false, false, false, false, false, false, false] HT_ ?_
            refine pv_ 6 29 #[true, true, true, true, false, true, true, false, false, false, false, false, false, false, false, false, false, false, false, false, false, false, false, false] HT_ ?_
            refine pv_ 7 30 #[true, true, true, true, false, true, true, true, false, false, false, false, false, false, false, false, false, false, false, false, false, false, false, false] HT_ ?_
            refine pv_ 8 31 #[true, true, true, true, false, true, true, true, true, false, false, false, false, false, false, false, false, false, false, false, false, false, false, false] HT_ ?_
            refine tv_ 4 27 (mk_ 9 15) HT_ HW_ hHeld (hy := by rintro w' ⟨s0, s1, s2, s3, s4, s5, s6, s7, s8, s9, s10, s11⟩; go_simp; with_reducible rfl) (h := ?_)
            refine tv_ 9 32 (mk_ 10 14) HT_ HW_ hHeld (hy := by rintro w' ⟨s0, s1, s2, s3, s4, s5, s6, s7, s8, s9, s10, s11⟩; go_simp; with_reducible rfl) (h := ?_)
            refine pv_ 10 33 (mk_ 11 13) HT_ ?_
            refine pv_ 11 34 (mk_ 12 12) HT_ ?_
            refine pv_ 12 35 (mk_ 13 11) HT_ ?_
            refine pv_ 13 36 (mk_ 14 10) HT_ ?_
            refine pv_ 14 37 (mk_ 15 9) HT_ ?_
            refine pv_ 15 38 (mk_ 16 8) HT_ ?_
            refine pv_ 17 40 #[true, true, true, true, true, true, true, true, true, true, true, true, true, true, true, true, false, true, false, false, false, false, false, false] HT_ ?_
            refine pv_ 18 41 #[true, true, true, true, true, true, true, true, true, true, true, true, true, true, true, true, false, true, true, false, false, false, false, false] HT_ ?_
            refine pv_ 19 42 #[true, true, true, true, true, true, true, true, true, true, true, true, true, true, true, true, false, true, true, true, false, false, false, false] HT_ ?_
            refine pv_ 20 43 #[true, true, true, true, true, true, true, true, true, true, true, true, true, true, true, true, false, true, true, true, true, false, false, false] HT_ ?_
            refine tv_ 16 39 (mk_ 21 3) HT_ HW_ hHeld (hy := by rintro w' ⟨s0, s1, s2, s3, s4, s5, s6, s7, s8, s9, s10, s11⟩; go_simp; with_reducible rfl) (h := ?_)
            refine tv_ 21 44 (mk_ 22 2) HT_ HW_ hHeld (hy := by rintro w' ⟨s0, s1, s2, s3, s4, s5, s6, s7, s8, s9, s10, s11⟩; go_simp; with_reducible rfl) (h := ?_)
            refine pv_ 22 45 (mk_ 23 1) HT_ ?_
            refine pv_ 23 46 (mk_ 24 0) HT_ ?_
            refine done_ (done_of HT_.out (by kernel_rfl)) ?_
            try go_wp2
            go_roundg k2
            case measure => have := HK1.out; have := HK2.out; omega
            case rel => exact ⟨(x7_2), (wrap64 (x7_2 + 1)), (by first | rfl | (simp; done) | (simp [*]; done)), (by first | rfl | (simp; done) | (simp [*]; done)), H', ⟨by have := HK1.out; have := HK2.out; omega⟩, ⟨by (with_reducible repeat (first | apply Kd.R_alloc | apply Kd.R_drewN | apply Kd.R_drew)); exact HO_4.out⟩, ⟨by repeat (first | (with_reducible first | exact HB.out | apply below_alloc | apply pw_below_drewN | apply below_drew1) | exact HB.out)⟩⟩
           ·rw [if_neg c8] at H
            have c8b0 : (((rd_T40 x4_1 x7_2).f1) == ((rd_T40 l0 x5_1).f1)) = false := beq_eq_false_iff_ne.mpr c8
            have c8b1 : (((rd_T40 x4_1 x7_2).f1) != ((rd_T40 l0 x5_1).f1)) = true := bne_iff_ne.mpr c8
            have H' := Aside0.mk H
            clear H
            obtain ⟨Ao11, co11, eo11⟩ := Kd.R_slice HO_4.out
            subst eo11
            try go_wp2
            have n0_ := Aside0.mk (Kd.R_drew HO_4.out)
            have n1_ := Aside0.mk (below_drew1 HB.out)
            clear HO_4
            clear HB
            have HO_4 := n0_
            have HB := n1_
            clear n0_ n1_
            have p185 : 0 ≤ (x7_2 : Int) := of_decide_eq_true (by first | (with_reducible assumption) | assumption)
            have q185 : x7_2 < (x4_1.length : Int) := of_decide_eq_true (by first | (with_reducible assumption) | assumption)
            obtain ⟨ad185, e185, hx185_0, hx185_1, hx185_2⟩ := at_T40 (Kd.R_reads' HO_4.out).2.2 x7_2 p185 q185
            cases e185
            replace p185 := eq_true p185
            replace q185 := eq_true q185
            have p186 : 0 ≤ (x5_1 : Int) := of_decide_eq_true (by first | (with_reducible assumption) | assumption)
            have q186 : x5_1 < (l0.length : Int) := of_decide_eq_true (by first | (with_reducible assumption) | assumption)
            obtain ⟨ad186, e186, hx186_0, hx186_1, hx186_2⟩ := at_T40 HR0.out x5_1 p186 q186
            have hw186_2 := hx186_2
            have hw186_1 := hx186_1
            have hw186_0 := hx186_0
            cases e186
            replace hx186_0 := (HB.out.cell (World.block_lt_of_cell? w _ hx186_0)).trans hx186_0
            replace hx186_1 := (HB.out.cell (World.block_lt_of_cell? w _ hx186_1)).trans hx186_1
            replace hx186_2 := (HB.out.cell (World.block_lt_of_cell? w _ hx186_2)).trans hx186_2
            replace p186 := eq_true p186
            replace q186 := eq_true q186
            have p187 : 0 ≤ (x7_2 : Int) := of_decide_eq_true (by first | (with_reducible assumption) | assumption)
            have q187 : x7_2 < (x4_1.length : Int) := of_decide_eq_true (by first | (with_reducible assumption) | assumption)
            obtain ⟨ad187, e187, hx187_0, hx187_1, hx187_2⟩ := at_T40 (Kd.R_reads' HO_4.out).2.2 x7_2 p187 q187
            obtain rfl : ad185 = ad187 := (by injection e187)
            replace p187 := eq_true p187
            replace q187 := eq_true q187
            have p188 : 0 ≤ (x5_1 : Int) := of_decide_eq_true (by first | (with_reducible assumption) | assumption)
            have q188 : x5_1 < (l0.length : Int) := of_decide_eq_true (by first | (with_reducible assumption) | assumption)
            obtain ⟨ad188, e188, hx188_0, hx188_1, hx188_2⟩ := at_T40 HR0.out x5_1 p188 q188
            have hw188_2 := hx188_2
            have hw188_1 := hx188_1
            have hw188_0 := hx188_0
            obtain rfl : ad186 = ad188 := (by injection e188)
            replace hx188_0 := (HB.out.cell (World.block_lt_of_cell? w _ hx188_0)).trans hx188_0
            replace hx188_1 := (HB.out.cell (World.block_lt_of_cell? w _ hx188_1)).trans hx188_1
            replace hx188_2 := (HB.out.cell (World.block_lt_of_cell? w _ hx188_2)).trans hx188_2
            replace p188 := eq_true p188
            replace q188 := eq_true q188
            refine start_ (n := 24) (S := fun w' => w'.cell? (ad185.add ((x7_2).toNat * 3)) = some (.int .i64 ((rd_T40 x4_1 x7_2).f0)) ∧ w'.cell? ⟨(ad185.add ((x7_2).toNat * 3)).block, (ad185.add ((x7_2).toNat * 3)).off + 1, none⟩ = some (.int .u64 ((rd_T40 x4_1 x7_2).f1)) ∧ w'.cell? ⟨(ad185.add ((x7_2).toNat * 3)).block, (ad185.add ((x7_2).toNat * 3)).off + 2, none⟩ = some (.int .i64 ((rd_T40 x4_1 x7_2).f2)) ∧ w'.cell? (ad186.add ((x5_1).toNat * 3)) = some (.int .i64 ((rd_T40 l0 x5_1).f0)) ∧ w'.cell? ⟨(ad186.add ((x5_1).toNat * 3)).block, (ad186.add ((x5_1).toNat * 3)).off + 1, none⟩ = some (.int .u64 ((rd_T40 l0 x5_1).f1)) ∧ w'.cell? ⟨(ad186.add ((x5_1).toNat * 3)).block, (ad186.add ((x5_1).toNat * 3)).off + 2, none⟩ = some (.int .i64 ((rd_T40 l0 x5_1).f2)) ∧ w'.cell? (ad185.add ((x7_2).toNat * 3)) = some (.int .i64 ((rd_T40 x4_1 x7_2).f0)) ∧ w'.cell? ⟨(ad185.add ((x7_2).toNat * 3)).block, (ad185.add ((x7_2).toNat * 3)).off + 1, none⟩ = some (.int .u64 ((rd_T40 x4_1 x7_2).f1)) ∧ w'.cell? ⟨(ad185.add ((x7_2).toNat * 3)).block, (ad185.add ((x7_2).toNat * 3)).off + 2, none⟩ = some (.int .i64 ((rd_T40 x4_1 x7_2).f2)) ∧ w'.cell? (ad186.add ((x5_1).toNat * 3)) = some (.int .i64 ((rd_T40 l0 x5_1).f0)) ∧ w'.cell? ⟨(ad186.add ((x5_1).toNat * 3)).block, (ad186.add ((x5_1).toNat * 3)).off + 1, none⟩ = some (.int .u64 ((rd_T40 l0 x5_1).f1)) ∧ w'.cell? ⟨(ad186.add ((x5_1).toNat * 3)).block, (ad186.add ((x5_1).toNat * 3)).off + 2, none⟩ = some (.int .i64 ((rd_T40 l0 x5_1).f2))) (ds := []) (mk_ 0 24) (by kernel_rfl) rfl rfl ⟨hx185_0, hx185_1, hx185_2, ((HB.out.cell (World.block_lt_of_cell? w _ hw186_0)).trans hw186_0), ((HB.out.cell (World.block_lt_of_cell? w _ hw186_1)).trans hw186_1), ((HB.out.cell (World.block_lt_of_cell? w _ hw186_2)).trans hw186_2), hx187_0, hx187_1, hx187_2, ((HB.out.cell (World.block_lt_of_cell? w _ hw188_0)).trans hw188_0), ((HB.out.cell (World.block_lt_of_cell? w _ hw188_1)).trans hw188_1), ((HB.out.cell (World.block_lt_of_cell? w _ hw188_2)).trans hw188_2)⟩ (fun hHeld => ?_); refine with_tabW marchlandref03_sums.tab9 marchlandref03_sums.bits9 (fun HT_ HW_ => ?_)
            generalize wr.drew = w12 at HO_4 HB hx185_0 hx185_1 hx185_2 hx186_0 hx186_1 hx186_2 hx187_0 hx187_1 hx187_2 hx188_0 hx188_1 hx188_2 hHeld ⊢
            refine pv_ 0 23 (mk_ 1 23) HT_ ?_
            refine pv_ 1 24 (mk_ 2 22) HT_ ?_
            refine pv_ 2 25 (mk_ 3 21) HT_ ?_
            refine pv_ 3 26 (mk_ 4 20) HT_ ?_
            refine pv_ 5 28 #[true, true, true, true, false, true, false, false, false, false, false, false, false, false, false, false, false, false, false, false, false, false, false, false] HT_ ?_
            refine pv_ 6 29 #[true, true, true, true, false, true, true, false, false, false, false, false, false, false, false, false, false, false, false, false, false, false, false, false] HT_ ?_
            refine pv_ 7 30 #[true, true, true, true, false, true, true, true, false, false, false, false, false, false, false, false, false, false, false, false, false, false, false, false] HT_ ?_
            refine pv_ 8 31 #[true, true, true, true, false, true, true, true, true, false, false, false, false, false, false, false, false, false, false, false, false, false, false, false] HT_ ?_
            refine tv_ 4 27 (mk_ 9 15) HT_ HW_ hHeld (hy := by rintro w' ⟨s0, s1, s2, s3, s4, s5, s6, s7, s8, s9, s10, s11⟩; go_simp; with_reducible rfl) (h := ?_)
            refine tv_ 9 32 (mk_ 10 14) HT_ HW_ hHeld (hy := by rintro w' ⟨s0, s1, s2, s3, s4, s5, s6, s7, s8, s9, s10, s11⟩; go_simp; with_reducible rfl) (h := ?_)
            refine pv_ 10 33 (mk_ 11 13) HT_ ?_
            refine pv_ 11 34 (mk_ 12 12) HT_ ?_
            refine pv_ 12 35 (mk_ 13 11) HT_ ?_
            refine pv_ 13 36 (mk_ 14 10) HT_ ?_
            refine pv_ 14 37 (mk_ 15 9) HT_ ?_
            refine pv_ 15 38 (mk_ 16 8) HT_ ?_
            refine pv_ 17 40 #[true, true, true, true, true, true, true, true, true, true, true, true, true, true, true, true, false, true, false, false, false, false, false, false] HT_ ?_
            refine pv_ 18 41 #[true, true, true, true, true, true, true, true, true, true, true, true, true, true, true, true, false, true, true, false, false, false, false, false] HT_ ?_
            refine pv_ 19 42 #[true, true, true, true, true, true, true, true, true, true, true, true, true, true, true, true, false, true, true, true, false, false, false, false] HT_ ?_
            refine pv_ 20 43 #[true, true, true, true, true, true, true, true, true, true, true, true, true, true, true, true, false, true, true, true, true, false, false, false] HT_ ?_
            refine tv_ 16 39 (mk_ 21 3) HT_ HW_ hHeld (hy := by rintro w' ⟨s0, s1, s2, s3, s4, s5, s6, s7, s8, s9, s10, s11⟩; go_simp; with_reducible rfl) (h := ?_)
            refine tv_ 21 44 (mk_ 22 2) HT_ HW_ hHeld (hy := by rintro w' ⟨s0, s1, s2, s3, s4, s5, s6, s7, s8, s9, s10, s11⟩; go_simp; with_reducible rfl) (h := ?_)
            refine pv_ 22 45 (mk_ 23 1) HT_ ?_
            refine pv_ 23 46 (mk_ 24 0) HT_ ?_
            refine done_ (done_of HT_.out (by kernel_rfl)) ?_
            try go_wp2
            go_roundg k2
            case measure => have := HK1.out; have := HK2.out; omega
            case rel => exact ⟨(x6_2), (wrap64 (x7_2 + 1)), (by first | rfl | (simp; done) | (simp [*]; done)), (by first | rfl | (simp; done) | (simp [*]; done)), H', ⟨by have := HK1.out; have := HK2.out; omega⟩, ⟨by (with_reducible repeat (first | apply Kd.R_alloc | apply Kd.R_drewN | apply Kd.R_drew)); exact HO_4.out⟩, ⟨by repeat (first | (with_reducible first | exact HB.out | apply below_alloc | apply pw_below_drewN | apply below_drew1) | exact HB.out)⟩⟩
          ·rw [if_neg c7] at H
           have c7b0 : (((rd_T40 x4_1 x7_2).f0) == ((rd_T40 l0 x5_1).f0)) = false := beq_eq_false_iff_ne.mpr c7
           have c7b1 : (((rd_T40 x4_1 x7_2).f0) != ((rd_T40 l0 x5_1).f0)) = true := bne_iff_ne.mpr c7
           have H' := Aside0.mk H
           clear H
           obtain ⟨Ao13, co13, eo13⟩ := Kd.R_slice HO_4.out
           subst eo13
           try go_wp2
           have n0_ := Aside0.mk (Kd.R_drew HO_4.out)
           have n1_ := Aside0.mk (below_drew1 HB.out)
           clear HO_4
           clear HB
           have HO_4 := n0_
           have HB := n1_
           clear n0_ n1_
           have p185 : 0 ≤ (x7_2 : Int) := of_decide_eq_true (by first | (with_reducible assumption) | assumption)
           have q185 : x7_2 < (x4_1.length : Int) := of_decide_eq_true (by first | (with_reducible assumption) | assumption)
           obtain ⟨ad185, e185, hx185_0, hx185_1, hx185_2⟩ := at_T40 (Kd.R_reads' HO_4.out).2.2 x7_2 p185 q185
           cases e185
           replace p185 := eq_true p185
           replace q185 := eq_true q185
           have p186 : 0 ≤ (x5_1 : Int) := of_decide_eq_true (by first | (with_reducible assumption) | assumption)
           have q186 : x5_1 < (l0.length : Int) := of_decide_eq_true (by first | (with_reducible assumption) | assumption)
           obtain ⟨ad186, e186, hx186_0, hx186_1, hx186_2⟩ := at_T40 HR0.out x5_1 p186 q186
           have hw186_2 := hx186_2
           have hw186_1 := hx186_1
           have hw186_0 := hx186_0
           cases e186
           replace hx186_0 := (HB.out.cell (World.block_lt_of_cell? w _ hx186_0)).trans hx186_0
           replace hx186_1 := (HB.out.cell (World.block_lt_of_cell? w _ hx186_1)).trans hx186_1
           replace hx186_2 := (HB.out.cell (World.block_lt_of_cell? w _ hx186_2)).trans hx186_2
           replace p186 := eq_true p186
           replace q186 := eq_true q186
           refine start_ (n := 24) (S := fun w' => w'.cell? (ad185.add ((x7_2).toNat * 3)) = some (.int .i64 ((rd_T40 x4_1 x7_2).f0)) ∧ w'.cell? ⟨(ad185.add ((x7_2).toNat * 3)).block, (ad185.add ((x7_2).toNat * 3)).off + 1, none⟩ = some (.int .u64 ((rd_T40 x4_1 x7_2).f1)) ∧ w'.cell? ⟨(ad185.add ((x7_2).toNat * 3)).block, (ad185.add ((x7_2).toNat * 3)).off + 2, none⟩ = some (.int .i64 ((rd_T40 x4_1 x7_2).f2)) ∧ w'.cell? (ad186.add ((x5_1).toNat * 3)) = some (.int .i64 ((rd_T40 l0 x5_1).f0)) ∧ w'.cell? ⟨(ad186.add ((x5_1).toNat * 3)).block, (ad186.add ((x5_1).toNat * 3)).off + 1, none⟩ = some (.int .u64 ((rd_T40 l0 x5_1).f1)) ∧ w'.cell? ⟨(ad186.add ((x5_1).toNat * 3)).block, (ad186.add ((x5_1).toNat * 3)).off + 2, none⟩ = some (.int .i64 ((rd_T40 l0 x5_1).f2))) (ds := []) (mk_ 0 24) (by kernel_rfl) rfl rfl ⟨hx185_0, hx185_1, hx185_2, ((HB.out.cell (World.block_lt_of_cell? w _ hw186_0)).trans hw186_0), ((HB.out.cell (World.block_lt_of_cell? w _ hw186_1)).trans hw186_1), ((HB.out.cell (World.block_lt_of_cell? w _ hw186_2)).trans hw186_2)⟩ (fun hHeld => ?_); refine with_tabW marchlandref03_sums.tab9 marchlandref03_sums.bits9 (fun HT_ HW_ => ?_)
           generalize wr.drew = w14 at HO_4 HB hx185_0 hx185_1 hx185_2 hx186_0 hx186_1 hx186_2 hHeld ⊢
           refine pv_ 0 23 (mk_ 1 23) HT_ ?_
           refine pv_ 1 24 (mk_ 2 22) HT_ ?_
           refine pv_ 2 25 (mk_ 3 21) HT_ ?_
           refine pv_ 3 26 (mk_ 4 20) HT_ ?_
           refine pv_ 5 28 #[true, true, true, true, false, true, false, false, false, false, false, false, false, false, false, false, false, false, false, false, false, false, false, false] HT_ ?_
           refine pv_ 6 29 #[true, true, true, true, false, true, true, false, false, false, false, false, false, false, false, false, false, false, false, false, false, false, false, false] HT_ ?_
           refine pv_ 7 30 #[true, true, true, true, false, true, true, true, false, false, false, false, false, false, false, false, false, false, false, false, false, false, false, false] HT_ ?_
           refine pv_ 8 31 #[true, true, true, true, false, true, true, true, true, false, false, false, false, false, false, false, false, false, false, false, false, false, false, false] HT_ ?_
           refine tv_ 4 27 (mk_ 9 15) HT_ HW_ hHeld (hy := by rintro w' ⟨s0, s1, s2, s3, s4, s5⟩; go_simp; with_reducible rfl) (h := ?_)
           refine tv_ 9 32 (mk_ 10 14) HT_ HW_ hHeld (hy := by rintro w' ⟨s0, s1, s2, s3, s4, s5⟩; go_simp; with_reducible rfl) (h := ?_)
           refine pv_ 10 33 (mk_ 11 13) HT_ ?_
           refine pv_ 11 34 (mk_ 12 12) HT_ ?_
           refine pu_ 12 35 (mk_ 13 11) HT_ ?_
           refine pu_ 13 36 (mk_ 14 10) HT_ ?_
           refine pu_ 14 37 (mk_ 15 9) HT_ ?_
           refine pu_ 15 38 (mk_ 16 8) HT_ ?_
           refine pu_ 16 39 (mk_ 17 7) HT_ ?_
           refine pu_ 17 40 (mk_ 18 6) HT_ ?_
           refine pu_ 18 41 (mk_ 19 5) HT_ ?_
           refine pu_ 19 42 (mk_ 20 4) HT_ ?_
           refine pu_ 20 43 (mk_ 21 3) HT_ ?_
           refine pu_ 21 44 (mk_ 22 2) HT_ ?_
           refine pu_ 22 45 (mk_ 23 1) HT_ ?_
           refine pv_ 23 46 (mk_ 24 0) HT_ ?_
           refine done_ (done_of HT_.out (by kernel_rfl)) ?_
           try go_wp2
           go_roundg k2
           case measure => have := HK1.out; have := HK2.out; omega
           case rel => exact ⟨(x6_2), (wrap64 (x7_2 + 1)), (by first | rfl | (simp; done) | (simp [*]; done)), (by first | rfl | (simp; done) | (simp [*]; done)), H', ⟨by have := HK1.out; have := HK2.out; omega⟩, ⟨by (with_reducible repeat (first | apply Kd.R_alloc | apply Kd.R_drewN | apply Kd.R_drew)); exact HO_4.out⟩, ⟨by repeat (first | (with_reducible first | exact HB.out | apply below_alloc | apply pw_below_drewN | apply below_drew1) | exact HB.out)⟩⟩
         ·rw [if_neg c6] at H
          exact absurd H (by simp)
        ·rw [if_neg c5] at H
         exact absurd H (by simp)
       ·rw [if_neg c4] at H
        exact absurd H (by simp)
      ·rw [if_neg c3] at H
       have c3b0 : decide (x7_2 < (x4_1.length : Int)) = false := decide_eq_false c3
       clear c3
       by_cases c15 : x6_2 ≥ 0
       ·rw [if_pos c15] at H
        have c15b0 : decide (0 ≤ x6_2) = true := decide_eq_true c15
        clear c15
        by_cases c16 : 0 ≤ x6_2
        ·rw [if_pos c16] at H
         have c16b0 : decide (0 ≤ x6_2) = true := decide_eq_true c16
         clear c16
         by_cases c17 : x6_2 < (x4_1.length : Int)
         ·rw [if_pos c17] at H
          have c17b0 : decide (x6_2 < (x4_1.length : Int)) = true := decide_eq_true c17
          clear c17
          by_cases c18 : 0 ≤ x5_1
          ·rw [if_pos c18] at H
           have c18b0 : decide (0 ≤ x5_1) = true := decide_eq_true c18
           clear c18
           by_cases c19 : x5_1 < (l0.length : Int)
           ·rw [if_pos c19] at H
            have c19b0 : decide (x5_1 < (l0.length : Int)) = true := decide_eq_true c19
            clear c19
            obtain ⟨y191, hy191⟩ : ∃ y_ : List (S40), y_ = (x4_1.set (x6_2 : Int).toNat (⟨(rd_T40 x4_1 x6_2).f0, (rd_T40 x4_1 x6_2).f1, wrap64 (((rd_T40 x4_1 x6_2).f2) + ((rd_T40 l0 x5_1).f2))⟩ : S40)) := ⟨_, rfl⟩
            replace H : (marchlandref03_sums.l0 k2 l0 y191 (wrap64 (x5_1 + 1))) = some (r1, r2) := by first | (rw [hy191]; with_reducible exact H) | (have H2_ := (Option.bind_some _ _).symm.trans H; rw [hy191]; with_reducible exact H2_) | (have H2_ := (Option.bind_some _ _).symm.trans H; with_reducible exact H2_) | with_reducible exact H | (rw [hy191]; exact H) | exact H
            have Ny191 := Aside0.mk hy191
            clear hy191
            have H' := Aside0.mk H
            clear H
            obtain ⟨Ao21, co21, eo21⟩ := Kd.R_slice HO_4.out
            subst eo21
            try go_wp2
            have n0_ := Aside0.mk (Kd.R_drew HO_4.out)
            have n1_ := Aside0.mk (below_drew1 HB.out)
            clear HO_4
            clear HB
            have HO_4 := n0_
            have HB := n1_
            clear n0_ n1_
            have p189 : 0 ≤ (x6_2 : Int) := of_decide_eq_true (by first | (with_reducible assumption) | assumption)
            have q189 : x6_2 < (x4_1.length : Int) := of_decide_eq_true (by first | (with_reducible assumption) | assumption)
            obtain ⟨ad189, e189, hx189_0, hx189_1, hx189_2⟩ := at_T40 (Kd.R_reads' HO_4.out).2.2 x6_2 p189 q189
            cases e189
            replace p189 := eq_true p189
            replace q189 := eq_true q189
            have p190 : 0 ≤ (x5_1 : Int) := of_decide_eq_true (by first | (with_reducible assumption) | assumption)
            have q190 : x5_1 < (l0.length : Int) := of_decide_eq_true (by first | (with_reducible assumption) | assumption)
            obtain ⟨ad190, e190, hx190_0, hx190_1, hx190_2⟩ := at_T40 HR0.out x5_1 p190 q190
            have hw190_2 := hx190_2
            have hw190_1 := hx190_1
            have hw190_0 := hx190_0
            cases e190
            replace hx190_0 := (HB.out.cell (World.block_lt_of_cell? w _ hx190_0)).trans hx190_0
            replace hx190_1 := (HB.out.cell (World.block_lt_of_cell? w _ hx190_1)).trans hx190_1
            replace hx190_2 := (HB.out.cell (World.block_lt_of_cell? w _ hx190_2)).trans hx190_2
            replace p190 := eq_true p190
            replace q190 := eq_true q190
            have p20 : 0 ≤ (x6_2 : Int) := of_decide_eq_true (by first | (with_reducible assumption) | assumption)
            have q20 : (x6_2 : Int) < ((x4_1.length : Int) : Int) := of_decide_eq_true (by first | (with_reducible assumption) | assumption)
            obtain ⟨go20, co20, eo20, gb20, gl20, cl20, HG20⟩ := Kd.R_form HO_4.out (by omega)
            (first | cases eo20 | (injection eo20 with ea_ en_ ec_; (first | subst ea_ | (injection ea_ with ea_; subst ea_)); subst ec_; clear en_))
            have GB20 := Aside0.mk gb20
            have GG20 := Aside0.mk HG20
            clear gb20 gl20 HG20
            (first | simp only [add_plain] at hx189_0 | skip)
            (first | simp only [add_plain] at hx189_1 | skip)
            (first | simp only [add_plain] at hx189_2 | skip)
            obtain ⟨ce20, hcl20, hM20, hcc20, hfr20⟩ := Kd.R_elem HO_4.out z40 (x6_2 : Int) p20 q20
            obtain rfl := k40_openM hM20
            have hx20_0 : World.cell? _ ⟨go20, (x6_2 : Int).toNat * 3, none⟩ = some (.int .i64 ((rd_T40 x4_1 x6_2).f0)) := hcc20 0 _ rfl
            have hx20_1 : World.cell? _ ⟨go20, (x6_2 : Int).toNat * 3 + 1, none⟩ = some (.int .u64 ((rd_T40 x4_1 x6_2).f1)) := hcc20 1 _ rfl
            have hx20_2 : World.cell? _ ⟨go20, (x6_2 : Int).toNat * 3 + 2, none⟩ = some (.int .i64 ((rd_T40 x4_1 x6_2).f2)) := hcc20 2 _ rfl
            have hf20_0 : World.frozen? _ ⟨go20, (x6_2 : Int).toNat * 3, none⟩ = false := hfr20 0
            have hf20_1 : World.frozen? _ ⟨go20, (x6_2 : Int).toNat * 3 + 1, none⟩ = false := hfr20 1
            have hf20_2 : World.frozen? _ ⟨go20, (x6_2 : Int).toNat * 3 + 2, none⟩ = false := hfr20 2
            clear hcl20 hcc20 hfr20 hM20
            replace p20 := eq_true p20
            replace q20 := eq_true q20
            obtain ⟨ce23, hcl23, hM23, hcc23, hfr23⟩ := Kd.R_elem HO_4.out z40 (x6_2 : Int) (of_decide_eq_true (by first | (with_reducible assumption) | assumption)) (by have h_ : (x6_2 : Int) < ((x4_1.length : Int) : Int) := of_decide_eq_true (by first | (with_reducible assumption) | assumption); first | exact h_ | (have e_ := (Kd.R_reads' HO_4.out).1; omega) | simpa using h_)
            obtain rfl := k40_openM hM23
            have HP23 := (Kd.R_seg HO_4.out (x6_2 : Int) (of_decide_eq_true (by first | (with_reducible assumption) | assumption)) (by have h_ : (x6_2 : Int) < ((x4_1.length : Int) : Int) := of_decide_eq_true (by first | (with_reducible assumption) | assumption); first | exact h_ | (have e_ := (Kd.R_reads' HO_4.out).1; omega) | simpa using h_) (seg := [.int .i64 (wrap64 (((rd_T40 x4_1 x6_2).f2) + ((rd_T40 l0 x5_1).f2)))]) (j := 2) hcl23 hcc23 (show 3 ≤ 3 from by decide) (x' := (⟨(rd_T40 x4_1 x6_2).f0, (rd_T40 x4_1 x6_2).f1, wrap64 (((rd_T40 x4_1 x6_2).f2) + ((rd_T40 l0 x5_1).f2))⟩ : S40)) (k40_mkM _ _ _ (⟨(rd_T40 x4_1 x6_2).f0, (rd_T40 x4_1 x6_2).f1, wrap64 (((rd_T40 x4_1 x6_2).f2) + ((rd_T40 l0 x5_1).f2))⟩ : S40) ) (fun _ hk => hk)).1
            rw [← Ny191.out] at HP23
            have HQ23 := Aside0.mk HP23
            clear hcl23 hcc23 hfr23 hM23 HP23
            refine start_ (n := 16) (S := fun w' => w'.cell? ⟨go20, ((x6_2).toNat * 3), none⟩ = some (.int .i64 ((rd_T40 x4_1 x6_2).f0)) ∧ w'.cell? ⟨go20, ((x6_2).toNat * 3) + 1, none⟩ = some (.int .u64 ((rd_T40 x4_1 x6_2).f1)) ∧ w'.cell? ⟨go20, ((x6_2).toNat * 3) + 2, none⟩ = some (.int .i64 ((rd_T40 x4_1 x6_2).f2)) ∧ w'.cell? (ad190.add ((x5_1).toNat * 3)) = some (.int .i64 ((rd_T40 l0 x5_1).f0)) ∧ w'.cell? ⟨(ad190.add ((x5_1).toNat * 3)).block, (ad190.add ((x5_1).toNat * 3)).off + 1, none⟩ = some (.int .u64 ((rd_T40 l0 x5_1).f1)) ∧ w'.cell? ⟨(ad190.add ((x5_1).toNat * 3)).block, (ad190.add ((x5_1).toNat * 3)).off + 2, none⟩ = some (.int .i64 ((rd_T40 l0 x5_1).f2))) (ds := [15]) (mk_ 0 16) (by kernel_rfl) rfl rfl ⟨hx189_0, hx189_1, hx189_2, ((HB.out.cell (World.block_lt_of_cell? w _ hw190_0)).trans hw190_0), ((HB.out.cell (World.block_lt_of_cell? w _ hw190_1)).trans hw190_1), ((HB.out.cell (World.block_lt_of_cell? w _ hw190_2)).trans hw190_2)⟩ (fun hHeld => ?_); refine with_tabW marchlandref03_sums.tab12 marchlandref03_sums.bits12 (fun HT_ HW_ => ?_)
            generalize wr.drew = w22 at HO_4 HB GG20 HQ23 hf20_0 hf20_1 hf20_2 hx189_0 hx189_1 hx189_2 hx190_0 hx190_1 hx190_2 hx20_0 hx20_1 hx20_2 hHeld ⊢
            refine pv_ 0 50 (mk_ 1 15) HT_ ?_
            refine pv_ 1 51 (mk_ 2 14) HT_ ?_
            refine pv_ 2 52 (mk_ 3 13) HT_ ?_
            refine pv_ 3 53 (mk_ 4 12) HT_ ?_
            refine pv_ 4 54 (mk_ 5 11) HT_ ?_
            refine pv_ 5 55 (mk_ 6 10) HT_ ?_
            refine pv_ 7 57 #[true, true, true, true, true, true, false, true, false, false, false, false, false, false, false, false] HT_ ?_
            refine pv_ 8 58 #[true, true, true, true, true, true, false, true, true, false, false, false, false, false, false, false] HT_ ?_
            refine pv_ 9 59 #[true, true, true, true, true, true, false, true, true, true, false, false, false, false, false, false] HT_ ?_
            refine pv_ 10 60 #[true, true, true, true, true, true, false, true, true, true, true, false, false, false, false, false] HT_ ?_
            refine tv_ 6 56 (mk_ 11 5) HT_ HW_ hHeld (hy := by rintro w' ⟨s0, s1, s2, s3, s4, s5⟩; go_simp; with_reducible rfl) (h := ?_)
            refine tv_ 11 61 (mk_ 12 4) HT_ HW_ hHeld (hy := by rintro w' ⟨s0, s1, s2, s3, s4, s5⟩; go_simp; with_reducible rfl) (h := ?_)
            refine pv_ 12 62 (mk_ 13 3) HT_ ?_
            refine pv_ 13 63 (mk_ 14 2) HT_ ?_
            refine pv_ 14 64 (mk_ 15 1) HT_ ?_
            refine last_ (i := 15) (N := none) (mk_ 16 0) rfl rfl (one_of HT_.out (by kernel_rfl)) (by decide) (fun K hK => ?_)
            refine skip_ (w1 := ?_) (by rfl) rfl ?_ ?_
            rotate_left
            ·go_simp
             rfl
            refine hK.out _ _ ?_
            clear hK K
            refine done_ (done_of HT_.out (by kernel_rfl)) ?_
            try go_wp2
            go_roundg k2
            case measure => have := HK1.out; have := HK2.out; omega
            case rel => exact ⟨(y191), (wrap64 (x5_1 + 1)), (by first | rfl | (simp; done) | (simp [*]; done)), H', ⟨by have := HK1.out; have := HK2.out; omega⟩, ⟨by (with_reducible repeat (first | apply Kd.R_alloc | apply Kd.R_drewN | apply Kd.R_drew)); exact HQ23.out⟩, ⟨by repeat (first | (with_reducible first | exact HB.out | apply below_alloc | apply pw_below_drewN | apply below_drew1 | refine below_set ?_ GB20.out) | exact HB.out)⟩⟩
           ·rw [if_neg c19] at H
            exact absurd H (by simp)
          ·rw [if_neg c18] at H
           exact absurd H (by simp)
         ·rw [if_neg c17] at H
          exact absurd H (by simp)
        ·rw [if_neg c16] at H
         exact absurd H (by simp)
       ·rw [if_neg c15] at H
        have c15b0 : decide (0 ≤ x6_2) = false := decide_eq_false c15
        clear c15
        by_cases c24 : 0 ≤ x5_1
        ·rw [if_pos c24] at H
         have c24b0 : decide (0 ≤ x5_1) = true := decide_eq_true c24
         clear c24
         by_cases c25 : x5_1 < (l0.length : Int)
         ·rw [if_pos c25] at H
          have c25b0 : decide (x5_1 < (l0.length : Int)) = true := decide_eq_true c25
          clear c25
          by_cases c26 : x4_1.length < 5864062014805
          ·rw [if_pos c26] at H
           have LMc26 := Aside0.mk c26
           clear c26
           obtain ⟨y193, hy193⟩ : ∃ y_ : List (S40), y_ = (x4_1 ++ [(⟨(rd_T40 l0 x5_1).f0, (rd_T40 l0 x5_1).f1, (rd_T40 l0 x5_1).f2⟩ : S40)]) := ⟨_, rfl⟩
           replace H : (marchlandref03_sums.l2 k2 l0 y193 x5_1 (wrap64 ((y193.length : Int) - 1))) = some (r1, r2) := by first | (rw [hy193]; with_reducible exact H) | (have H2_ := (Option.bind_some _ _).symm.trans H; rw [hy193]; with_reducible exact H2_) | (have H2_ := (Option.bind_some _ _).symm.trans H; with_reducible exact H2_) | with_reducible exact H | (rw [hy193]; exact H) | exact H
           have Ny193 := Aside0.mk hy193
           clear hy193
           have H' := Aside0.mk H
           clear H
           obtain ⟨Ao27, co27, eo27⟩ := Kd.R_slice HO_4.out
           subst eo27
           have p192 : 0 ≤ (x5_1 : Int) := of_decide_eq_true (by first | (with_reducible assumption) | assumption)
           have q192 : x5_1 < (l0.length : Int) := of_decide_eq_true (by first | (with_reducible assumption) | assumption)
           obtain ⟨ad192, e192, hx192_0, hx192_1, hx192_2⟩ := at_T40 HR0.out x5_1 p192 q192
           cases e192
           replace hx192_0 := (HB.out.cell (World.block_lt_of_cell? w _ hx192_0)).trans hx192_0
           replace hx192_1 := (HB.out.cell (World.block_lt_of_cell? w _ hx192_1)).trans hx192_1
           replace hx192_2 := (HB.out.cell (World.block_lt_of_cell? w _ hx192_2)).trans hx192_2
           replace p192 := eq_true p192
           replace q192 := eq_true q192
           go_wp2_with (first | ((with_reducible refine gate_builtin (b := .append) (xs := #[.tmp 65, .tmp 70]) rfl ?_); at_builtin; refine Kd.R_append k40 (w0 := w) w.heap.size rfl (.tmp 65) (.tmp 70) 22 40 (.agg #[(.int .i64 0), (.int .u64 0), (.int .i64 0)]) 24 rfl Try.underlying22 info40 rfl (by decide) (by omega) (.slice Ao27 x4_1.length co27) x4_1 (⟨(rd_T40 l0 x5_1).f0, (rd_T40 l0 x5_1).f1, (rd_T40 l0 x5_1).f2⟩ : S40) [.int .i64 ((rd_T40 l0 x5_1).f0), .int .u64 ((rd_T40 l0 x5_1).f1), .int .i64 ((rd_T40 l0 x5_1).f2)] (fun _ => True) (fun _ => False) rfl rfl ?aP (fun _ hk => hk.elim) ?aF ?aO ?aB ?aS ?aL ?_; (case aP => exact k40_mkM _ _ _ (⟨(rd_T40 l0 x5_1).f0, (rd_T40 l0 x5_1).f1, (rd_T40 l0 x5_1).f2⟩ : S40)); (case aB => exact (by repeat (first | (with_reducible first | exact HB.out | apply below_alloc | apply pw_below_drewN | apply below_drew1) | exact HB.out))); (case aF => exact (fun _ _ => trivial)); (case aO => exact (by (with_reducible repeat (first | apply Kd.R_alloc | apply Kd.R_drewN | apply Kd.R_drew)); exact HO_4.out)); (case aS => exact (below_size (by repeat (first | (with_reducible first | exact HB.out | apply below_alloc | apply pw_below_drewN | apply below_drew1) | exact HB.out)))); (case aL => have := LMc26.out; omega); intro v194 w28 ho hb hg hat; rw [← Ny193.out] at ho; have n0_ := Aside0.mk (hb); have n1_ := Aside0.mk (ho); clear HB; clear HO_4; have HB := n0_; have HO195 := n1_; clear n0_ n1_; clear ho hb hg hat; obtain ⟨Ao29, co29, eo29⟩ := Kd.R_slice HO195.out; subst eo29))
           go_loopg [8] k2 (fun kq v8 w' => ∃ (x4_3 : List (S40)) (x8_3 : Int), v8 = .int .i64 x8_3 ∧ Aside0 (marchlandref03_sums.l2 kq l0 x4_3 x5_1 x8_3 = some (r1, r2)) ∧ Aside0 (kq ≤ k2) ∧ Aside0 (Kd.R k40 40 w' w.heap.size (fun _ => True) (.slice Ao29 y193.length co29) x4_3) ∧ Aside0 (Below w.heap.size w w'))
           case atStart => exact ⟨(y193), (wrap64 ((y193.length : Int) - 1)), (by first | rfl | (simp; done) | (simp [*]; done)), H', ⟨Nat.le_refl _⟩, ⟨by (with_reducible repeat (first | apply Kd.R_alloc | apply Kd.R_drewN | apply Kd.R_drew)); exact HO195.out⟩, ⟨by repeat (first | (with_reducible first | exact HB.out | apply below_alloc | apply pw_below_drewN | apply below_drew1) | exact HB.out)⟩⟩
           case round =>
            clear H'
            try clear c1
            try clear p1
            try clear q1
            try clear hx1
            try clear c2
            try clear p2
            try clear q2
            try clear hx2
            try clear hf2
            try clear c3
            try clear c3b0
            try clear c4
            try clear c5
            try clear c6
            try clear p6
            try clear c7
            try clear c7b0
            try clear c7b1
            try clear c15
            try clear c15b0
            try clear c16
            try clear c16b0
            try clear c17
            try clear c17b0
            try clear c18
            try clear c18b0
            try clear p18
            try clear q18
            try clear hx18
            try clear c19
            try clear c19b0
            try clear p19
            try clear q19
            try clear hx19
            try clear c20
            try clear p20
            try clear q20
            try clear hx20
            try clear hf20
            try clear c23
            try clear c24
            try clear c24b0
            try clear c25
            try clear c25b0
            try clear c26
            try clear hx185_0
            try clear hx185_1
            try clear hx185_2
            try clear hx186_0
            try clear hx186_1
            try clear hx186_2
            try clear hx189_0
            try clear hx189_1
            try clear hx189_2
            try clear hx190_0
            try clear hx190_1
            try clear hx190_2
            try clear hx192_0
            try clear hx192_1
            try clear hx192_2
            try clear hx20_0
            try clear hx20_1
            try clear hx20_2
            try clear p185
            try clear p186
            try clear p189
            try clear p190
            try clear p192
            try clear p20
            try clear q185
            try clear q186
            try clear q189
            try clear q190
            try clear q192
            try clear q20
            obtain ⟨x4_3, x8_3, rfl, HA, HK3, HO_4, HB⟩ := hrel
            have hl4_3 := (Kd.R_reads' HO_4.out).1
            rw [hl4_3] at HO_4
            (try simp only [hl4_3])
            cases gk with
            | zero => exact absurd HA.out (by simp [marchlandref03_sums.l2])
            | succ k3 =>
             have H := HA.out
             clear HA
             simp only [marchlandref03_sums.l2] at H
             by_cases c30 : x8_3 > 0
             ·rw [if_pos c30] at H
              have c30b0 : decide (0 < x8_3) = true := decide_eq_true c30
              clear c30
              by_cases c31 : 0 ≤ x8_3
              ·rw [if_pos c31] at H
               have c31b0 : decide (0 ≤ x8_3) = true := decide_eq_true c31
               clear c31
               by_cases c32 : x8_3 < (x4_3.length : Int)
               ·rw [if_pos c32] at H
                have c32b0 : decide (x8_3 < (x4_3.length : Int)) = true := decide_eq_true c32
                clear c32
                obtain ⟨ji33, hji33⟩ : ∃ j_ : Int, (wrap64 (x8_3 - 1)) = j_ := ⟨_, rfl⟩
                replace H : (if 0 ≤ (ji33) then (if (ji33) < (x4_3.length : Int) then ((marchlandref03_before.f ((rd_T40 x4_3 x8_3).f0) ((rd_T40 x4_3 x8_3).f1) ((rd_T40 x4_3 x8_3).f2) ((rd_T40 x4_3 (ji33)).f0) ((rd_T40 x4_3 (ji33)).f1) ((rd_T40 x4_3 (ji33)).f2)).bind fun t198 => (if t198 = true then (marchlandref03_sums.l2 k3 l0 ((x4_3.set ((ji33) : Int).toNat (⟨(rd_T40 x4_3 x8_3).f0, (rd_T40 x4_3 x8_3).f1, (rd_T40 x4_3 x8_3).f2⟩ : S40)).set (x8_3 : Int).toNat (⟨(rd_T40 x4_3 (ji33)).f0, (rd_T40 x4_3 (ji33)).f1, (rd_T40 x4_3 (ji33)).f2⟩ : S40)) x5_1 ji33) else (marchlandref03_sums.l0 k3 l0 x4_3 (wrap64 (x5_1 + 1))))) else (none)) else (none)) = some (r1, r2) := by first | (rw [hji33] at H; exact H) | (simp only [hji33] at H ⊢; exact H)
                have hji33w : (IntKind.i64.wrap (x8_3 - 1)) = ji33 := (i64_w _).trans hji33
                by_cases c34 : 0 ≤ (ji33)
                ·rw [if_pos c34] at H
                 have c34b0 : decide (0 ≤ (ji33)) = true := decide_eq_true c34
                 clear c34
                 by_cases c35 : (ji33) < (x4_3.length : Int)
                 ·rw [if_pos c35] at H
                  have c35b0 : decide ((ji33) < (x4_3.length : Int)) = true := decide_eq_true c35
                  clear c35
                  replace H := Option.bind_eq_some_iff.mp H
                  obtain ⟨t198, A360, H⟩ := H
                  replace H : (if t198 = true then (marchlandref03_sums.l2 k3 l0 ((x4_3.set ((ji33) : Int).toNat (⟨(rd_T40 x4_3 x8_3).f0, (rd_T40 x4_3 x8_3).f1, (rd_T40 x4_3 x8_3).f2⟩ : S40)).set (x8_3 : Int).toNat (⟨(rd_T40 x4_3 (ji33)).f0, (rd_T40 x4_3 (ji33)).f1, (rd_T40 x4_3 (ji33)).f2⟩ : S40)) x5_1 ji33) else (marchlandref03_sums.l0 k3 l0 x4_3 (wrap64 (x5_1 + 1)))) = some (r1, r2) := H
                  have A36 := Aside0.mk A360
                  clear A360
                  by_cases c37 : t198 = true
                  ·subst c37
                   have H1 : (marchlandref03_sums.l2 k3 l0 ((x4_3.set ((ji33) : Int).toNat (⟨(rd_T40 x4_3 x8_3).f0, (rd_T40 x4_3 x8_3).f1, (rd_T40 x4_3 x8_3).f2⟩ : S40)).set (x8_3 : Int).toNat (⟨(rd_T40 x4_3 (ji33)).f0, (rd_T40 x4_3 (ji33)).f1, (rd_T40 x4_3 (ji33)).f2⟩ : S40)) x5_1 ji33) = some (r1, r2) := by rw [if_pos rfl] at H; exact H
                   clear H
                   have H := H1
                   clear H1
                   obtain ⟨y201, hy201⟩ : ∃ y_ : List (S40), y_ = (x4_3.set ((ji33) : Int).toNat (⟨(rd_T40 x4_3 x8_3).f0, (rd_T40 x4_3 x8_3).f1, (rd_T40 x4_3 x8_3).f2⟩ : S40)) := ⟨_, rfl⟩
                   replace H : (marchlandref03_sums.l2 k3 l0 (y201.set (x8_3 : Int).toNat (⟨(rd_T40 x4_3 (ji33)).f0, (rd_T40 x4_3 (ji33)).f1, (rd_T40 x4_3 (ji33)).f2⟩ : S40)) x5_1 ji33) = some (r1, r2) := by first | (rw [hy201]; with_reducible exact H) | (have H2_ := (Option.bind_some _ _).symm.trans H; rw [hy201]; with_reducible exact H2_) | (have H2_ := (Option.bind_some _ _).symm.trans H; with_reducible exact H2_) | with_reducible exact H | (rw [hy201]; exact H) | exact H
                   have Ny201 := Aside0.mk hy201
                   clear hy201
                   obtain ⟨y202, hy202⟩ : ∃ y_ : List (S40), y_ = (y201.set (x8_3 : Int).toNat (⟨(rd_T40 x4_3 (ji33)).f0, (rd_T40 x4_3 (ji33)).f1, (rd_T40 x4_3 (ji33)).f2⟩ : S40)) := ⟨_, rfl⟩
                   replace H : (marchlandref03_sums.l2 k3 l0 y202 x5_1 ji33) = some (r1, r2) := by first | (rw [hy202]; with_reducible exact H) | (have H2_ := (Option.bind_some _ _).symm.trans H; rw [hy202]; with_reducible exact H2_) | (have H2_ := (Option.bind_some _ _).symm.trans H; with_reducible exact H2_) | with_reducible exact H | (rw [hy202]; exact H) | exact H
                   have Ny202 := Aside0.mk hy202
                   clear hy202
                   have H' := Aside0.mk H
                   clear H
                   try go_wp2
                   have n0_ := Aside0.mk (Kd.R_drew HO_4.out)
                   have n1_ := Aside0.mk (below_drew1 HB.out)
                   clear HO_4
                   clear HB
                   have HO_4 := n0_
                   have HB := n1_
                   clear n0_ n1_
                   have p196 : 0 ≤ (x8_3 : Int) := of_decide_eq_true (by first | (with_reducible assumption) | assumption)
                   have q196 : x8_3 < (x4_3.length : Int) := of_decide_eq_true (by first | (with_reducible assumption) | assumption)
                   obtain ⟨ad196, e196, hx196_0, hx196_1, hx196_2⟩ := at_T40 (Kd.R_reads' HO_4.out).2.2 x8_3 p196 q196
                   cases e196
                   replace p196 := eq_true p196
                   replace q196 := eq_true q196
                   have p197 : 0 ≤ ((ji33) : Int) := of_decide_eq_true (by first | (with_reducible assumption) | assumption)
                   have q197 : (ji33) < (x4_3.length : Int) := of_decide_eq_true (by first | (with_reducible assumption) | assumption)
                   obtain ⟨ad197, e197, hx197_0, hx197_1, hx197_2⟩ := at_T40 (Kd.R_reads' HO_4.out).2.2 (ji33) p197 q197
                   obtain rfl : ad196 = ad197 := (by injection e197)
                   replace p197 := eq_true p197
                   replace q197 := eq_true q197
                   refine start_ (n := 14) (S := fun w' => w'.cell? (ad196.add ((x8_3).toNat * 3)) = some (.int .i64 ((rd_T40 x4_3 x8_3).f0)) ∧ w'.cell? ⟨(ad196.add ((x8_3).toNat * 3)).block, (ad196.add ((x8_3).toNat * 3)).off + 1, none⟩ = some (.int .u64 ((rd_T40 x4_3 x8_3).f1)) ∧ w'.cell? ⟨(ad196.add ((x8_3).toNat * 3)).block, (ad196.add ((x8_3).toNat * 3)).off + 2, none⟩ = some (.int .i64 ((rd_T40 x4_3 x8_3).f2)) ∧ w'.cell? (ad196.add (((ji33)).toNat * 3)) = some (.int .i64 ((rd_T40 x4_3 (ji33)).f0)) ∧ w'.cell? ⟨(ad196.add (((ji33)).toNat * 3)).block, (ad196.add (((ji33)).toNat * 3)).off + 1, none⟩ = some (.int .u64 ((rd_T40 x4_3 (ji33)).f1)) ∧ w'.cell? ⟨(ad196.add (((ji33)).toNat * 3)).block, (ad196.add (((ji33)).toNat * 3)).off + 2, none⟩ = some (.int .i64 ((rd_T40 x4_3 (ji33)).f2))) (ds := []) (mk_ 0 14) (by kernel_rfl) rfl rfl ⟨hx196_0, hx196_1, hx196_2, hx197_0, hx197_1, hx197_2⟩ (fun hHeld => ?_); refine with_tabW marchlandref03_sums.tab15 marchlandref03_sums.bits15 (fun HT_ HW_ => ?_)
                   generalize wr.drew = w40 at HO_4 HB hx196_0 hx196_1 hx196_2 hx197_0 hx197_1 hx197_2 hHeld ⊢
                   refine pv_ 0 75 (mk_ 1 13) HT_ ?_
                   refine pv_ 1 76 (mk_ 2 12) HT_ ?_
                   refine pv_ 2 77 (mk_ 3 11) HT_ ?_
                   refine pv_ 3 78 (mk_ 4 10) HT_ ?_
                   refine pv_ 4 79 (mk_ 5 9) HT_ ?_
                   refine pv_ 5 80 (mk_ 6 8) HT_ ?_
                   refine pv_ 7 82 #[true, true, true, true, true, true, false, true, false, false, false, false, false, false] HT_ ?_
                   refine pv_ 8 83 #[true, true, true, true, true, true, false, true, true, false, false, false, false, false] HT_ ?_
                   refine pv_ 9 84 #[true, true, true, true, true, true, false, true, true, true, false, false, false, false] HT_ ?_
                   refine pv_ 10 85 #[true, true, true, true, true, true, false, true, true, true, true, false, false, false] HT_ ?_
                   refine tv_ 6 81 (mk_ 11 3) HT_ HW_ hHeld (hy := by rintro w' ⟨s0, s1, s2, s3, s4, s5⟩; go_simp; with_reducible rfl) (h := ?_)
                   refine tv_ 11 86 (mk_ 12 2) HT_ HW_ hHeld (hy := by rintro w' ⟨s0, s1, s2, s3, s4, s5⟩; go_simp; with_reducible rfl) (h := ?_)
                   refine one_ (i := 12) (N := some 87) (mk_ 13 1) rfl rfl (one_of HT_.out (by kernel_rfl)) (by decide) (fun K hK => ?_)
                   refine goes_ Try.func54 (by kernel_rfl) rfl #[.agg #[.int .i64 ((rd_T40 x4_3 x8_3).f0), .int .u64 ((rd_T40 x4_3 x8_3).f1), .int .i64 ((rd_T40 x4_3 x8_3).f2)], .agg #[.int .i64 ((rd_T40 x4_3 (ji33)).f0), .int .u64 ((rd_T40 x4_3 (ji33)).f1), .int .i64 ((rd_T40 x4_3 (ji33)).f2)]] (by rfl) rfl rfl (by (try simp only [List.map_toArray, List.map_cons, List.map_nil]); first | done | (simp only [hji33]; rfl) | rfl | (simp only [List.length_drop, List.length_take]; rfl)) ?_
                   with_reducible refine (marchlandref03_before.calls ((rd_T40 x4_3 x8_3).f0) ((rd_T40 x4_3 x8_3).f1) ((rd_T40 x4_3 x8_3).f2) ((rd_T40 x4_3 (ji33)).f0) ((rd_T40 x4_3 (ji33)).f1) ((rd_T40 x4_3 (ji33)).f2) true _ A36.out).mono ?_
                   rintro e w41 ⟨rfl, hb⟩
                   have HS0_ := (hb.cell (World.block_lt_of_cell? _ _ (hHeld.1))).trans (hHeld.1)
                   have HS1_ := (hb.cell (World.block_lt_of_cell? _ _ (hHeld.2.1))).trans (hHeld.2.1)
                   have HS2_ := (hb.cell (World.block_lt_of_cell? _ _ (hHeld.2.2.1))).trans (hHeld.2.2.1)
                   have HS3_ := (hb.cell (World.block_lt_of_cell? _ _ (hHeld.2.2.2.1))).trans (hHeld.2.2.2.1)
                   have HS4_ := (hb.cell (World.block_lt_of_cell? _ _ (hHeld.2.2.2.2.1))).trans (hHeld.2.2.2.2.1)
                   have HS5_ := (hb.cell (World.block_lt_of_cell? _ _ (hHeld.2.2.2.2.2))).trans (hHeld.2.2.2.2.2)
                   refine ⟨_, rfl, ?_⟩
                   have n0_ := Aside0.mk (Kd.R_below (by (with_reducible repeat (first | apply Kd.R_alloc | apply Kd.R_drewN | apply Kd.R_drew)); exact HO_4.out) hb)
                   have n1_ := Aside0.mk (below_step (by repeat (first | (with_reducible first | exact HB.out | apply below_alloc | apply pw_below_drewN | apply below_drew1) | exact HB.out)) hb)
                   clear HO_4
                   clear HB
                   have HO_4 := n0_
                   have HB := n1_
                   clear n0_ n1_
                   (try clear hb)
                   (try clear hb2)
                   (try clear hk)
                   (try clear hi)
                   refine hK.out _ _ ⟨HS0_, HS1_, HS2_, HS3_, HS4_, HS5_⟩ (fun hHeld => ?_)
                   clear hK K
                   refine norm_ (a' := ?_) ?_ ?_
                   rotate_left
                   ·show Act.put _ (some 87) _ = _
                    simp only [Act.put, List.setIfInBounds_toArray, List.set_cons_zero, List.set_cons_succ, i64_w, i32_w]
                    rfl
                   refine pv_ 13 88 (mk_ 14 0) HT_ ?_
                   refine done_ (done_of HT_.out (by kernel_rfl)) ?_
                   try go_wp2
                   have n0_ := Aside0.mk (Kd.R_drew HO_4.out)
                   have n1_ := Aside0.mk (below_drew1 HB.out)
                   clear HO_4
                   clear HB
                   have HO_4 := n0_
                   have HB := n1_
                   clear n0_ n1_
                   have p199 : 0 ≤ (x8_3 : Int) := of_decide_eq_true (by first | (with_reducible assumption) | assumption)
                   have q199 : x8_3 < (x4_3.length : Int) := of_decide_eq_true (by first | (with_reducible assumption) | assumption)
                   obtain ⟨ad199, e199, hx199_0, hx199_1, hx199_2⟩ := at_T40 (Kd.R_reads' HO_4.out).2.2 x8_3 p199 q199
                   obtain rfl : ad196 = ad199 := (by injection e199)
                   replace p199 := eq_true p199
                   replace q199 := eq_true q199
                   have p200 : 0 ≤ ((ji33) : Int) := of_decide_eq_true (by first | (with_reducible assumption) | assumption)
                   have q200 : (ji33) < (x4_3.length : Int) := of_decide_eq_true (by first | (with_reducible assumption) | assumption)
                   obtain ⟨ad200, e200, hx200_0, hx200_1, hx200_2⟩ := at_T40 (Kd.R_reads' HO_4.out).2.2 (ji33) p200 q200
                   obtain rfl : ad196 = ad200 := (by injection e200)
                   replace p200 := eq_true p200
                   replace q200 := eq_true q200
                   have p38 : 0 ≤ ((ji33) : Int) := of_decide_eq_true (by first | (with_reducible assumption) | assumption)
                   have q38 : ((ji33) : Int) < ((x4_3.length : Int) : Int) := of_decide_eq_true (by first | (with_reducible assumption) | assumption)
                   obtain ⟨go38, co38, eo38, gb38, gl38, cl38, HG38⟩ := Kd.R_form HO_4.out (by omega)
                   (first | cases eo38 | (injection eo38 with ea_ en_ ec_; (first | subst ea_ | (injection ea_ with ea_; subst ea_)); subst ec_; clear en_))
                   have GB38 := Aside0.mk gb38
                   have GG38 := Aside0.mk HG38
                   clear gb38 gl38 HG38
                   (first | simp only [add_plain] at hx196_0 | skip)
                   (first | simp only [add_plain] at hx196_1 | skip)
                   (first | simp only [add_plain] at hx196_2 | skip)
                   (first | simp only [add_plain] at hx197_0 | skip)
                   (first | simp only [add_plain] at hx197_1 | skip)
                   (first | simp only [add_plain] at hx197_2 | skip)
                   (first | simp only [add_plain] at hx199_0 | skip)
                   (first | simp only [add_plain] at hx199_1 | skip)
                   (first | simp only [add_plain] at hx199_2 | skip)
                   (first | simp only [add_plain] at hx200_0 | skip)
                   (first | simp only [add_plain] at hx200_1 | skip)
                   (first | simp only [add_plain] at hx200_2 | skip)
                   obtain ⟨ce38, hcl38, hM38, hcc38, hfr38⟩ := Kd.R_elem HO_4.out z40 ((ji33) : Int) p38 q38
                   obtain rfl := k40_openM hM38
                   have hx38_0 : World.cell? _ ⟨go38, ((ji33) : Int).toNat * 3, none⟩ = some (.int .i64 ((rd_T40 x4_3 (ji33)).f0)) := hcc38 0 _ rfl
                   have hx38_1 : World.cell? _ ⟨go38, ((ji33) : Int).toNat * 3 + 1, none⟩ = some (.int .u64 ((rd_T40 x4_3 (ji33)).f1)) := hcc38 1 _ rfl
                   have hx38_2 : World.cell? _ ⟨go38, ((ji33) : Int).toNat * 3 + 2, none⟩ = some (.int .i64 ((rd_T40 x4_3 (ji33)).f2)) := hcc38 2 _ rfl
                   have hf38_0 : World.frozen? _ ⟨go38, ((ji33) : Int).toNat * 3, none⟩ = false := hfr38 0
                   have hf38_1 : World.frozen? _ ⟨go38, ((ji33) : Int).toNat * 3 + 1, none⟩ = false := hfr38 1
                   have hf38_2 : World.frozen? _ ⟨go38, ((ji33) : Int).toNat * 3 + 2, none⟩ = false := hfr38 2
                   clear hcl38 hcc38 hfr38 hM38
                   replace p38 := eq_true p38
                   replace q38 := eq_true q38
                   obtain ⟨ce43, hcl43, hM43, hcc43, hfr43⟩ := Kd.R_elem HO_4.out z40 ((ji33) : Int) (of_decide_eq_true (by first | (with_reducible assumption) | assumption)) (by have h_ : ((ji33) : Int) < ((x4_3.length : Int) : Int) := of_decide_eq_true (by first | (with_reducible assumption) | assumption); first | exact h_ | (have e_ := (Kd.R_reads' HO_4.out).1; omega) | simpa using h_)
                   obtain rfl := k40_openM hM43
                   have HP43 := (Kd.R_seg HO_4.out ((ji33) : Int) (of_decide_eq_true (by first | (with_reducible assumption) | assumption)) (by have h_ : ((ji33) : Int) < ((x4_3.length : Int) : Int) := of_decide_eq_true (by first | (with_reducible assumption) | assumption); first | exact h_ | (have e_ := (Kd.R_reads' HO_4.out).1; omega) | simpa using h_) (seg := [.int .i64 ((rd_T40 x4_3 x8_3).f0), .int .u64 ((rd_T40 x4_3 x8_3).f1), .int .i64 ((rd_T40 x4_3 x8_3).f2)]) (j := 0) hcl43 hcc43 (show 3 ≤ 3 from by decide) (x' := (⟨(rd_T40 x4_3 x8_3).f0, (rd_T40 x4_3 x8_3).f1, (rd_T40 x4_3 x8_3).f2⟩ : S40)) (k40_mkM _ _ _ (⟨(rd_T40 x4_3 x8_3).f0, (rd_T40 x4_3 x8_3).f1, (rd_T40 x4_3 x8_3).f2⟩ : S40) ) (fun _ hk => hk)).1
                   rw [← Ny201.out] at HP43
                   have HQ43 := Aside0.mk HP43
                   clear hcl43 hcc43 hfr43 hM43 HP43
                   have p39 : 0 ≤ (x8_3 : Int) := of_decide_eq_true (by first | (with_reducible assumption) | assumption)
                   have q39 : (x8_3 : Int) < ((x4_3.length : Int) : Int) := of_decide_eq_true (by first | (with_reducible assumption) | assumption)
                   obtain ⟨ce39, hcl39, hM39, hcc39, hfr39⟩ := Kd.R_elem HQ43.out z40 (x8_3 : Int) p39 q39
                   obtain rfl := k40_openM hM39
                   have hx39_0 : World.cell? _ ⟨go38, (x8_3 : Int).toNat * 3, none⟩ = some (.int .i64 ((rd_T40 y201 x8_3).f0)) := hcc39 0 _ rfl
                   have hx39_1 : World.cell? _ ⟨go38, (x8_3 : Int).toNat * 3 + 1, none⟩ = some (.int .u64 ((rd_T40 y201 x8_3).f1)) := hcc39 1 _ rfl
                   have hx39_2 : World.cell? _ ⟨go38, (x8_3 : Int).toNat * 3 + 2, none⟩ = some (.int .i64 ((rd_T40 y201 x8_3).f2)) := hcc39 2 _ rfl
                   have hf39_0 : World.frozen? _ ⟨go38, (x8_3 : Int).toNat * 3, none⟩ = false := hfr39 0
                   have hf39_1 : World.frozen? _ ⟨go38, (x8_3 : Int).toNat * 3 + 1, none⟩ = false := hfr39 1
                   have hf39_2 : World.frozen? _ ⟨go38, (x8_3 : Int).toNat * 3 + 2, none⟩ = false := hfr39 2
                   clear hcl39 hcc39 hfr39 hM39
                   replace p39 := eq_true p39
                   replace q39 := eq_true q39
                   obtain ⟨ce44, hcl44, hM44, hcc44, hfr44⟩ := Kd.R_elem HQ43.out z40 (x8_3 : Int) (of_decide_eq_true (by first | (with_reducible assumption) | assumption)) (by have h_ : (x8_3 : Int) < ((x4_3.length : Int) : Int) := of_decide_eq_true (by first | (with_reducible assumption) | assumption); first | exact h_ | (have e_ := (Kd.R_reads' HO_4.out).1; omega) | simpa using h_)
                   obtain rfl := k40_openM hM44
                   have HP44 := (Kd.R_seg HQ43.out (x8_3 : Int) (of_decide_eq_true (by first | (with_reducible assumption) | assumption)) (by have h_ : (x8_3 : Int) < ((x4_3.length : Int) : Int) := of_decide_eq_true (by first | (with_reducible assumption) | assumption); first | exact h_ | (have e_ := (Kd.R_reads' HO_4.out).1; omega) | simpa using h_) (seg := [.int .i64 ((rd_T40 x4_3 (ji33)).f0), .int .u64 ((rd_T40 x4_3 (ji33)).f1), .int .i64 ((rd_T40 x4_3 (ji33)).f2)]) (j := 0) hcl44 hcc44 (show 3 ≤ 3 from by decide) (x' := (⟨(rd_T40 x4_3 (ji33)).f0, (rd_T40 x4_3 (ji33)).f1, (rd_T40 x4_3 (ji33)).f2⟩ : S40)) (k40_mkM _ _ _ (⟨(rd_T40 x4_3 (ji33)).f0, (rd_T40 x4_3 (ji33)).f1, (rd_T40 x4_3 (ji33)).f2⟩ : S40) ) (fun _ hk => hk)).1
                   rw [← Ny202.out] at HP44
                   have HQ44 := Aside0.mk HP44
                   clear hcl44 hcc44 hfr44 hM44 HP44
                   refine start_ (n := 18) (S := fun w' => w'.cell? ⟨go38, ((x8_3).toNat * 3), none⟩ = some (.int .i64 ((rd_T40 x4_3 x8_3).f0)) ∧ w'.cell? ⟨go38, ((x8_3).toNat * 3) + 1, none⟩ = some (.int .u64 ((rd_T40 x4_3 x8_3).f1)) ∧ w'.cell? ⟨go38, ((x8_3).toNat * 3) + 2, none⟩ = some (.int .i64 ((rd_T40 x4_3 x8_3).f2)) ∧ w'.cell? ⟨go38, (((ji33)).toNat * 3), none⟩ = some (.int .i64 ((rd_T40 x4_3 (ji33)).f0)) ∧ w'.cell? ⟨go38, (((ji33)).toNat * 3) + 1, none⟩ = some (.int .u64 ((rd_T40 x4_3 (ji33)).f1)) ∧ w'.cell? ⟨go38, (((ji33)).toNat * 3) + 2, none⟩ = some (.int .i64 ((rd_T40 x4_3 (ji33)).f2))) (ds := [15, 17]) (mk_ 0 18) (by kernel_rfl) rfl rfl ⟨hx199_0, hx199_1, hx199_2, hx200_0, hx200_1, hx200_2⟩ (fun hHeld => ?_); refine with_tabW marchlandref03_sums.tab17 marchlandref03_sums.bits17 (fun HT_ HW_ => ?_)
                   generalize w41.drew = w42 at HO_4 HB GG38 HQ43 HQ44 hf38_0 hf38_1 hf38_2 hf39_0 hf39_1 hf39_2 hx196_0 hx196_1 hx196_2 hx197_0 hx197_1 hx197_2 hx199_0 hx199_1 hx199_2 hx200_0 hx200_1 hx200_2 hx38_0 hx38_1 hx38_2 hx39_0 hx39_1 hx39_2 hHeld ⊢
                   refine pv_ 0 91 (mk_ 1 17) HT_ ?_
                   refine pv_ 1 92 (mk_ 2 16) HT_ ?_
                   refine pv_ 2 93 (mk_ 3 15) HT_ ?_
                   refine pv_ 3 94 (mk_ 4 14) HT_ ?_
                   refine pv_ 4 95 (mk_ 5 13) HT_ ?_
                   refine pv_ 5 96 (mk_ 6 12) HT_ ?_
                   refine pv_ 6 97 (mk_ 7 11) HT_ ?_
                   refine pv_ 7 98 (mk_ 8 10) HT_ ?_
                   refine pv_ 9 100 #[true, true, true, true, true, true, true, true, false, true, false, false, false, false, false, false, false, false] HT_ ?_
                   refine pv_ 10 101 #[true, true, true, true, true, true, true, true, false, true, true, false, false, false, false, false, false, false] HT_ ?_
                   refine pv_ 11 102 #[true, true, true, true, true, true, true, true, false, true, true, true, false, false, false, false, false, false] HT_ ?_
                   refine pv_ 12 103 #[true, true, true, true, true, true, true, true, false, true, true, true, true, false, false, false, false, false] HT_ ?_
                   refine tv_ 8 99 (mk_ 13 5) HT_ HW_ hHeld (hy := by rintro w' ⟨s0, s1, s2, s3, s4, s5⟩; go_simp; with_reducible rfl) (h := ?_)
                   refine tv_ 13 104 (mk_ 14 4) HT_ HW_ hHeld (hy := by rintro w' ⟨s0, s1, s2, s3, s4, s5⟩; go_simp; with_reducible rfl) (h := ?_)
                   refine pv_ 14 105 (mk_ 15 3) HT_ ?_
                   refine last_ (i := 15) (N := none) (mk_ 16 2) rfl rfl (one_of HT_.out (by kernel_rfl)) (by decide) (fun K hK => ?_)
                   refine skip_ (w1 := ?_) (by rfl) rfl ?_ ?_
                   rotate_left
                   ·go_simp
                    rfl
                   refine hK.out _ _ ?_
                   clear hK K
                   refine pv_ 16 106 (mk_ 17 1) HT_ ?_
                   refine last_ (i := 17) (N := none) (mk_ 18 0) rfl rfl (one_of HT_.out (by kernel_rfl)) (by decide) (fun K hK => ?_)
                   refine skip_ (w1 := ?_) (by rfl) rfl ?_ ?_
                   rotate_left
                   ·have hne_ : ¬ (ji33.toNat = x8_3.toNat) := fun e_ => by have h1_ := hji33; have h2_ : 0 ≤ ji33 := of_eq_true p38; have h3_ : 0 ≤ x8_3 := of_eq_true p39; unfold wrap64 at h1_; omega
                    have hne2_ : ¬ (x8_3.toNat = ji33.toNat) := fun e_ => hne_ e_.symm
                    have hfz0_ : w42.frozen? ⟨go38, x8_3.toNat * 3, none⟩ = false := by have h_ := hf39_0; simpa [World.frozen?_setCell, World.setCells] using h_
                    have hfz1_ : w42.frozen? ⟨go38, x8_3.toNat * 3 + 1, none⟩ = false := by have h_ := hf39_1; simpa [World.frozen?_setCell, World.setCells] using h_
                    have hfz2_ : w42.frozen? ⟨go38, x8_3.toNat * 3 + 2, none⟩ = false := by have h_ := hf39_2; simpa [World.frozen?_setCell, World.setCells] using h_
                    go_simp
                    rfl
                   refine hK.out _ _ ?_
                   clear hK K
                   refine done_ (done_of HT_.out (by kernel_rfl)) ?_
                   try go_wp2
                   (try simp only [← hl4_3])
                   go_roundg k3
                   case measure => have := HK1.out; have := HK2.out; have := HK3.out; omega
                   case rel => exact ⟨(y202), (ji33), (by first | rfl | (simp; done) | (simp only [← hji33] <;> (first | rfl | simp)) | (simp [*]; done)), H', ⟨by have := HK1.out; have := HK2.out; have := HK3.out; omega⟩, ⟨by (try simp only [hl4_3]); (with_reducible repeat (first | apply Kd.R_alloc | apply Kd.R_drewN | apply Kd.R_drew)); exact HQ44.out⟩, ⟨by repeat (first | (with_reducible first | exact HB.out | apply below_alloc | apply pw_below_drewN | apply below_drew1 | refine below_set ?_ GB38.out | refine below_set ?_ GB38.out | refine below_set ?_ GB38.out | refine below_set ?_ GB38.out | refine below_set ?_ GB38.out | refine below_set ?_ GB38.out) | exact HB.out)⟩⟩
                  ·replace c37 := Bool.eq_false_iff.mpr c37
                   subst c37
                   have H1 : (marchlandref03_sums.l0 k3 l0 x4_3 (wrap64 (x5_1 + 1))) = some (r1, r2) := by rw [if_neg (show ¬ (false = true) by decide)] at H; exact H
                   clear H
                   have H := H1
                   clear H1
                   have H' := Aside0.mk H
                   clear H
                   try go_wp2
                   have n0_ := Aside0.mk (Kd.R_drew HO_4.out)
                   have n1_ := Aside0.mk (below_drew1 HB.out)
                   clear HO_4
                   clear HB
                   have HO_4 := n0_
                   have HB := n1_
                   clear n0_ n1_
                   have p196 : 0 ≤ (x8_3 : Int) := of_decide_eq_true (by first | (with_reducible assumption) | assumption)
                   have q196 : x8_3 < (x4_3.length : Int) := of_decide_eq_true (by first | (with_reducible assumption) | assumption)
                   obtain ⟨ad196, e196, hx196_0, hx196_1, hx196_2⟩ := at_T40 (Kd.R_reads' HO_4.out).2.2 x8_3 p196 q196
                   cases e196
                   replace p196 := eq_true p196
                   replace q196 := eq_true q196
                   have p197 : 0 ≤ ((ji33) : Int) := of_decide_eq_true (by first | (with_reducible assumption) | assumption)
                   have q197 : (ji33) < (x4_3.length : Int) := of_decide_eq_true (by first | (with_reducible assumption) | assumption)
                   obtain ⟨ad197, e197, hx197_0, hx197_1, hx197_2⟩ := at_T40 (Kd.R_reads' HO_4.out).2.2 (ji33) p197 q197
                   obtain rfl : ad196 = ad197 := (by injection e197)
                   replace p197 := eq_true p197
                   replace q197 := eq_true q197
                   refine start_ (n := 14) (S := fun w' => w'.cell? (ad196.add ((x8_3).toNat * 3)) = some (.int .i64 ((rd_T40 x4_3 x8_3).f0)) ∧ w'.cell? ⟨(ad196.add ((x8_3).toNat * 3)).block, (ad196.add ((x8_3).toNat * 3)).off + 1, none⟩ = some (.int .u64 ((rd_T40 x4_3 x8_3).f1)) ∧ w'.cell? ⟨(ad196.add ((x8_3).toNat * 3)).block, (ad196.add ((x8_3).toNat * 3)).off + 2, none⟩ = some (.int .i64 ((rd_T40 x4_3 x8_3).f2)) ∧ w'.cell? (ad196.add (((ji33)).toNat * 3)) = some (.int .i64 ((rd_T40 x4_3 (ji33)).f0)) ∧ w'.cell? ⟨(ad196.add (((ji33)).toNat * 3)).block, (ad196.add (((ji33)).toNat * 3)).off + 1, none⟩ = some (.int .u64 ((rd_T40 x4_3 (ji33)).f1)) ∧ w'.cell? ⟨(ad196.add (((ji33)).toNat * 3)).block, (ad196.add (((ji33)).toNat * 3)).off + 2, none⟩ = some (.int .i64 ((rd_T40 x4_3 (ji33)).f2))) (ds := []) (mk_ 0 14) (by kernel_rfl) rfl rfl ⟨hx196_0, hx196_1, hx196_2, hx197_0, hx197_1, hx197_2⟩ (fun hHeld => ?_); refine with_tabW marchlandref03_sums.tab15 marchlandref03_sums.bits15 (fun HT_ HW_ => ?_)
                   generalize wr.drew = w45 at HO_4 HB hx196_0 hx196_1 hx196_2 hx197_0 hx197_1 hx197_2 hHeld ⊢
                   refine pv_ 0 75 (mk_ 1 13) HT_ ?_
                   refine pv_ 1 76 (mk_ 2 12) HT_ ?_
                   refine pv_ 2 77 (mk_ 3 11) HT_ ?_
                   refine pv_ 3 78 (mk_ 4 10) HT_ ?_
                   refine pv_ 4 79 (mk_ 5 9) HT_ ?_
                   refine pv_ 5 80 (mk_ 6 8) HT_ ?_
                   refine pv_ 7 82 #[true, true, true, true, true, true, false, true, false, false, false, false, false, false] HT_ ?_
                   refine pv_ 8 83 #[true, true, true, true, true, true, false, true, true, false, false, false, false, false] HT_ ?_
                   refine pv_ 9 84 #[true, true, true, true, true, true, false, true, true, true, false, false, false, false] HT_ ?_
                   refine pv_ 10 85 #[true, true, true, true, true, true, false, true, true, true, true, false, false, false] HT_ ?_
                   refine tv_ 6 81 (mk_ 11 3) HT_ HW_ hHeld (hy := by rintro w' ⟨s0, s1, s2, s3, s4, s5⟩; go_simp; with_reducible rfl) (h := ?_)
                   refine tv_ 11 86 (mk_ 12 2) HT_ HW_ hHeld (hy := by rintro w' ⟨s0, s1, s2, s3, s4, s5⟩; go_simp; with_reducible rfl) (h := ?_)
                   refine one_ (i := 12) (N := some 87) (mk_ 13 1) rfl rfl (one_of HT_.out (by kernel_rfl)) (by decide) (fun K hK => ?_)
                   refine goes_ Try.func54 (by kernel_rfl) rfl #[.agg #[.int .i64 ((rd_T40 x4_3 x8_3).f0), .int .u64 ((rd_T40 x4_3 x8_3).f1), .int .i64 ((rd_T40 x4_3 x8_3).f2)], .agg #[.int .i64 ((rd_T40 x4_3 (ji33)).f0), .int .u64 ((rd_T40 x4_3 (ji33)).f1), .int .i64 ((rd_T40 x4_3 (ji33)).f2)]] (by rfl) rfl rfl (by (try simp only [List.map_toArray, List.map_cons, List.map_nil]); first | done | (simp only [hji33]; rfl) | rfl | (simp only [List.length_drop, List.length_take]; rfl)) ?_
                   with_reducible refine (marchlandref03_before.calls ((rd_T40 x4_3 x8_3).f0) ((rd_T40 x4_3 x8_3).f1) ((rd_T40 x4_3 x8_3).f2) ((rd_T40 x4_3 (ji33)).f0) ((rd_T40 x4_3 (ji33)).f1) ((rd_T40 x4_3 (ji33)).f2) false _ A36.out).mono ?_
                   rintro e w46 ⟨rfl, hb⟩
                   have HS0_ := (hb.cell (World.block_lt_of_cell? _ _ (hHeld.1))).trans (hHeld.1)
                   have HS1_ := (hb.cell (World.block_lt_of_cell? _ _ (hHeld.2.1))).trans (hHeld.2.1)
                   have HS2_ := (hb.cell (World.block_lt_of_cell? _ _ (hHeld.2.2.1))).trans (hHeld.2.2.1)
                   have HS3_ := (hb.cell (World.block_lt_of_cell? _ _ (hHeld.2.2.2.1))).trans (hHeld.2.2.2.1)
                   have HS4_ := (hb.cell (World.block_lt_of_cell? _ _ (hHeld.2.2.2.2.1))).trans (hHeld.2.2.2.2.1)
                   have HS5_ := (hb.cell (World.block_lt_of_cell? _ _ (hHeld.2.2.2.2.2))).trans (hHeld.2.2.2.2.2)
                   refine ⟨_, rfl, ?_⟩
                   have n0_ := Aside0.mk (Kd.R_below (by (with_reducible repeat (first | apply Kd.R_alloc | apply Kd.R_drewN | apply Kd.R_drew)); exact HO_4.out) hb)
                   have n1_ := Aside0.mk (below_step (by repeat (first | (with_reducible first | exact HB.out | apply below_alloc | apply pw_below_drewN | apply below_drew1) | exact HB.out)) hb)
                   clear HO_4
                   clear HB
                   have HO_4 := n0_
                   have HB := n1_
                   clear n0_ n1_
                   (try clear hb)
                   (try clear hb2)
                   (try clear hk)
                   (try clear hi)
                   refine hK.out _ _ ⟨HS0_, HS1_, HS2_, HS3_, HS4_, HS5_⟩ (fun hHeld => ?_)
                   clear hK K
                   refine norm_ (a' := ?_) ?_ ?_
                   rotate_left
                   ·show Act.put _ (some 87) _ = _
                    simp only [Act.put, List.setIfInBounds_toArray, List.set_cons_zero, List.set_cons_succ, i64_w, i32_w]
                    rfl
                   refine pv_ 13 88 (mk_ 14 0) HT_ ?_
                   refine done_ (done_of HT_.out (by kernel_rfl)) ?_
                   try go_wp2
                   (try simp only [← hl4_3])
                   go_roundg k3
                   case measure => have := HK1.out; have := HK2.out; have := HK3.out; omega
                   case rel => exact ⟨(x4_3), (wrap64 (x5_1 + 1)), (by first | rfl | (simp; done) | (simp [*]; done)), H', ⟨by have := HK1.out; have := HK2.out; have := HK3.out; omega⟩, ⟨by (try simp only [hl4_3]); (with_reducible repeat (first | apply Kd.R_alloc | apply Kd.R_drewN | apply Kd.R_drew)); exact HO_4.out⟩, ⟨by repeat (first | (with_reducible first | exact HB.out | apply below_alloc | apply pw_below_drewN | apply below_drew1) | exact HB.out)⟩⟩
                 ·rw [if_neg c35] at H
                  exact absurd H (by simp)
                ·rw [if_neg c34] at H
                 exact absurd H (by simp)
               ·rw [if_neg c32] at H
                exact absurd H (by simp)
              ·rw [if_neg c31] at H
               exact absurd H (by simp)
             ·rw [if_neg c30] at H
              have c30b0 : decide (0 < x8_3) = false := decide_eq_false c30
              clear c30
              have H' := Aside0.mk H
              clear H
              try go_wp2
              have n0_ := Aside0.mk (Kd.R_drew HO_4.out)
              have n1_ := Aside0.mk (below_drew1 HB.out)
              clear HO_4
              clear HB
              have HO_4 := n0_
              have HB := n1_
              clear n0_ n1_
              refine start_ (n := 14) (S := fun w' => True) (ds := []) (mk_ 0 14) (by kernel_rfl) rfl rfl trivial (fun hHeld => ?_); refine with_tabW marchlandref03_sums.tab15 marchlandref03_sums.bits15 (fun HT_ HW_ => ?_)
              generalize wr.drew = w47 at HO_4 HB hHeld ⊢
              refine pv_ 0 75 (mk_ 1 13) HT_ ?_
              refine pv_ 1 76 (mk_ 2 12) HT_ ?_
              refine pv_ 2 77 (mk_ 3 11) HT_ ?_
              refine pu_ 3 78 (mk_ 4 10) HT_ ?_
              refine pu_ 4 79 (mk_ 5 9) HT_ ?_
              refine pu_ 5 80 (mk_ 6 8) HT_ ?_
              refine pu_ 6 81 (mk_ 7 7) HT_ ?_
              refine pu_ 7 82 (mk_ 8 6) HT_ ?_
              refine pu_ 8 83 (mk_ 9 5) HT_ ?_
              refine pu_ 9 84 (mk_ 10 4) HT_ ?_
              refine pu_ 10 85 (mk_ 11 3) HT_ ?_
              refine pu_ 11 86 (mk_ 12 2) HT_ ?_
              refine pu_ 12 87 (mk_ 13 1) HT_ ?_
              refine pv_ 13 88 (mk_ 14 0) HT_ ?_
              refine done_ (done_of HT_.out (by kernel_rfl)) ?_
              try go_wp2
              (try simp only [← hl4_3])
              go_roundg k3
              case measure => have := HK1.out; have := HK2.out; have := HK3.out; omega
              case rel => exact ⟨(x4_3), (wrap64 (x5_1 + 1)), (by first | rfl | (simp; done) | (simp [*]; done)), H', ⟨by have := HK1.out; have := HK2.out; have := HK3.out; omega⟩, ⟨by (try simp only [hl4_3]); (with_reducible repeat (first | apply Kd.R_alloc | apply Kd.R_drewN | apply Kd.R_drew)); exact HO_4.out⟩, ⟨by repeat (first | (with_reducible first | exact HB.out | apply below_alloc | apply pw_below_drewN | apply below_drew1) | exact HB.out)⟩⟩
          ·rw [if_neg c26] at H
           exact absurd H (by simp)
         ·rw [if_neg c25] at H
          exact absurd H (by simp)
        ·rw [if_neg c24] at H
         exact absurd H (by simp)
   ·rw [if_neg c2] at H
    have c2b0 : decide (x5_1 < (l0.length : Int)) = false := decide_eq_false c2
    clear c2
    have H' := Aside0.mk H
    clear H
    go_wp2
    go_loopg [9, 10] k1 (fun kq v9 v10 w' => ∃ (x9_2 : List (S40)) (x10_2 : Int), v10 = .int .i64 x10_2 ∧ Aside0 (marchlandref03_sums.l3 kq x4_1 x9_2 x10_2 = some (r1, r2)) ∧ Aside0 (kq ≤ k1) ∧ Aside0 (Kd.R k40 40 w' w.heap.size (fun k_ => some k_ ≠ (v9 : Value).ownBlock) u4 x4_1) ∧ Aside0 (Kd.R k40 40 w' w.heap.size (fun k_ => some k_ ≠ (u4 : Value).ownBlock) v9 x9_2) ∧ Aside0 (Below w.heap.size w w'))
    case atStart => exact ⟨(([] : List (S40))), (0), (by first | rfl | (simp; done) | (simp [*]; done)), H', ⟨Nat.le_refl _⟩, ⟨by (with_reducible repeat (first | apply Kd.R_alloc | apply Kd.R_drewN | apply Kd.R_drew)); exact Kd.R_mono HO_4.out (fun _ hk => (by simp [Value.ownBlock]))⟩, ⟨by first | exact Kd.R_nil _ _ _ _ _ | exact Kd.N_nil _ _ _ _ _ | exact Kd.V_nil _ _ _ _ _ | exact Kd.Q_nil _ _ _ _ _ | exact Kd.S_nil _ _ _ _ _⟩, ⟨by repeat (first | (with_reducible first | exact HB.out | apply below_alloc | apply pw_below_drewN | apply below_drew1) | exact HB.out)⟩⟩
    case round =>
     clear H'
     try clear p1
     try clear q1
     try clear hx1
     try clear c2
     try clear c2b0
     try clear p2
     try clear q2
     try clear hx2
     try clear c3
     try clear p3
     try clear q3
     try clear hx3
     try clear hf3
     try clear c4
     try clear c5
     try clear p6
     try clear p19
     try clear q19
     try clear hx19
     try clear p20
     try clear q20
     try clear hx20
     try clear c24
     try clear c25
     try clear c26
     try clear c30
     try clear c30b0
     try clear c31
     try clear c32
     try clear c34
     try clear c35
     try clear c37
     try clear c38
     try clear p38
     try clear q38
     try clear hx38
     try clear hf38
     try clear c39
     try clear p39
     try clear q39
     try clear hx39
     try clear hf39
     try clear c43
     try clear c44
     try clear hx196_0
     try clear hx196_1
     try clear hx196_2
     try clear hx197_0
     try clear hx197_1
     try clear hx197_2
     try clear hx199_0
     try clear hx199_1
     try clear hx199_2
     try clear hx200_0
     try clear hx200_1
     try clear hx200_2
     try clear hx38_0
     try clear hx38_1
     try clear hx38_2
     try clear hx39_0
     try clear hx39_1
     try clear hx39_2
     try clear p196
     try clear p197
     try clear p199
     try clear p200
     try clear p38
     try clear p39
     try clear q196
     try clear q197
     try clear q199
     try clear q200
     try clear q38
     try clear q39
     obtain ⟨x9_2, x10_2, rfl, HA, HK2, HO_4, HO_9, HB⟩ := hrel
     cases gk with
     | zero => exact absurd HA.out (by simp [marchlandref03_sums.l3])
     | succ k2 =>
      have H := HA.out
      clear HA
      simp only [marchlandref03_sums.l3] at H
      by_cases c48 : x10_2 < (x4_1.length : Int)
      ·rw [if_pos c48] at H
       have c48b0 : decide (x10_2 < (x4_1.length : Int)) = true := decide_eq_true c48
       clear c48
       by_cases c49 : 0 ≤ x10_2
       ·rw [if_pos c49] at H
        have c49b0 : decide (0 ≤ x10_2) = true := decide_eq_true c49
        clear c49
        replace H := Option.bind_eq_some_iff.mp H
        obtain ⟨t204, A500, H⟩ := H
        replace H : (if t204 = true then (if ((rd_T40 x4_1 x10_2).f2) = 0 then (marchlandref03_sums.l3 k2 x4_1 x9_2 (wrap64 (x10_2 + 1))) else (if x9_2.length < 5864062014805 then (marchlandref03_sums.l3 k2 x4_1 (x9_2 ++ [(⟨(rd_T40 x4_1 x10_2).f0, (rd_T40 x4_1 x10_2).f1, (rd_T40 x4_1 x10_2).f2⟩ : S40)]) (wrap64 (x10_2 + 1))) else (none))) else (some (([] : List (S40)), false))) = some (r1, r2) := H
        have A50 := Aside0.mk A500
        clear A500
        by_cases c51 : t204 = true
        ·subst c51
         have H1 : (if ((rd_T40 x4_1 x10_2).f2) = 0 then (marchlandref03_sums.l3 k2 x4_1 x9_2 (wrap64 (x10_2 + 1))) else (if x9_2.length < 5864062014805 then (marchlandref03_sums.l3 k2 x4_1 (x9_2 ++ [(⟨(rd_T40 x4_1 x10_2).f0, (rd_T40 x4_1 x10_2).f1, (rd_T40 x4_1 x10_2).f2⟩ : S40)]) (wrap64 (x10_2 + 1))) else (none))) = some (r1, r2) := by rw [if_pos rfl] at H; exact H
         clear H
         have H := H1
         clear H1
         by_cases c52 : ((rd_T40 x4_1 x10_2).f2) = 0
         ·rw [if_pos c52] at H
          have c52b0 : (((rd_T40 x4_1 x10_2).f2) == 0) = true := beq_iff_eq.mpr c52
          have c52b1 : (((rd_T40 x4_1 x10_2).f2) != 0) = false := bne_eq_false_iff_eq.mpr c52
          clear c52
          have H' := Aside0.mk H
          clear H
          obtain ⟨Ao53, co53, eo53⟩ := Kd.R_slice HO_4.out
          subst eo53
          have p203 : 0 ≤ (x10_2 : Int) := of_decide_eq_true (by first | (with_reducible assumption) | assumption)
          have q203 : x10_2 < (x4_1.length : Int) := of_decide_eq_true (by first | (with_reducible assumption) | assumption)
          obtain ⟨ad203, e203, hx203_0, hx203_1, hx203_2⟩ := at_T40 (Kd.R_reads' HO_4.out).2.2 x10_2 p203 q203
          cases e203
          replace p203 := eq_true p203
          replace q203 := eq_true q203
          go_wp2_with (first | ((with_reducible refine gate_callee (f := 51) rfl ?_); refine goesL_ (some 118) rfl rfl Try.func51 (by kernel_rfl) rfl #[.int .i64 ((rd_T40 x4_1 x10_2).f2)] rfl (by (try simp only [List.map_toArray, List.map_cons, List.map_nil]); first | done | rfl | (simp only [List.length_drop, List.length_take]; rfl)) ?_; (with_reducible refine (marchlandref03_within.calls ((rd_T40 x4_1 x10_2).f2) true _ A50.out).mono ?_); rintro e w' ⟨rfl, ⟨nd, rfl⟩⟩; refine ⟨_, rfl, ?_⟩; have p205 : 0 ≤ (x10_2 : Int) := of_decide_eq_true (by first | (with_reducible assumption) | assumption); have q205 : x10_2 < (x4_1.length : Int) := of_decide_eq_true (by first | (with_reducible assumption) | assumption); obtain ⟨ad205, e205, hx205_0, hx205_1, hx205_2⟩ := at_T40 (Kd.R_reads' HO_4.out).2.2 x10_2 p205 q205; obtain rfl : ad203 = ad205 := (by injection e205); replace p205 := eq_true p205; replace q205 := eq_true q205))
          go_roundg k2
          case measure => have := HK1.out; have := HK2.out; omega
          case rel => exact ⟨(x9_2), (wrap64 (x10_2 + 1)), (by first | rfl | (simp; done) | (simp [*]; done)), H', ⟨by have := HK1.out; have := HK2.out; omega⟩, ⟨by (with_reducible repeat (first | apply Kd.R_alloc | apply Kd.R_drewN | apply Kd.R_drew)); exact HO_4.out⟩, ⟨by (with_reducible repeat (first | apply Kd.R_alloc | apply Kd.R_drewN | apply Kd.R_drew)); exact HO_9.out⟩, ⟨by repeat (first | (with_reducible first | exact HB.out | apply below_alloc | apply pw_below_drewN | apply below_drew1) | exact HB.out)⟩⟩
         ·rw [if_neg c52] at H
          have c52b0 : (((rd_T40 x4_1 x10_2).f2) == 0) = false := beq_eq_false_iff_ne.mpr c52
          have c52b1 : (((rd_T40 x4_1 x10_2).f2) != 0) = true := bne_iff_ne.mpr c52
          by_cases c54 : x9_2.length < 5864062014805
          ·rw [if_pos c54] at H
           have LMc54 := Aside0.mk c54
           clear c54
           obtain ⟨y207, hy207⟩ : ∃ y_ : List (S40), y_ = (x9_2 ++ [(⟨(rd_T40 x4_1 x10_2).f0, (rd_T40 x4_1 x10_2).f1, (rd_T40 x4_1 x10_2).f2⟩ : S40)]) := ⟨_, rfl⟩
           replace H : (marchlandref03_sums.l3 k2 x4_1 y207 (wrap64 (x10_2 + 1))) = some (r1, r2) := by first | (rw [hy207]; with_reducible exact H) | (have H2_ := (Option.bind_some _ _).symm.trans H; rw [hy207]; with_reducible exact H2_) | (have H2_ := (Option.bind_some _ _).symm.trans H; with_reducible exact H2_) | with_reducible exact H | (rw [hy207]; exact H) | exact H
           have Ny207 := Aside0.mk hy207
           clear hy207
           have H' := Aside0.mk H
           clear H
           obtain ⟨Ao55, co55, eo55⟩ := Kd.R_slice HO_4.out
           subst eo55
           have p203 : 0 ≤ (x10_2 : Int) := of_decide_eq_true (by first | (with_reducible assumption) | assumption)
           have q203 : x10_2 < (x4_1.length : Int) := of_decide_eq_true (by first | (with_reducible assumption) | assumption)
           obtain ⟨ad203, e203, hx203_0, hx203_1, hx203_2⟩ := at_T40 (Kd.R_reads' HO_4.out).2.2 x10_2 p203 q203
           cases e203
           replace p203 := eq_true p203
           replace q203 := eq_true q203
           go_wp2_with (first | ((with_reducible refine gate_callee (f := 51) rfl ?_); refine goesL_ (some 118) rfl rfl Try.func51 (by kernel_rfl) rfl #[.int .i64 ((rd_T40 x4_1 x10_2).f2)] rfl (by (try simp only [List.map_toArray, List.map_cons, List.map_nil]); first | done | rfl | (simp only [List.length_drop, List.length_take]; rfl)) ?_; (with_reducible refine (marchlandref03_within.calls ((rd_T40 x4_1 x10_2).f2) true _ A50.out).mono ?_); rintro e w' ⟨rfl, ⟨nd, rfl⟩⟩; refine ⟨_, rfl, ?_⟩; have p205 : 0 ≤ (x10_2 : Int) := of_decide_eq_true (by first | (with_reducible assumption) | assumption); have q205 : x10_2 < (x4_1.length : Int) := of_decide_eq_true (by first | (with_reducible assumption) | assumption); obtain ⟨ad205, e205, hx205_0, hx205_1, hx205_2⟩ := at_T40 (Kd.R_reads' HO_4.out).2.2 x10_2 p205 q205; obtain rfl : ad203 = ad205 := (by injection e205); replace p205 := eq_true p205; replace q205 := eq_true q205; have p206 : 0 ≤ (x10_2 : Int) := of_decide_eq_true (by first | (with_reducible assumption) | assumption); have q206 : x10_2 < (x4_1.length : Int) := of_decide_eq_true (by first | (with_reducible assumption) | assumption); obtain ⟨ad206, e206, hx206_0, hx206_1, hx206_2⟩ := at_T40 (Kd.R_reads' HO_4.out).2.2 x10_2 p206 q206; obtain rfl : ad203 = ad206 := (by injection e206); replace p206 := eq_true p206; replace q206 := eq_true q206) | ((with_reducible refine gate_builtin (b := .append) (xs := #[.tmp 126, .tmp 131]) rfl ?_); at_builtin; refine Kd.R_append k40 (w0 := w) w.heap.size rfl (.tmp 126) (.tmp 131) 22 40 (.agg #[(.int .i64 0), (.int .u64 0), (.int .i64 0)]) 24 rfl Try.underlying22 info40 rfl (by decide) (by omega) u9 x9_2 (⟨(rd_T40 x4_1 x10_2).f0, (rd_T40 x4_1 x10_2).f1, (rd_T40 x4_1 x10_2).f2⟩ : S40) [.int .i64 ((rd_T40 x4_1 x10_2).f0), .int .u64 ((rd_T40 x4_1 x10_2).f1), .int .i64 ((rd_T40 x4_1 x10_2).f2)] (fun k_ => some k_ ≠ (.slice (some ad203) x4_1.length co55 : Value).ownBlock) (fun _ => False) rfl rfl ?aP (fun _ hk => hk.elim) ?aF ?aO ?aB ?aS ?aL ?_; (case aP => exact k40_mkM _ _ _ (⟨(rd_T40 x4_1 x10_2).f0, (rd_T40 x4_1 x10_2).f1, (rd_T40 x4_1 x10_2).f2⟩ : S40)); (case aB => exact (by repeat (first | (with_reducible first | exact HB.out | apply below_alloc | apply pw_below_drewN | apply below_drew1) | exact HB.out))); (case aF => exact (fun k_ hk => Kd.fresh' (Kd.R_lt (by (with_reducible repeat (first | apply Kd.R_alloc | apply Kd.R_drewN | apply Kd.R_drew)); exact HO_4.out)) k_ hk)); (case aO => exact (by (with_reducible repeat (first | apply Kd.R_alloc | apply Kd.R_drewN | apply Kd.R_drew)); exact HO_9.out)); (case aS => exact (below_size (by repeat (first | (with_reducible first | exact HB.out | apply below_alloc | apply pw_below_drewN | apply below_drew1) | exact HB.out)))); (case aL => have := LMc54.out; omega); intro v208 w56 ho hb hg hat; rw [← Ny207.out] at ho; have n0_ := Aside0.mk (Kd.R_after (ok := (fun _ => True)) (by (with_reducible repeat (first | apply Kd.R_alloc | apply Kd.R_drewN | apply Kd.R_drew)); exact Kd.R_mono HO_4.out (fun _ hk => ⟨trivial, hk⟩)) hg hat); have n1_ := Aside0.mk (hb); have n2_ := Aside0.mk (ho); clear HO_4; clear HB; clear HO_9; have HO_4 := n0_; have HB := n1_; have HO209 := n2_; clear n0_ n1_ n2_; clear ho hb hg hat))
           go_roundg k2
           case measure => have := HK1.out; have := HK2.out; omega
           case rel => exact ⟨(y207), (wrap64 (x10_2 + 1)), (by first | rfl | (simp; done) | (simp [*]; done)), H', ⟨by have := HK1.out; have := HK2.out; omega⟩, ⟨by (with_reducible repeat (first | apply Kd.R_alloc | apply Kd.R_drewN | apply Kd.R_drew)); exact Kd.R_mono HO_4.out (fun _ hk => hk.2)⟩, ⟨by (with_reducible repeat (first | apply Kd.R_alloc | apply Kd.R_drewN | apply Kd.R_drew)); exact HO209.out⟩, ⟨by repeat (first | (with_reducible first | exact HB.out | apply below_alloc | apply pw_below_drewN | apply below_drew1) | exact HB.out)⟩⟩
          ·rw [if_neg c54] at H
           exact absurd H (by simp)
        ·replace c51 := Bool.eq_false_iff.mpr c51
         subst c51
         have H1 : (some (([] : List (S40)), false)) = some (r1, r2) := by rw [if_neg (show ¬ (false = true) by decide)] at H; exact H
         clear H
         have H := H1
         clear H1
         simp only [Option.some.injEq, Prod.mk.injEq] at H
         obtain ⟨rfl, rfl⟩ := H
         obtain ⟨Ao57, co57, eo57⟩ := Kd.R_slice HO_4.out
         subst eo57
         have p203 : 0 ≤ (x10_2 : Int) := of_decide_eq_true (by first | (with_reducible assumption) | assumption)
         have q203 : x10_2 < (x4_1.length : Int) := of_decide_eq_true (by first | (with_reducible assumption) | assumption)
         obtain ⟨ad203, e203, hx203_0, hx203_1, hx203_2⟩ := at_T40 (Kd.R_reads' HO_4.out).2.2 x10_2 p203 q203
         cases e203
         replace p203 := eq_true p203
         replace q203 := eq_true q203
         go_wp2_with (first | ((with_reducible refine gate_callee (f := 51) rfl ?_); refine goesL_ (some 118) rfl rfl Try.func51 (by kernel_rfl) rfl #[.int .i64 ((rd_T40 x4_1 x10_2).f2)] rfl (by (try simp only [List.map_toArray, List.map_cons, List.map_nil]); first | done | rfl | (simp only [List.length_drop, List.length_take]; rfl)) ?_; (with_reducible refine (marchlandref03_within.calls ((rd_T40 x4_1 x10_2).f2) false _ A50.out).mono ?_); rintro e w' ⟨rfl, ⟨nd, rfl⟩⟩; refine ⟨_, rfl, ?_⟩))
         go_ret2
         exact ⟨_, by first | rfl | (simp [errW_none, errW_some] <;> rfl) | (simp [*, errW_none, errW_some] <;> rfl), by first | exact Kd.R_nil _ _ _ _ _ | exact Kd.N_nil _ _ _ _ _ | exact Kd.V_nil _ _ _ _ _ | exact Kd.Q_nil _ _ _ _ _ | exact Kd.S_nil _ _ _ _ _, by repeat (first | (with_reducible first | exact HB.out | apply below_alloc | apply pw_below_drewN | apply below_drew1) | exact HB.out)⟩
       ·rw [if_neg c49] at H
        exact absurd H (by simp)
      ·rw [if_neg c48] at H
       have c48b0 : decide (x10_2 < (x4_1.length : Int)) = false := decide_eq_false c48
       clear c48
       simp only [Option.some.injEq, Prod.mk.injEq] at H
       obtain ⟨rfl, rfl⟩ := H
       obtain ⟨Ao58, co58, eo58⟩ := Kd.R_slice HO_4.out
       subst eo58
       go_wp2
       go_ret2
       exact ⟨_, by first | rfl | (simp [errW_none, errW_some] <;> rfl) | (simp [*, errW_none, errW_some] <;> rfl), by (with_reducible repeat (first | apply Kd.R_alloc | apply Kd.R_drewN | apply Kd.R_drew)); exact Kd.R_mono HO_9.out (fun _ hk => trivial), by repeat (first | (with_reducible first | exact HB.out | apply below_alloc | apply pw_below_drewN | apply below_drew1) | exact HB.out)⟩

end Go.Proofs.Ytgeldmhgbnamcaa.P
end
section
-- Printed by the session's own turn of the print (wip/tools/print2.sh): some callees are proved by hand.
namespace Go.Proofs.Ytgeldmhgbnamcaa.P
open Go.RowKit Go.Proofs.YtgeldmhgbnamcaaW.PrintWords Go.Proofs.YtgeldmhgbnamcaaW.PrintLast Go.Proofs.YtgeldmhgbnamcaaW.PrintMore
attribute [local go_sem] max2_int min2_int max_two min_two max_three min_three max_four min_four   -- for this text's walks alone
set_option linter.unusedVariables false
set_option linter.unusedSimpArgs false

/-! ### marchlandref03_Fix: function 22 -/
def marchlandref03_Fix.l0 : Nat → List (S40) → List (S40) → Int → Option ((List (S40)))
 | 0, _, _, _ => none
 | k + 1, x0, x3, x4 => if x4 < (x0.length : Int) then (if x4 < 12 then (if 0 ≤ x4 then (if x3.length < 5864062014805 then (marchlandref03_Fix.l0 k x0 (x3 ++ [(⟨wrap64 (Int.tmod (IntKind.u64.wrap ((rd_T40 x0 x4).f0)) 64), Int.tmod ((rd_T40 x0 x4).f1) 18446744073709551615, Int.tmod ((rd_T40 x0 x4).f2) 1000⟩ : S40)]) (wrap64 (x4 + 1))) else (none)) else (none)) else ((marchlandref03_sums.f k x3).bind fun bt301 => (some bt301.1))) else ((marchlandref03_sums.f k x3).bind fun bt305 => (some bt305.1))
def marchlandref03_Fix.f (k : Nat) (l0 : List (S40)) : Option ((List (S40))) := marchlandref03_Fix.l0 k l0 ([] : List (S40)) 0
theorem marchlandref03_Fix.mono_l : ∀ k, (∀ y0 y1 y2, LeO (marchlandref03_Fix.l0 k y0 y1 y2) (marchlandref03_Fix.l0 (k + 1) y0 y1 y2))
 | 0 => fun _ _ _ r h => by simp [marchlandref03_Fix.l0] at h
 | k + 1 => by
  have ih0 := marchlandref03_Fix.mono_l k
  ·intro y0 y1 y2
   unfold marchlandref03_Fix.l0
   repeat' first
   | (with_reducible exact ih0 _ _ _)
   | (with_reducible exact marchlandref03_sums.mono _ _)
   | (with_reducible exact LeO.refl _)
   | (with_reducible exact LeO.none _)
   | (with_reducible refine LeO.ite ?_ ?_)
   | (with_reducible refine LeO.bind ?_ (fun _ => ?_))
   | exact ih0 _ _ _
   | exact marchlandref03_sums.mono _ _
   | exact LeO.none _
   | refine LeO.ite ?_ ?_
   | refine LeO.bind ?_ (fun _ => ?_)
theorem marchlandref03_Fix.mono : ∀ a0 k, LeO (marchlandref03_Fix.f k a0) (marchlandref03_Fix.f (k + 1) a0) := by
 intro a0 k
 have ih0 := marchlandref03_Fix.mono_l k
 unfold marchlandref03_Fix.f
 repeat' first
   | (with_reducible exact ih0 _ _ _)
   | (with_reducible exact marchlandref03_sums.mono _ _)
   | (with_reducible exact LeO.refl _)
   | (with_reducible exact LeO.none _)
   | (with_reducible refine LeO.ite ?_ ?_)
   | (with_reducible refine LeO.bind ?_ (fun _ => ?_))
   | exact ih0 _ _ _
   | exact marchlandref03_sums.mono _ _
   | exact LeO.none _
   | refine LeO.ite ?_ ?_
   | refine LeO.bind ?_ (fun _ => ?_)
def marchlandref03_Fix.T5 : Bool × List (List Nat × List Nat) := (true, [([], []), ([], []), ([], []), ([1, 2], [1, 2]), ([3], [3]), ([4], [4]), ([5], [5]), ([6], [6]), ([7], [7]), ([], []), ([], []), ([9, 10], [9, 10]), ([11], [11]), ([12], [12]), ([13], [13]), ([], []), ([], []), ([15, 16], [15, 16]), ([17], [17]), ([18], [18]), ([19], [19]), ([8, 14, 20], [8, 14, 20]), ([21], [21]), ([0, 22], [0, 22]), ([23, 23, 0, 1, 2, 3, 4, 5, 6, 7, 8, 9, 10, 11, 12, 13, 14, 15, 16, 17, 18, 19, 20, 21, 22, 23], [0, 23])])
def marchlandref03_Fix.B5 : List Nat := [0, 0, 0, 6, 14, 30, 62, 126, 254, 0, 0, 1536, 3584, 7680, 15872, 0, 0, 98304, 229376, 491520, 1015808, 2097150, 4194302, 8388607, 16777215]
theorem marchlandref03_Fix.tab5 : rtab .any (opsOf Try.f22 5) = marchlandref03_Fix.T5 := by kernel_rfl
theorem marchlandref03_Fix.bits5 : waitsOk marchlandref03_Fix.T5.2 marchlandref03_Fix.B5 = true := by kernel_rfl
set_option maxHeartbeats 8000000 in
set_option maxRecDepth 100000 in
theorem marchlandref03_Fix.calls (k : Nat) (A0 : Option Addr) (c0 : Nat) (l0 : List (S40)) (r : List (S40)) (w : World) (hr0 : Kd.C k40 w A0 l0.length l0) (hc0 : l0.length ≤ c0) (h : marchlandref03_Fix.f k l0 = some r) :
  Calls Try.prog 22 #[.slice A0 l0.length c0] w fun e w' => ∃ v0_ : Value, e = .returned (v0_) ∧ Kd.R k40 40 w' w.heap.size (fun _ => True) v0_ r ∧ Below w.heap.size w w' := by
 have hu40 := Try.underlying40
 have HR0 := Aside0.mk hr0
 have HC0 := Aside0.mk hc0
 clear hr0 hc0
 have HB := Aside0.mk (Below.refl w.heap.size w)
 have H : (marchlandref03_Fix.l0 k l0 ([] : List (S40)) 0) = some r := h
 clear h
 have H' := Aside0.mk H
 clear H
 go_enter Try.func22, Try.ntmps22
 go_wp2
 go_loopg [3, 4] k (fun kq v3 v4 w' => ∃ (x3_1 : List (S40)) (x4_1 : Int), v4 = .int .i64 x4_1 ∧ Aside0 (marchlandref03_Fix.l0 kq l0 x3_1 x4_1 = some r) ∧ Aside0 (kq ≤ k) ∧ Aside0 (Kd.R k40 40 w' w.heap.size (fun _ => True) v3 x3_1) ∧ Aside0 (Below w.heap.size w w'))
 case atStart => exact ⟨(([] : List (S40))), (0), (by first | rfl | (simp; done) | (simp [*]; done)), H', ⟨Nat.le_refl _⟩, ⟨by first | exact Kd.R_nil _ _ _ _ _ | exact Kd.N_nil _ _ _ _ _ | exact Kd.V_nil _ _ _ _ _ | exact Kd.Q_nil _ _ _ _ _ | exact Kd.S_nil _ _ _ _ _⟩, ⟨by repeat (first | (with_reducible first | exact HB.out | apply below_alloc | apply pw_below_drewN | apply below_drew1) | exact HB.out)⟩⟩
 case round =>
  clear H'
  obtain ⟨x3_1, x4_1, rfl, HA, HK1, HO_3, HB⟩ := hrel
  cases gk with
  | zero => exact absurd HA.out (by simp [marchlandref03_Fix.l0])
  | succ k1 =>
   have H := HA.out
   clear HA
   simp only [marchlandref03_Fix.l0] at H
   by_cases c2 : x4_1 < (l0.length : Int)
   ·rw [if_pos c2] at H
    have c2b0 : decide (x4_1 < (l0.length : Int)) = true := decide_eq_true c2
    clear c2
    by_cases c3 : x4_1 < 12
    ·rw [if_pos c3] at H
     have c3b0 : decide (x4_1 < 12) = true := decide_eq_true c3
     clear c3
     by_cases c4 : 0 ≤ x4_1
     ·rw [if_pos c4] at H
      have c4b0 : decide (0 ≤ x4_1) = true := decide_eq_true c4
      clear c4
      by_cases c5 : x3_1.length < 5864062014805
      ·rw [if_pos c5] at H
       have LMc5 := Aside0.mk c5
       clear c5
       obtain ⟨y298, hy298⟩ : ∃ y_ : List (S40), y_ = (x3_1 ++ [(⟨wrap64 (Int.tmod (IntKind.u64.wrap ((rd_T40 l0 x4_1).f0)) 64), Int.tmod ((rd_T40 l0 x4_1).f1) 18446744073709551615, Int.tmod ((rd_T40 l0 x4_1).f2) 1000⟩ : S40)]) := ⟨_, rfl⟩
       replace H : (marchlandref03_Fix.l0 k1 l0 y298 (wrap64 (x4_1 + 1))) = some r := by first | (rw [hy298]; with_reducible exact H) | (have H2_ := (Option.bind_some _ _).symm.trans H; rw [hy298]; with_reducible exact H2_) | (have H2_ := (Option.bind_some _ _).symm.trans H; with_reducible exact H2_) | with_reducible exact H | (rw [hy298]; exact H) | exact H
       have Ny298 := Aside0.mk hy298
       clear hy298
       have H' := Aside0.mk H
       clear H
       try go_wp2
       have n0_ := Aside0.mk (Kd.R_drew HO_3.out)
       have n1_ := Aside0.mk (below_drew1 HB.out)
       clear HO_3
       clear HB
       have HO_3 := n0_
       have HB := n1_
       clear n0_ n1_
       have p295 : 0 ≤ (x4_1 : Int) := of_decide_eq_true (by first | (with_reducible assumption) | assumption)
       have q295 : x4_1 < (l0.length : Int) := of_decide_eq_true (by first | (with_reducible assumption) | assumption)
       obtain ⟨ad295, e295, hx295_0, hx295_1, hx295_2⟩ := at_T40 HR0.out x4_1 p295 q295
       have hw295_2 := hx295_2
       have hw295_1 := hx295_1
       have hw295_0 := hx295_0
       cases e295
       replace hx295_0 := (HB.out.cell (World.block_lt_of_cell? w _ hx295_0)).trans hx295_0
       replace hx295_1 := (HB.out.cell (World.block_lt_of_cell? w _ hx295_1)).trans hx295_1
       replace hx295_2 := (HB.out.cell (World.block_lt_of_cell? w _ hx295_2)).trans hx295_2
       replace p295 := eq_true p295
       replace q295 := eq_true q295
       have p296 : 0 ≤ (x4_1 : Int) := of_decide_eq_true (by first | (with_reducible assumption) | assumption)
       have q296 : x4_1 < (l0.length : Int) := of_decide_eq_true (by first | (with_reducible assumption) | assumption)
       obtain ⟨ad296, e296, hx296_0, hx296_1, hx296_2⟩ := at_T40 HR0.out x4_1 p296 q296
       have hw296_2 := hx296_2
       have hw296_1 := hx296_1
       have hw296_0 := hx296_0
       obtain rfl : ad295 = ad296 := (by injection e296)
       replace hx296_0 := (HB.out.cell (World.block_lt_of_cell? w _ hx296_0)).trans hx296_0
       replace hx296_1 := (HB.out.cell (World.block_lt_of_cell? w _ hx296_1)).trans hx296_1
       replace hx296_2 := (HB.out.cell (World.block_lt_of_cell? w _ hx296_2)).trans hx296_2
       replace p296 := eq_true p296
       replace q296 := eq_true q296
       have p297 : 0 ≤ (x4_1 : Int) := of_decide_eq_true (by first | (with_reducible assumption) | assumption)
       have q297 : x4_1 < (l0.length : Int) := of_decide_eq_true (by first | (with_reducible assumption) | assumption)
       obtain ⟨ad297, e297, hx297_0, hx297_1, hx297_2⟩ := at_T40 HR0.out x4_1 p297 q297
       have hw297_2 := hx297_2
       have hw297_1 := hx297_1
       have hw297_0 := hx297_0
       obtain rfl : ad295 = ad297 := (by injection e297)
       replace hx297_0 := (HB.out.cell (World.block_lt_of_cell? w _ hx297_0)).trans hx297_0
       replace hx297_1 := (HB.out.cell (World.block_lt_of_cell? w _ hx297_1)).trans hx297_1
       replace hx297_2 := (HB.out.cell (World.block_lt_of_cell? w _ hx297_2)).trans hx297_2
       replace p297 := eq_true p297
       replace q297 := eq_true q297
       refine start_ (n := 25) (S := fun w' => w'.cell? (ad295.add ((x4_1).toNat * 3)) = some (.int .i64 ((rd_T40 l0 x4_1).f0)) ∧ w'.cell? ⟨(ad295.add ((x4_1).toNat * 3)).block, (ad295.add ((x4_1).toNat * 3)).off + 1, none⟩ = some (.int .u64 ((rd_T40 l0 x4_1).f1)) ∧ w'.cell? ⟨(ad295.add ((x4_1).toNat * 3)).block, (ad295.add ((x4_1).toNat * 3)).off + 2, none⟩ = some (.int .i64 ((rd_T40 l0 x4_1).f2)) ∧ w'.cell? (ad295.add ((x4_1).toNat * 3)) = some (.int .i64 ((rd_T40 l0 x4_1).f0)) ∧ w'.cell? ⟨(ad295.add ((x4_1).toNat * 3)).block, (ad295.add ((x4_1).toNat * 3)).off + 1, none⟩ = some (.int .u64 ((rd_T40 l0 x4_1).f1)) ∧ w'.cell? ⟨(ad295.add ((x4_1).toNat * 3)).block, (ad295.add ((x4_1).toNat * 3)).off + 2, none⟩ = some (.int .i64 ((rd_T40 l0 x4_1).f2)) ∧ w'.cell? (ad295.add ((x4_1).toNat * 3)) = some (.int .i64 ((rd_T40 l0 x4_1).f0)) ∧ w'.cell? ⟨(ad295.add ((x4_1).toNat * 3)).block, (ad295.add ((x4_1).toNat * 3)).off + 1, none⟩ = some (.int .u64 ((rd_T40 l0 x4_1).f1)) ∧ w'.cell? ⟨(ad295.add ((x4_1).toNat * 3)).block, (ad295.add ((x4_1).toNat * 3)).off + 2, none⟩ = some (.int .i64 ((rd_T40 l0 x4_1).f2))) (ds := []) (mk_ 0 25) (by kernel_rfl) rfl rfl ⟨((HB.out.cell (World.block_lt_of_cell? w _ hw295_0)).trans hw295_0), ((HB.out.cell (World.block_lt_of_cell? w _ hw295_1)).trans hw295_1), ((HB.out.cell (World.block_lt_of_cell? w _ hw295_2)).trans hw295_2), ((HB.out.cell (World.block_lt_of_cell? w _ hw296_0)).trans hw296_0), ((HB.out.cell (World.block_lt_of_cell? w _ hw296_1)).trans hw296_1), ((HB.out.cell (World.block_lt_of_cell? w _ hw296_2)).trans hw296_2), ((HB.out.cell (World.block_lt_of_cell? w _ hw297_0)).trans hw297_0), ((HB.out.cell (World.block_lt_of_cell? w _ hw297_1)).trans hw297_1), ((HB.out.cell (World.block_lt_of_cell? w _ hw297_2)).trans hw297_2)⟩ (fun hHeld => ?_); refine with_tabW marchlandref03_Fix.tab5 marchlandref03_Fix.bits5 (fun HT_ HW_ => ?_)
       generalize wr.drew = w6 at HO_3 HB hx295_0 hx295_1 hx295_2 hx296_0 hx296_1 hx296_2 hx297_0 hx297_1 hx297_2 hHeld ⊢
       refine pv_ 0 17 (mk_ 1 24) HT_ ?_
       refine pv_ 1 18 (mk_ 2 23) HT_ ?_
       refine pv_ 2 19 (mk_ 3 22) HT_ ?_
       refine pv_ 3 20 (mk_ 4 21) HT_ ?_
       refine pv_ 4 21 (mk_ 5 20) HT_ ?_
       refine pv_ 9 26 #[true, true, true, true, true, false, false, false, false, true, false, false, false, false, false, false, false, false, false, false, false, false, false, false, false] HT_ ?_
       refine pv_ 10 27 #[true, true, true, true, true, false, false, false, false, true, true, false, false, false, false, false, false, false, false, false, false, false, false, false, false] HT_ ?_
       refine pv_ 11 28 #[true, true, true, true, true, false, false, false, false, true, true, true, false, false, false, false, false, false, false, false, false, false, false, false, false] HT_ ?_
       refine pv_ 12 29 #[true, true, true, true, true, false, false, false, false, true, true, true, true, false, false, false, false, false, false, false, false, false, false, false, false] HT_ ?_
       refine pv_ 15 32 #[true, true, true, true, true, false, false, false, false, true, true, true, true, false, false, true, false, false, false, false, false, false, false, false, false] HT_ ?_
       refine pv_ 16 33 #[true, true, true, true, true, false, false, false, false, true, true, true, true, false, false, true, true, false, false, false, false, false, false, false, false] HT_ ?_
       refine pv_ 17 34 #[true, true, true, true, true, false, false, false, false, true, true, true, true, false, false, true, true, true, false, false, false, false, false, false, false] HT_ ?_
       refine pv_ 18 35 #[true, true, true, true, true, false, false, false, false, true, true, true, true, false, false, true, true, true, true, false, false, false, false, false, false] HT_ ?_
       refine tv_ 5 22 #[true, true, true, true, true, true, false, false, false, true, true, true, true, false, false, true, true, true, true, false, false, false, false, false, false] HT_ HW_ hHeld (hy := by rintro w' ⟨s0, s1, s2, s3, s4, s5, s6, s7, s8⟩; go_simp; with_reducible rfl) (h := ?_)
       refine pv_ 6 23 #[true, true, true, true, true, true, true, false, false, true, true, true, true, false, false, true, true, true, true, false, false, false, false, false, false] HT_ ?_
       refine pv_ 7 24 #[true, true, true, true, true, true, true, true, false, true, true, true, true, false, false, true, true, true, true, false, false, false, false, false, false] HT_ ?_
       refine pv_ 8 25 #[true, true, true, true, true, true, true, true, true, true, true, true, true, false, false, true, true, true, true, false, false, false, false, false, false] HT_ ?_
       refine tv_ 13 30 #[true, true, true, true, true, true, true, true, true, true, true, true, true, true, false, true, true, true, true, false, false, false, false, false, false] HT_ HW_ hHeld (hy := by rintro w' ⟨s0, s1, s2, s3, s4, s5, s6, s7, s8⟩; go_simp; with_reducible rfl) (h := ?_)
       refine pv_ 14 31 (mk_ 19 6) HT_ ?_
       refine tv_ 19 36 (mk_ 20 5) HT_ HW_ hHeld (hy := by rintro w' ⟨s0, s1, s2, s3, s4, s5, s6, s7, s8⟩; go_simp; with_reducible rfl) (h := ?_)
       refine pv_ 20 37 (mk_ 21 4) HT_ ?_
       refine pv_ 21 38 (mk_ 22 3) HT_ ?_
       refine one_ (i := 22) (N := some 39) (mk_ 23 2) rfl rfl (one_of HT_.out (by kernel_rfl)) (by decide) (fun K hK => ?_)
       refine value_ (w1 := ?_) (v := ?_) (by rfl) rfl ?_ ?_
       rotate_left 2
       ·go_simp
        constructor
        ·rfl
        ·rfl
       refine hK.out _ _ ⟨(World.cell?_alloc_lt _ _ _ (World.block_lt_of_cell? _ _ (((HB.out.cell (World.block_lt_of_cell? w _ hw295_0)).trans hw295_0)))).trans (((HB.out.cell (World.block_lt_of_cell? w _ hw295_0)).trans hw295_0)), (World.cell?_alloc_lt _ _ _ (World.block_lt_of_cell? _ _ (((HB.out.cell (World.block_lt_of_cell? w _ hw295_1)).trans hw295_1)))).trans (((HB.out.cell (World.block_lt_of_cell? w _ hw295_1)).trans hw295_1)), (World.cell?_alloc_lt _ _ _ (World.block_lt_of_cell? _ _ (((HB.out.cell (World.block_lt_of_cell? w _ hw295_2)).trans hw295_2)))).trans (((HB.out.cell (World.block_lt_of_cell? w _ hw295_2)).trans hw295_2)), (World.cell?_alloc_lt _ _ _ (World.block_lt_of_cell? _ _ (((HB.out.cell (World.block_lt_of_cell? w _ hw296_0)).trans hw296_0)))).trans (((HB.out.cell (World.block_lt_of_cell? w _ hw296_0)).trans hw296_0)), (World.cell?_alloc_lt _ _ _ (World.block_lt_of_cell? _ _ (((HB.out.cell (World.block_lt_of_cell? w _ hw296_1)).trans hw296_1)))).trans (((HB.out.cell (World.block_lt_of_cell? w _ hw296_1)).trans hw296_1)), (World.cell?_alloc_lt _ _ _ (World.block_lt_of_cell? _ _ (((HB.out.cell (World.block_lt_of_cell? w _ hw296_2)).trans hw296_2)))).trans (((HB.out.cell (World.block_lt_of_cell? w _ hw296_2)).trans hw296_2)), (World.cell?_alloc_lt _ _ _ (World.block_lt_of_cell? _ _ (((HB.out.cell (World.block_lt_of_cell? w _ hw297_0)).trans hw297_0)))).trans (((HB.out.cell (World.block_lt_of_cell? w _ hw297_0)).trans hw297_0)), (World.cell?_alloc_lt _ _ _ (World.block_lt_of_cell? _ _ (((HB.out.cell (World.block_lt_of_cell? w _ hw297_1)).trans hw297_1)))).trans (((HB.out.cell (World.block_lt_of_cell? w _ hw297_1)).trans hw297_1)), (World.cell?_alloc_lt _ _ _ (World.block_lt_of_cell? _ _ (((HB.out.cell (World.block_lt_of_cell? w _ hw297_2)).trans hw297_2)))).trans (((HB.out.cell (World.block_lt_of_cell? w _ hw297_2)).trans hw297_2))⟩ (fun hHeld => ?_)
       clear hK K
       refine norm_ (a' := ?_) ?_ ?_
       rotate_left
       ·show Act.put _ (some 39) _ = _
        simp only [Act.put, List.setIfInBounds_toArray, List.set_cons_zero, List.set_cons_succ, i64_w, i32_w]
        rfl
       refine one_ (i := 23) (N := some 40) (mk_ 24 1) rfl rfl (one_of HT_.out (by kernel_rfl)) (by decide) (fun K hK => ?_)
       refine Kd.R_append_step k40 (w0 := w) w.heap.size (by rfl) (.tmp 17) (.tmp 39) 22 40 (.agg #[(.int .i64 0), (.int .u64 0), (.int .i64 0)]) 24 rfl Try.underlying22 info40 rfl (by decide) (by omega) u3 x3_1 (⟨wrap64 (Int.tmod (IntKind.u64.wrap ((rd_T40 l0 x4_1).f0)) 64), Int.tmod ((rd_T40 l0 x4_1).f1) 18446744073709551615, Int.tmod ((rd_T40 l0 x4_1).f2) 1000⟩ : S40) [.int .i64 (wrap64 (Int.tmod (IntKind.u64.wrap ((rd_T40 l0 x4_1).f0)) 64)), .int .u64 (Int.tmod ((rd_T40 l0 x4_1).f1) 18446744073709551615), .int .i64 (Int.tmod ((rd_T40 l0 x4_1).f2) 1000)] (fun _ => True) (fun _ => False) rfl rfl ?aP (fun _ hk => hk.elim) ?aF ?aO ?aB ?aS ?aL ?_
       (case aP => exact k40_mkM _ _ _ (⟨wrap64 (Int.tmod (IntKind.u64.wrap ((rd_T40 l0 x4_1).f0)) 64), Int.tmod ((rd_T40 l0 x4_1).f1) 18446744073709551615, Int.tmod ((rd_T40 l0 x4_1).f2) 1000⟩ : S40))
       (case aB => exact (by repeat (first | (with_reducible first | exact HB.out | apply below_alloc | apply pw_below_drewN | apply below_drew1) | exact HB.out)))
       (case aF => exact (fun _ _ => trivial))
       (case aO => exact (by (with_reducible repeat (first | apply Kd.R_alloc | apply Kd.R_drewN | apply Kd.R_drew)); exact HO_3.out))
       (case aS => exact (below_size (by repeat (first | (with_reducible first | exact HB.out | apply below_alloc | apply pw_below_drewN | apply below_drew1) | exact HB.out))))
       (case aL => have := LMc5.out; omega)
       intro v299 w7 ho hb hg hat
       rw [← Ny298.out] at ho
       have n0_ := Aside0.mk (hb)
       have n1_ := Aside0.mk (ho)
       clear HB
       clear HO_3
       have HB := n0_
       have HO300 := n1_
       clear n0_ n1_
       clear ho hb hg hat
       refine hK.out _ _ ⟨((HB.out.cell (World.block_lt_of_cell? w _ hw295_0)).trans hw295_0), ((HB.out.cell (World.block_lt_of_cell? w _ hw295_1)).trans hw295_1), ((HB.out.cell (World.block_lt_of_cell? w _ hw295_2)).trans hw295_2), ((HB.out.cell (World.block_lt_of_cell? w _ hw296_0)).trans hw296_0), ((HB.out.cell (World.block_lt_of_cell? w _ hw296_1)).trans hw296_1), ((HB.out.cell (World.block_lt_of_cell? w _ hw296_2)).trans hw296_2), ((HB.out.cell (World.block_lt_of_cell? w _ hw297_0)).trans hw297_0), ((HB.out.cell (World.block_lt_of_cell? w _ hw297_1)).trans hw297_1), ((HB.out.cell (World.block_lt_of_cell? w _ hw297_2)).trans hw297_2)⟩ (fun hHeld => ?_)
       clear hK K
       refine norm_ (a' := ?_) ?_ ?_
       rotate_left
       ·show Act.put _ (some 40) _ = _
        simp only [Act.put, List.setIfInBounds_toArray, List.set_cons_zero, List.set_cons_succ, i64_w, i32_w]
        rfl
       refine pv_ 24 3 (mk_ 25 0) HT_ ?_
       refine done_ (done_of HT_.out (by kernel_rfl)) ?_
       try go_wp2
       go_roundg k1
       case measure => have := HK1.out; omega
       case rel => exact ⟨(y298), (wrap64 (x4_1 + 1)), (by first | rfl | (simp; done) | (simp [*]; done)), H', ⟨by have := HK1.out; omega⟩, ⟨by (with_reducible repeat (first | apply Kd.R_alloc | apply Kd.R_drewN | apply Kd.R_drew)); exact HO300.out⟩, ⟨by repeat (first | (with_reducible first | exact HB.out | apply below_alloc | apply pw_below_drewN | apply below_drew1) | exact HB.out)⟩⟩
      ·rw [if_neg c5] at H
       exact absurd H (by simp)
     ·rw [if_neg c4] at H
      exact absurd H (by simp)
    ·rw [if_neg c3] at H
     have c3b0 : decide (x4_1 < 12) = false := decide_eq_false c3
     clear c3
     replace H := Option.bind_eq_some_iff.mp H
     obtain ⟨⟨t301, t302⟩, A80, H⟩ := H
     replace H : (some t301) = some r := H
     have A8 := Aside0.mk A80
     clear A80
     obtain rfl := Option.some.inj H
     obtain ⟨Ao9, co9, eo9⟩ := Kd.R_slice HO_3.out
     subst eo9
     go_wp2_with (first | ((with_reducible refine gate_callee (f := 52) rfl ?_); refine goesL_ (some 43) rfl rfl Try.func52 (by kernel_rfl) rfl #[.slice Ao9 x3_1.length co9] rfl (by (try simp only [List.map_toArray, List.map_cons, List.map_nil]); first | done | rfl | (simp only [List.length_drop, List.length_take]; rfl)) ?_; (with_reducible refine (marchlandref03_sums.calls k1 _ _ x3_1 t301 t302 _ ?side1 ?side2 A8.out).mono ?_); (case side1 => repeat (first | exact (Kd.R_reads' HO_3.out).2.2 | (with_reducible refine Kd.C_alloc ?_ _) | (with_reducible refine Kd.C_drewN ?_ _) | (with_reducible refine Kd.C_drew ?_))); (case side2 => exact (Kd.R_reads' HO_3.out).2.1); rintro e w10 ⟨v303, rfl, ho0, hb⟩; refine ⟨_, rfl, ?_⟩; have n0_ := Aside0.mk (Kd.R_elder' (by (with_reducible repeat (first | apply Kd.R_alloc | apply Kd.R_drewN | apply Kd.R_drew)); exact HO_3.out) (Kd.R_base ho0) hb); have n1_ := Aside0.mk (Kd.R_lower (Kd.R_new' ho0 (Kd.R_lt (by (with_reducible repeat (first | apply Kd.R_alloc | apply Kd.R_drewN | apply Kd.R_drew)); exact HO_3.out))) (below_size (by repeat (first | (with_reducible first | exact HB.out | apply below_alloc | apply pw_below_drewN | apply below_drew1) | exact HB.out)))); have n2_ := Aside0.mk (below_step (by repeat (first | (with_reducible first | exact HB.out | apply below_alloc | apply pw_below_drewN | apply below_drew1) | exact HB.out)) hb); clear HO_3; clear HB; have HO_3 := n0_; have HO304 := n1_; have HB := n2_; clear n0_ n1_ n2_; (try clear hb); (try clear hb2); (try clear hk); (try clear hi); (try clear ho0)))
     go_ret
     exact ⟨_, by first | rfl | (simp [errW_none, errW_some] <;> rfl) | (simp [*, errW_none, errW_some] <;> rfl), by (with_reducible repeat (first | apply Kd.R_alloc | apply Kd.R_drewN | apply Kd.R_drew)); exact Kd.R_mono HO304.out (fun _ hk => trivial), by repeat (first | (with_reducible first | exact HB.out | apply below_alloc | apply pw_below_drewN | apply below_drew1) | exact HB.out)⟩
   ·rw [if_neg c2] at H
    have c2b0 : decide (x4_1 < (l0.length : Int)) = false := decide_eq_false c2
    clear c2
    replace H := Option.bind_eq_some_iff.mp H
    obtain ⟨⟨t305, t306⟩, A110, H⟩ := H
    replace H : (some t305) = some r := H
    have A11 := Aside0.mk A110
    clear A110
    obtain rfl := Option.some.inj H
    obtain ⟨Ao12, co12, eo12⟩ := Kd.R_slice HO_3.out
    subst eo12
    go_wp2_with (first | ((with_reducible refine gate_callee (f := 52) rfl ?_); refine goesL_ (some 43) rfl rfl Try.func52 (by kernel_rfl) rfl #[.slice Ao12 x3_1.length co12] rfl (by (try simp only [List.map_toArray, List.map_cons, List.map_nil]); first | done | rfl | (simp only [List.length_drop, List.length_take]; rfl)) ?_; (with_reducible refine (marchlandref03_sums.calls k1 _ _ x3_1 t305 t306 _ ?side1 ?side2 A11.out).mono ?_); (case side1 => repeat (first | exact (Kd.R_reads' HO_3.out).2.2 | (with_reducible refine Kd.C_alloc ?_ _) | (with_reducible refine Kd.C_drewN ?_ _) | (with_reducible refine Kd.C_drew ?_))); (case side2 => exact (Kd.R_reads' HO_3.out).2.1); rintro e w13 ⟨v307, rfl, ho0, hb⟩; refine ⟨_, rfl, ?_⟩; have n0_ := Aside0.mk (Kd.R_elder' (by (with_reducible repeat (first | apply Kd.R_alloc | apply Kd.R_drewN | apply Kd.R_drew)); exact HO_3.out) (Kd.R_base ho0) hb); have n1_ := Aside0.mk (Kd.R_lower (Kd.R_new' ho0 (Kd.R_lt (by (with_reducible repeat (first | apply Kd.R_alloc | apply Kd.R_drewN | apply Kd.R_drew)); exact HO_3.out))) (below_size (by repeat (first | (with_reducible first | exact HB.out | apply below_alloc | apply pw_below_drewN | apply below_drew1) | exact HB.out)))); have n2_ := Aside0.mk (below_step (by repeat (first | (with_reducible first | exact HB.out | apply below_alloc | apply pw_below_drewN | apply below_drew1) | exact HB.out)) hb); clear HO_3; clear HB; have HO_3 := n0_; have HO308 := n1_; have HB := n2_; clear n0_ n1_ n2_; (try clear hb); (try clear hb2); (try clear hk); (try clear hi); (try clear ho0)))
    go_ret
    exact ⟨_, by first | rfl | (simp [errW_none, errW_some] <;> rfl) | (simp [*, errW_none, errW_some] <;> rfl), by (with_reducible repeat (first | apply Kd.R_alloc | apply Kd.R_drewN | apply Kd.R_drew)); exact Kd.R_mono HO308.out (fun _ hk => trivial), by repeat (first | (with_reducible first | exact HB.out | apply below_alloc | apply pw_below_drewN | apply below_drew1) | exact HB.out)⟩

end Go.Proofs.Ytgeldmhgbnamcaa.P
end
section
-- Printed by the session's own turn of the print (wip/tools/print2.sh): some callees are proved by hand.
namespace Go.Proofs.Ytgeldmhgbnamcaa.P
open Go.RowKit Go.Proofs.YtgeldmhgbnamcaaW.PrintWords Go.Proofs.YtgeldmhgbnamcaaW.PrintLast Go.Proofs.YtgeldmhgbnamcaaW.PrintMore
attribute [local go_sem] max2_int min2_int max_two min_two max_three min_three max_four min_four   -- for this text's walks alone
set_option linter.unusedVariables false
set_option linter.unusedSimpArgs false

theorem eqA50 (d : Nat) (w : World) (x0 y0 : Int) (x1 y1 : Int) (x2 y2 : Int) :
  (Op.equalIn (d + 2) 50 (.agg #[.int .i64 x0, .int .u64 x1, .int .i64 x2]) (.agg #[.int .i64 y0, .int .u64 y1, .int .i64 y2])).run Try.prog w = .ok (x0 == y0 && (x1 == y1 && (x2 == y2))) w := by
 refine eqA_of Try.underlying50 (by kernel_rfl) ?_
 refine eqf_cons (by rfl) (by go_simp; rfl) (by go_simp; rfl) (by go_simp) ?_
 refine eqf_cons (by rfl) (by go_simp; rfl) (by go_simp; rfl) (by go_simp) ?_
 exact eqf_last (by rfl) (by go_simp; rfl) (by go_simp; rfl) (by go_simp)
end Go.Proofs.Ytgeldmhgbnamcaa.P
end
section
-- Printed by the session's own turn of the print (wip/tools/print2.sh): some callees are proved by hand.
namespace Go.Proofs.Ytgeldmhgbnamcaa.P
open Go.RowKit Go.Proofs.YtgeldmhgbnamcaaW.PrintWords Go.Proofs.YtgeldmhgbnamcaaW.PrintLast Go.Proofs.YtgeldmhgbnamcaaW.PrintMore
attribute [local go_sem] max2_int min2_int max_two min_two max_three min_three max_four min_four   -- for this text's walks alone
set_option linter.unusedVariables false
set_option linter.unusedSimpArgs false

attribute [local go_sem high] eqA50
/-! ### batch_Change_56: function 56 -/
def batch_Change_56.l0 : Nat → List (S50) → List (S50) → Int → Int → Option (Bool)
 | 0, _, _, _, _ => none
 | k + 1, x0, x1, x12, x13 => if x13 < x12 then (if 0 ≤ x13 then (if x13 < (x0.length : Int) then (if x13 < (x1.length : Int) then (if (!(((rd_T50 x0 x13).f0) == ((rd_T50 x1 x13).f0)) || (!(((rd_T50 x0 x13).f1) == ((rd_T50 x1 x13).f1)) || (!(((rd_T50 x0 x13).f2) == ((rd_T50 x1 x13).f2))))) = true then (some false) else (batch_Change_56.l0 k x0 x1 x12 (wrap64 (x13 + 1)))) else (none)) else (none)) else (none)) else (some true)
def batch_Change_56.f (k : Nat) (l0 : List (S50)) (l1 : List (S50)) : Option (Bool) := if (l0.length : Int) = (l1.length : Int) then (batch_Change_56.l0 k l0 l1 (l0.length : Int) 0) else (some false)
theorem batch_Change_56.mono_l : ∀ k, (∀ y0 y1 y2 y3, LeO (batch_Change_56.l0 k y0 y1 y2 y3) (batch_Change_56.l0 (k + 1) y0 y1 y2 y3))
 | 0 => fun _ _ _ _ r h => by simp [batch_Change_56.l0] at h
 | k + 1 => by
  have ih0 := batch_Change_56.mono_l k
  ·intro y0 y1 y2 y3
   unfold batch_Change_56.l0
   repeat' first
   | (with_reducible exact ih0 _ _ _ _)
   | (with_reducible exact LeO.refl _)
   | (with_reducible exact LeO.none _)
   | (with_reducible refine LeO.ite ?_ ?_)
   | (with_reducible refine LeO.bind ?_ (fun _ => ?_))
   | exact ih0 _ _ _ _
   | exact LeO.none _
   | refine LeO.ite ?_ ?_
   | refine LeO.bind ?_ (fun _ => ?_)
theorem batch_Change_56.mono : ∀ a0 a1 k, LeO (batch_Change_56.f k a0 a1) (batch_Change_56.f (k + 1) a0 a1) := by
 intro a0 a1 k
 have ih0 := batch_Change_56.mono_l k
 unfold batch_Change_56.f
 repeat' first
   | (with_reducible exact ih0 _ _ _ _)
   | (with_reducible exact LeO.refl _)
   | (with_reducible exact LeO.none _)
   | (with_reducible refine LeO.ite ?_ ?_)
   | (with_reducible refine LeO.bind ?_ (fun _ => ?_))
   | exact ih0 _ _ _ _
   | exact LeO.none _
   | refine LeO.ite ?_ ?_
   | refine LeO.bind ?_ (fun _ => ?_)
set_option maxHeartbeats 8000000 in
set_option maxRecDepth 100000 in
theorem batch_Change_56.calls (k : Nat) (A0 : Option Addr) (c0 : Nat) (l0 : List (S50)) (A1 : Option Addr) (c1 : Nat) (l1 : List (S50)) (r : Bool) (w : World) (hr0 : Kd.C k50 w A0 l0.length l0) (hc0 : l0.length ≤ c0) (hr1 : Kd.C k50 w A1 l1.length l1) (hc1 : l1.length ≤ c1) (h : batch_Change_56.f k l0 l1 = some r) :
  Calls Try.prog 56 #[.slice A0 l0.length c0, .slice A1 l1.length c1] w fun e w' => e = .returned (.bool r) ∧ Drawn0 w w' := by
 have hu50 := Try.underlying50
 have HR0 := Aside0.mk hr0
 have HC0 := Aside0.mk hc0
 clear hr0 hc0
 have HR1 := Aside0.mk hr1
 have HC1 := Aside0.mk hc1
 clear hr1 hc1
 have H : (if (l0.length : Int) = (l1.length : Int) then (batch_Change_56.l0 k l0 l1 (l0.length : Int) 0) else (some false)) = some r := h
 clear h
 by_cases c3 : (l0.length : Int) = (l1.length : Int)
 ·rw [if_pos c3] at H
  have c3b0 : ((l0.length : Int) == (l1.length : Int)) = true := beq_iff_eq.mpr c3
  have c3b1 : ((l0.length : Int) != (l1.length : Int)) = false := bne_eq_false_iff_eq.mpr c3
  have c3b2 : (l0.length == l1.length) = true := by first | simpa using c3 | (simp at c3 ⊢; omega)
  clear c3
  have H' := Aside0.mk H
  clear H
  go_enter Try.func56, Try.ntmps56
  go_wp2
  repeat (go_quiet (fail); try go_wp2)
  go_loopg [13] k (fun kq v13 w' => ∃ (x13_1 : Int), v13 = .int .i64 x13_1 ∧ Aside0 (batch_Change_56.l0 kq l0 l1 (l0.length : Int) x13_1 = some r) ∧ Aside0 (kq ≤ k) ∧ Drawn0 w w')
  case atStart => exact ⟨(0), (by first | rfl | (simp; done) | (simp [*]; done)), H', ⟨Nat.le_refl _⟩, by repeat (first | exact Drawn0.refl _ | apply Drawn0.step)⟩
  case round =>
   clear H'
   try clear c1
   try clear p2
   try clear c3
   try clear c3b0
   try clear c3b1
   try clear c3b2
   obtain ⟨x13_1, rfl, HA, HK1, ⟨m1, rfl⟩⟩ := hrel
   cases gk with
   | zero => exact absurd HA.out (by simp [batch_Change_56.l0])
   | succ k1 =>
    have H := HA.out
    clear HA
    simp only [batch_Change_56.l0] at H
    by_cases c4 : x13_1 < (l0.length : Int)
    ·rw [if_pos c4] at H
     have c4b0 : decide (x13_1 < (l0.length : Int)) = true := decide_eq_true c4
     clear c4
     by_cases c5 : 0 ≤ x13_1
     ·rw [if_pos c5] at H
      have c5b0 : decide (0 ≤ x13_1) = true := decide_eq_true c5
      clear c5
      by_cases c6 : x13_1 < (l0.length : Int)
      ·rw [if_pos c6] at H
       have c6b0 : decide (x13_1 < (l0.length : Int)) = true := decide_eq_true c6
       clear c6
       by_cases c7 : x13_1 < (l1.length : Int)
       ·rw [if_pos c7] at H
        have c7b0 : decide (x13_1 < (l1.length : Int)) = true := decide_eq_true c7
        clear c7
        by_cases c8 : (!(((rd_T50 l0 x13_1).f0) == ((rd_T50 l1 x13_1).f0)) || (!(((rd_T50 l0 x13_1).f1) == ((rd_T50 l1 x13_1).f1)) || (!(((rd_T50 l0 x13_1).f2) == ((rd_T50 l1 x13_1).f2))))) = true
        ·rw [if_pos c8] at H
         have c8b0 : (!(((rd_T50 l0 x13_1).f0) == ((rd_T50 l1 x13_1).f0)) || (!(((rd_T50 l0 x13_1).f1) == ((rd_T50 l1 x13_1).f1)) || (!(((rd_T50 l0 x13_1).f2) == ((rd_T50 l1 x13_1).f2))))) = true := c8
         clear c8
         obtain rfl := Option.some.inj H
         have p309 : 0 ≤ (x13_1 : Int) := of_decide_eq_true (by first | (with_reducible assumption) | assumption)
         have q309 : x13_1 < (l0.length : Int) := of_decide_eq_true (by first | (with_reducible assumption) | assumption)
         obtain ⟨ad309, e309, hx309_0, hx309_1, hx309_2⟩ := at_T50 HR0.out x13_1 p309 q309
         cases e309
         replace p309 := eq_true p309
         replace q309 := eq_true q309
         have p310 : 0 ≤ (x13_1 : Int) := of_decide_eq_true (by first | (with_reducible assumption) | assumption)
         have q310 : x13_1 < (l1.length : Int) := of_decide_eq_true (by first | (with_reducible assumption) | assumption)
         obtain ⟨ad310, e310, hx310_0, hx310_1, hx310_2⟩ := at_T50 HR1.out x13_1 p310 q310
         cases e310
         replace p310 := eq_true p310
         replace q310 := eq_true q310
         go_wp2
         repeat (go_quiet (fail); try go_wp2)
         go_ret
         exact ⟨by first | rfl | (simp; done) | (simp [*]; done), by repeat (first | exact Drawn0.refl _ | apply Drawn0.step)⟩
        ·rw [if_neg c8] at H
         have c8b0 : (!(((rd_T50 l0 x13_1).f0) == ((rd_T50 l1 x13_1).f0)) || (!(((rd_T50 l0 x13_1).f1) == ((rd_T50 l1 x13_1).f1)) || (!(((rd_T50 l0 x13_1).f2) == ((rd_T50 l1 x13_1).f2))))) = false := by simpa using c8
         clear c8
         have H' := Aside0.mk H
         clear H
         have p309 : 0 ≤ (x13_1 : Int) := of_decide_eq_true (by first | (with_reducible assumption) | assumption)
         have q309 : x13_1 < (l0.length : Int) := of_decide_eq_true (by first | (with_reducible assumption) | assumption)
         obtain ⟨ad309, e309, hx309_0, hx309_1, hx309_2⟩ := at_T50 HR0.out x13_1 p309 q309
         cases e309
         replace p309 := eq_true p309
         replace q309 := eq_true q309
         have p310 : 0 ≤ (x13_1 : Int) := of_decide_eq_true (by first | (with_reducible assumption) | assumption)
         have q310 : x13_1 < (l1.length : Int) := of_decide_eq_true (by first | (with_reducible assumption) | assumption)
         obtain ⟨ad310, e310, hx310_0, hx310_1, hx310_2⟩ := at_T50 HR1.out x13_1 p310 q310
         cases e310
         replace p310 := eq_true p310
         replace q310 := eq_true q310
         go_wp2
         repeat (go_quiet (fail); try go_wp2)
         go_roundg k1
         case measure => have := HK1.out; omega
         case rel => exact ⟨(wrap64 (x13_1 + 1)), (by first | rfl | (simp; done) | (simp [*]; done)), H', ⟨by have := HK1.out; omega⟩, by repeat (first | exact Drawn0.refl _ | apply Drawn0.step)⟩
       ·rw [if_neg c7] at H
        exact absurd H (by simp)
      ·rw [if_neg c6] at H
       exact absurd H (by simp)
     ·rw [if_neg c5] at H
      exact absurd H (by simp)
    ·rw [if_neg c4] at H
     have c4b0 : decide (x13_1 < (l0.length : Int)) = false := decide_eq_false c4
     clear c4
     obtain rfl := Option.some.inj H
     go_wp2
     repeat (go_quiet (fail); try go_wp2)
     go_ret
     exact ⟨by first | rfl | (simp; done) | (simp [*]; done), by repeat (first | exact Drawn0.refl _ | apply Drawn0.step)⟩
 ·rw [if_neg c3] at H
  have c3b0 : ((l0.length : Int) == (l1.length : Int)) = false := beq_eq_false_iff_ne.mpr c3
  have c3b1 : ((l0.length : Int) != (l1.length : Int)) = true := bne_iff_ne.mpr c3
  have c3b2 : (l0.length == l1.length) = false := by first | simpa using c3 | (simp at c3 ⊢; omega)
  obtain rfl := Option.some.inj H
  go_enter Try.func56, Try.ntmps56
  go_wp2
  repeat (go_quiet (fail); try go_wp2)
  go_ret
  exact ⟨by first | rfl | (simp; done) | (simp [*]; done), by repeat (first | exact Drawn0.refl _ | apply Drawn0.step)⟩

end Go.Proofs.Ytgeldmhgbnamcaa.P
end
section
-- Printed by the session's own turn of the print (wip/tools/print2.sh): some callees are proved by hand.
namespace Go.Proofs.Ytgeldmhgbnamcaa.P
open Go.RowKit Go.Proofs.YtgeldmhgbnamcaaW.PrintWords Go.Proofs.YtgeldmhgbnamcaaW.PrintLast Go.Proofs.YtgeldmhgbnamcaaW.PrintMore
attribute [local go_sem] max2_int min2_int max_two min_two max_three min_three max_four min_four   -- for this text's walks alone
set_option linter.unusedVariables false
set_option linter.unusedSimpArgs false

/-! ### batch_Same: function 24 -/
def batch_Same.f (k : Nat) (l0 : List (S50)) (l1 : List (S50)) : Option (Bool) := (batch_Change_56.f k l0 l1).bind fun t311 => (some t311)
theorem batch_Same.mono : ∀ a0 a1 k, LeO (batch_Same.f k a0 a1) (batch_Same.f (k + 1) a0 a1) := by
 intro a0 a1 k
 unfold batch_Same.f
 repeat' first
   | (with_reducible exact batch_Change_56.mono _ _ _)
   | (with_reducible exact LeO.refl _)
   | (with_reducible exact LeO.none _)
   | (with_reducible refine LeO.ite ?_ ?_)
   | (with_reducible refine LeO.bind ?_ (fun _ => ?_))
   | exact batch_Change_56.mono _ _ _
   | exact LeO.none _
   | refine LeO.ite ?_ ?_
   | refine LeO.bind ?_ (fun _ => ?_)
set_option maxHeartbeats 8000000 in
set_option maxRecDepth 100000 in
theorem batch_Same.calls (k : Nat) (A0 : Option Addr) (c0 : Nat) (l0 : List (S50)) (A1 : Option Addr) (c1 : Nat) (l1 : List (S50)) (r : Bool) (w : World) (hr0 : Kd.C k50 w A0 l0.length l0) (hc0 : l0.length ≤ c0) (hr1 : Kd.C k50 w A1 l1.length l1) (hc1 : l1.length ≤ c1) (h : batch_Same.f k l0 l1 = some r) :
  Calls Try.prog 24 #[.slice A0 l0.length c0, .slice A1 l1.length c1] w fun e w' => e = .returned (.bool r) ∧ Drawn0 w w' := by
 have HR0 := Aside0.mk hr0
 have HC0 := Aside0.mk hc0
 clear hr0 hc0
 have HR1 := Aside0.mk hr1
 have HC1 := Aside0.mk hc1
 clear hr1 hc1
 have H : ((batch_Change_56.f k l0 l1).bind fun t311 => (some t311)) = some r := h
 clear h
 replace H := Option.bind_eq_some_iff.mp H
 obtain ⟨t311, A30, H⟩ := H
 replace H : (some t311) = some r := H
 have A3 := Aside0.mk A30
 clear A30
 obtain rfl := Option.some.inj H
 go_enter Try.func24, Try.ntmps24
 go_wp2_with (first | ((with_reducible refine gate_callee (f := 56) rfl ?_); refine goesL_ (some 7) rfl rfl Try.func56 (by kernel_rfl) rfl #[.slice A0 l0.length c0, .slice A1 l1.length c1] rfl (by (try simp only [List.map_toArray, List.map_cons, List.map_nil]); first | done | rfl | (simp only [List.length_drop, List.length_take]; rfl)) ?_; (with_reducible refine (batch_Change_56.calls k _ _ l0 _ _ l1 t311 _ ?side1 ?side2 ?side3 ?side4 A3.out).mono ?_); (case side1 => repeat (first | exact HR0.out | (with_reducible refine Kd.C_alloc ?_ _) | (with_reducible refine Kd.C_drewN ?_ _) | (with_reducible refine Kd.C_drew ?_))); (case side2 => exact HC0.out); (case side3 => repeat (first | exact HR1.out | (with_reducible refine Kd.C_alloc ?_ _) | (with_reducible refine Kd.C_drewN ?_ _) | (with_reducible refine Kd.C_drew ?_))); (case side4 => exact HC1.out); rintro e w' ⟨rfl, ⟨nd, rfl⟩⟩; refine ⟨_, rfl, ?_⟩))
 go_ret
 exact ⟨by first | rfl | (simp; done) | (simp [*]; done), by repeat (first | exact Drawn0.refl _ | apply Drawn0.step)⟩

end Go.Proofs.Ytgeldmhgbnamcaa.P
end
