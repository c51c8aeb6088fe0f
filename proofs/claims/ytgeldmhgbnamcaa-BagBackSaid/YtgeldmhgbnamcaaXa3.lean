/- Walks and laws of several statements of this seat, joined into one text; no condition. -/
import Derived.Test.YtgeldmhgbnamcaaProg
import Derived.Below
import Derived.Deep.Draws
import Derived.Deep.AppendLies
import Derived.Maps.AppendAt
import Derived.OwnWalk
import Derived.Laws.BytesArg
import Derived.Laws.MakeOwn
import Derived.Laws.OwnMore
import Derived.Deep.OwnRows
import Derived.Tactics
import Derived.Lib.ConvBytes
import Derived.Laws.Slices
import Derived.WalkKit
import Derived.KernelRfl
import Derived.RowKit3
import Derived.Deep.LoopGhost
import Derived.Deep.QuietTactic
import Derived.BigQuiet
import Derived.WideLaws
import Derived.Deep.DeepCutAuto
import Derived.Deep.CutBlock
import Derived.Deep.RegionHeld3
import Derived.Laws.Rows
import Derived.Lib.AppendStr
import Derived.ArgAppend
import Derived.Laws.IdiomCopy
import Derived.OrdersHeld
import Derived.Laws.BitsLemmas
import Derived.RowKit
import Derived.Laws.StructEq
import Derived.Test.YtgeldmhgbnamcaaXa0
import Derived.Test.YtgeldmhgbnamcaaXa1
import Derived.Test.YtgeldmhgbnamcaaXa2
section
-- Printed by the session's own turn of the print (wip/tools/print2.sh): some callees are proved by hand.
namespace Go.Proofs.Ytgeldmhgbnamcaa.P
open Go.RowKit Go.Proofs.YtgeldmhgbnamcaaW.PrintWords Go.Proofs.YtgeldmhgbnamcaaW.PrintLast Go.Proofs.YtgeldmhgbnamcaaW.PrintMore
attribute [local go_sem] max2_int min2_int max_two min_two max_three min_three max_four min_four   -- for this text's walks alone
set_option linter.unusedVariables false
set_option linter.unusedSimpArgs false
/-! ### batch_Change_95: function 95 -/
mutual
def batch_Change_95.l0 : Nat → List (S50) → Int → Int → Int → Option ((List (S50)))
 | 0, _, _, _, _ => none
 | k + 1, x0, x1, x2, x8 => if x8 < x2 then (batch_Change_95.l1 k x0 x1 x2 x8 x8) else (some x0)
def batch_Change_95.l1 : Nat → List (S50) → Int → Int → Int → Int → Option ((List (S50)))
 | 0, _, _, _, _, _ => none
 | k + 1, x0, x1, x2, x8, x9 => if x9 > x1 then (if 0 ≤ x9 then (if x9 < (x0.length : Int) then (if 0 ≤ (wrap64 (x9 - 1)) then (if (wrap64 (x9 - 1)) < (x0.length : Int) then ((batch_order.f k ((rd_T50 x0 x9).f0) ((rd_T50 x0 x9).f1) ((rd_T50 x0 x9).f2) ((rd_T50 x0 (wrap64 (x9 - 1))).f0) ((rd_T50 x0 (wrap64 (x9 - 1))).f1) ((rd_T50 x0 (wrap64 (x9 - 1))).f2)).bind fun t124 => (if t124 < 0 then (batch_Change_95.l1 k ((x0.set (x9 : Int).toNat (⟨(rd_T50 x0 (wrap64 (x9 - 1))).f0, (rd_T50 x0 (wrap64 (x9 - 1))).f1, (rd_T50 x0 (wrap64 (x9 - 1))).f2⟩ : S50)).set ((wrap64 (x9 - 1)) : Int).toNat (⟨(rd_T50 x0 x9).f0, (rd_T50 x0 x9).f1, (rd_T50 x0 x9).f2⟩ : S50)) x1 x2 x8 (wrap64 (x9 - 1))) else (batch_Change_95.l0 k x0 x1 x2 (wrap64 (x8 + 1))))) else (none)) else (none)) else (none)) else (none)) else (batch_Change_95.l0 k x0 x1 x2 (wrap64 (x8 + 1)))
end
def batch_Change_95.f (k : Nat) (l0 : List (S50)) (a1 : Int) (a2 : Int)  : Option ((List (S50))) := batch_Change_95.l0 k l0 a1 a2 (wrap64 (a1 + 1))
theorem batch_Change_95.mono_l : ∀ k, (∀ y0 y1 y2 y3, LeO (batch_Change_95.l0 k y0 y1 y2 y3) (batch_Change_95.l0 (k + 1) y0 y1 y2 y3)) ∧ (∀ y0 y1 y2 y3 y4, LeO (batch_Change_95.l1 k y0 y1 y2 y3 y4) (batch_Change_95.l1 (k + 1) y0 y1 y2 y3 y4))
 | 0 => ⟨fun _ _ _ _ r h => by simp [batch_Change_95.l0] at h, fun _ _ _ _ _ r h => by simp [batch_Change_95.l1] at h⟩
 | k + 1 => by
  obtain ⟨ih0, ih1⟩ := batch_Change_95.mono_l k
  refine ⟨?_, ?_⟩
  ·intro y0 y1 y2 y3
   unfold batch_Change_95.l0
   repeat' first
   | (with_reducible exact ih0 _ _ _ _)
   | (with_reducible exact ih1 _ _ _ _ _)
   | (with_reducible exact batch_order.mono _ _ _ _ _ _ _)
   | (with_reducible exact LeO.refl _)
   | (with_reducible exact LeO.none _)
   | (with_reducible refine LeO.ite ?_ ?_)
   | (with_reducible refine LeO.bind ?_ (fun _ => ?_))
   | exact ih0 _ _ _ _
   | exact ih1 _ _ _ _ _
   | exact batch_order.mono _ _ _ _ _ _ _
   | exact LeO.none _
   | refine LeO.ite ?_ ?_
   | refine LeO.bind ?_ (fun _ => ?_)
  ·intro y0 y1 y2 y3 y4
   unfold batch_Change_95.l1
   repeat' first
   | (with_reducible exact ih0 _ _ _ _)
   | (with_reducible exact ih1 _ _ _ _ _)
   | (with_reducible exact batch_order.mono _ _ _ _ _ _ _)
   | (with_reducible exact LeO.refl _)
   | (with_reducible exact LeO.none _)
   | (with_reducible refine LeO.ite ?_ ?_)
   | (with_reducible refine LeO.bind ?_ (fun _ => ?_))
   | exact ih0 _ _ _ _
   | exact ih1 _ _ _ _ _
   | exact batch_order.mono _ _ _ _ _ _ _
   | exact LeO.none _
   | refine LeO.ite ?_ ?_
   | refine LeO.bind ?_ (fun _ => ?_)
theorem batch_Change_95.mono : ∀ a0 a1 a2 k, LeO (batch_Change_95.f k a0 a1 a2) (batch_Change_95.f (k + 1) a0 a1 a2) := by
 intro a0 a1 a2 k
 obtain ⟨ih0, ih1⟩ := batch_Change_95.mono_l k
 unfold batch_Change_95.f
 repeat' first
   | (with_reducible exact ih0 _ _ _ _)
   | (with_reducible exact ih1 _ _ _ _ _)
   | (with_reducible exact batch_order.mono _ _ _ _ _ _ _)
   | (with_reducible exact LeO.refl _)
   | (with_reducible exact LeO.none _)
   | (with_reducible refine LeO.ite ?_ ?_)
   | (with_reducible refine LeO.bind ?_ (fun _ => ?_))
   | exact ih0 _ _ _ _
   | exact ih1 _ _ _ _ _
   | exact batch_order.mono _ _ _ _ _ _ _
   | exact LeO.none _
   | refine LeO.ite ?_ ?_
   | refine LeO.bind ?_ (fun _ => ?_)
def batch_Change_95.T4 : Bool × List (List Nat × List Nat) := (true, [([], []), ([], []), ([0, 1], [0, 1]), ([2], [2]), ([3], [3]), ([3], [3]), ([3], [3]), ([5, 6, 3], [3, 5, 6]), ([7, 3], [3, 7]), ([3], [3]), ([3], [3]), ([10, 3], [3, 10]), ([9, 11, 3], [3, 9, 11]), ([12, 3], [3, 12]), ([4, 8, 13, 3, 3], [3, 4, 8, 13]), ([14, 3], [3, 14]), ([3, 15], [3, 15])])
def batch_Change_95.B4 : List Nat := [0, 0, 3, 7, 15, 15, 15, 111, 239, 15, 15, 1039, 3599, 7695, 16383, 32767, 65535]
theorem batch_Change_95.tab4 : rtab .any (opsOf Try.f95 4) = batch_Change_95.T4 := by kernel_rfl
theorem batch_Change_95.bits4 : waitsOk batch_Change_95.T4.2 batch_Change_95.B4 = true := by kernel_rfl
def batch_Change_95.T6 : Bool × List (List Nat × List Nat) := (true, [([], []), ([], []), ([], []), ([], []), ([3], [3]), ([], []), ([], []), ([6], [6]), ([5, 7], [5, 7]), ([8], [8]), ([], []), ([], []), ([10, 11], [10, 11]), ([12], [12]), ([0, 1, 0, 1, 5, 6, 7, 8, 9, 13], [0, 1]), ([14, 9, 0, 1, 5, 6, 7, 8, 9, 13], [9, 14]), ([2, 4, 0, 1, 2, 3, 4, 5, 6, 7, 8, 9, 10, 11, 12, 13, 14, 15], [2, 4]), ([16, 13, 15, 0, 1, 2, 3, 4, 5, 6, 7, 8, 9, 10, 11, 12, 13, 14, 15], [13, 16])])
def batch_Change_95.B6 : List Nat := [0, 0, 0, 0, 8, 0, 0, 64, 224, 480, 0, 0, 3072, 7168, 16355, 32739, 65535, 131071]
theorem batch_Change_95.tab6 : rtab .any (opsOf Try.f95 6) = batch_Change_95.T6 := by kernel_rfl
theorem batch_Change_95.bits6 : waitsOk batch_Change_95.T6.2 batch_Change_95.B6 = true := by kernel_rfl
set_option maxHeartbeats 8000000 in
set_option maxRecDepth 100000 in
theorem batch_Change_95.calls (k : Nat) (P0_ : Nat → Prop) (u9000_ : Value) (l0 : List (S50)) (a1 : Int) (a2 : Int)  (r : List (S50)) (w0 w : World) (hB : Below w0.heap.size w0 w) (ho0 : Kd.R k50 50 w w0.heap.size P0_ u9000_ l0) (h : batch_Change_95.f k l0 a1 a2 = some r) :
  Calls Try.prog 95 #[u9000_, .int .i64 a1, .int .i64 a2, .func (.func 53) #[] #[]] w fun e w' => e = .returned (.tuple #[]) ∧ Kd.R k50 50 w' w0.heap.size (fun k_ => (P0_ k_ ∨ w.heap.size ≤ k_)) u9000_ r ∧ Below w0.heap.size w0 w' ∧ Kept w w' (fun k_ => P0_ k_) := by
 have hu50 := Try.underlying50
 have HO0 := Aside0.mk (show Kd.R k50 50 w w0.heap.size (fun k_ => (P0_ k_ ∨ w.heap.size ≤ k_)) u9000_ l0 from Kd.R_mono ho0 (fun k_ hk => (.inl hk)))
 have HK := Aside0.mk (Kept.refl w (fun k_ => P0_ k_))
 have HW0 := Aside0.mk hB.size
 have HB := Aside0.mk hB
 clear hB
 have H : (batch_Change_95.l0 k l0 a1 a2 (wrap64 (a1 + 1))) = some r := h
 clear h
 have H' := Aside0.mk H
 clear H
 go_enter Try.func95, Try.ntmps95
 go_wp2
 go_loopg [8] k (fun kq v8 w' => ∃ (x0_1 : List (S50)) (x8_1 : Int), v8 = .int .i64 x8_1 ∧ Aside0 (batch_Change_95.l0 kq x0_1 a1 a2 x8_1 = some r) ∧ Aside0 (kq ≤ k) ∧ Aside0 (Kd.R k50 50 w' w0.heap.size (fun k_ => (P0_ k_ ∨ w.heap.size ≤ k_)) u9000_ x0_1) ∧ Aside0 (Kept w w' (fun k_ => P0_ k_)) ∧ Aside0 (Below w0.heap.size w0 w'))
 case atStart => exact ⟨(l0), (wrap64 (a1 + 1)), (by first | rfl | (simp; done) | (simp [*]; done)), H', ⟨Nat.le_refl _⟩, ⟨by (with_reducible repeat (first | apply Kd.R_alloc | apply Kd.R_drewN | apply Kd.R_drew)); exact HO0.out⟩, ⟨by repeat (first | (with_reducible first | exact HK.out | apply Kept.alloc | apply Kept.drewN | apply Kept.drew) | exact HK.out)⟩, ⟨by repeat (first | (with_reducible first | exact HB.out | apply below_alloc | apply pw_below_drewN | apply below_drew1) | exact HB.out)⟩⟩
 case round =>
  clear H'
  (try clear p2)
  obtain ⟨x0_1, x8_1, rfl, HA, HK1, HO_0, HK, HB⟩ := hrel
  cases gk with
  | zero => exact absurd HA.out (by simp [batch_Change_95.l0])
  | succ k1 =>
   have H := HA.out
   clear HA
   simp only [batch_Change_95.l0] at H
   by_cases c5 : x8_1 < a2
   ·rw [if_pos c5] at H
    have c5b0 : decide (x8_1 < a2) = true := decide_eq_true c5
    clear c5
    have H' := Aside0.mk H
    clear H
    go_wp2
    go_loopg [9] k1 (fun kq v9 w' => ∃ (x0_2 : List (S50)) (x9_2 : Int), v9 = .int .i64 x9_2 ∧ Aside0 (batch_Change_95.l1 kq x0_2 a1 a2 x8_1 x9_2 = some r) ∧ Aside0 (kq ≤ k1) ∧ Aside0 (Kd.R k50 50 w' w0.heap.size (fun k_ => (P0_ k_ ∨ w.heap.size ≤ k_)) u9000_ x0_2) ∧ Aside0 (Kept w w' (fun k_ => P0_ k_)) ∧ Aside0 (Below w0.heap.size w0 w'))
    case atStart => exact ⟨(x0_1), (x8_1), (by first | rfl | (simp; done) | (simp [*]; done)), H', ⟨Nat.le_refl _⟩, ⟨by (with_reducible repeat (first | apply Kd.R_alloc | apply Kd.R_drewN | apply Kd.R_drew)); exact HO_0.out⟩, ⟨by repeat (first | (with_reducible first | exact HK.out | apply Kept.alloc | apply Kept.drewN | apply Kept.drew) | exact HK.out)⟩, ⟨by repeat (first | (with_reducible first | exact HB.out | apply below_alloc | apply pw_below_drewN | apply below_drew1) | exact HB.out)⟩⟩
    case round =>
     clear H'
     (try clear p2); (try clear c5); (try clear c5b0); (try clear p2)
     obtain ⟨x0_2, x9_2, rfl, HA, HK2, HO_0, HK, HB⟩ := hrel
     cases gk with
     | zero => exact absurd HA.out (by simp [batch_Change_95.l1])
     | succ k2 =>
      have H := HA.out
      clear HA
      simp only [batch_Change_95.l1] at H
      by_cases c6 : x9_2 > a1
      ·rw [if_pos c6] at H
       have c6b0 : decide (a1 < x9_2) = true := decide_eq_true c6
       clear c6
       by_cases c7 : 0 ≤ x9_2
       ·rw [if_pos c7] at H
        have c7b0 : decide (0 ≤ x9_2) = true := decide_eq_true c7
        clear c7
        by_cases c8 : x9_2 < (x0_2.length : Int)
        ·rw [if_pos c8] at H
         have c8b0 : decide (x9_2 < (x0_2.length : Int)) = true := decide_eq_true c8
         clear c8
         obtain ⟨ji9, hji9⟩ : ∃ j_ : Int, (wrap64 (x9_2 - 1)) = j_ := ⟨_, rfl⟩
         replace H : (if 0 ≤ (ji9) then (if (ji9) < (x0_2.length : Int) then ((batch_order.f k2 ((rd_T50 x0_2 x9_2).f0) ((rd_T50 x0_2 x9_2).f1) ((rd_T50 x0_2 x9_2).f2) ((rd_T50 x0_2 (ji9)).f0) ((rd_T50 x0_2 (ji9)).f1) ((rd_T50 x0_2 (ji9)).f2)).bind fun t124 => (if t124 < 0 then (batch_Change_95.l1 k2 ((x0_2.set (x9_2 : Int).toNat (⟨(rd_T50 x0_2 (ji9)).f0, (rd_T50 x0_2 (ji9)).f1, (rd_T50 x0_2 (ji9)).f2⟩ : S50)).set ((ji9) : Int).toNat (⟨(rd_T50 x0_2 x9_2).f0, (rd_T50 x0_2 x9_2).f1, (rd_T50 x0_2 x9_2).f2⟩ : S50)) a1 a2 x8_1 ji9) else (batch_Change_95.l0 k2 x0_2 a1 a2 (wrap64 (x8_1 + 1))))) else (none)) else (none)) = some r := by first | (rw [hji9] at H; exact H) | (simp only [hji9] at H ⊢; exact H)
         have hji9w : (IntKind.i64.wrap (x9_2 - 1)) = ji9 := (i64_w _).trans hji9
         by_cases c10 : 0 ≤ (ji9)
         ·rw [if_pos c10] at H
          have c10b0 : decide (0 ≤ (ji9)) = true := decide_eq_true c10
          clear c10
          by_cases c11 : (ji9) < (x0_2.length : Int)
          ·rw [if_pos c11] at H
           have c11b0 : decide ((ji9) < (x0_2.length : Int)) = true := decide_eq_true c11
           clear c11
           replace H := Option.bind_eq_some_iff.mp H
           obtain ⟨t124, A120, H⟩ := H
           replace H : (if t124 < 0 then (batch_Change_95.l1 k2 ((x0_2.set (x9_2 : Int).toNat (⟨(rd_T50 x0_2 (ji9)).f0, (rd_T50 x0_2 (ji9)).f1, (rd_T50 x0_2 (ji9)).f2⟩ : S50)).set ((ji9) : Int).toNat (⟨(rd_T50 x0_2 x9_2).f0, (rd_T50 x0_2 x9_2).f1, (rd_T50 x0_2 x9_2).f2⟩ : S50)) a1 a2 x8_1 ji9) else (batch_Change_95.l0 k2 x0_2 a1 a2 (wrap64 (x8_1 + 1)))) = some r := H
           have A12 := Aside0.mk A120
           clear A120
           by_cases c13 : t124 < 0
           ·rw [if_pos c13] at H
            have c13b0 : decide (t124 < 0) = true := decide_eq_true c13
            clear c13
            obtain ⟨y127, hy127⟩ : ∃ y_ : List (S50), y_ = (x0_2.set (x9_2 : Int).toNat (⟨(rd_T50 x0_2 (ji9)).f0, (rd_T50 x0_2 (ji9)).f1, (rd_T50 x0_2 (ji9)).f2⟩ : S50)) := ⟨_, rfl⟩
            replace H : (batch_Change_95.l1 k2 (y127.set ((ji9) : Int).toNat (⟨(rd_T50 x0_2 x9_2).f0, (rd_T50 x0_2 x9_2).f1, (rd_T50 x0_2 x9_2).f2⟩ : S50)) a1 a2 x8_1 ji9) = some r := by first | (rw [hy127]; with_reducible exact H) | (have H2_ := (Option.bind_some _ _).symm.trans H; rw [hy127]; with_reducible exact H2_) | (have H2_ := (Option.bind_some _ _).symm.trans H; with_reducible exact H2_) | with_reducible exact H | (rw [hy127]; exact H) | exact H
            have Ny127 := Aside0.mk hy127
            clear hy127
            obtain ⟨y128, hy128⟩ : ∃ y_ : List (S50), y_ = (y127.set ((ji9) : Int).toNat (⟨(rd_T50 x0_2 x9_2).f0, (rd_T50 x0_2 x9_2).f1, (rd_T50 x0_2 x9_2).f2⟩ : S50)) := ⟨_, rfl⟩
            replace H : (batch_Change_95.l1 k2 y128 a1 a2 x8_1 ji9) = some r := by first | (rw [hy128]; with_reducible exact H) | (have H2_ := (Option.bind_some _ _).symm.trans H; rw [hy128]; with_reducible exact H2_) | (have H2_ := (Option.bind_some _ _).symm.trans H; with_reducible exact H2_) | with_reducible exact H | (rw [hy128]; exact H) | exact H
            have Ny128 := Aside0.mk hy128
            clear hy128
            have H' := Aside0.mk H
            clear H
            try go_wp2
            have n0_ := Aside0.mk (Kd.R_drew HO_0.out)
            have n1_ := Aside0.mk (Kept.drew HK.out)
            have n2_ := Aside0.mk (below_drew1 HB.out)
            clear HO_0
            clear HK
            clear HB
            have HO_0 := n0_
            have HK := n1_
            have HB := n2_
            clear n0_ n1_ n2_
            obtain ⟨Ao17, co17, eo17⟩ := Kd.R_slice HO_0.out
            (first | subst eo17 | (injection eo17 with f1_ f2_ f3_; have f4_ := f1_.symm; have f5_ := f3_.symm; clear f1_ f2_ f3_; subst f4_; subst f5_))
            have p122 : 0 ≤ (x9_2 : Int) := of_decide_eq_true (by assumption)
            have q122 : x9_2 < (x0_2.length : Int) := of_decide_eq_true (by assumption)
            obtain ⟨ad122, e122, hx122_0, hx122_1, hx122_2⟩ := at_T50 (Kd.R_reads' HO_0.out).2.2 x9_2 p122 q122
            cases e122
            replace p122 := eq_true p122
            replace q122 := eq_true q122
            have p123 : 0 ≤ ((ji9) : Int) := of_decide_eq_true (by assumption)
            have q123 : (ji9) < (x0_2.length : Int) := of_decide_eq_true (by assumption)
            obtain ⟨ad123, e123, hx123_0, hx123_1, hx123_2⟩ := at_T50 (Kd.R_reads' HO_0.out).2.2 (ji9) p123 q123
            obtain rfl : ad122 = ad123 := (by injection e123)
            replace p123 := eq_true p123
            replace q123 := eq_true q123
            refine start_ (n := 17) (S := fun w' => w'.cell? (ad122.add ((x9_2).toNat * 3)) = some (.int .i64 ((rd_T50 x0_2 x9_2).f0)) ∧ w'.cell? ⟨(ad122.add ((x9_2).toNat * 3)).block, (ad122.add ((x9_2).toNat * 3)).off + 1, none⟩ = some (.int .u64 ((rd_T50 x0_2 x9_2).f1)) ∧ w'.cell? ⟨(ad122.add ((x9_2).toNat * 3)).block, (ad122.add ((x9_2).toNat * 3)).off + 2, none⟩ = some (.int .i64 ((rd_T50 x0_2 x9_2).f2)) ∧ w'.cell? (ad122.add (((ji9)).toNat * 3)) = some (.int .i64 ((rd_T50 x0_2 (ji9)).f0)) ∧ w'.cell? ⟨(ad122.add (((ji9)).toNat * 3)).block, (ad122.add (((ji9)).toNat * 3)).off + 1, none⟩ = some (.int .u64 ((rd_T50 x0_2 (ji9)).f1)) ∧ w'.cell? ⟨(ad122.add (((ji9)).toNat * 3)).block, (ad122.add (((ji9)).toNat * 3)).off + 2, none⟩ = some (.int .i64 ((rd_T50 x0_2 (ji9)).f2))) (ds := []) (mk_ 0 17) (by kernel_rfl) rfl rfl ⟨hx122_0, hx122_1, hx122_2, hx123_0, hx123_1, hx123_2⟩ (fun hHeld => ?_); refine with_tabW batch_Change_95.tab4 batch_Change_95.bits4 (fun HT_ HW_ => ?_)
            generalize wr.drew = w16 at HO_0 HK HB hx122_0 hx122_1 hx122_2 hx123_0 hx123_1 hx123_2 hHeld ⊢
            refine pv_ 0 18 (mk_ 1 16) HT_ ?_
            refine pv_ 1 19 (mk_ 2 15) HT_ ?_
            refine pv_ 2 20 (mk_ 3 14) HT_ ?_
            refine pv_ 3 21 (mk_ 4 13) HT_ ?_
            refine pv_ 4 22 (mk_ 5 12) HT_ ?_
            refine pv_ 5 23 (mk_ 6 11) HT_ ?_
            refine pv_ 6 24 (mk_ 7 10) HT_ ?_
            refine pv_ 7 25 (mk_ 8 9) HT_ ?_
            refine pv_ 9 27 #[true, true, true, true, true, true, true, true, false, true, false, false, false, false, false, false, false] HT_ ?_
            refine pv_ 10 28 #[true, true, true, true, true, true, true, true, false, true, true, false, false, false, false, false, false] HT_ ?_
            refine pv_ 11 29 #[true, true, true, true, true, true, true, true, false, true, true, true, false, false, false, false, false] HT_ ?_
            refine pv_ 12 30 #[true, true, true, true, true, true, true, true, false, true, true, true, true, false, false, false, false] HT_ ?_
            refine tv_ 8 26 (mk_ 13 4) HT_ HW_ hHeld (hy := by rintro w' ⟨s0, s1, s2, s3, s4, s5⟩; go_simp; with_reducible rfl) (h := ?_)
            refine tv_ 13 31 (mk_ 14 3) HT_ HW_ hHeld (hy := by rintro w' ⟨s0, s1, s2, s3, s4, s5⟩; go_simp; with_reducible rfl) (h := ?_)
            refine one_ (i := 14) (N := some 32) (mk_ 15 2) rfl rfl (one_of HT_.out (by kernel_rfl)) (by decide) (fun K hK => ?_)
            refine goesTT_ Try.func53 (by kernel_rfl) rfl #[.agg #[.int .i64 ((rd_T50 x0_2 x9_2).f0), .int .u64 ((rd_T50 x0_2 x9_2).f1), .int .i64 ((rd_T50 x0_2 x9_2).f2)], .agg #[.int .i64 ((rd_T50 x0_2 (ji9)).f0), .int .u64 ((rd_T50 x0_2 (ji9)).f1), .int .i64 ((rd_T50 x0_2 (ji9)).f2)]] (by rfl) rfl rfl rfl (by (try simp only [List.map_toArray, List.map_cons, List.map_nil]); first | done | (simp only [hji9]; rfl) | rfl | (simp only [List.length_drop, List.length_take]; rfl)) ?_
            with_reducible refine (batch_order.calls k2 ((rd_T50 x0_2 x9_2).f0) ((rd_T50 x0_2 x9_2).f1) ((rd_T50 x0_2 x9_2).f2) ((rd_T50 x0_2 (ji9)).f0) ((rd_T50 x0_2 (ji9)).f1) ((rd_T50 x0_2 (ji9)).f2) t124 _ A12.out).mono ?_
            rintro e w18 ⟨rfl, hb⟩
            have HS0_ := (hb.cell (World.block_lt_of_cell? _ _ (hHeld.1))).trans (hHeld.1)
            have HS1_ := (hb.cell (World.block_lt_of_cell? _ _ (hHeld.2.1))).trans (hHeld.2.1)
            have HS2_ := (hb.cell (World.block_lt_of_cell? _ _ (hHeld.2.2.1))).trans (hHeld.2.2.1)
            have HS3_ := (hb.cell (World.block_lt_of_cell? _ _ (hHeld.2.2.2.1))).trans (hHeld.2.2.2.1)
            have HS4_ := (hb.cell (World.block_lt_of_cell? _ _ (hHeld.2.2.2.2.1))).trans (hHeld.2.2.2.2.1)
            have HS5_ := (hb.cell (World.block_lt_of_cell? _ _ (hHeld.2.2.2.2.2))).trans (hHeld.2.2.2.2.2)
            refine ⟨_, rfl, ?_⟩
            have n0_ := Aside0.mk (Kd.R_below (rn HO_0) hb)
            have n1_ := Aside0.mk (Kept.below (S := (fun k_ => P0_ k_)) (by repeat (first | (with_reducible first | exact HK.out | apply Kept.alloc | apply Kept.drewN | apply Kept.drew) | exact HK.out)) hb)
            have n2_ := Aside0.mk (below_step (bn HB) hb)
            clear HO_0
            clear HK
            clear HB
            have HO_0 := n0_
            have HK := n1_
            have HB := n2_
            clear n0_ n1_ n2_
            (try clear hb)
            (try clear hb2)
            (try clear hk)
            (try clear hi)
            refine hK.out _ _ ⟨HS0_, HS1_, HS2_, HS3_, HS4_, HS5_⟩ (fun hHeld => ?_)
            clear hK K
            refine norm_ (a' := ?_) ?_ ?_
            rotate_left
            ·show Act.put _ (some 32) _ = _
             simp only [Act.put, List.setIfInBounds_toArray, List.set_cons_zero, List.set_cons_succ, i64_w, i32_w]
             rfl
            refine pv_ 15 33 (mk_ 16 1) HT_ ?_
            refine pv_ 16 34 (mk_ 17 0) HT_ ?_
            refine done_ (done_of HT_.out (by kernel_rfl)) ?_
            try go_wp2
            have n0_ := Aside0.mk (Kd.R_drew HO_0.out)
            have n1_ := Aside0.mk (Kept.drew HK.out)
            have n2_ := Aside0.mk (below_drew1 HB.out)
            clear HO_0
            clear HK
            clear HB
            have HO_0 := n0_
            have HK := n1_
            have HB := n2_
            clear n0_ n1_ n2_
            have p125 : 0 ≤ ((ji9) : Int) := of_decide_eq_true (by assumption)
            have q125 : (ji9) < (x0_2.length : Int) := of_decide_eq_true (by assumption)
            obtain ⟨ad125, e125, hx125_0, hx125_1, hx125_2⟩ := at_T50 (Kd.R_reads' HO_0.out).2.2 (ji9) p125 q125
            obtain rfl : ad122 = ad125 := (by injection e125)
            replace p125 := eq_true p125
            replace q125 := eq_true q125
            have p126 : 0 ≤ (x9_2 : Int) := of_decide_eq_true (by assumption)
            have q126 : x9_2 < (x0_2.length : Int) := of_decide_eq_true (by assumption)
            obtain ⟨ad126, e126, hx126_0, hx126_1, hx126_2⟩ := at_T50 (Kd.R_reads' HO_0.out).2.2 x9_2 p126 q126
            obtain rfl : ad122 = ad126 := (by injection e126)
            replace p126 := eq_true p126
            replace q126 := eq_true q126
            have p14 : 0 ≤ (x9_2 : Int) := of_decide_eq_true (by assumption)
            have q14 : (x9_2 : Int) < ((x0_2.length : Int) : Int) := of_decide_eq_true (by assumption)
            obtain ⟨go14, co14, eo14, gb14, gl14, cl14, HG14⟩ := Kd.R_form HO_0.out (by omega)
            (first | cases eo14 | (injection eo14 with ea_ en_ ec_; (first | subst ea_ | (injection ea_ with ea_; subst ea_)); subst ec_; clear en_))
            have GB14 := Aside0.mk gb14
            have GG14 := Aside0.mk HG14
            clear gb14 gl14 HG14
            have HMgo14 := Aside0.mk (show (P0_ go14 ∨ w.heap.size ≤ go14) from (HO_0.out.1 _ rfl))
            (first | simp only [add_plain] at hx122_0 | skip)
            (first | simp only [add_plain] at hx122_1 | skip)
            (first | simp only [add_plain] at hx122_2 | skip)
            (first | simp only [add_plain] at hx123_0 | skip)
            (first | simp only [add_plain] at hx123_1 | skip)
            (first | simp only [add_plain] at hx123_2 | skip)
            (first | simp only [add_plain] at hx125_0 | skip)
            (first | simp only [add_plain] at hx125_1 | skip)
            (first | simp only [add_plain] at hx125_2 | skip)
            (first | simp only [add_plain] at hx126_0 | skip)
            (first | simp only [add_plain] at hx126_1 | skip)
            (first | simp only [add_plain] at hx126_2 | skip)
            obtain ⟨ce14, hcl14, hM14, hcc14, hfr14⟩ := Kd.R_elem HO_0.out z50 (x9_2 : Int) p14 q14
            obtain rfl := k50_openM hM14
            have hx14_0 : World.cell? _ ⟨go14, (x9_2 : Int).toNat * 3, none⟩ = some (.int .i64 ((rd_T50 x0_2 x9_2).f0)) := hcc14 0 _ rfl
            have hx14_1 : World.cell? _ ⟨go14, (x9_2 : Int).toNat * 3 + 1, none⟩ = some (.int .u64 ((rd_T50 x0_2 x9_2).f1)) := hcc14 1 _ rfl
            have hx14_2 : World.cell? _ ⟨go14, (x9_2 : Int).toNat * 3 + 2, none⟩ = some (.int .i64 ((rd_T50 x0_2 x9_2).f2)) := hcc14 2 _ rfl
            have hf14_0 : World.frozen? _ ⟨go14, (x9_2 : Int).toNat * 3, none⟩ = false := hfr14 0
            have hf14_1 : World.frozen? _ ⟨go14, (x9_2 : Int).toNat * 3 + 1, none⟩ = false := hfr14 1
            have hf14_2 : World.frozen? _ ⟨go14, (x9_2 : Int).toNat * 3 + 2, none⟩ = false := hfr14 2
            clear hcl14 hcc14 hfr14 hM14
            replace p14 := eq_true p14
            replace q14 := eq_true q14
            obtain ⟨ce20, hcl20, hM20, hcc20, hfr20⟩ := Kd.R_elem HO_0.out z50 (x9_2 : Int) (of_decide_eq_true (by assumption)) (by have h_ : (x9_2 : Int) < ((x0_2.length : Int) : Int) := of_decide_eq_true (by assumption); first | exact h_ | (have e_ := (Kd.R_reads' HO_0.out).1; omega) | simpa using h_)
            obtain rfl := k50_openM hM20
            have HP20 := (Kd.R_seg HO_0.out (x9_2 : Int) (of_decide_eq_true (by assumption)) (by have h_ : (x9_2 : Int) < ((x0_2.length : Int) : Int) := of_decide_eq_true (by assumption); first | exact h_ | (have e_ := (Kd.R_reads' HO_0.out).1; omega) | simpa using h_) (seg := [.int .i64 ((rd_T50 x0_2 (ji9)).f0), .int .u64 ((rd_T50 x0_2 (ji9)).f1), .int .i64 ((rd_T50 x0_2 (ji9)).f2)]) (j := 0) hcl20 hcc20 (show 3 ≤ 3 from by decide) (x' := (⟨(rd_T50 x0_2 (ji9)).f0, (rd_T50 x0_2 (ji9)).f1, (rd_T50 x0_2 (ji9)).f2⟩ : S50)) (k50_mkM _ _ _ (⟨(rd_T50 x0_2 (ji9)).f0, (rd_T50 x0_2 (ji9)).f1, (rd_T50 x0_2 (ji9)).f2⟩ : S50) ) (fun _ hk => hk)).1
            rw [← Ny127.out] at HP20
            have HQ20 := Aside0.mk HP20
            clear hcl20 hcc20 hfr20 hM20 HP20
            have p15 : 0 ≤ ((ji9) : Int) := of_decide_eq_true (by assumption)
            have q15 : ((ji9) : Int) < ((x0_2.length : Int) : Int) := of_decide_eq_true (by assumption)
            obtain ⟨ce15, hcl15, hM15, hcc15, hfr15⟩ := Kd.R_elem HQ20.out z50 ((ji9) : Int) p15 q15
            obtain rfl := k50_openM hM15
            have hx15_0 : World.cell? _ ⟨go14, ((ji9) : Int).toNat * 3, none⟩ = some (.int .i64 ((rd_T50 y127 (ji9)).f0)) := hcc15 0 _ rfl
            have hx15_1 : World.cell? _ ⟨go14, ((ji9) : Int).toNat * 3 + 1, none⟩ = some (.int .u64 ((rd_T50 y127 (ji9)).f1)) := hcc15 1 _ rfl
            have hx15_2 : World.cell? _ ⟨go14, ((ji9) : Int).toNat * 3 + 2, none⟩ = some (.int .i64 ((rd_T50 y127 (ji9)).f2)) := hcc15 2 _ rfl
            have hf15_0 : World.frozen? _ ⟨go14, ((ji9) : Int).toNat * 3, none⟩ = false := hfr15 0
            have hf15_1 : World.frozen? _ ⟨go14, ((ji9) : Int).toNat * 3 + 1, none⟩ = false := hfr15 1
            have hf15_2 : World.frozen? _ ⟨go14, ((ji9) : Int).toNat * 3 + 2, none⟩ = false := hfr15 2
            clear hcl15 hcc15 hfr15 hM15
            replace p15 := eq_true p15
            replace q15 := eq_true q15
            obtain ⟨ce21, hcl21, hM21, hcc21, hfr21⟩ := Kd.R_elem HQ20.out z50 ((ji9) : Int) (of_decide_eq_true (by assumption)) (by have h_ : ((ji9) : Int) < ((x0_2.length : Int) : Int) := of_decide_eq_true (by assumption); first | exact h_ | (have e_ := (Kd.R_reads' HO_0.out).1; omega) | simpa using h_)
            obtain rfl := k50_openM hM21
            have HP21 := (Kd.R_seg HQ20.out ((ji9) : Int) (of_decide_eq_true (by assumption)) (by have h_ : ((ji9) : Int) < ((x0_2.length : Int) : Int) := of_decide_eq_true (by assumption); first | exact h_ | (have e_ := (Kd.R_reads' HO_0.out).1; omega) | simpa using h_) (seg := [.int .i64 ((rd_T50 x0_2 x9_2).f0), .int .u64 ((rd_T50 x0_2 x9_2).f1), .int .i64 ((rd_T50 x0_2 x9_2).f2)]) (j := 0) hcl21 hcc21 (show 3 ≤ 3 from by decide) (x' := (⟨(rd_T50 x0_2 x9_2).f0, (rd_T50 x0_2 x9_2).f1, (rd_T50 x0_2 x9_2).f2⟩ : S50)) (k50_mkM _ _ _ (⟨(rd_T50 x0_2 x9_2).f0, (rd_T50 x0_2 x9_2).f1, (rd_T50 x0_2 x9_2).f2⟩ : S50) ) (fun _ hk => hk)).1
            rw [← Ny128.out] at HP21
            have HQ21 := Aside0.mk HP21
            clear hcl21 hcc21 hfr21 hM21 HP21
            refine start_ (n := 18) (S := fun w' => w'.cell? ⟨go14, (((ji9)).toNat * 3), none⟩ = some (.int .i64 ((rd_T50 x0_2 (ji9)).f0)) ∧ w'.cell? ⟨go14, (((ji9)).toNat * 3) + 1, none⟩ = some (.int .u64 ((rd_T50 x0_2 (ji9)).f1)) ∧ w'.cell? ⟨go14, (((ji9)).toNat * 3) + 2, none⟩ = some (.int .i64 ((rd_T50 x0_2 (ji9)).f2)) ∧ w'.cell? ⟨go14, ((x9_2).toNat * 3), none⟩ = some (.int .i64 ((rd_T50 x0_2 x9_2).f0)) ∧ w'.cell? ⟨go14, ((x9_2).toNat * 3) + 1, none⟩ = some (.int .u64 ((rd_T50 x0_2 x9_2).f1)) ∧ w'.cell? ⟨go14, ((x9_2).toNat * 3) + 2, none⟩ = some (.int .i64 ((rd_T50 x0_2 x9_2).f2))) (ds := [15, 17]) (mk_ 0 18) (by kernel_rfl) rfl rfl ⟨hx125_0, hx125_1, hx125_2, hx126_0, hx126_1, hx126_2⟩ (fun hHeld => ?_); refine with_tabW batch_Change_95.tab6 batch_Change_95.bits6 (fun HT_ HW_ => ?_)
            generalize w18.drew = w19 at HO_0 HK HB GG14 HQ20 HQ21 hf14_0 hf14_1 hf14_2 hf15_0 hf15_1 hf15_2 hx122_0 hx122_1 hx122_2 hx123_0 hx123_1 hx123_2 hx125_0 hx125_1 hx125_2 hx126_0 hx126_1 hx126_2 hx14_0 hx14_1 hx14_2 hx15_0 hx15_1 hx15_2 hHeld ⊢
            refine pv_ 0 37 (mk_ 1 17) HT_ ?_
            refine pv_ 1 38 (mk_ 2 16) HT_ ?_
            refine pv_ 2 39 (mk_ 3 15) HT_ ?_
            refine pv_ 3 40 (mk_ 4 14) HT_ ?_
            refine pv_ 4 41 (mk_ 5 13) HT_ ?_
            refine pv_ 5 42 (mk_ 6 12) HT_ ?_
            refine pv_ 6 43 (mk_ 7 11) HT_ ?_
            refine pv_ 7 44 (mk_ 8 10) HT_ ?_
            refine pv_ 8 45 (mk_ 9 9) HT_ ?_
            refine pv_ 10 47 #[true, true, true, true, true, true, true, true, true, false, true, false, false, false, false, false, false, false] HT_ ?_
            refine pv_ 11 48 #[true, true, true, true, true, true, true, true, true, false, true, true, false, false, false, false, false, false] HT_ ?_
            refine pv_ 12 49 #[true, true, true, true, true, true, true, true, true, false, true, true, true, false, false, false, false, false] HT_ ?_
            refine tv_ 9 46 (mk_ 13 5) HT_ HW_ hHeld (hy := by rintro w' ⟨s0, s1, s2, s3, s4, s5⟩; go_simp; with_reducible rfl) (h := ?_)
            refine tv_ 13 50 (mk_ 14 4) HT_ HW_ hHeld (hy := by rintro w' ⟨s0, s1, s2, s3, s4, s5⟩; go_simp; with_reducible rfl) (h := ?_)
            refine pv_ 14 51 (mk_ 15 3) HT_ ?_
            refine last_ (i := 15) (N := none) (mk_ 16 2) rfl rfl (one_of HT_.out (by kernel_rfl)) (by decide) (fun K hK => ?_)
            refine skip_ (w1 := ?_) (by rfl) rfl ?_ ?_
            rotate_left
            ·(try simp [go_sem, World.setCells, (show Kd.sz k50 = 3 from rfl), (show ∀ n : Nat, n + 1 + 1 = n + 2 from fun _ => rfl)] at hx15_0 hf15_0 hx15_1 hf15_1 hx15_2 hf15_2)
             go_simp
             rfl
            refine hK.out _ _ ?_
            clear hK K
            refine pv_ 16 52 (mk_ 17 1) HT_ ?_
            refine last_ (i := 17) (N := none) (mk_ 18 0) rfl rfl (one_of HT_.out (by kernel_rfl)) (by decide) (fun K hK => ?_)
            refine skip_ (w1 := ?_) (by rfl) rfl ?_ ?_
            rotate_left
            ·(try simp [go_sem, World.setCells, (show Kd.sz k50 = 3 from rfl), (show ∀ n : Nat, n + 1 + 1 = n + 2 from fun _ => rfl)] at hx15_0 hf15_0 hx15_1 hf15_1 hx15_2 hf15_2)
             go_simp
             rfl
            refine hK.out _ _ ?_
            clear hK K
            refine done_ (done_of HT_.out (by kernel_rfl)) ?_
            try go_wp2
            go_roundg k2
            case measure => have := HK1.out; have := HK2.out; omega
            case rel => exact ⟨(y128), (ji9), (by first | rfl | (simp; done) | (simp only [← hji9] <;> (first | rfl | simp)) | (simp [*]; done)), H', ⟨by have := HK1.out; have := HK2.out; omega⟩, ⟨by (with_reducible repeat (first | apply Kd.R_alloc | apply Kd.R_drewN | apply Kd.R_drew)); exact HQ21.out⟩, ⟨by repeat (first | (with_reducible first | exact HK.out | apply Kept.alloc | apply Kept.drewN | apply Kept.drew | refine Kept.setCell ?_ HMgo14.out _ | refine Kept.setCell ?_ HMgo14.out _ | refine Kept.setCell ?_ HMgo14.out _ | refine Kept.setCell ?_ HMgo14.out _ | refine Kept.setCell ?_ HMgo14.out _ | refine Kept.setCell ?_ HMgo14.out _) | exact HK.out)⟩, ⟨by repeat (first | (with_reducible first | exact HB.out | apply below_alloc | apply pw_below_drewN | apply below_drew1 | refine below_set ?_ GB14.out | refine below_set ?_ GB14.out | refine below_set ?_ GB14.out | refine below_set ?_ GB14.out | refine below_set ?_ GB14.out | refine below_set ?_ GB14.out) | exact HB.out)⟩⟩
           ·rw [if_neg c13] at H
            have c13b0 : decide (t124 < 0) = false := decide_eq_false c13
            clear c13
            have H' := Aside0.mk H
            clear H
            try go_wp2
            have n0_ := Aside0.mk (Kd.R_drew HO_0.out)
            have n1_ := Aside0.mk (Kept.drew HK.out)
            have n2_ := Aside0.mk (below_drew1 HB.out)
            clear HO_0
            clear HK
            clear HB
            have HO_0 := n0_
            have HK := n1_
            have HB := n2_
            clear n0_ n1_ n2_
            obtain ⟨Ao23, co23, eo23⟩ := Kd.R_slice HO_0.out
            (first | subst eo23 | (injection eo23 with f1_ f2_ f3_; have f4_ := f1_.symm; have f5_ := f3_.symm; clear f1_ f2_ f3_; subst f4_; subst f5_))
            have p122 : 0 ≤ (x9_2 : Int) := of_decide_eq_true (by assumption)
            have q122 : x9_2 < (x0_2.length : Int) := of_decide_eq_true (by assumption)
            obtain ⟨ad122, e122, hx122_0, hx122_1, hx122_2⟩ := at_T50 (Kd.R_reads' HO_0.out).2.2 x9_2 p122 q122
            cases e122
            replace p122 := eq_true p122
            replace q122 := eq_true q122
            have p123 : 0 ≤ ((ji9) : Int) := of_decide_eq_true (by assumption)
            have q123 : (ji9) < (x0_2.length : Int) := of_decide_eq_true (by assumption)
            obtain ⟨ad123, e123, hx123_0, hx123_1, hx123_2⟩ := at_T50 (Kd.R_reads' HO_0.out).2.2 (ji9) p123 q123
            obtain rfl : ad122 = ad123 := (by injection e123)
            replace p123 := eq_true p123
            replace q123 := eq_true q123
            refine start_ (n := 17) (S := fun w' => w'.cell? (ad122.add ((x9_2).toNat * 3)) = some (.int .i64 ((rd_T50 x0_2 x9_2).f0)) ∧ w'.cell? ⟨(ad122.add ((x9_2).toNat * 3)).block, (ad122.add ((x9_2).toNat * 3)).off + 1, none⟩ = some (.int .u64 ((rd_T50 x0_2 x9_2).f1)) ∧ w'.cell? ⟨(ad122.add ((x9_2).toNat * 3)).block, (ad122.add ((x9_2).toNat * 3)).off + 2, none⟩ = some (.int .i64 ((rd_T50 x0_2 x9_2).f2)) ∧ w'.cell? (ad122.add (((ji9)).toNat * 3)) = some (.int .i64 ((rd_T50 x0_2 (ji9)).f0)) ∧ w'.cell? ⟨(ad122.add (((ji9)).toNat * 3)).block, (ad122.add (((ji9)).toNat * 3)).off + 1, none⟩ = some (.int .u64 ((rd_T50 x0_2 (ji9)).f1)) ∧ w'.cell? ⟨(ad122.add (((ji9)).toNat * 3)).block, (ad122.add (((ji9)).toNat * 3)).off + 2, none⟩ = some (.int .i64 ((rd_T50 x0_2 (ji9)).f2))) (ds := []) (mk_ 0 17) (by kernel_rfl) rfl rfl ⟨hx122_0, hx122_1, hx122_2, hx123_0, hx123_1, hx123_2⟩ (fun hHeld => ?_); refine with_tabW batch_Change_95.tab4 batch_Change_95.bits4 (fun HT_ HW_ => ?_)
            generalize wr.drew = w22 at HO_0 HK HB hx122_0 hx122_1 hx122_2 hx123_0 hx123_1 hx123_2 hHeld ⊢
            refine pv_ 0 18 (mk_ 1 16) HT_ ?_
            refine pv_ 1 19 (mk_ 2 15) HT_ ?_
            refine pv_ 2 20 (mk_ 3 14) HT_ ?_
            refine pv_ 3 21 (mk_ 4 13) HT_ ?_
            refine pv_ 4 22 (mk_ 5 12) HT_ ?_
            refine pv_ 5 23 (mk_ 6 11) HT_ ?_
            refine pv_ 6 24 (mk_ 7 10) HT_ ?_
            refine pv_ 7 25 (mk_ 8 9) HT_ ?_
            refine pv_ 9 27 #[true, true, true, true, true, true, true, true, false, true, false, false, false, false, false, false, false] HT_ ?_
            refine pv_ 10 28 #[true, true, true, true, true, true, true, true, false, true, true, false, false, false, false, false, false] HT_ ?_
            refine pv_ 11 29 #[true, true, true, true, true, true, true, true, false, true, true, true, false, false, false, false, false] HT_ ?_
            refine pv_ 12 30 #[true, true, true, true, true, true, true, true, false, true, true, true, true, false, false, false, false] HT_ ?_
            refine tv_ 8 26 (mk_ 13 4) HT_ HW_ hHeld (hy := by rintro w' ⟨s0, s1, s2, s3, s4, s5⟩; go_simp; with_reducible rfl) (h := ?_)
            refine tv_ 13 31 (mk_ 14 3) HT_ HW_ hHeld (hy := by rintro w' ⟨s0, s1, s2, s3, s4, s5⟩; go_simp; with_reducible rfl) (h := ?_)
            refine one_ (i := 14) (N := some 32) (mk_ 15 2) rfl rfl (one_of HT_.out (by kernel_rfl)) (by decide) (fun K hK => ?_)
            refine goesTT_ Try.func53 (by kernel_rfl) rfl #[.agg #[.int .i64 ((rd_T50 x0_2 x9_2).f0), .int .u64 ((rd_T50 x0_2 x9_2).f1), .int .i64 ((rd_T50 x0_2 x9_2).f2)], .agg #[.int .i64 ((rd_T50 x0_2 (ji9)).f0), .int .u64 ((rd_T50 x0_2 (ji9)).f1), .int .i64 ((rd_T50 x0_2 (ji9)).f2)]] (by rfl) rfl rfl rfl (by (try simp only [List.map_toArray, List.map_cons, List.map_nil]); first | done | (simp only [hji9]; rfl) | rfl | (simp only [List.length_drop, List.length_take]; rfl)) ?_
            with_reducible refine (batch_order.calls k2 ((rd_T50 x0_2 x9_2).f0) ((rd_T50 x0_2 x9_2).f1) ((rd_T50 x0_2 x9_2).f2) ((rd_T50 x0_2 (ji9)).f0) ((rd_T50 x0_2 (ji9)).f1) ((rd_T50 x0_2 (ji9)).f2) t124 _ A12.out).mono ?_
            rintro e w24 ⟨rfl, hb⟩
            have HS0_ := (hb.cell (World.block_lt_of_cell? _ _ (hHeld.1))).trans (hHeld.1)
            have HS1_ := (hb.cell (World.block_lt_of_cell? _ _ (hHeld.2.1))).trans (hHeld.2.1)
            have HS2_ := (hb.cell (World.block_lt_of_cell? _ _ (hHeld.2.2.1))).trans (hHeld.2.2.1)
            have HS3_ := (hb.cell (World.block_lt_of_cell? _ _ (hHeld.2.2.2.1))).trans (hHeld.2.2.2.1)
            have HS4_ := (hb.cell (World.block_lt_of_cell? _ _ (hHeld.2.2.2.2.1))).trans (hHeld.2.2.2.2.1)
            have HS5_ := (hb.cell (World.block_lt_of_cell? _ _ (hHeld.2.2.2.2.2))).trans (hHeld.2.2.2.2.2)
            refine ⟨_, rfl, ?_⟩
            have n0_ := Aside0.mk (Kd.R_below (rn HO_0) hb)
            have n1_ := Aside0.mk (Kept.below (S := (fun k_ => P0_ k_)) (by repeat (first | (with_reducible first | exact HK.out | apply Kept.alloc | apply Kept.drewN | apply Kept.drew) | exact HK.out)) hb)
            have n2_ := Aside0.mk (below_step (bn HB) hb)
            clear HO_0
            clear HK
            clear HB
            have HO_0 := n0_
            have HK := n1_
            have HB := n2_
            clear n0_ n1_ n2_
            (try clear hb)
            (try clear hb2)
            (try clear hk)
            (try clear hi)
            refine hK.out _ _ ⟨HS0_, HS1_, HS2_, HS3_, HS4_, HS5_⟩ (fun hHeld => ?_)
            clear hK K
            refine norm_ (a' := ?_) ?_ ?_
            rotate_left
            ·show Act.put _ (some 32) _ = _
             simp only [Act.put, List.setIfInBounds_toArray, List.set_cons_zero, List.set_cons_succ, i64_w, i32_w]
             rfl
            refine pv_ 15 33 (mk_ 16 1) HT_ ?_
            refine pv_ 16 34 (mk_ 17 0) HT_ ?_
            refine done_ (done_of HT_.out (by kernel_rfl)) ?_
            try go_wp2
            go_roundg k2
            case measure => have := HK1.out; have := HK2.out; omega
            case rel => exact ⟨(x0_2), (wrap64 (x8_1 + 1)), (by first | rfl | (simp; done) | (simp [*]; done)), H', ⟨by have := HK1.out; have := HK2.out; omega⟩, ⟨by (with_reducible repeat (first | apply Kd.R_alloc | apply Kd.R_drewN | apply Kd.R_drew)); exact HO_0.out⟩, ⟨by repeat (first | (with_reducible first | exact HK.out | apply Kept.alloc | apply Kept.drewN | apply Kept.drew) | exact HK.out)⟩, ⟨by repeat (first | (with_reducible first | exact HB.out | apply below_alloc | apply pw_below_drewN | apply below_drew1) | exact HB.out)⟩⟩
          ·rw [if_neg c11] at H
           exact absurd H (by simp)
         ·rw [if_neg c10] at H
          exact absurd H (by simp)
        ·rw [if_neg c8] at H
         exact absurd H (by simp)
       ·rw [if_neg c7] at H
        exact absurd H (by simp)
      ·rw [if_neg c6] at H
       have c6b0 : decide (a1 < x9_2) = false := decide_eq_false c6
       clear c6
       have H' := Aside0.mk H
       clear H
       try go_wp2
       have n0_ := Aside0.mk (Kd.R_drew HO_0.out)
       have n1_ := Aside0.mk (Kept.drew HK.out)
       have n2_ := Aside0.mk (below_drew1 HB.out)
       clear HO_0
       clear HK
       clear HB
       have HO_0 := n0_
       have HK := n1_
       have HB := n2_
       clear n0_ n1_ n2_
       refine start_ (n := 17) (S := fun w' => True) (ds := []) (mk_ 0 17) (by kernel_rfl) rfl rfl trivial (fun hHeld => ?_); refine with_tabW batch_Change_95.tab4 batch_Change_95.bits4 (fun HT_ HW_ => ?_)
       generalize wr.drew = w25 at HO_0 HK HB hHeld ⊢
       refine pv_ 0 18 (mk_ 1 16) HT_ ?_
       refine pv_ 1 19 (mk_ 2 15) HT_ ?_
       refine pv_ 2 20 (mk_ 3 14) HT_ ?_
       refine pv_ 3 21 (mk_ 4 13) HT_ ?_
       refine pu_ 4 22 (mk_ 5 12) HT_ ?_
       refine pu_ 5 23 (mk_ 6 11) HT_ ?_
       refine pu_ 6 24 (mk_ 7 10) HT_ ?_
       refine pu_ 7 25 (mk_ 8 9) HT_ ?_
       refine pu_ 8 26 (mk_ 9 8) HT_ ?_
       refine pu_ 9 27 (mk_ 10 7) HT_ ?_
       refine pu_ 10 28 (mk_ 11 6) HT_ ?_
       refine pu_ 11 29 (mk_ 12 5) HT_ ?_
       refine pu_ 12 30 (mk_ 13 4) HT_ ?_
       refine pu_ 13 31 (mk_ 14 3) HT_ ?_
       refine pu_ 14 32 (mk_ 15 2) HT_ ?_
       refine pu_ 15 33 (mk_ 16 1) HT_ ?_
       refine pv_ 16 34 (mk_ 17 0) HT_ ?_
       refine done_ (done_of HT_.out (by kernel_rfl)) ?_
       try go_wp2
       go_roundg k2
       case measure => have := HK1.out; have := HK2.out; omega
       case rel => exact ⟨(x0_2), (wrap64 (x8_1 + 1)), (by first | rfl | (simp; done) | (simp [*]; done)), H', ⟨by have := HK1.out; have := HK2.out; omega⟩, ⟨by (with_reducible repeat (first | apply Kd.R_alloc | apply Kd.R_drewN | apply Kd.R_drew)); exact HO_0.out⟩, ⟨by repeat (first | (with_reducible first | exact HK.out | apply Kept.alloc | apply Kept.drewN | apply Kept.drew) | exact HK.out)⟩, ⟨by repeat (first | (with_reducible first | exact HB.out | apply below_alloc | apply pw_below_drewN | apply below_drew1) | exact HB.out)⟩⟩
   ·rw [if_neg c5] at H
    have c5b0 : decide (x8_1 < a2) = false := decide_eq_false c5
    clear c5
    obtain rfl := Option.some.inj H
    go_wp2
    first | go_end0 | ((try simp only [Exit.inBlock, Exit.then]); refine bodyPost_ret (results_none rfl _ _ _) rfl ?_)
    exact ⟨by first | rfl | (simp [errW_none, errW_some] <;> rfl) | (simp [*, errW_none, errW_some] <;> rfl), by (with_reducible repeat (first | apply Kd.R_alloc | apply Kd.R_drewN | apply Kd.R_drew)); exact HO_0.out, by repeat (first | (with_reducible first | exact HB.out | apply below_alloc | apply pw_below_drewN | apply below_drew1) | exact HB.out), by repeat (first | (with_reducible first | exact HK.out | apply Kept.alloc | apply Kept.drewN | apply Kept.drew) | exact HK.out)⟩
end Go.Proofs.Ytgeldmhgbnamcaa.P
end
section
-- Printed by the session's own turn of the print (wip/tools/print2.sh): some callees are proved by hand.
namespace Go.Proofs.Ytgeldmhgbnamcaa.P
open Go.RowKit Go.Proofs.YtgeldmhgbnamcaaW.PrintWords Go.Proofs.YtgeldmhgbnamcaaW.PrintLast Go.Proofs.YtgeldmhgbnamcaaW.PrintMore
attribute [local go_sem] max2_int min2_int max_two min_two max_three min_three max_four min_four   -- for this text's walks alone
set_option linter.unusedVariables false
set_option linter.unusedSimpArgs false
/-! ### batch_Change_99: function 99 -/
def batch_Change_99.l0 : Nat → List (S50) → Int → Int → Int → Int → Option ((List (S50)))
 | 0, _, _, _, _, _ => none
 | k + 1, x0, x1, x2, x3, x10 => if x10 < x3 then (if 0 ≤ (wrap64 (x2 + x10)) then (if (wrap64 (x2 + x10)) < (x0.length : Int) then (if 0 ≤ (wrap64 (x1 + x10)) then (if (wrap64 (x1 + x10)) < (x0.length : Int) then (batch_Change_99.l0 k ((x0.set ((wrap64 (x1 + x10)) : Int).toNat (⟨(rd_T50 x0 (wrap64 (x2 + x10))).f0, (rd_T50 x0 (wrap64 (x2 + x10))).f1, (rd_T50 x0 (wrap64 (x2 + x10))).f2⟩ : S50)).set ((wrap64 (x2 + x10)) : Int).toNat (⟨(rd_T50 x0 (wrap64 (x1 + x10))).f0, (rd_T50 x0 (wrap64 (x1 + x10))).f1, (rd_T50 x0 (wrap64 (x1 + x10))).f2⟩ : S50)) x1 x2 x3 (wrap64 (x10 + 1))) else (none)) else (none)) else (none)) else (none)) else (some x0)
def batch_Change_99.f (k : Nat) (l0 : List (S50)) (a1 : Int) (a2 : Int) (a3 : Int)  : Option ((List (S50))) := batch_Change_99.l0 k l0 a1 a2 a3 0
theorem batch_Change_99.mono_l : ∀ k, (∀ y0 y1 y2 y3 y4, LeO (batch_Change_99.l0 k y0 y1 y2 y3 y4) (batch_Change_99.l0 (k + 1) y0 y1 y2 y3 y4))
 | 0 => fun _ _ _ _ _ r h => by simp [batch_Change_99.l0] at h
 | k + 1 => by
  have ih0 := batch_Change_99.mono_l k
  ·intro y0 y1 y2 y3 y4
   unfold batch_Change_99.l0
   repeat' first
   | (with_reducible exact ih0 _ _ _ _ _)
   | (with_reducible exact LeO.refl _)
   | (with_reducible exact LeO.none _)
   | (with_reducible refine LeO.ite ?_ ?_)
   | (with_reducible refine LeO.bind ?_ (fun _ => ?_))
   | exact ih0 _ _ _ _ _
   | exact LeO.none _
   | refine LeO.ite ?_ ?_
   | refine LeO.bind ?_ (fun _ => ?_)
theorem batch_Change_99.mono : ∀ a0 a1 a2 a3 k, LeO (batch_Change_99.f k a0 a1 a2 a3) (batch_Change_99.f (k + 1) a0 a1 a2 a3) := by
 intro a0 a1 a2 a3 k
 have ih0 := batch_Change_99.mono_l k
 unfold batch_Change_99.f
 repeat' first
   | (with_reducible exact ih0 _ _ _ _ _)
   | (with_reducible exact LeO.refl _)
   | (with_reducible exact LeO.none _)
   | (with_reducible refine LeO.ite ?_ ?_)
   | (with_reducible refine LeO.bind ?_ (fun _ => ?_))
   | exact ih0 _ _ _ _ _
   | exact LeO.none _
   | refine LeO.ite ?_ ?_
   | refine LeO.bind ?_ (fun _ => ?_)
def batch_Change_99.T3 : Bool × List (List Nat × List Nat) := (true, [([], []), ([], []), ([], []), ([1, 2], [1, 2]), ([], []), ([], []), ([], []), ([5, 6], [5, 6]), ([], []), ([], []), ([], []), ([9, 10], [9, 10]), ([8, 11], [8, 11]), ([12], [12]), ([], []), ([], []), ([], []), ([15, 16], [15, 16]), ([14, 17], [14, 17]), ([18], [18]), ([0, 3, 0, 1, 2, 3, 8, 9, 10, 11, 12, 13, 19], [0, 3]), ([20, 13, 0, 1, 2, 3, 8, 9, 10, 11, 12, 13, 19], [13, 20]), ([4, 7, 0, 1, 2, 3, 4, 5, 6, 7, 8, 9, 10, 11, 12, 13, 14, 15, 16, 17, 18, 19, 20, 21], [4, 7]), ([22, 19, 21, 0, 1, 2, 3, 4, 5, 6, 7, 8, 9, 10, 11, 12, 13, 14, 15, 16, 17, 18, 19, 20, 21], [19, 22])])
def batch_Change_99.B3 : List Nat := [0, 0, 0, 6, 0, 0, 0, 96, 0, 0, 0, 1536, 3840, 7936, 0, 0, 0, 98304, 245760, 507904, 1048335, 2096911, 4194303, 8388607]
theorem batch_Change_99.tab3 : rtab .any (opsOf Try.f99 3) = batch_Change_99.T3 := by kernel_rfl
theorem batch_Change_99.bits3 : waitsOk batch_Change_99.T3.2 batch_Change_99.B3 = true := by kernel_rfl
set_option maxHeartbeats 8000000 in
set_option maxRecDepth 100000 in
theorem batch_Change_99.calls (k : Nat) (P0_ : Nat → Prop) (u9000_ : Value) (l0 : List (S50)) (a1 : Int) (a2 : Int) (a3 : Int)  (r : List (S50)) (w0 w : World) (hB : Below w0.heap.size w0 w) (ho0 : Kd.R k50 50 w w0.heap.size P0_ u9000_ l0) (h : batch_Change_99.f k l0 a1 a2 a3 = some r) :
  Calls Try.prog 99 #[u9000_, .int .i64 a1, .int .i64 a2, .int .i64 a3, .func (.func 53) #[] #[]] w fun e w' => e = .returned (.tuple #[]) ∧ Kd.R k50 50 w' w0.heap.size (fun k_ => (P0_ k_ ∨ w.heap.size ≤ k_)) u9000_ r ∧ Below w0.heap.size w0 w' ∧ Kept w w' (fun k_ => P0_ k_) := by
 have hu50 := Try.underlying50
 have HO0 := Aside0.mk (show Kd.R k50 50 w w0.heap.size (fun k_ => (P0_ k_ ∨ w.heap.size ≤ k_)) u9000_ l0 from Kd.R_mono ho0 (fun k_ hk => (.inl hk)))
 have HK := Aside0.mk (Kept.refl w (fun k_ => P0_ k_))
 have HW0 := Aside0.mk hB.size
 have HB := Aside0.mk hB
 clear hB
 have H : (batch_Change_99.l0 k l0 a1 a2 a3 0) = some r := h
 clear h
 have H' := Aside0.mk H
 clear H
 go_enter Try.func99, Try.ntmps99
 go_wp2
 go_loopg [10] k (fun kq v10 w' => ∃ (x0_1 : List (S50)) (x10_1 : Int), v10 = .int .i64 x10_1 ∧ Aside0 (batch_Change_99.l0 kq x0_1 a1 a2 a3 x10_1 = some r) ∧ Aside0 (kq ≤ k) ∧ Aside0 (Kd.R k50 50 w' w0.heap.size (fun k_ => (P0_ k_ ∨ w.heap.size ≤ k_)) u9000_ x0_1) ∧ Aside0 (Kept w w' (fun k_ => P0_ k_)) ∧ Aside0 (Below w0.heap.size w0 w'))
 case atStart => exact ⟨(l0), (0), (by first | rfl | (simp; done) | (simp [*]; done)), H', ⟨Nat.le_refl _⟩, ⟨by (with_reducible repeat (first | apply Kd.R_alloc | apply Kd.R_drewN | apply Kd.R_drew)); exact HO0.out⟩, ⟨by repeat (first | (with_reducible first | exact HK.out | apply Kept.alloc | apply Kept.drewN | apply Kept.drew) | exact HK.out)⟩, ⟨by repeat (first | (with_reducible first | exact HB.out | apply below_alloc | apply pw_below_drewN | apply below_drew1) | exact HB.out)⟩⟩
 case round =>
  clear H'
  (try clear p2)
  obtain ⟨x0_1, x10_1, rfl, HA, HK1, HO_0, HK, HB⟩ := hrel
  cases gk with
  | zero => exact absurd HA.out (by simp [batch_Change_99.l0])
  | succ k1 =>
   have H := HA.out
   clear HA
   simp only [batch_Change_99.l0] at H
   by_cases c6 : x10_1 < a3
   ·rw [if_pos c6] at H
    have c6b0 : decide (x10_1 < a3) = true := decide_eq_true c6
    clear c6
    obtain ⟨ji7, hji7⟩ : ∃ j_ : Int, (wrap64 (a2 + x10_1)) = j_ := ⟨_, rfl⟩
    replace H : (if 0 ≤ (ji7) then (if (ji7) < (x0_1.length : Int) then (if 0 ≤ (wrap64 (a1 + x10_1)) then (if (wrap64 (a1 + x10_1)) < (x0_1.length : Int) then (batch_Change_99.l0 k1 ((x0_1.set ((wrap64 (a1 + x10_1)) : Int).toNat (⟨(rd_T50 x0_1 (ji7)).f0, (rd_T50 x0_1 (ji7)).f1, (rd_T50 x0_1 (ji7)).f2⟩ : S50)).set ((ji7) : Int).toNat (⟨(rd_T50 x0_1 (wrap64 (a1 + x10_1))).f0, (rd_T50 x0_1 (wrap64 (a1 + x10_1))).f1, (rd_T50 x0_1 (wrap64 (a1 + x10_1))).f2⟩ : S50)) a1 a2 a3 (wrap64 (x10_1 + 1))) else (none)) else (none)) else (none)) else (none)) = some r := by first | (rw [hji7] at H; exact H) | (simp only [hji7] at H ⊢; exact H)
    have hji7w : (IntKind.i64.wrap (a2 + x10_1)) = ji7 := (i64_w _).trans hji7
    by_cases c8 : 0 ≤ (ji7)
    ·rw [if_pos c8] at H
     have c8b0 : decide (0 ≤ (ji7)) = true := decide_eq_true c8
     clear c8
     by_cases c9 : (ji7) < (x0_1.length : Int)
     ·rw [if_pos c9] at H
      have c9b0 : decide ((ji7) < (x0_1.length : Int)) = true := decide_eq_true c9
      clear c9
      obtain ⟨ji10, hji10⟩ : ∃ j_ : Int, (wrap64 (a1 + x10_1)) = j_ := ⟨_, rfl⟩
      replace H : (if 0 ≤ (ji10) then (if (ji10) < (x0_1.length : Int) then (batch_Change_99.l0 k1 ((x0_1.set ((ji10) : Int).toNat (⟨(rd_T50 x0_1 (ji7)).f0, (rd_T50 x0_1 (ji7)).f1, (rd_T50 x0_1 (ji7)).f2⟩ : S50)).set ((ji7) : Int).toNat (⟨(rd_T50 x0_1 (ji10)).f0, (rd_T50 x0_1 (ji10)).f1, (rd_T50 x0_1 (ji10)).f2⟩ : S50)) a1 a2 a3 (wrap64 (x10_1 + 1))) else (none)) else (none)) = some r := by first | (rw [hji10] at H; exact H) | (simp only [hji10] at H ⊢; exact H)
      have hji10w : (IntKind.i64.wrap (a1 + x10_1)) = ji10 := (i64_w _).trans hji10
      by_cases c11 : 0 ≤ (ji10)
      ·rw [if_pos c11] at H
       have c11b0 : decide (0 ≤ (ji10)) = true := decide_eq_true c11
       clear c11
       by_cases c12 : (ji10) < (x0_1.length : Int)
       ·rw [if_pos c12] at H
        have c12b0 : decide ((ji10) < (x0_1.length : Int)) = true := decide_eq_true c12
        clear c12
        obtain ⟨y131, hy131⟩ : ∃ y_ : List (S50), y_ = (x0_1.set ((ji10) : Int).toNat (⟨(rd_T50 x0_1 (ji7)).f0, (rd_T50 x0_1 (ji7)).f1, (rd_T50 x0_1 (ji7)).f2⟩ : S50)) := ⟨_, rfl⟩
        replace H : (batch_Change_99.l0 k1 (y131.set ((ji7) : Int).toNat (⟨(rd_T50 x0_1 (ji10)).f0, (rd_T50 x0_1 (ji10)).f1, (rd_T50 x0_1 (ji10)).f2⟩ : S50)) a1 a2 a3 (wrap64 (x10_1 + 1))) = some r := by first | (rw [hy131]; with_reducible exact H) | (have H2_ := (Option.bind_some _ _).symm.trans H; rw [hy131]; with_reducible exact H2_) | (have H2_ := (Option.bind_some _ _).symm.trans H; with_reducible exact H2_) | with_reducible exact H | (rw [hy131]; exact H) | exact H
        have Ny131 := Aside0.mk hy131
        clear hy131
        obtain ⟨y132, hy132⟩ : ∃ y_ : List (S50), y_ = (y131.set ((ji7) : Int).toNat (⟨(rd_T50 x0_1 (ji10)).f0, (rd_T50 x0_1 (ji10)).f1, (rd_T50 x0_1 (ji10)).f2⟩ : S50)) := ⟨_, rfl⟩
        replace H : (batch_Change_99.l0 k1 y132 a1 a2 a3 (wrap64 (x10_1 + 1))) = some r := by first | (rw [hy132]; with_reducible exact H) | (have H2_ := (Option.bind_some _ _).symm.trans H; rw [hy132]; with_reducible exact H2_) | (have H2_ := (Option.bind_some _ _).symm.trans H; with_reducible exact H2_) | with_reducible exact H | (rw [hy132]; exact H) | exact H
        have Ny132 := Aside0.mk hy132
        clear hy132
        have H' := Aside0.mk H
        clear H
        try go_wp2
        have n0_ := Aside0.mk (Kd.R_drew HO_0.out)
        have n1_ := Aside0.mk (Kept.drew HK.out)
        have n2_ := Aside0.mk (below_drew1 HB.out)
        clear HO_0
        clear HK
        clear HB
        have HO_0 := n0_
        have HK := n1_
        have HB := n2_
        clear n0_ n1_ n2_
        obtain ⟨Ao16, co16, eo16⟩ := Kd.R_slice HO_0.out
        (first | subst eo16 | (injection eo16 with f1_ f2_ f3_; have f4_ := f1_.symm; have f5_ := f3_.symm; clear f1_ f2_ f3_; subst f4_; subst f5_))
        have p129 : 0 ≤ ((ji7) : Int) := of_decide_eq_true (by assumption)
        have q129 : (ji7) < (x0_1.length : Int) := of_decide_eq_true (by assumption)
        obtain ⟨ad129, e129, hx129_0, hx129_1, hx129_2⟩ := at_T50 (Kd.R_reads' HO_0.out).2.2 (ji7) p129 q129
        cases e129
        replace p129 := eq_true p129
        replace q129 := eq_true q129
        have p130 : 0 ≤ ((ji10) : Int) := of_decide_eq_true (by assumption)
        have q130 : (ji10) < (x0_1.length : Int) := of_decide_eq_true (by assumption)
        obtain ⟨ad130, e130, hx130_0, hx130_1, hx130_2⟩ := at_T50 (Kd.R_reads' HO_0.out).2.2 (ji10) p130 q130
        obtain rfl : ad129 = ad130 := (by injection e130)
        replace p130 := eq_true p130
        replace q130 := eq_true q130
        have p13 : 0 ≤ ((ji10) : Int) := of_decide_eq_true (by assumption)
        have q13 : ((ji10) : Int) < ((x0_1.length : Int) : Int) := of_decide_eq_true (by assumption)
        obtain ⟨go13, co13, eo13, gb13, gl13, cl13, HG13⟩ := Kd.R_form HO_0.out (by omega)
        (first | cases eo13 | (injection eo13 with ea_ en_ ec_; (first | subst ea_ | (injection ea_ with ea_; subst ea_)); subst ec_; clear en_))
        have GB13 := Aside0.mk gb13
        have GG13 := Aside0.mk HG13
        clear gb13 gl13 HG13
        have HMgo13 := Aside0.mk (show (P0_ go13 ∨ w.heap.size ≤ go13) from (HO_0.out.1 _ rfl))
        (first | simp only [add_plain] at hx129_0 | skip)
        (first | simp only [add_plain] at hx129_1 | skip)
        (first | simp only [add_plain] at hx129_2 | skip)
        (first | simp only [add_plain] at hx130_0 | skip)
        (first | simp only [add_plain] at hx130_1 | skip)
        (first | simp only [add_plain] at hx130_2 | skip)
        obtain ⟨ce13, hcl13, hM13, hcc13, hfr13⟩ := Kd.R_elem HO_0.out z50 ((ji10) : Int) p13 q13
        obtain rfl := k50_openM hM13
        have hx13_0 : World.cell? _ ⟨go13, ((ji10) : Int).toNat * 3, none⟩ = some (.int .i64 ((rd_T50 x0_1 (ji10)).f0)) := hcc13 0 _ rfl
        have hx13_1 : World.cell? _ ⟨go13, ((ji10) : Int).toNat * 3 + 1, none⟩ = some (.int .u64 ((rd_T50 x0_1 (ji10)).f1)) := hcc13 1 _ rfl
        have hx13_2 : World.cell? _ ⟨go13, ((ji10) : Int).toNat * 3 + 2, none⟩ = some (.int .i64 ((rd_T50 x0_1 (ji10)).f2)) := hcc13 2 _ rfl
        have hf13_0 : World.frozen? _ ⟨go13, ((ji10) : Int).toNat * 3, none⟩ = false := hfr13 0
        have hf13_1 : World.frozen? _ ⟨go13, ((ji10) : Int).toNat * 3 + 1, none⟩ = false := hfr13 1
        have hf13_2 : World.frozen? _ ⟨go13, ((ji10) : Int).toNat * 3 + 2, none⟩ = false := hfr13 2
        clear hcl13 hcc13 hfr13 hM13
        replace p13 := eq_true p13
        replace q13 := eq_true q13
        obtain ⟨ce17, hcl17, hM17, hcc17, hfr17⟩ := Kd.R_elem HO_0.out z50 ((ji10) : Int) (of_decide_eq_true (by assumption)) (by have h_ : ((ji10) : Int) < ((x0_1.length : Int) : Int) := of_decide_eq_true (by assumption); first | exact h_ | (have e_ := (Kd.R_reads' HO_0.out).1; omega) | simpa using h_)
        obtain rfl := k50_openM hM17
        have HP17 := (Kd.R_seg HO_0.out ((ji10) : Int) (of_decide_eq_true (by assumption)) (by have h_ : ((ji10) : Int) < ((x0_1.length : Int) : Int) := of_decide_eq_true (by assumption); first | exact h_ | (have e_ := (Kd.R_reads' HO_0.out).1; omega) | simpa using h_) (seg := [.int .i64 ((rd_T50 x0_1 (ji7)).f0), .int .u64 ((rd_T50 x0_1 (ji7)).f1), .int .i64 ((rd_T50 x0_1 (ji7)).f2)]) (j := 0) hcl17 hcc17 (show 3 ≤ 3 from by decide) (x' := (⟨(rd_T50 x0_1 (ji7)).f0, (rd_T50 x0_1 (ji7)).f1, (rd_T50 x0_1 (ji7)).f2⟩ : S50)) (k50_mkM _ _ _ (⟨(rd_T50 x0_1 (ji7)).f0, (rd_T50 x0_1 (ji7)).f1, (rd_T50 x0_1 (ji7)).f2⟩ : S50) ) (fun _ hk => hk)).1
        rw [← Ny131.out] at HP17
        have HQ17 := Aside0.mk HP17
        clear hcl17 hcc17 hfr17 hM17 HP17
        have p14 : 0 ≤ ((ji7) : Int) := of_decide_eq_true (by assumption)
        have q14 : ((ji7) : Int) < ((x0_1.length : Int) : Int) := of_decide_eq_true (by assumption)
        obtain ⟨ce14, hcl14, hM14, hcc14, hfr14⟩ := Kd.R_elem HQ17.out z50 ((ji7) : Int) p14 q14
        obtain rfl := k50_openM hM14
        have hx14_0 : World.cell? _ ⟨go13, ((ji7) : Int).toNat * 3, none⟩ = some (.int .i64 ((rd_T50 y131 (ji7)).f0)) := hcc14 0 _ rfl
        have hx14_1 : World.cell? _ ⟨go13, ((ji7) : Int).toNat * 3 + 1, none⟩ = some (.int .u64 ((rd_T50 y131 (ji7)).f1)) := hcc14 1 _ rfl
        have hx14_2 : World.cell? _ ⟨go13, ((ji7) : Int).toNat * 3 + 2, none⟩ = some (.int .i64 ((rd_T50 y131 (ji7)).f2)) := hcc14 2 _ rfl
        have hf14_0 : World.frozen? _ ⟨go13, ((ji7) : Int).toNat * 3, none⟩ = false := hfr14 0
        have hf14_1 : World.frozen? _ ⟨go13, ((ji7) : Int).toNat * 3 + 1, none⟩ = false := hfr14 1
        have hf14_2 : World.frozen? _ ⟨go13, ((ji7) : Int).toNat * 3 + 2, none⟩ = false := hfr14 2
        clear hcl14 hcc14 hfr14 hM14
        replace p14 := eq_true p14
        replace q14 := eq_true q14
        obtain ⟨ce18, hcl18, hM18, hcc18, hfr18⟩ := Kd.R_elem HQ17.out z50 ((ji7) : Int) (of_decide_eq_true (by assumption)) (by have h_ : ((ji7) : Int) < ((x0_1.length : Int) : Int) := of_decide_eq_true (by assumption); first | exact h_ | (have e_ := (Kd.R_reads' HO_0.out).1; omega) | simpa using h_)
        obtain rfl := k50_openM hM18
        have HP18 := (Kd.R_seg HQ17.out ((ji7) : Int) (of_decide_eq_true (by assumption)) (by have h_ : ((ji7) : Int) < ((x0_1.length : Int) : Int) := of_decide_eq_true (by assumption); first | exact h_ | (have e_ := (Kd.R_reads' HO_0.out).1; omega) | simpa using h_) (seg := [.int .i64 ((rd_T50 x0_1 (ji10)).f0), .int .u64 ((rd_T50 x0_1 (ji10)).f1), .int .i64 ((rd_T50 x0_1 (ji10)).f2)]) (j := 0) hcl18 hcc18 (show 3 ≤ 3 from by decide) (x' := (⟨(rd_T50 x0_1 (ji10)).f0, (rd_T50 x0_1 (ji10)).f1, (rd_T50 x0_1 (ji10)).f2⟩ : S50)) (k50_mkM _ _ _ (⟨(rd_T50 x0_1 (ji10)).f0, (rd_T50 x0_1 (ji10)).f1, (rd_T50 x0_1 (ji10)).f2⟩ : S50) ) (fun _ hk => hk)).1
        rw [← Ny132.out] at HP18
        have HQ18 := Aside0.mk HP18
        clear hcl18 hcc18 hfr18 hM18 HP18
        refine start_ (n := 24) (S := fun w' => w'.cell? ⟨go13, (((ji7)).toNat * 3), none⟩ = some (.int .i64 ((rd_T50 x0_1 (ji7)).f0)) ∧ w'.cell? ⟨go13, (((ji7)).toNat * 3) + 1, none⟩ = some (.int .u64 ((rd_T50 x0_1 (ji7)).f1)) ∧ w'.cell? ⟨go13, (((ji7)).toNat * 3) + 2, none⟩ = some (.int .i64 ((rd_T50 x0_1 (ji7)).f2)) ∧ w'.cell? ⟨go13, (((ji10)).toNat * 3), none⟩ = some (.int .i64 ((rd_T50 x0_1 (ji10)).f0)) ∧ w'.cell? ⟨go13, (((ji10)).toNat * 3) + 1, none⟩ = some (.int .u64 ((rd_T50 x0_1 (ji10)).f1)) ∧ w'.cell? ⟨go13, (((ji10)).toNat * 3) + 2, none⟩ = some (.int .i64 ((rd_T50 x0_1 (ji10)).f2))) (ds := [21, 23]) (mk_ 0 24) (by kernel_rfl) rfl rfl ⟨hx129_0, hx129_1, hx129_2, hx130_0, hx130_1, hx130_2⟩ (fun hHeld => ?_); refine with_tabW batch_Change_99.tab3 batch_Change_99.bits3 (fun HT_ HW_ => ?_)
        generalize wr.drew = w15 at HO_0 HK HB GG13 HQ17 HQ18 hf13_0 hf13_1 hf13_2 hf14_0 hf14_1 hf14_2 hx129_0 hx129_1 hx129_2 hx130_0 hx130_1 hx130_2 hx13_0 hx13_1 hx13_2 hx14_0 hx14_1 hx14_2 hHeld ⊢
        refine pv_ 0 16 (mk_ 1 23) HT_ ?_
        refine pv_ 1 17 (mk_ 2 22) HT_ ?_
        refine pv_ 2 18 (mk_ 3 21) HT_ ?_
        refine pv_ 3 19 (mk_ 4 20) HT_ ?_
        refine pv_ 4 20 (mk_ 5 19) HT_ ?_
        refine pv_ 5 21 (mk_ 6 18) HT_ ?_
        refine pv_ 6 22 (mk_ 7 17) HT_ ?_
        refine pv_ 7 23 (mk_ 8 16) HT_ ?_
        refine pv_ 8 24 (mk_ 9 15) HT_ ?_
        refine pv_ 9 25 (mk_ 10 14) HT_ ?_
        refine pv_ 10 26 (mk_ 11 13) HT_ ?_
        refine pv_ 11 27 (mk_ 12 12) HT_ ?_
        refine pv_ 12 28 (mk_ 13 11) HT_ ?_
        refine pv_ 14 30 #[true, true, true, true, true, true, true, true, true, true, true, true, true, false, true, false, false, false, false, false, false, false, false, false] HT_ ?_
        refine pv_ 15 31 #[true, true, true, true, true, true, true, true, true, true, true, true, true, false, true, true, false, false, false, false, false, false, false, false] HT_ ?_
        refine pv_ 16 32 #[true, true, true, true, true, true, true, true, true, true, true, true, true, false, true, true, true, false, false, false, false, false, false, false] HT_ ?_
        refine pv_ 17 33 #[true, true, true, true, true, true, true, true, true, true, true, true, true, false, true, true, true, true, false, false, false, false, false, false] HT_ ?_
        refine pv_ 18 34 #[true, true, true, true, true, true, true, true, true, true, true, true, true, false, true, true, true, true, true, false, false, false, false, false] HT_ ?_
        refine tv_ 13 29 (mk_ 19 5) HT_ HW_ hHeld (hy := by rintro w' ⟨s0, s1, s2, s3, s4, s5⟩; go_simp; with_reducible rfl) (h := ?_)
        refine tv_ 19 35 (mk_ 20 4) HT_ HW_ hHeld (hy := by rintro w' ⟨s0, s1, s2, s3, s4, s5⟩; go_simp; with_reducible rfl) (h := ?_)
        refine pv_ 20 36 (mk_ 21 3) HT_ ?_
        refine last_ (i := 21) (N := none) (mk_ 22 2) rfl rfl (one_of HT_.out (by kernel_rfl)) (by decide) (fun K hK => ?_)
        refine skip_ (w1 := ?_) (by rfl) rfl ?_ ?_
        rotate_left
        ·(try simp [go_sem, World.setCells, (show Kd.sz k50 = 3 from rfl), (show ∀ n : Nat, n + 1 + 1 = n + 2 from fun _ => rfl)] at hx14_0 hf14_0 hx14_1 hf14_1 hx14_2 hf14_2)
         go_simp
         rfl
        refine hK.out _ _ ?_
        clear hK K
        refine pv_ 22 37 (mk_ 23 1) HT_ ?_
        refine last_ (i := 23) (N := none) (mk_ 24 0) rfl rfl (one_of HT_.out (by kernel_rfl)) (by decide) (fun K hK => ?_)
        refine skip_ (w1 := ?_) (by rfl) rfl ?_ ?_
        rotate_left
        ·(try simp [go_sem, World.setCells, (show Kd.sz k50 = 3 from rfl), (show ∀ n : Nat, n + 1 + 1 = n + 2 from fun _ => rfl)] at hx14_0 hf14_0 hx14_1 hf14_1 hx14_2 hf14_2)
         go_simp
         rfl
        refine hK.out _ _ ?_
        clear hK K
        refine done_ (done_of HT_.out (by kernel_rfl)) ?_
        try go_wp2
        go_roundg k1
        case measure => have := HK1.out; omega
        case rel => exact ⟨(y132), (wrap64 (x10_1 + 1)), (by first | rfl | (simp; done) | (simp [*]; done)), H', ⟨by have := HK1.out; omega⟩, ⟨by (with_reducible repeat (first | apply Kd.R_alloc | apply Kd.R_drewN | apply Kd.R_drew)); exact HQ18.out⟩, ⟨by repeat (first | (with_reducible first | exact HK.out | apply Kept.alloc | apply Kept.drewN | apply Kept.drew | refine Kept.setCell ?_ HMgo13.out _ | refine Kept.setCell ?_ HMgo13.out _ | refine Kept.setCell ?_ HMgo13.out _ | refine Kept.setCell ?_ HMgo13.out _ | refine Kept.setCell ?_ HMgo13.out _ | refine Kept.setCell ?_ HMgo13.out _) | exact HK.out)⟩, ⟨by repeat (first | (with_reducible first | exact HB.out | apply below_alloc | apply pw_below_drewN | apply below_drew1 | refine below_set ?_ GB13.out | refine below_set ?_ GB13.out | refine below_set ?_ GB13.out | refine below_set ?_ GB13.out | refine below_set ?_ GB13.out | refine below_set ?_ GB13.out) | exact HB.out)⟩⟩
       ·rw [if_neg c12] at H
        exact absurd H (by simp)
      ·rw [if_neg c11] at H
       exact absurd H (by simp)
     ·rw [if_neg c9] at H
      exact absurd H (by simp)
    ·rw [if_neg c8] at H
     exact absurd H (by simp)
   ·rw [if_neg c6] at H
    have c6b0 : decide (x10_1 < a3) = false := decide_eq_false c6
    clear c6
    obtain rfl := Option.some.inj H
    go_wp2
    first | go_end0 | ((try simp only [Exit.inBlock, Exit.then]); refine bodyPost_ret (results_none rfl _ _ _) rfl ?_)
    exact ⟨by first | rfl | (simp [errW_none, errW_some] <;> rfl) | (simp [*, errW_none, errW_some] <;> rfl), by (with_reducible repeat (first | apply Kd.R_alloc | apply Kd.R_drewN | apply Kd.R_drew)); exact HO_0.out, by repeat (first | (with_reducible first | exact HB.out | apply below_alloc | apply pw_below_drewN | apply below_drew1) | exact HB.out), by repeat (first | (with_reducible first | exact HK.out | apply Kept.alloc | apply Kept.drewN | apply Kept.drew) | exact HK.out)⟩
end Go.Proofs.Ytgeldmhgbnamcaa.P
end
section
-- Printed by the session's own turn of the print (wip/tools/print2.sh): some callees are proved by hand.
namespace Go.Proofs.Ytgeldmhgbnamcaa.P
open Go.RowKit Go.Proofs.YtgeldmhgbnamcaaW.PrintWords Go.Proofs.YtgeldmhgbnamcaaW.PrintLast Go.Proofs.YtgeldmhgbnamcaaW.PrintMore
attribute [local go_sem] max2_int min2_int max_two min_two max_three min_three max_four min_four   -- for this text's walks alone
set_option linter.unusedVariables false
set_option linter.unusedSimpArgs false
/-! ### batch_Change_98: function 98 -/
def batch_Change_98.l0 : Nat → List (S50) → Int → Int → Int → Option ((List (S50)))
 | 0, _, _, _, _ => none
 | k + 1, x0, x2, x10, x11 => if x10 = x11 then ((batch_Change_99.f k x0 (wrap64 (x2 - x10)) x2 x10).bind fun t133 => (some t133)) else (if x10 > x11 then ((batch_Change_99.f k x0 (wrap64 (x2 - x10)) x2 x11).bind fun t134 => (batch_Change_98.l0 k t134 x2 (wrap64 (x10 - x11)) x11)) else ((batch_Change_99.f k x0 (wrap64 (x2 - x10)) (wrap64 ((wrap64 (x2 + x11)) - x10)) x10).bind fun t135 => (batch_Change_98.l0 k t135 x2 x10 (wrap64 (x11 - x10)))))
def batch_Change_98.f (k : Nat) (l0 : List (S50)) (a1 : Int) (a2 : Int) (a3 : Int)  : Option ((List (S50))) := batch_Change_98.l0 k l0 a2 (wrap64 (a2 - a1)) (wrap64 (a3 - a2))
theorem batch_Change_98.mono_l : ∀ k, (∀ y0 y1 y2 y3, LeO (batch_Change_98.l0 k y0 y1 y2 y3) (batch_Change_98.l0 (k + 1) y0 y1 y2 y3))
 | 0 => fun _ _ _ _ r h => by simp [batch_Change_98.l0] at h
 | k + 1 => by
  have ih0 := batch_Change_98.mono_l k
  ·intro y0 y1 y2 y3
   unfold batch_Change_98.l0
   repeat' first
   | (with_reducible exact ih0 _ _ _ _)
   | (with_reducible exact batch_Change_99.mono _ _ _ _ _)
   | (with_reducible exact LeO.refl _)
   | (with_reducible exact LeO.none _)
   | (with_reducible refine LeO.ite ?_ ?_)
   | (with_reducible refine LeO.bind ?_ (fun _ => ?_))
   | exact ih0 _ _ _ _
   | exact batch_Change_99.mono _ _ _ _ _
   | exact LeO.none _
   | refine LeO.ite ?_ ?_
   | refine LeO.bind ?_ (fun _ => ?_)
theorem batch_Change_98.mono : ∀ a0 a1 a2 a3 k, LeO (batch_Change_98.f k a0 a1 a2 a3) (batch_Change_98.f (k + 1) a0 a1 a2 a3) := by
 intro a0 a1 a2 a3 k
 have ih0 := batch_Change_98.mono_l k
 unfold batch_Change_98.f
 repeat' first
   | (with_reducible exact ih0 _ _ _ _)
   | (with_reducible exact batch_Change_99.mono _ _ _ _ _)
   | (with_reducible exact LeO.refl _)
   | (with_reducible exact LeO.none _)
   | (with_reducible refine LeO.ite ?_ ?_)
   | (with_reducible refine LeO.bind ?_ (fun _ => ?_))
   | exact ih0 _ _ _ _
   | exact batch_Change_99.mono _ _ _ _ _
   | exact LeO.none _
   | refine LeO.ite ?_ ?_
   | refine LeO.bind ?_ (fun _ => ?_)
set_option maxHeartbeats 8000000 in
set_option maxRecDepth 100000 in
theorem batch_Change_98.calls (k : Nat) (P0_ : Nat → Prop) (u9000_ : Value) (l0 : List (S50)) (a1 : Int) (a2 : Int) (a3 : Int)  (r : List (S50)) (w0 w : World) (hB : Below w0.heap.size w0 w) (ho0 : Kd.R k50 50 w w0.heap.size P0_ u9000_ l0) (h : batch_Change_98.f k l0 a1 a2 a3 = some r) :
  Calls Try.prog 98 #[u9000_, .int .i64 a1, .int .i64 a2, .int .i64 a3, .func (.func 53) #[] #[]] w fun e w' => e = .returned (.tuple #[]) ∧ Kd.R k50 50 w' w0.heap.size (fun k_ => (P0_ k_ ∨ w.heap.size ≤ k_)) u9000_ r ∧ Below w0.heap.size w0 w' ∧ Kept w w' (fun k_ => P0_ k_) := by
 have HO0 := Aside0.mk (show Kd.R k50 50 w w0.heap.size (fun k_ => (P0_ k_ ∨ w.heap.size ≤ k_)) u9000_ l0 from Kd.R_mono ho0 (fun k_ hk => (.inl hk)))
 have HK := Aside0.mk (Kept.refl w (fun k_ => P0_ k_))
 have HW0 := Aside0.mk hB.size
 have HB := Aside0.mk hB
 clear hB
 have H : (batch_Change_98.l0 k l0 a2 (wrap64 (a2 - a1)) (wrap64 (a3 - a2))) = some r := h
 clear h
 have H' := Aside0.mk H
 clear H
 go_enter Try.func98, Try.ntmps98
 go_wp2
 go_loopg [10, 11] k (fun kq v10 v11 w' => ∃ (x0_1 : List (S50)) (x10_1 : Int) (x11_1 : Int), v10 = .int .i64 x10_1 ∧ v11 = .int .i64 x11_1 ∧ Aside0 (batch_Change_98.l0 kq x0_1 a2 x10_1 x11_1 = some r) ∧ Aside0 (kq ≤ k) ∧ Aside0 (Kd.R k50 50 w' w0.heap.size (fun k_ => (P0_ k_ ∨ w.heap.size ≤ k_)) u9000_ x0_1) ∧ Aside0 (Kept w w' (fun k_ => P0_ k_)) ∧ Aside0 (Below w0.heap.size w0 w'))
 case atStart => exact ⟨(l0), (wrap64 (a2 - a1)), (wrap64 (a3 - a2)), (by first | rfl | (simp; done) | (simp [*]; done)), (by first | rfl | (simp; done) | (simp [*]; done)), H', ⟨Nat.le_refl _⟩, ⟨by (with_reducible repeat (first | apply Kd.R_alloc | apply Kd.R_drewN | apply Kd.R_drew)); exact HO0.out⟩, ⟨by repeat (first | (with_reducible first | exact HK.out | apply Kept.alloc | apply Kept.drewN | apply Kept.drew) | exact HK.out)⟩, ⟨by repeat (first | (with_reducible first | exact HB.out | apply below_alloc | apply pw_below_drewN | apply below_drew1) | exact HB.out)⟩⟩
 case round =>
  clear H'
  (try clear p2)
  obtain ⟨x0_1, x10_1, x11_1, rfl, rfl, HA, HK1, HO_0, HK, HB⟩ := hrel
  cases gk with
  | zero => exact absurd HA.out (by simp [batch_Change_98.l0])
  | succ k1 =>
   have H := HA.out
   clear HA
   simp only [batch_Change_98.l0] at H
   by_cases c6 : x10_1 = x11_1
   ·rw [if_pos c6] at H
    have c6b0 : (x10_1 == x11_1) = true := beq_iff_eq.mpr c6
    have c6b1 : (x10_1 != x11_1) = false := bne_eq_false_iff_eq.mpr c6
    clear c6
    replace H := Option.bind_eq_some_iff.mp H
    obtain ⟨t133, A70, H⟩ := H
    replace H : (some t133) = some r := H
    have A7 := Aside0.mk A70
    clear A70
    obtain rfl := Option.some.inj H
    obtain ⟨Ao8, co8, eo8⟩ := Kd.R_slice HO_0.out
    subst eo8
    go_wp2_with (first | ((with_reducible refine gate_callee (f := 99) rfl ?_); refine gl (some 57) Try.func99 #[.slice Ao8 x0_1.length co8, .int .i64 (wrap64 (a2 - x10_1)), .int .i64 a2, .int .i64 x10_1, .func (.func 53) #[] #[]] ?_; (with_reducible refine (batch_Change_99.calls k1 (fun k_ => some k_ = (.slice Ao8 x0_1.length co8 : Value).ownBlock) (.slice Ao8 x0_1.length co8) x0_1 (wrap64 (a2 - x10_1)) a2 x10_1  t133 w0 _ ?side1 ?side2 A7.out).mono ?_); (case side1 => repeat (first | (with_reducible first | exact HB.out | apply below_alloc | apply pw_below_drewN | apply below_drew1) | exact HB.out)); (case side2 => exact Kd.R_tight rfl HO_0.out); rintro e w9 ⟨rfl, hy0, hb, hkp⟩; refine ⟨_, rfl, ?_⟩; have n0_ := Aside0.mk (Kd.R_reok rfl hy0 (fun k_ e_ => HO_0.out.1 k_ e_)); have n1_ := Aside0.mk (Kept.then_ (S := (fun k_ => P0_ k_)) (by repeat (first | (with_reducible first | exact HK.out | apply Kept.alloc | apply Kept.drewN | apply Kept.drew) | exact HK.out)) hkp (fun k_ hs_ => (fun e_ => (HO_0.out.1 k_ e_.symm)) hs_)); have n2_ := Aside0.mk (hb); clear HO_0; clear HK; clear HB; have HO_0 := n0_; have HK := n1_; have HB := n2_; clear n0_ n1_ n2_; (try clear hb); (try clear hkp); (try clear hy0)))
    first | go_end0 | ((try simp only [Exit.inBlock, Exit.then]); refine bodyPost_ret (results_none rfl _ _ _) rfl ?_)
    exact ⟨by first | rfl | (simp [errW_none, errW_some] <;> rfl) | (simp [*, errW_none, errW_some] <;> rfl), by (with_reducible repeat (first | apply Kd.R_alloc | apply Kd.R_drewN | apply Kd.R_drew)); exact HO_0.out, by repeat (first | (with_reducible first | exact HB.out | apply below_alloc | apply pw_below_drewN | apply below_drew1) | exact HB.out), by repeat (first | (with_reducible first | exact HK.out | apply Kept.alloc | apply Kept.drewN | apply Kept.drew) | exact HK.out)⟩
   ·rw [if_neg c6] at H
    have c6b0 : (x10_1 == x11_1) = false := beq_eq_false_iff_ne.mpr c6
    have c6b1 : (x10_1 != x11_1) = true := bne_iff_ne.mpr c6
    by_cases c10 : x10_1 > x11_1
    ·rw [if_pos c10] at H
     have c10b0 : decide (x11_1 < x10_1) = true := decide_eq_true c10
     clear c10
     replace H := Option.bind_eq_some_iff.mp H
     obtain ⟨t134, A110, H⟩ := H
     replace H : (batch_Change_98.l0 k1 t134 a2 (wrap64 (x10_1 - x11_1)) x11_1) = some r := H
     have A11 := Aside0.mk A110
     clear A110
     have H' := Aside0.mk H
     clear H
     obtain ⟨Ao12, co12, eo12⟩ := Kd.R_slice HO_0.out
     subst eo12
     go_wp2_with (first | ((with_reducible refine gate_callee (f := 99) rfl ?_); refine gl (some 31) Try.func99 #[.slice Ao12 x0_1.length co12, .int .i64 (wrap64 (a2 - x10_1)), .int .i64 a2, .int .i64 x11_1, .func (.func 53) #[] #[]] ?_; (with_reducible refine (batch_Change_99.calls k1 (fun k_ => some k_ = (.slice Ao12 x0_1.length co12 : Value).ownBlock) (.slice Ao12 x0_1.length co12) x0_1 (wrap64 (a2 - x10_1)) a2 x11_1  t134 w0 _ ?side1 ?side2 A11.out).mono ?_); (case side1 => repeat (first | (with_reducible first | exact HB.out | apply below_alloc | apply pw_below_drewN | apply below_drew1) | exact HB.out)); (case side2 => exact Kd.R_tight rfl HO_0.out); rintro e w13 ⟨rfl, hy0, hb, hkp⟩; refine ⟨_, rfl, ?_⟩; have n0_ := Aside0.mk (Kd.R_reok rfl hy0 (fun k_ e_ => HO_0.out.1 k_ e_)); have n1_ := Aside0.mk (Kept.then_ (S := (fun k_ => P0_ k_)) (by repeat (first | (with_reducible first | exact HK.out | apply Kept.alloc | apply Kept.drewN | apply Kept.drew) | exact HK.out)) hkp (fun k_ hs_ => (fun e_ => (HO_0.out.1 k_ e_.symm)) hs_)); have n2_ := Aside0.mk (hb); clear HO_0; clear HK; clear HB; have HO_0 := n0_; have HK := n1_; have HB := n2_; clear n0_ n1_ n2_; (try clear hb); (try clear hkp); (try clear hy0)))
     go_roundg k1
     case measure => have := HK1.out; omega
     case rel => exact ⟨(t134), (wrap64 (x10_1 - x11_1)), (x11_1), (by first | rfl | (simp; done) | (simp [*]; done)), (by first | rfl | (simp; done) | (simp [*]; done)), H', ⟨by have := HK1.out; omega⟩, ⟨by (with_reducible repeat (first | apply Kd.R_alloc | apply Kd.R_drewN | apply Kd.R_drew)); exact HO_0.out⟩, ⟨by repeat (first | (with_reducible first | exact HK.out | apply Kept.alloc | apply Kept.drewN | apply Kept.drew) | exact HK.out)⟩, ⟨by repeat (first | (with_reducible first | exact HB.out | apply below_alloc | apply pw_below_drewN | apply below_drew1) | exact HB.out)⟩⟩
    ·rw [if_neg c10] at H
     have c10b0 : decide (x11_1 < x10_1) = false := decide_eq_false c10
     clear c10
     replace H := Option.bind_eq_some_iff.mp H
     obtain ⟨t135, A140, H⟩ := H
     replace H : (batch_Change_98.l0 k1 t135 a2 x10_1 (wrap64 (x11_1 - x10_1))) = some r := H
     have A14 := Aside0.mk A140
     clear A140
     have H' := Aside0.mk H
     clear H
     obtain ⟨Ao15, co15, eo15⟩ := Kd.R_slice HO_0.out
     subst eo15
     go_wp2_with (first | ((with_reducible refine gate_callee (f := 99) rfl ?_); refine gl (some 46) Try.func99 #[.slice Ao15 x0_1.length co15, .int .i64 (wrap64 (a2 - x10_1)), .int .i64 (wrap64 ((wrap64 (a2 + x11_1)) - x10_1)), .int .i64 x10_1, .func (.func 53) #[] #[]] ?_; (with_reducible refine (batch_Change_99.calls k1 (fun k_ => some k_ = (.slice Ao15 x0_1.length co15 : Value).ownBlock) (.slice Ao15 x0_1.length co15) x0_1 (wrap64 (a2 - x10_1)) (wrap64 ((wrap64 (a2 + x11_1)) - x10_1)) x10_1  t135 w0 _ ?side1 ?side2 A14.out).mono ?_); (case side1 => repeat (first | (with_reducible first | exact HB.out | apply below_alloc | apply pw_below_drewN | apply below_drew1) | exact HB.out)); (case side2 => exact Kd.R_tight rfl HO_0.out); rintro e w16 ⟨rfl, hy0, hb, hkp⟩; refine ⟨_, rfl, ?_⟩; have n0_ := Aside0.mk (Kd.R_reok rfl hy0 (fun k_ e_ => HO_0.out.1 k_ e_)); have n1_ := Aside0.mk (Kept.then_ (S := (fun k_ => P0_ k_)) (by repeat (first | (with_reducible first | exact HK.out | apply Kept.alloc | apply Kept.drewN | apply Kept.drew) | exact HK.out)) hkp (fun k_ hs_ => (fun e_ => (HO_0.out.1 k_ e_.symm)) hs_)); have n2_ := Aside0.mk (hb); clear HO_0; clear HK; clear HB; have HO_0 := n0_; have HK := n1_; have HB := n2_; clear n0_ n1_ n2_; (try clear hb); (try clear hkp); (try clear hy0)))
     go_roundg k1
     case measure => have := HK1.out; omega
     case rel => exact ⟨(t135), (x10_1), (wrap64 (x11_1 - x10_1)), (by first | rfl | (simp; done) | (simp [*]; done)), (by first | rfl | (simp; done) | (simp [*]; done)), H', ⟨by have := HK1.out; omega⟩, ⟨by (with_reducible repeat (first | apply Kd.R_alloc | apply Kd.R_drewN | apply Kd.R_drew)); exact HO_0.out⟩, ⟨by repeat (first | (with_reducible first | exact HK.out | apply Kept.alloc | apply Kept.drewN | apply Kept.drew) | exact HK.out)⟩, ⟨by repeat (first | (with_reducible first | exact HB.out | apply below_alloc | apply pw_below_drewN | apply below_drew1) | exact HB.out)⟩⟩
end Go.Proofs.Ytgeldmhgbnamcaa.P
end
