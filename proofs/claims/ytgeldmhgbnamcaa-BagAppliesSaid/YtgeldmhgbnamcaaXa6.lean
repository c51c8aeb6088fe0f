/- Walks and laws of several statements of this seat, joined into one text; no condition. -/
import Derived.Test.YtgeldmhgbnamcaaProg
import Derived.Below
import Derived.Deep.Draws
import Derived.Deep.AppendLies
import Derived.Maps.AppendAt
import Derived.OwnWalk
import Derived.Laws.BytesArg
import Derived.Laws.MakeOwn
import Derived.Laws.OwnMore
import Derived.Deep.OwnRows
import Derived.Tactics
import Derived.Lib.ConvBytes
import Derived.Laws.Slices
import Derived.WalkKit
import Derived.KernelRfl
import Derived.RowKit3
import Derived.Deep.LoopGhost
import Derived.Deep.QuietTactic
import Derived.BigQuiet
import Derived.WideLaws
import Derived.Deep.DeepCutAuto
import Derived.Deep.CutBlock
import Derived.Deep.RegionHeld3
import Derived.Laws.Rows
import Derived.Lib.AppendStr
import Derived.ArgAppend
import Derived.Laws.IdiomCopy
import Derived.OrdersHeld
import Derived.Laws.BitsLemmas
import Derived.RowKit
import Derived.Laws.StructEq
import Derived.Deep.Slices
import Derived.SizedLaws
import Derived.OpenShut
import Derived.Lib.BufferMore
import Derived.IntWalk
import Derived.Test.YtgeldmhgbnamcaaXa0
import Derived.Test.YtgeldmhgbnamcaaXa1
import Derived.Test.YtgeldmhgbnamcaaXa2
import Derived.Test.YtgeldmhgbnamcaaXa5
section
-- Printed by the session's own turn of the print (wip/tools/print2.sh): some callees are proved by hand.
namespace Go.Proofs.Ytgeldmhgbnamcaa.P
open Go.RowKit Go.Proofs.YtgeldmhgbnamcaaW.PrintWords Go.Proofs.YtgeldmhgbnamcaaW.PrintLast Go.Proofs.YtgeldmhgbnamcaaW.PrintMore
attribute [local go_sem] max2_int min2_int max_two min_two max_three min_three max_four min_four   -- for this text's walks alone
set_option linter.unusedVariables false
set_option linter.unusedSimpArgs false
/-! ### marchlandref03_sums: function 52 -/
mutual
def marchlandref03_sums.l0 : Nat → List (S40) → List (S40) → Int → Option ((List (S40)) × Bool)
 | 0, _, _, _ => none
 | k + 1, x0, x4, x5 => if x5 < (x0.length : Int) then (marchlandref03_sums.l1 k x0 x4 x5 (-1) 0) else (marchlandref03_sums.l3 k x4 ([] : List (S40)) 0)
def marchlandref03_sums.l1 : Nat → List (S40) → List (S40) → Int → Int → Int → Option ((List (S40)) × Bool)
 | 0, _, _, _, _, _ => none
 | k + 1, x0, x4, x5, x6, x7 => if x7 < (x4.length : Int) then (if 0 ≤ x7 then (if 0 ≤ x5 then (if x5 < (x0.length : Int) then (if ((rd_T40 x4 x7).f0) = ((rd_T40 x0 x5).f0) then (if ((rd_T40 x4 x7).f1) = ((rd_T40 x0 x5).f1) then (marchlandref03_sums.l1 k x0 x4 x5 x7 (wrap64 (x7 + 1))) else (marchlandref03_sums.l1 k x0 x4 x5 x6 (wrap64 (x7 + 1)))) else (marchlandref03_sums.l1 k x0 x4 x5 x6 (wrap64 (x7 + 1)))) else (none)) else (none)) else (none)) else (if x6 ≥ 0 then (if 0 ≤ x6 then (if x6 < (x4.length : Int) then (if 0 ≤ x5 then (if x5 < (x0.length : Int) then (marchlandref03_sums.l0 k x0 (x4.set (x6 : Int).toNat (⟨(rd_T40 x4 x6).f0, (rd_T40 x4 x6).f1, wrap64 (((rd_T40 x4 x6).f2) + ((rd_T40 x0 x5).f2))⟩ : S40)) (wrap64 (x5 + 1))) else (none)) else (none)) else (none)) else (none)) else (if 0 ≤ x5 then (if x5 < (x0.length : Int) then (if x4.length < 5864062014805 then ((some (x4 ++ [(⟨(rd_T40 x0 x5).f0, (rd_T40 x0 x5).f1, (rd_T40 x0 x5).f2⟩ : S40)] : List (S40))).bind fun y193 => (marchlandref03_sums.l2 k x0 y193 x5 (wrap64 ((y193.length : Int) - 1)))) else (none)) else (none)) else (none)))
def marchlandref03_sums.l2 : Nat → List (S40) → List (S40) → Int → Int → Option ((List (S40)) × Bool)
 | 0, _, _, _, _ => none
 | k + 1, x0, x4, x5, x8 => if x8 > 0 then (if 0 ≤ x8 then (if x8 < (x4.length : Int) then (if 0 ≤ (wrap64 (x8 - 1)) then (if (wrap64 (x8 - 1)) < (x4.length : Int) then ((marchlandref03_before.f ((rd_T40 x4 x8).f0) ((rd_T40 x4 x8).f1) ((rd_T40 x4 x8).f2) ((rd_T40 x4 (wrap64 (x8 - 1))).f0) ((rd_T40 x4 (wrap64 (x8 - 1))).f1) ((rd_T40 x4 (wrap64 (x8 - 1))).f2)).bind fun t198 => (if t198 = true then (marchlandref03_sums.l2 k x0 ((x4.set ((wrap64 (x8 - 1)) : Int).toNat (⟨(rd_T40 x4 x8).f0, (rd_T40 x4 x8).f1, (rd_T40 x4 x8).f2⟩ : S40)).set (x8 : Int).toNat (⟨(rd_T40 x4 (wrap64 (x8 - 1))).f0, (rd_T40 x4 (wrap64 (x8 - 1))).f1, (rd_T40 x4 (wrap64 (x8 - 1))).f2⟩ : S40)) x5 (wrap64 (x8 - 1))) else (marchlandref03_sums.l0 k x0 x4 (wrap64 (x5 + 1))))) else (none)) else (none)) else (none)) else (none)) else (marchlandref03_sums.l0 k x0 x4 (wrap64 (x5 + 1)))
def marchlandref03_sums.l3 : Nat → List (S40) → List (S40) → Int → Option ((List (S40)) × Bool)
 | 0, _, _, _ => none
 | k + 1, x4, x9, x10 => if x10 < (x4.length : Int) then (if 0 ≤ x10 then ((marchlandref03_within.f ((rd_T40 x4 x10).f2)).bind fun t204 => (if t204 = true then (if ((rd_T40 x4 x10).f2) = 0 then (marchlandref03_sums.l3 k x4 x9 (wrap64 (x10 + 1))) else (if x9.length < 5864062014805 then (marchlandref03_sums.l3 k x4 (x9 ++ [(⟨(rd_T40 x4 x10).f0, (rd_T40 x4 x10).f1, (rd_T40 x4 x10).f2⟩ : S40)]) (wrap64 (x10 + 1))) else (none))) else (some (([] : List (S40)), false)))) else (none)) else (some (x9, true))
end
def marchlandref03_sums.f (k : Nat) (l0 : List (S40)) : Option ((List (S40)) × Bool) := marchlandref03_sums.l0 k l0 ([] : List (S40)) 0
def marchlandref03_sums.T9 : Bool × List (List Nat × List Nat) := (true, [([], []), ([], []), ([0, 1], [0, 1]), ([2], [2]), ([3], [3]), ([], []), ([], []), ([5, 6], [5, 6]), ([7], [7]), ([8], [8]), ([4, 9], [4, 9]), ([10], [10]), ([11], [11]), ([11], [11]), ([12, 13, 11], [11, 12, 13]), ([14, 11], [11, 14]), ([15, 11], [11, 15]), ([11], [11]), ([11], [11]), ([17, 18, 11], [11, 17, 18]), ([19, 11], [11, 19]), ([20, 11], [11, 20]), ([16, 21, 11], [11, 16, 21]), ([11, 22], [11, 22])])
def marchlandref03_sums.B9 : List Nat := [0, 0, 3, 7, 15, 0, 0, 96, 224, 480, 1023, 2047, 4095, 4095, 16383, 32767, 65535, 4095, 4095, 397311, 921599, 1970175, 4194303, 8388607]
theorem marchlandref03_sums.tab9 : rtab .any (opsOf Try.f52 9) = marchlandref03_sums.T9 := by kernel_rfl
theorem marchlandref03_sums.bits9 : waitsOk marchlandref03_sums.T9.2 marchlandref03_sums.B9 = true := by kernel_rfl
def marchlandref03_sums.T12 : Bool × List (List Nat × List Nat) := (true, [([], []), ([], []), ([], []), ([], []), ([2, 3], [2, 3]), ([4], [4]), ([5], [5]), ([], []), ([], []), ([7, 8], [7, 8]), ([9], [9]), ([10], [10]), ([6, 11], [6, 11]), ([0, 1, 0, 1, 2, 3, 4, 5, 6, 7, 8, 9, 10, 11, 12], [0, 1]), ([13, 0, 1, 2, 3, 4, 5, 6, 7, 8, 9, 10, 11, 12], [13]), ([14, 12, 0, 1, 2, 3, 4, 5, 6, 7, 8, 9, 10, 11, 12], [12, 14])])
def marchlandref03_sums.B12 : List Nat := [0, 0, 0, 0, 12, 28, 60, 0, 0, 384, 896, 1920, 4092, 8191, 16383, 32767]
theorem marchlandref03_sums.tab12 : rtab .any (opsOf Try.f52 12) = marchlandref03_sums.T12 := by kernel_rfl
theorem marchlandref03_sums.bits12 : waitsOk marchlandref03_sums.T12.2 marchlandref03_sums.B12 = true := by kernel_rfl
def marchlandref03_sums.T15 : Bool × List (List Nat × List Nat) := (true, [([], []), ([0], [0]), ([1], [1]), ([2], [2]), ([2], [2]), ([3, 4, 2], [2, 3, 4]), ([5, 2], [2, 5]), ([2], [2]), ([2], [2]), ([8, 2], [2, 8]), ([7, 9, 2], [2, 7, 9]), ([10, 2], [2, 10]), ([6, 11, 2, 2], [2, 6, 11]), ([2, 12], [2, 12])])
def marchlandref03_sums.B15 : List Nat := [0, 1, 3, 7, 7, 31, 63, 7, 7, 263, 903, 1927, 4095, 8191]
theorem marchlandref03_sums.tab15 : rtab .any (opsOf Try.f52 15) = marchlandref03_sums.T15 := by kernel_rfl
theorem marchlandref03_sums.bits15 : waitsOk marchlandref03_sums.T15.2 marchlandref03_sums.B15 = true := by kernel_rfl
def marchlandref03_sums.T17 : Bool × List (List Nat × List Nat) := (true, [([], []), ([], []), ([1], [1]), ([], []), ([], []), ([], []), ([], []), ([5, 6], [5, 6]), ([7], [7]), ([], []), ([], []), ([10], [10]), ([9, 11], [9, 11]), ([12], [12]), ([0, 2, 0, 1, 2, 5, 6, 7, 8, 13], [0, 2]), ([14, 8, 0, 1, 2, 5, 6, 7, 8, 13], [8, 14]), ([3, 4, 0, 1, 2, 3, 4, 5, 6, 7, 8, 9, 10, 11, 12, 13, 14, 15], [3, 4]), ([16, 13, 15, 0, 1, 2, 3, 4, 5, 6, 7, 8, 9, 10, 11, 12, 13, 14, 15], [13, 16])])
def marchlandref03_sums.B17 : List Nat := [0, 0, 2, 0, 0, 0, 0, 96, 224, 0, 0, 1024, 3584, 7680, 16359, 32743, 65535, 131071]
theorem marchlandref03_sums.tab17 : rtab .any (opsOf Try.f52 17) = marchlandref03_sums.T17 := by kernel_rfl
theorem marchlandref03_sums.bits17 : waitsOk marchlandref03_sums.T17.2 marchlandref03_sums.B17 = true := by kernel_rfl
set_option maxHeartbeats 8000000 in
set_option maxRecDepth 100000 in
theorem marchlandref03_sums.calls (k : Nat) (A0 : Option Addr) (c0 : Nat) (l0 : List (S40)) (r1 : List (S40)) (r2 : Bool) (w : World) (hr0 : Kd.C k40 w A0 l0.length l0) (hc0 : l0.length ≤ c0) (h : marchlandref03_sums.f k l0 = some (r1, r2)) :
  Calls Try.prog 52 #[.slice A0 l0.length c0] w fun e w' => ∃ v0_ : Value, e = .returned (.tuple #[v0_, .bool r2]) ∧ Kd.R k40 40 w' w.heap.size (fun _ => True) v0_ r1 ∧ Below w.heap.size w w' := by
 have hu40 := Try.underlying40
 have HR0 := Aside0.mk hr0
 have HC0 := Aside0.mk hc0
 clear hr0 hc0
 have HB := Aside0.mk (Below.refl w.heap.size w)
 have H : (marchlandref03_sums.l0 k l0 ([] : List (S40)) 0) = some (r1, r2) := h
 clear h
 have H' := Aside0.mk H
 clear H
 go_enter Try.func52, Try.ntmps52
 go_wp2
 go_loopg [4, 5] k (fun kq v4 v5 w' => ∃ (x4_1 : List (S40)) (x5_1 : Int), v5 = .int .i64 x5_1 ∧ Aside0 (marchlandref03_sums.l0 kq l0 x4_1 x5_1 = some (r1, r2)) ∧ Aside0 (kq ≤ k) ∧ Aside0 (Kd.R k40 40 w' w.heap.size (fun _ => True) v4 x4_1) ∧ Aside0 (Below w.heap.size w w'))
 case atStart => exact ⟨(([] : List (S40))), (0), (by first | rfl | (simp; done) | (simp [*]; done)), H', ⟨Nat.le_refl _⟩, ⟨by first | exact Kd.R_nil _ _ _ _ _ | exact Kd.N_nil _ _ _ _ _ | exact Kd.V_nil _ _ _ _ _ | exact Kd.Q_nil _ _ _ _ _ | exact Kd.S_nil _ _ _ _ _⟩, ⟨by repeat (first | (with_reducible first | exact HB.out | apply below_alloc | apply pw_below_drewN | apply below_drew1) | exact HB.out)⟩⟩
 case round =>
  clear H'
  obtain ⟨x4_1, x5_1, rfl, HA, HK1, HO_4, HB⟩ := hrel
  cases gk with
  | zero => exact absurd HA.out (by simp [marchlandref03_sums.l0])
  | succ k1 =>
   have H := HA.out
   clear HA
   simp only [marchlandref03_sums.l0] at H
   by_cases c2 : x5_1 < (l0.length : Int)
   ·rw [if_pos c2] at H
    have c2b0 : decide (x5_1 < (l0.length : Int)) = true := decide_eq_true c2
    clear c2
    have H' := Aside0.mk H
    clear H
    go_wp2
    go_loopg [6, 7] k1 (fun kq v6 v7 w' => ∃ (x6_2 : Int) (x7_2 : Int), v6 = .int .i64 x6_2 ∧ v7 = .int .i64 x7_2 ∧ Aside0 (marchlandref03_sums.l1 kq l0 x4_1 x5_1 x6_2 x7_2 = some (r1, r2)) ∧ Aside0 (kq ≤ k1) ∧ Aside0 (Kd.R k40 40 w' w.heap.size (fun _ => True) u4 x4_1) ∧ Aside0 (Below w.heap.size w w'))
    case atStart => exact ⟨((-1)), (0), (by first | rfl | (simp; done) | (simp [*]; done)), (by first | rfl | (simp; done) | (simp [*]; done)), H', ⟨Nat.le_refl _⟩, ⟨by (with_reducible repeat (first | apply Kd.R_alloc | apply Kd.R_drewN | apply Kd.R_drew)); exact HO_4.out⟩, ⟨by repeat (first | (with_reducible first | exact HB.out | apply below_alloc | apply pw_below_drewN | apply below_drew1) | exact HB.out)⟩⟩
    case round =>
     clear H'
     (try clear c2); (try clear c2b0); (try clear p2)
     obtain ⟨x6_2, x7_2, rfl, rfl, HA, HK2, HO_4, HB⟩ := hrel
     cases gk with
     | zero => exact absurd HA.out (by simp [marchlandref03_sums.l1])
     | succ k2 =>
      have H := HA.out
      clear HA
      simp only [marchlandref03_sums.l1] at H
      by_cases c3 : x7_2 < (x4_1.length : Int)
      ·rw [if_pos c3] at H
       have c3b0 : decide (x7_2 < (x4_1.length : Int)) = true := decide_eq_true c3
       clear c3
       by_cases c4 : 0 ≤ x7_2
       ·rw [if_pos c4] at H
        have c4b0 : decide (0 ≤ x7_2) = true := decide_eq_true c4
        clear c4
        by_cases c5 : 0 ≤ x5_1
        ·rw [if_pos c5] at H
         have c5b0 : decide (0 ≤ x5_1) = true := decide_eq_true c5
         clear c5
         by_cases c6 : x5_1 < (l0.length : Int)
         ·rw [if_pos c6] at H
          have c6b0 : decide (x5_1 < (l0.length : Int)) = true := decide_eq_true c6
          clear c6
          by_cases c7 : ((rd_T40 x4_1 x7_2).f0) = ((rd_T40 l0 x5_1).f0)
          ·rw [if_pos c7] at H
           have c7b0 : (((rd_T40 x4_1 x7_2).f0) == ((rd_T40 l0 x5_1).f0)) = true := beq_iff_eq.mpr c7
           have c7b1 : (((rd_T40 x4_1 x7_2).f0) != ((rd_T40 l0 x5_1).f0)) = false := bne_eq_false_iff_eq.mpr c7
           clear c7
           by_cases c8 : ((rd_T40 x4_1 x7_2).f1) = ((rd_T40 l0 x5_1).f1)
           ·rw [if_pos c8] at H
            have c8b0 : (((rd_T40 x4_1 x7_2).f1) == ((rd_T40 l0 x5_1).f1)) = true := beq_iff_eq.mpr c8
            have c8b1 : (((rd_T40 x4_1 x7_2).f1) != ((rd_T40 l0 x5_1).f1)) = false := bne_eq_false_iff_eq.mpr c8
            clear c8
            have H' := Aside0.mk H
            clear H
            obtain ⟨Ao9, co9, eo9⟩ := Kd.R_slice HO_4.out
            subst eo9
            try go_wp2
            have n0_ := Aside0.mk (Kd.R_drew HO_4.out)
            have n1_ := Aside0.mk (below_drew1 HB.out)
            clear HO_4
            clear HB
            have HO_4 := n0_
            have HB := n1_
            clear n0_ n1_
            have p185 : 0 ≤ (x7_2 : Int) := of_decide_eq_true (by assumption)
            have q185 : x7_2 < (x4_1.length : Int) := of_decide_eq_true (by assumption)
            obtain ⟨ad185, e185, hx185_0, hx185_1, hx185_2⟩ := at_T40 (Kd.R_reads' HO_4.out).2.2 x7_2 p185 q185
            cases e185
            replace p185 := eq_true p185
            replace q185 := eq_true q185
            have p186 : 0 ≤ (x5_1 : Int) := of_decide_eq_true (by assumption)
            have q186 : x5_1 < (l0.length : Int) := of_decide_eq_true (by assumption)
            obtain ⟨ad186, e186, hx186_0, hx186_1, hx186_2⟩ := at_T40 HR0.out x5_1 p186 q186
            have hw186_2 := hx186_2
            have hw186_1 := hx186_1
            have hw186_0 := hx186_0
            cases e186
            replace hx186_0 := (HB.out.cell (World.block_lt_of_cell? w _ hx186_0)).trans hx186_0
            replace hx186_1 := (HB.out.cell (World.block_lt_of_cell? w _ hx186_1)).trans hx186_1
            replace hx186_2 := (HB.out.cell (World.block_lt_of_cell? w _ hx186_2)).trans hx186_2
            replace p186 := eq_true p186
            replace q186 := eq_true q186
            have p187 : 0 ≤ (x7_2 : Int) := of_decide_eq_true (by assumption)
            have q187 : x7_2 < (x4_1.length : Int) := of_decide_eq_true (by assumption)
            obtain ⟨ad187, e187, hx187_0, hx187_1, hx187_2⟩ := at_T40 (Kd.R_reads' HO_4.out).2.2 x7_2 p187 q187
            obtain rfl : ad185 = ad187 := (by injection e187)
            replace p187 := eq_true p187
            replace q187 := eq_true q187
            have p188 : 0 ≤ (x5_1 : Int) := of_decide_eq_true (by assumption)
            have q188 : x5_1 < (l0.length : Int) := of_decide_eq_true (by assumption)
            obtain ⟨ad188, e188, hx188_0, hx188_1, hx188_2⟩ := at_T40 HR0.out x5_1 p188 q188
            have hw188_2 := hx188_2
            have hw188_1 := hx188_1
            have hw188_0 := hx188_0
            obtain rfl : ad186 = ad188 := (by injection e188)
            replace hx188_0 := (HB.out.cell (World.block_lt_of_cell? w _ hx188_0)).trans hx188_0
            replace hx188_1 := (HB.out.cell (World.block_lt_of_cell? w _ hx188_1)).trans hx188_1
            replace hx188_2 := (HB.out.cell (World.block_lt_of_cell? w _ hx188_2)).trans hx188_2
            replace p188 := eq_true p188
            replace q188 := eq_true q188
            refine start_ (n := 24) (S := fun w' => w'.cell? (ad185.add ((x7_2).toNat * 3)) = some (.int .i64 ((rd_T40 x4_1 x7_2).f0)) ∧ w'.cell? ⟨(ad185.add ((x7_2).toNat * 3)).block, (ad185.add ((x7_2).toNat * 3)).off + 1, none⟩ = some (.int .u64 ((rd_T40 x4_1 x7_2).f1)) ∧ w'.cell? ⟨(ad185.add ((x7_2).toNat * 3)).block, (ad185.add ((x7_2).toNat * 3)).off + 2, none⟩ = some (.int .i64 ((rd_T40 x4_1 x7_2).f2)) ∧ w'.cell? (ad186.add ((x5_1).toNat * 3)) = some (.int .i64 ((rd_T40 l0 x5_1).f0)) ∧ w'.cell? ⟨(ad186.add ((x5_1).toNat * 3)).block, (ad186.add ((x5_1).toNat * 3)).off + 1, none⟩ = some (.int .u64 ((rd_T40 l0 x5_1).f1)) ∧ w'.cell? ⟨(ad186.add ((x5_1).toNat * 3)).block, (ad186.add ((x5_1).toNat * 3)).off + 2, none⟩ = some (.int .i64 ((rd_T40 l0 x5_1).f2)) ∧ w'.cell? (ad185.add ((x7_2).toNat * 3)) = some (.int .i64 ((rd_T40 x4_1 x7_2).f0)) ∧ w'.cell? ⟨(ad185.add ((x7_2).toNat * 3)).block, (ad185.add ((x7_2).toNat * 3)).off + 1, none⟩ = some (.int .u64 ((rd_T40 x4_1 x7_2).f1)) ∧ w'.cell? ⟨(ad185.add ((x7_2).toNat * 3)).block, (ad185.add ((x7_2).toNat * 3)).off + 2, none⟩ = some (.int .i64 ((rd_T40 x4_1 x7_2).f2)) ∧ w'.cell? (ad186.add ((x5_1).toNat * 3)) = some (.int .i64 ((rd_T40 l0 x5_1).f0)) ∧ w'.cell? ⟨(ad186.add ((x5_1).toNat * 3)).block, (ad186.add ((x5_1).toNat * 3)).off + 1, none⟩ = some (.int .u64 ((rd_T40 l0 x5_1).f1)) ∧ w'.cell? ⟨(ad186.add ((x5_1).toNat * 3)).block, (ad186.add ((x5_1).toNat * 3)).off + 2, none⟩ = some (.int .i64 ((rd_T40 l0 x5_1).f2))) (ds := []) (mk_ 0 24) (by kernel_rfl) rfl rfl ⟨hx185_0, hx185_1, hx185_2, ((HB.out.cell (World.block_lt_of_cell? w _ hw186_0)).trans hw186_0), ((HB.out.cell (World.block_lt_of_cell? w _ hw186_1)).trans hw186_1), ((HB.out.cell (World.block_lt_of_cell? w _ hw186_2)).trans hw186_2), hx187_0, hx187_1, hx187_2, ((HB.out.cell (World.block_lt_of_cell? w _ hw188_0)).trans hw188_0), ((HB.out.cell (World.block_lt_of_cell? w _ hw188_1)).trans hw188_1), ((HB.out.cell (World.block_lt_of_cell? w _ hw188_2)).trans hw188_2)⟩ (fun hHeld => ?_); refine with_tabW marchlandref03_sums.tab9 marchlandref03_sums.bits9 (fun HT_ HW_ => ?_)
            generalize wr.drew = w10 at HO_4 HB hx185_0 hx185_1 hx185_2 hx186_0 hx186_1 hx186_2 hx187_0 hx187_1 hx187_2 hx188_0 hx188_1 hx188_2 hHeld ⊢
            refine pv_ 0 23 (mk_ 1 23) HT_ ?_
            refine pv_ 1 24 (mk_ 2 22) HT_ ?_
            refine pv_ 2 25 (mk_ 3 21) HT_ ?_
            refine pv_ 3 26 (mk_ 4 20) HT_ ?_
            refine pv_ 5 28 #[true, true, true, true, false, true, false, false, false, false, false, false, false, false, false, false, false, false, false, false, false, false, false, false] HT_ ?_
            refine pv_ 6 29 #[true, true, true, true, false, true, true, false, false, false, false, false, false, false, false, false, false, false, false, false, false, false, false, false] HT_ ?_
            refine pv_ 7 30 #[true, true, true, true, false, true, true, true, false, false, false, false, false, false, false, false, false, false, false, false, false, false, false, false] HT_ ?_
            refine pv_ 8 31 #[true, true, true, true, false, true, true, true, true, false, false, false, false, false, false, false, false, false, false, false, false, false, false, false] HT_ ?_
            refine tv_ 4 27 (mk_ 9 15) HT_ HW_ hHeld (hy := by rintro w' ⟨s0, s1, s2, s3, s4, s5, s6, s7, s8, s9, s10, s11⟩; go_simp; with_reducible rfl) (h := ?_)
            refine tv_ 9 32 (mk_ 10 14) HT_ HW_ hHeld (hy := by rintro w' ⟨s0, s1, s2, s3, s4, s5, s6, s7, s8, s9, s10, s11⟩; go_simp; with_reducible rfl) (h := ?_)
            refine pv_ 10 33 (mk_ 11 13) HT_ ?_
            refine pv_ 11 34 (mk_ 12 12) HT_ ?_
            refine pv_ 12 35 (mk_ 13 11) HT_ ?_
            refine pv_ 13 36 (mk_ 14 10) HT_ ?_
            refine pv_ 14 37 (mk_ 15 9) HT_ ?_
            refine pv_ 15 38 (mk_ 16 8) HT_ ?_
            refine pv_ 17 40 #[true, true, true, true, true, true, true, true, true, true, true, true, true, true, true, true, false, true, false, false, false, false, false, false] HT_ ?_
            refine pv_ 18 41 #[true, true, true, true, true, true, true, true, true, true, true, true, true, true, true, true, false, true, true, false, false, false, false, false] HT_ ?_
            refine pv_ 19 42 #[true, true, true, true, true, true, true, true, true, true, true, true, true, true, true, true, false, true, true, true, false, false, false, false] HT_ ?_
            refine pv_ 20 43 #[true, true, true, true, true, true, true, true, true, true, true, true, true, true, true, true, false, true, true, true, true, false, false, false] HT_ ?_
            refine tv_ 16 39 (mk_ 21 3) HT_ HW_ hHeld (hy := by rintro w' ⟨s0, s1, s2, s3, s4, s5, s6, s7, s8, s9, s10, s11⟩; go_simp; with_reducible rfl) (h := ?_)
            refine tv_ 21 44 (mk_ 22 2) HT_ HW_ hHeld (hy := by rintro w' ⟨s0, s1, s2, s3, s4, s5, s6, s7, s8, s9, s10, s11⟩; go_simp; with_reducible rfl) (h := ?_)
            refine pv_ 22 45 (mk_ 23 1) HT_ ?_
            refine pv_ 23 46 (mk_ 24 0) HT_ ?_
            refine done_ (done_of HT_.out (by kernel_rfl)) ?_
            try go_wp2
            go_roundg k2
            case measure => have := HK1.out; have := HK2.out; omega
            case rel => exact ⟨(x7_2), (wrap64 (x7_2 + 1)), (by first | rfl | (simp; done) | (simp [*]; done)), (by first | rfl | (simp; done) | (simp [*]; done)), H', ⟨by have := HK1.out; have := HK2.out; omega⟩, ⟨by (with_reducible repeat (first | apply Kd.R_alloc | apply Kd.R_drewN | apply Kd.R_drew)); exact HO_4.out⟩, ⟨by repeat (first | (with_reducible first | exact HB.out | apply below_alloc | apply pw_below_drewN | apply below_drew1) | exact HB.out)⟩⟩
           ·rw [if_neg c8] at H
            have c8b0 : (((rd_T40 x4_1 x7_2).f1) == ((rd_T40 l0 x5_1).f1)) = false := beq_eq_false_iff_ne.mpr c8
            have c8b1 : (((rd_T40 x4_1 x7_2).f1) != ((rd_T40 l0 x5_1).f1)) = true := bne_iff_ne.mpr c8
            have H' := Aside0.mk H
            clear H
            obtain ⟨Ao11, co11, eo11⟩ := Kd.R_slice HO_4.out
            subst eo11
            try go_wp2
            have n0_ := Aside0.mk (Kd.R_drew HO_4.out)
            have n1_ := Aside0.mk (below_drew1 HB.out)
            clear HO_4
            clear HB
            have HO_4 := n0_
            have HB := n1_
            clear n0_ n1_
            have p185 : 0 ≤ (x7_2 : Int) := of_decide_eq_true (by assumption)
            have q185 : x7_2 < (x4_1.length : Int) := of_decide_eq_true (by assumption)
            obtain ⟨ad185, e185, hx185_0, hx185_1, hx185_2⟩ := at_T40 (Kd.R_reads' HO_4.out).2.2 x7_2 p185 q185
            cases e185
            replace p185 := eq_true p185
            replace q185 := eq_true q185
            have p186 : 0 ≤ (x5_1 : Int) := of_decide_eq_true (by assumption)
            have q186 : x5_1 < (l0.length : Int) := of_decide_eq_true (by assumption)
            obtain ⟨ad186, e186, hx186_0, hx186_1, hx186_2⟩ := at_T40 HR0.out x5_1 p186 q186
            have hw186_2 := hx186_2
            have hw186_1 := hx186_1
            have hw186_0 := hx186_0
            cases e186
            replace hx186_0 := (HB.out.cell (World.block_lt_of_cell? w _ hx186_0)).trans hx186_0
            replace hx186_1 := (HB.out.cell (World.block_lt_of_cell? w _ hx186_1)).trans hx186_1
            replace hx186_2 := (HB.out.cell (World.block_lt_of_cell? w _ hx186_2)).trans hx186_2
            replace p186 := eq_true p186
            replace q186 := eq_true q186
            have p187 : 0 ≤ (x7_2 : Int) := of_decide_eq_true (by assumption)
            have q187 : x7_2 < (x4_1.length : Int) := of_decide_eq_true (by assumption)
            obtain ⟨ad187, e187, hx187_0, hx187_1, hx187_2⟩ := at_T40 (Kd.R_reads' HO_4.out).2.2 x7_2 p187 q187
            obtain rfl : ad185 = ad187 := (by injection e187)
            replace p187 := eq_true p187
            replace q187 := eq_true q187
            have p188 : 0 ≤ (x5_1 : Int) := of_decide_eq_true (by assumption)
            have q188 : x5_1 < (l0.length : Int) := of_decide_eq_true (by assumption)
            obtain ⟨ad188, e188, hx188_0, hx188_1, hx188_2⟩ := at_T40 HR0.out x5_1 p188 q188
            have hw188_2 := hx188_2
            have hw188_1 := hx188_1
            have hw188_0 := hx188_0
            obtain rfl : ad186 = ad188 := (by injection e188)
            replace hx188_0 := (HB.out.cell (World.block_lt_of_cell? w _ hx188_0)).trans hx188_0
            replace hx188_1 := (HB.out.cell (World.block_lt_of_cell? w _ hx188_1)).trans hx188_1
            replace hx188_2 := (HB.out.cell (World.block_lt_of_cell? w _ hx188_2)).trans hx188_2
            replace p188 := eq_true p188
            replace q188 := eq_true q188
            refine start_ (n := 24) (S := fun w' => w'.cell? (ad185.add ((x7_2).toNat * 3)) = some (.int .i64 ((rd_T40 x4_1 x7_2).f0)) ∧ w'.cell? ⟨(ad185.add ((x7_2).toNat * 3)).block, (ad185.add ((x7_2).toNat * 3)).off + 1, none⟩ = some (.int .u64 ((rd_T40 x4_1 x7_2).f1)) ∧ w'.cell? ⟨(ad185.add ((x7_2).toNat * 3)).block, (ad185.add ((x7_2).toNat * 3)).off + 2, none⟩ = some (.int .i64 ((rd_T40 x4_1 x7_2).f2)) ∧ w'.cell? (ad186.add ((x5_1).toNat * 3)) = some (.int .i64 ((rd_T40 l0 x5_1).f0)) ∧ w'.cell? ⟨(ad186.add ((x5_1).toNat * 3)).block, (ad186.add ((x5_1).toNat * 3)).off + 1, none⟩ = some (.int .u64 ((rd_T40 l0 x5_1).f1)) ∧ w'.cell? ⟨(ad186.add ((x5_1).toNat * 3)).block, (ad186.add ((x5_1).toNat * 3)).off + 2, none⟩ = some (.int .i64 ((rd_T40 l0 x5_1).f2)) ∧ w'.cell? (ad185.add ((x7_2).toNat * 3)) = some (.int .i64 ((rd_T40 x4_1 x7_2).f0)) ∧ w'.cell? ⟨(ad185.add ((x7_2).toNat * 3)).block, (ad185.add ((x7_2).toNat * 3)).off + 1, none⟩ = some (.int .u64 ((rd_T40 x4_1 x7_2).f1)) ∧ w'.cell? ⟨(ad185.add ((x7_2).toNat * 3)).block, (ad185.add ((x7_2).toNat * 3)).off + 2, none⟩ = some (.int .i64 ((rd_T40 x4_1 x7_2).f2)) ∧ w'.cell? (ad186.add ((x5_1).toNat * 3)) = some (.int .i64 ((rd_T40 l0 x5_1).f0)) ∧ w'.cell? ⟨(ad186.add ((x5_1).toNat * 3)).block, (ad186.add ((x5_1).toNat * 3)).off + 1, none⟩ = some (.int .u64 ((rd_T40 l0 x5_1).f1)) ∧ w'.cell? ⟨(ad186.add ((x5_1).toNat * 3)).block, (ad186.add ((x5_1).toNat * 3)).off + 2, none⟩ = some (.int .i64 ((rd_T40 l0 x5_1).f2))) (ds := []) (mk_ 0 24) (by kernel_rfl) rfl rfl ⟨hx185_0, hx185_1, hx185_2, ((HB.out.cell (World.block_lt_of_cell? w _ hw186_0)).trans hw186_0), ((HB.out.cell (World.block_lt_of_cell? w _ hw186_1)).trans hw186_1), ((HB.out.cell (World.block_lt_of_cell? w _ hw186_2)).trans hw186_2), hx187_0, hx187_1, hx187_2, ((HB.out.cell (World.block_lt_of_cell? w _ hw188_0)).trans hw188_0), ((HB.out.cell (World.block_lt_of_cell? w _ hw188_1)).trans hw188_1), ((HB.out.cell (World.block_lt_of_cell? w _ hw188_2)).trans hw188_2)⟩ (fun hHeld => ?_); refine with_tabW marchlandref03_sums.tab9 marchlandref03_sums.bits9 (fun HT_ HW_ => ?_)
            generalize wr.drew = w12 at HO_4 HB hx185_0 hx185_1 hx185_2 hx186_0 hx186_1 hx186_2 hx187_0 hx187_1 hx187_2 hx188_0 hx188_1 hx188_2 hHeld ⊢
            refine pv_ 0 23 (mk_ 1 23) HT_ ?_
            refine pv_ 1 24 (mk_ 2 22) HT_ ?_
            refine pv_ 2 25 (mk_ 3 21) HT_ ?_
            refine pv_ 3 26 (mk_ 4 20) HT_ ?_
            refine pv_ 5 28 #[true, true, true, true, false, true, false, false, false, false, false, false, false, false, false, false, false, false, false, false, false, false, false, false] HT_ ?_
            refine pv_ 6 29 #[true, true, true, true, false, true, true, false, false, false, false, false, false, false, false, false, false, false, false, false, false, false, false, false] HT_ ?_
            refine pv_ 7 30 #[true, true, true, true, false, true, true, true, false, false, false, false, false, false, false, false, false, false, false, false, false, false, false, false] HT_ ?_
            refine pv_ 8 31 #[true, true, true, true, false, true, true, true, true, false, false, false, false, false, false, false, false, false, false, false, false, false, false, false] HT_ ?_
            refine tv_ 4 27 (mk_ 9 15) HT_ HW_ hHeld (hy := by rintro w' ⟨s0, s1, s2, s3, s4, s5, s6, s7, s8, s9, s10, s11⟩; go_simp; with_reducible rfl) (h := ?_)
            refine tv_ 9 32 (mk_ 10 14) HT_ HW_ hHeld (hy := by rintro w' ⟨s0, s1, s2, s3, s4, s5, s6, s7, s8, s9, s10, s11⟩; go_simp; with_reducible rfl) (h := ?_)
            refine pv_ 10 33 (mk_ 11 13) HT_ ?_
            refine pv_ 11 34 (mk_ 12 12) HT_ ?_
            refine pv_ 12 35 (mk_ 13 11) HT_ ?_
            refine pv_ 13 36 (mk_ 14 10) HT_ ?_
            refine pv_ 14 37 (mk_ 15 9) HT_ ?_
            refine pv_ 15 38 (mk_ 16 8) HT_ ?_
            refine pv_ 17 40 #[true, true, true, true, true, true, true, true, true, true, true, true, true, true, true, true, false, true, false, false, false, false, false, false] HT_ ?_
            refine pv_ 18 41 #[true, true, true, true, true, true, true, true, true, true, true, true, true, true, true, true, false, true, true, false, false, false, false, false] HT_ ?_
            refine pv_ 19 42 #[true, true, true, true, true, true, true, true, true, true, true, true, true, true, true, true, false, true, true, true, false, false, false, false] HT_ ?_
            refine pv_ 20 43 #[true, true, true, true, true, true, true, true, true, true, true, true, true, true, true, true, false, true, true, true, true, false, false, false] HT_ ?_
            refine tv_ 16 39 (mk_ 21 3) HT_ HW_ hHeld (hy := by rintro w' ⟨s0, s1, s2, s3, s4, s5, s6, s7, s8, s9, s10, s11⟩; go_simp; with_reducible rfl) (h := ?_)
            refine tv_ 21 44 (mk_ 22 2) HT_ HW_ hHeld (hy := by rintro w' ⟨s0, s1, s2, s3, s4, s5, s6, s7, s8, s9, s10, s11⟩; go_simp; with_reducible rfl) (h := ?_)
            refine pv_ 22 45 (mk_ 23 1) HT_ ?_
            refine pv_ 23 46 (mk_ 24 0) HT_ ?_
            refine done_ (done_of HT_.out (by kernel_rfl)) ?_
            try go_wp2
            go_roundg k2
            case measure => have := HK1.out; have := HK2.out; omega
            case rel => exact ⟨(x6_2), (wrap64 (x7_2 + 1)), (by first | rfl | (simp; done) | (simp [*]; done)), (by first | rfl | (simp; done) | (simp [*]; done)), H', ⟨by have := HK1.out; have := HK2.out; omega⟩, ⟨by (with_reducible repeat (first | apply Kd.R_alloc | apply Kd.R_drewN | apply Kd.R_drew)); exact HO_4.out⟩, ⟨by repeat (first | (with_reducible first | exact HB.out | apply below_alloc | apply pw_below_drewN | apply below_drew1) | exact HB.out)⟩⟩
          ·rw [if_neg c7] at H
           have c7b0 : (((rd_T40 x4_1 x7_2).f0) == ((rd_T40 l0 x5_1).f0)) = false := beq_eq_false_iff_ne.mpr c7
           have c7b1 : (((rd_T40 x4_1 x7_2).f0) != ((rd_T40 l0 x5_1).f0)) = true := bne_iff_ne.mpr c7
           have H' := Aside0.mk H
           clear H
           obtain ⟨Ao13, co13, eo13⟩ := Kd.R_slice HO_4.out
           subst eo13
           try go_wp2
           have n0_ := Aside0.mk (Kd.R_drew HO_4.out)
           have n1_ := Aside0.mk (below_drew1 HB.out)
           clear HO_4
           clear HB
           have HO_4 := n0_
           have HB := n1_
           clear n0_ n1_
           have p185 : 0 ≤ (x7_2 : Int) := of_decide_eq_true (by assumption)
           have q185 : x7_2 < (x4_1.length : Int) := of_decide_eq_true (by assumption)
           obtain ⟨ad185, e185, hx185_0, hx185_1, hx185_2⟩ := at_T40 (Kd.R_reads' HO_4.out).2.2 x7_2 p185 q185
           cases e185
           replace p185 := eq_true p185
           replace q185 := eq_true q185
           have p186 : 0 ≤ (x5_1 : Int) := of_decide_eq_true (by assumption)
           have q186 : x5_1 < (l0.length : Int) := of_decide_eq_true (by assumption)
           obtain ⟨ad186, e186, hx186_0, hx186_1, hx186_2⟩ := at_T40 HR0.out x5_1 p186 q186
           have hw186_2 := hx186_2
           have hw186_1 := hx186_1
           have hw186_0 := hx186_0
           cases e186
           replace hx186_0 := (HB.out.cell (World.block_lt_of_cell? w _ hx186_0)).trans hx186_0
           replace hx186_1 := (HB.out.cell (World.block_lt_of_cell? w _ hx186_1)).trans hx186_1
           replace hx186_2 := (HB.out.cell (World.block_lt_of_cell? w _ hx186_2)).trans hx186_2
           replace p186 := eq_true p186
           replace q186 := eq_true q186
           refine start_ (n := 24) (S := fun w' => w'.cell? (ad185.add ((x7_2).toNat * 3)) = some (.int .i64 ((rd_T40 x4_1 x7_2).f0)) ∧ w'.cell? ⟨(ad185.add ((x7_2).toNat * 3)).block, (ad185.add ((x7_2).toNat * 3)).off + 1, none⟩ = some (.int .u64 ((rd_T40 x4_1 x7_2).f1)) ∧ w'.cell? ⟨(ad185.add ((x7_2).toNat * 3)).block, (ad185.add ((x7_2).toNat * 3)).off + 2, none⟩ = some (.int .i64 ((rd_T40 x4_1 x7_2).f2)) ∧ w'.cell? (ad186.add ((x5_1).toNat * 3)) = some (.int .i64 ((rd_T40 l0 x5_1).f0)) ∧ w'.cell? ⟨(ad186.add ((x5_1).toNat * 3)).block, (ad186.add ((x5_1).toNat * 3)).off + 1, none⟩ = some (.int .u64 ((rd_T40 l0 x5_1).f1)) ∧ w'.cell? ⟨(ad186.add ((x5_1).toNat * 3)).block, (ad186.add ((x5_1).toNat * 3)).off + 2, none⟩ = some (.int .i64 ((rd_T40 l0 x5_1).f2))) (ds := []) (mk_ 0 24) (by kernel_rfl) rfl rfl ⟨hx185_0, hx185_1, hx185_2, ((HB.out.cell (World.block_lt_of_cell? w _ hw186_0)).trans hw186_0), ((HB.out.cell (World.block_lt_of_cell? w _ hw186_1)).trans hw186_1), ((HB.out.cell (World.block_lt_of_cell? w _ hw186_2)).trans hw186_2)⟩ (fun hHeld => ?_); refine with_tabW marchlandref03_sums.tab9 marchlandref03_sums.bits9 (fun HT_ HW_ => ?_)
           generalize wr.drew = w14 at HO_4 HB hx185_0 hx185_1 hx185_2 hx186_0 hx186_1 hx186_2 hHeld ⊢
           refine pv_ 0 23 (mk_ 1 23) HT_ ?_
           refine pv_ 1 24 (mk_ 2 22) HT_ ?_
           refine pv_ 2 25 (mk_ 3 21) HT_ ?_
           refine pv_ 3 26 (mk_ 4 20) HT_ ?_
           refine pv_ 5 28 #[true, true, true, true, false, true, false, false, false, false, false, false, false, false, false, false, false, false, false, false, false, false, false, false] HT_ ?_
           refine pv_ 6 29 #[true, true, true, true, false, true, true, false, false, false, false, false, false, false, false, false, false, false, false, false, false, false, false, false] HT_ ?_
           refine pv_ 7 30 #[true, true, true, true, false, true, true, true, false, false, false, false, false, false, false, false, false, false, false, false, false, false, false, false] HT_ ?_
           refine pv_ 8 31 #[true, true, true, true, false, true, true, true, true, false, false, false, false, false, false, false, false, false, false, false, false, false, false, false] HT_ ?_
           refine tv_ 4 27 (mk_ 9 15) HT_ HW_ hHeld (hy := by rintro w' ⟨s0, s1, s2, s3, s4, s5⟩; go_simp; with_reducible rfl) (h := ?_)
           refine tv_ 9 32 (mk_ 10 14) HT_ HW_ hHeld (hy := by rintro w' ⟨s0, s1, s2, s3, s4, s5⟩; go_simp; with_reducible rfl) (h := ?_)
           refine pv_ 10 33 (mk_ 11 13) HT_ ?_
           refine pv_ 11 34 (mk_ 12 12) HT_ ?_
           refine pu_ 12 35 (mk_ 13 11) HT_ ?_
           refine pu_ 13 36 (mk_ 14 10) HT_ ?_
           refine pu_ 14 37 (mk_ 15 9) HT_ ?_
           refine pu_ 15 38 (mk_ 16 8) HT_ ?_
           refine pu_ 16 39 (mk_ 17 7) HT_ ?_
           refine pu_ 17 40 (mk_ 18 6) HT_ ?_
           refine pu_ 18 41 (mk_ 19 5) HT_ ?_
           refine pu_ 19 42 (mk_ 20 4) HT_ ?_
           refine pu_ 20 43 (mk_ 21 3) HT_ ?_
           refine pu_ 21 44 (mk_ 22 2) HT_ ?_
           refine pu_ 22 45 (mk_ 23 1) HT_ ?_
           refine pv_ 23 46 (mk_ 24 0) HT_ ?_
           refine done_ (done_of HT_.out (by kernel_rfl)) ?_
           try go_wp2
           go_roundg k2
           case measure => have := HK1.out; have := HK2.out; omega
           case rel => exact ⟨(x6_2), (wrap64 (x7_2 + 1)), (by first | rfl | (simp; done) | (simp [*]; done)), (by first | rfl | (simp; done) | (simp [*]; done)), H', ⟨by have := HK1.out; have := HK2.out; omega⟩, ⟨by (with_reducible repeat (first | apply Kd.R_alloc | apply Kd.R_drewN | apply Kd.R_drew)); exact HO_4.out⟩, ⟨by repeat (first | (with_reducible first | exact HB.out | apply below_alloc | apply pw_below_drewN | apply below_drew1) | exact HB.out)⟩⟩
         ·rw [if_neg c6] at H
          exact absurd H (by simp)
        ·rw [if_neg c5] at H
         exact absurd H (by simp)
       ·rw [if_neg c4] at H
        exact absurd H (by simp)
      ·rw [if_neg c3] at H
       have c3b0 : decide (x7_2 < (x4_1.length : Int)) = false := decide_eq_false c3
       clear c3
       by_cases c15 : x6_2 ≥ 0
       ·rw [if_pos c15] at H
        have c15b0 : decide (0 ≤ x6_2) = true := decide_eq_true c15
        clear c15
        by_cases c16 : 0 ≤ x6_2
        ·rw [if_pos c16] at H
         have c16b0 : decide (0 ≤ x6_2) = true := decide_eq_true c16
         clear c16
         by_cases c17 : x6_2 < (x4_1.length : Int)
         ·rw [if_pos c17] at H
          have c17b0 : decide (x6_2 < (x4_1.length : Int)) = true := decide_eq_true c17
          clear c17
          by_cases c18 : 0 ≤ x5_1
          ·rw [if_pos c18] at H
           have c18b0 : decide (0 ≤ x5_1) = true := decide_eq_true c18
           clear c18
           by_cases c19 : x5_1 < (l0.length : Int)
           ·rw [if_pos c19] at H
            have c19b0 : decide (x5_1 < (l0.length : Int)) = true := decide_eq_true c19
            clear c19
            obtain ⟨y191, hy191⟩ : ∃ y_ : List (S40), y_ = (x4_1.set (x6_2 : Int).toNat (⟨(rd_T40 x4_1 x6_2).f0, (rd_T40 x4_1 x6_2).f1, wrap64 (((rd_T40 x4_1 x6_2).f2) + ((rd_T40 l0 x5_1).f2))⟩ : S40)) := ⟨_, rfl⟩
            replace H : (marchlandref03_sums.l0 k2 l0 y191 (wrap64 (x5_1 + 1))) = some (r1, r2) := by first | (rw [hy191]; with_reducible exact H) | (have H2_ := (Option.bind_some _ _).symm.trans H; rw [hy191]; with_reducible exact H2_) | (have H2_ := (Option.bind_some _ _).symm.trans H; with_reducible exact H2_) | with_reducible exact H | (rw [hy191]; exact H) | exact H
            have Ny191 := Aside0.mk hy191
            clear hy191
            have H' := Aside0.mk H
            clear H
            obtain ⟨Ao21, co21, eo21⟩ := Kd.R_slice HO_4.out
            subst eo21
            try go_wp2
            have n0_ := Aside0.mk (Kd.R_drew HO_4.out)
            have n1_ := Aside0.mk (below_drew1 HB.out)
            clear HO_4
            clear HB
            have HO_4 := n0_
            have HB := n1_
            clear n0_ n1_
            have p189 : 0 ≤ (x6_2 : Int) := of_decide_eq_true (by assumption)
            have q189 : x6_2 < (x4_1.length : Int) := of_decide_eq_true (by assumption)
            obtain ⟨ad189, e189, hx189_0, hx189_1, hx189_2⟩ := at_T40 (Kd.R_reads' HO_4.out).2.2 x6_2 p189 q189
            cases e189
            replace p189 := eq_true p189
            replace q189 := eq_true q189
            have p190 : 0 ≤ (x5_1 : Int) := of_decide_eq_true (by assumption)
            have q190 : x5_1 < (l0.length : Int) := of_decide_eq_true (by assumption)
            obtain ⟨ad190, e190, hx190_0, hx190_1, hx190_2⟩ := at_T40 HR0.out x5_1 p190 q190
            have hw190_2 := hx190_2
            have hw190_1 := hx190_1
            have hw190_0 := hx190_0
            cases e190
            replace hx190_0 := (HB.out.cell (World.block_lt_of_cell? w _ hx190_0)).trans hx190_0
            replace hx190_1 := (HB.out.cell (World.block_lt_of_cell? w _ hx190_1)).trans hx190_1
            replace hx190_2 := (HB.out.cell (World.block_lt_of_cell? w _ hx190_2)).trans hx190_2
            replace p190 := eq_true p190
            replace q190 := eq_true q190
            have p20 : 0 ≤ (x6_2 : Int) := of_decide_eq_true (by assumption)
            have q20 : (x6_2 : Int) < ((x4_1.length : Int) : Int) := of_decide_eq_true (by assumption)
            obtain ⟨go20, co20, eo20, gb20, gl20, cl20, HG20⟩ := Kd.R_form HO_4.out (by omega)
            (first | cases eo20 | (injection eo20 with ea_ en_ ec_; (first | subst ea_ | (injection ea_ with ea_; subst ea_)); subst ec_; clear en_))
            have GB20 := Aside0.mk gb20
            have GG20 := Aside0.mk HG20
            clear gb20 gl20 HG20
            (first | simp only [add_plain] at hx189_0 | skip)
            (first | simp only [add_plain] at hx189_1 | skip)
            (first | simp only [add_plain] at hx189_2 | skip)
            obtain ⟨ce20, hcl20, hM20, hcc20, hfr20⟩ := Kd.R_elem HO_4.out z40 (x6_2 : Int) p20 q20
            obtain rfl := k40_openM hM20
            have hx20_0 : World.cell? _ ⟨go20, (x6_2 : Int).toNat * 3, none⟩ = some (.int .i64 ((rd_T40 x4_1 x6_2).f0)) := hcc20 0 _ rfl
            have hx20_1 : World.cell? _ ⟨go20, (x6_2 : Int).toNat * 3 + 1, none⟩ = some (.int .u64 ((rd_T40 x4_1 x6_2).f1)) := hcc20 1 _ rfl
            have hx20_2 : World.cell? _ ⟨go20, (x6_2 : Int).toNat * 3 + 2, none⟩ = some (.int .i64 ((rd_T40 x4_1 x6_2).f2)) := hcc20 2 _ rfl
            have hf20_0 : World.frozen? _ ⟨go20, (x6_2 : Int).toNat * 3, none⟩ = false := hfr20 0
            have hf20_1 : World.frozen? _ ⟨go20, (x6_2 : Int).toNat * 3 + 1, none⟩ = false := hfr20 1
            have hf20_2 : World.frozen? _ ⟨go20, (x6_2 : Int).toNat * 3 + 2, none⟩ = false := hfr20 2
            clear hcl20 hcc20 hfr20 hM20
            replace p20 := eq_true p20
            replace q20 := eq_true q20
            obtain ⟨ce23, hcl23, hM23, hcc23, hfr23⟩ := Kd.R_elem HO_4.out z40 (x6_2 : Int) (of_decide_eq_true (by assumption)) (by have h_ : (x6_2 : Int) < ((x4_1.length : Int) : Int) := of_decide_eq_true (by assumption); first | exact h_ | (have e_ := (Kd.R_reads' HO_4.out).1; omega) | simpa using h_)
            obtain rfl := k40_openM hM23
            have HP23 := (Kd.R_seg HO_4.out (x6_2 : Int) (of_decide_eq_true (by assumption)) (by have h_ : (x6_2 : Int) < ((x4_1.length : Int) : Int) := of_decide_eq_true (by assumption); first | exact h_ | (have e_ := (Kd.R_reads' HO_4.out).1; omega) | simpa using h_) (seg := [.int .i64 (wrap64 (((rd_T40 x4_1 x6_2).f2) + ((rd_T40 l0 x5_1).f2)))]) (j := 2) hcl23 hcc23 (show 3 ≤ 3 from by decide) (x' := (⟨(rd_T40 x4_1 x6_2).f0, (rd_T40 x4_1 x6_2).f1, wrap64 (((rd_T40 x4_1 x6_2).f2) + ((rd_T40 l0 x5_1).f2))⟩ : S40)) (k40_mkM _ _ _ (⟨(rd_T40 x4_1 x6_2).f0, (rd_T40 x4_1 x6_2).f1, wrap64 (((rd_T40 x4_1 x6_2).f2) + ((rd_T40 l0 x5_1).f2))⟩ : S40) ) (fun _ hk => hk)).1
            rw [← Ny191.out] at HP23
            have HQ23 := Aside0.mk HP23
            clear hcl23 hcc23 hfr23 hM23 HP23
            refine start_ (n := 16) (S := fun w' => w'.cell? ⟨go20, ((x6_2).toNat * 3), none⟩ = some (.int .i64 ((rd_T40 x4_1 x6_2).f0)) ∧ w'.cell? ⟨go20, ((x6_2).toNat * 3) + 1, none⟩ = some (.int .u64 ((rd_T40 x4_1 x6_2).f1)) ∧ w'.cell? ⟨go20, ((x6_2).toNat * 3) + 2, none⟩ = some (.int .i64 ((rd_T40 x4_1 x6_2).f2)) ∧ w'.cell? (ad190.add ((x5_1).toNat * 3)) = some (.int .i64 ((rd_T40 l0 x5_1).f0)) ∧ w'.cell? ⟨(ad190.add ((x5_1).toNat * 3)).block, (ad190.add ((x5_1).toNat * 3)).off + 1, none⟩ = some (.int .u64 ((rd_T40 l0 x5_1).f1)) ∧ w'.cell? ⟨(ad190.add ((x5_1).toNat * 3)).block, (ad190.add ((x5_1).toNat * 3)).off + 2, none⟩ = some (.int .i64 ((rd_T40 l0 x5_1).f2))) (ds := [15]) (mk_ 0 16) (by kernel_rfl) rfl rfl ⟨hx189_0, hx189_1, hx189_2, ((HB.out.cell (World.block_lt_of_cell? w _ hw190_0)).trans hw190_0), ((HB.out.cell (World.block_lt_of_cell? w _ hw190_1)).trans hw190_1), ((HB.out.cell (World.block_lt_of_cell? w _ hw190_2)).trans hw190_2)⟩ (fun hHeld => ?_); refine with_tabW marchlandref03_sums.tab12 marchlandref03_sums.bits12 (fun HT_ HW_ => ?_)
            generalize wr.drew = w22 at HO_4 HB GG20 HQ23 hf20_0 hf20_1 hf20_2 hx189_0 hx189_1 hx189_2 hx190_0 hx190_1 hx190_2 hx20_0 hx20_1 hx20_2 hHeld ⊢
            refine pv_ 0 50 (mk_ 1 15) HT_ ?_
            refine pv_ 1 51 (mk_ 2 14) HT_ ?_
            refine pv_ 2 52 (mk_ 3 13) HT_ ?_
            refine pv_ 3 53 (mk_ 4 12) HT_ ?_
            refine pv_ 4 54 (mk_ 5 11) HT_ ?_
            refine pv_ 5 55 (mk_ 6 10) HT_ ?_
            refine pv_ 7 57 #[true, true, true, true, true, true, false, true, false, false, false, false, false, false, false, false] HT_ ?_
            refine pv_ 8 58 #[true, true, true, true, true, true, false, true, true, false, false, false, false, false, false, false] HT_ ?_
            refine pv_ 9 59 #[true, true, true, true, true, true, false, true, true, true, false, false, false, false, false, false] HT_ ?_
            refine pv_ 10 60 #[true, true, true, true, true, true, false, true, true, true, true, false, false, false, false, false] HT_ ?_
            refine tv_ 6 56 (mk_ 11 5) HT_ HW_ hHeld (hy := by rintro w' ⟨s0, s1, s2, s3, s4, s5⟩; go_simp; with_reducible rfl) (h := ?_)
            refine tv_ 11 61 (mk_ 12 4) HT_ HW_ hHeld (hy := by rintro w' ⟨s0, s1, s2, s3, s4, s5⟩; go_simp; with_reducible rfl) (h := ?_)
            refine pv_ 12 62 (mk_ 13 3) HT_ ?_
            refine pv_ 13 63 (mk_ 14 2) HT_ ?_
            refine pv_ 14 64 (mk_ 15 1) HT_ ?_
            refine last_ (i := 15) (N := none) (mk_ 16 0) rfl rfl (one_of HT_.out (by kernel_rfl)) (by decide) (fun K hK => ?_)
            refine skip_ (w1 := ?_) (by rfl) rfl ?_ ?_
            rotate_left
            ·go_simp
             rfl
            refine hK.out _ _ ?_
            clear hK K
            refine done_ (done_of HT_.out (by kernel_rfl)) ?_
            try go_wp2
            go_roundg k2
            case measure => have := HK1.out; have := HK2.out; omega
            case rel => exact ⟨(y191), (wrap64 (x5_1 + 1)), (by first | rfl | (simp; done) | (simp [*]; done)), H', ⟨by have := HK1.out; have := HK2.out; omega⟩, ⟨by (with_reducible repeat (first | apply Kd.R_alloc | apply Kd.R_drewN | apply Kd.R_drew)); exact HQ23.out⟩, ⟨by repeat (first | (with_reducible first | exact HB.out | apply below_alloc | apply pw_below_drewN | apply below_drew1 | refine below_set ?_ GB20.out) | exact HB.out)⟩⟩
           ·rw [if_neg c19] at H
            exact absurd H (by simp)
          ·rw [if_neg c18] at H
           exact absurd H (by simp)
         ·rw [if_neg c17] at H
          exact absurd H (by simp)
        ·rw [if_neg c16] at H
         exact absurd H (by simp)
       ·rw [if_neg c15] at H
        have c15b0 : decide (0 ≤ x6_2) = false := decide_eq_false c15
        clear c15
        by_cases c24 : 0 ≤ x5_1
        ·rw [if_pos c24] at H
         have c24b0 : decide (0 ≤ x5_1) = true := decide_eq_true c24
         clear c24
         by_cases c25 : x5_1 < (l0.length : Int)
         ·rw [if_pos c25] at H
          have c25b0 : decide (x5_1 < (l0.length : Int)) = true := decide_eq_true c25
          clear c25
          by_cases c26 : x4_1.length < 5864062014805
          ·rw [if_pos c26] at H
           have LMc26 := Aside0.mk c26
           clear c26
           obtain ⟨y193, hy193⟩ : ∃ y_ : List (S40), y_ = (x4_1 ++ [(⟨(rd_T40 l0 x5_1).f0, (rd_T40 l0 x5_1).f1, (rd_T40 l0 x5_1).f2⟩ : S40)]) := ⟨_, rfl⟩
           replace H : (marchlandref03_sums.l2 k2 l0 y193 x5_1 (wrap64 ((y193.length : Int) - 1))) = some (r1, r2) := by first | (rw [hy193]; with_reducible exact H) | (have H2_ := (Option.bind_some _ _).symm.trans H; rw [hy193]; with_reducible exact H2_) | (have H2_ := (Option.bind_some _ _).symm.trans H; with_reducible exact H2_) | with_reducible exact H | (rw [hy193]; exact H) | exact H
           have Ny193 := Aside0.mk hy193
           clear hy193
           have H' := Aside0.mk H
           clear H
           obtain ⟨Ao27, co27, eo27⟩ := Kd.R_slice HO_4.out
           subst eo27
           have p192 : 0 ≤ (x5_1 : Int) := of_decide_eq_true (by assumption)
           have q192 : x5_1 < (l0.length : Int) := of_decide_eq_true (by assumption)
           obtain ⟨ad192, e192, hx192_0, hx192_1, hx192_2⟩ := at_T40 HR0.out x5_1 p192 q192
           cases e192
           replace hx192_0 := (HB.out.cell (World.block_lt_of_cell? w _ hx192_0)).trans hx192_0
           replace hx192_1 := (HB.out.cell (World.block_lt_of_cell? w _ hx192_1)).trans hx192_1
           replace hx192_2 := (HB.out.cell (World.block_lt_of_cell? w _ hx192_2)).trans hx192_2
           replace p192 := eq_true p192
           replace q192 := eq_true q192
           go_wp2_with (first | ((with_reducible refine gate_builtin (b := .append) (xs := #[.tmp 65, .tmp 70]) rfl ?_); at_builtin; refine Kd.R_append k40 (w0 := w) w.heap.size rfl (.tmp 65) (.tmp 70) 22 40 (.agg #[(.int .i64 0), (.int .u64 0), (.int .i64 0)]) 24 rfl Try.underlying22 info40 rfl (by decide) (by omega) (.slice Ao27 x4_1.length co27) x4_1 (⟨(rd_T40 l0 x5_1).f0, (rd_T40 l0 x5_1).f1, (rd_T40 l0 x5_1).f2⟩ : S40) [.int .i64 ((rd_T40 l0 x5_1).f0), .int .u64 ((rd_T40 l0 x5_1).f1), .int .i64 ((rd_T40 l0 x5_1).f2)] (fun _ => True) (fun _ => False) rfl rfl ?aP (fun _ hk => hk.elim) ?aF ?aO ?aB ?aS ?aL ?_; (case aP => exact k40_mkM _ _ _ (⟨(rd_T40 l0 x5_1).f0, (rd_T40 l0 x5_1).f1, (rd_T40 l0 x5_1).f2⟩ : S40)); (case aB => exact (bn HB)); (case aF => exact (fun _ _ => trivial)); (case aO => exact (rn HO_4)); (case aS => exact (below_size (bn HB))); (case aL => have := LMc26.out; omega); intro v194 w28 ho hb hg hat; rw [← Ny193.out] at ho; have n0_ := Aside0.mk (hb); have n1_ := Aside0.mk (ho); clear HB; clear HO_4; have HB := n0_; have HO195 := n1_; clear n0_ n1_; clear ho hb hg hat; obtain ⟨Ao29, co29, eo29⟩ := Kd.R_slice HO195.out; subst eo29))
           go_loopg [8] k2 (fun kq v8 w' => ∃ (x4_3 : List (S40)) (x8_3 : Int), v8 = .int .i64 x8_3 ∧ Aside0 (marchlandref03_sums.l2 kq l0 x4_3 x5_1 x8_3 = some (r1, r2)) ∧ Aside0 (kq ≤ k2) ∧ Aside0 (Kd.R k40 40 w' w.heap.size (fun _ => True) (.slice Ao29 y193.length co29) x4_3) ∧ Aside0 (Below w.heap.size w w'))
           case atStart => exact ⟨(y193), (wrap64 ((y193.length : Int) - 1)), (by first | rfl | (simp; done) | (simp [*]; done)), H', ⟨Nat.le_refl _⟩, ⟨by (with_reducible repeat (first | apply Kd.R_alloc | apply Kd.R_drewN | apply Kd.R_drew)); exact HO195.out⟩, ⟨by repeat (first | (with_reducible first | exact HB.out | apply below_alloc | apply pw_below_drewN | apply below_drew1) | exact HB.out)⟩⟩
           case round =>
            clear H'
            (try clear c1); (try clear p1); (try clear q1); (try clear hx1); (try clear c2); (try clear p2); (try clear q2); (try clear hx2); (try clear hf2); (try clear c3); (try clear c3b0); (try clear c4); (try clear c5); (try clear c6); (try clear p6); (try clear c7); (try clear c7b0); (try clear c7b1)
            (try clear c15); (try clear c15b0); (try clear c16); (try clear c16b0); (try clear c17); (try clear c17b0); (try clear c18); (try clear c18b0); (try clear p18); (try clear q18); (try clear hx18); (try clear c19); (try clear c19b0); (try clear p19); (try clear q19); (try clear hx19); (try clear c20)
            (try clear p20); (try clear q20); (try clear hx20); (try clear hf20); (try clear c23); (try clear c24); (try clear c24b0); (try clear c25); (try clear c25b0); (try clear c26); (try clear hx185_0); (try clear hx185_1); (try clear hx185_2); (try clear hx186_0); (try clear hx186_1); (try clear hx186_2)
            (try clear hx189_0); (try clear hx189_1); (try clear hx189_2); (try clear hx190_0); (try clear hx190_1); (try clear hx190_2); (try clear hx192_0); (try clear hx192_1); (try clear hx192_2); (try clear hx20_0); (try clear hx20_1); (try clear hx20_2); (try clear p185); (try clear p186); (try clear p189)
            (try clear p190); (try clear p192); (try clear p20); (try clear q185); (try clear q186); (try clear q189); (try clear q190); (try clear q192); (try clear q20)
            obtain ⟨x4_3, x8_3, rfl, HA, HK3, HO_4, HB⟩ := hrel
            have hl4_3 := (Kd.R_reads' HO_4.out).1
            rw [hl4_3] at HO_4
            (try simp only [hl4_3])
            cases gk with
            | zero => exact absurd HA.out (by simp [marchlandref03_sums.l2])
            | succ k3 =>
             have H := HA.out
             clear HA
             simp only [marchlandref03_sums.l2] at H
             by_cases c30 : x8_3 > 0
             ·rw [if_pos c30] at H
              have c30b0 : decide (0 < x8_3) = true := decide_eq_true c30
              clear c30
              by_cases c31 : 0 ≤ x8_3
              ·rw [if_pos c31] at H
               have c31b0 : decide (0 ≤ x8_3) = true := decide_eq_true c31
               clear c31
               by_cases c32 : x8_3 < (x4_3.length : Int)
               ·rw [if_pos c32] at H
                have c32b0 : decide (x8_3 < (x4_3.length : Int)) = true := decide_eq_true c32
                clear c32
                obtain ⟨ji33, hji33⟩ : ∃ j_ : Int, (wrap64 (x8_3 - 1)) = j_ := ⟨_, rfl⟩
                replace H : (if 0 ≤ (ji33) then (if (ji33) < (x4_3.length : Int) then ((marchlandref03_before.f ((rd_T40 x4_3 x8_3).f0) ((rd_T40 x4_3 x8_3).f1) ((rd_T40 x4_3 x8_3).f2) ((rd_T40 x4_3 (ji33)).f0) ((rd_T40 x4_3 (ji33)).f1) ((rd_T40 x4_3 (ji33)).f2)).bind fun t198 => (if t198 = true then (marchlandref03_sums.l2 k3 l0 ((x4_3.set ((ji33) : Int).toNat (⟨(rd_T40 x4_3 x8_3).f0, (rd_T40 x4_3 x8_3).f1, (rd_T40 x4_3 x8_3).f2⟩ : S40)).set (x8_3 : Int).toNat (⟨(rd_T40 x4_3 (ji33)).f0, (rd_T40 x4_3 (ji33)).f1, (rd_T40 x4_3 (ji33)).f2⟩ : S40)) x5_1 ji33) else (marchlandref03_sums.l0 k3 l0 x4_3 (wrap64 (x5_1 + 1))))) else (none)) else (none)) = some (r1, r2) := by first | (rw [hji33] at H; exact H) | (simp only [hji33] at H ⊢; exact H)
                have hji33w : (IntKind.i64.wrap (x8_3 - 1)) = ji33 := (i64_w _).trans hji33
                by_cases c34 : 0 ≤ (ji33)
                ·rw [if_pos c34] at H
                 have c34b0 : decide (0 ≤ (ji33)) = true := decide_eq_true c34
                 clear c34
                 by_cases c35 : (ji33) < (x4_3.length : Int)
                 ·rw [if_pos c35] at H
                  have c35b0 : decide ((ji33) < (x4_3.length : Int)) = true := decide_eq_true c35
                  clear c35
                  replace H := Option.bind_eq_some_iff.mp H
                  obtain ⟨t198, A360, H⟩ := H
                  replace H : (if t198 = true then (marchlandref03_sums.l2 k3 l0 ((x4_3.set ((ji33) : Int).toNat (⟨(rd_T40 x4_3 x8_3).f0, (rd_T40 x4_3 x8_3).f1, (rd_T40 x4_3 x8_3).f2⟩ : S40)).set (x8_3 : Int).toNat (⟨(rd_T40 x4_3 (ji33)).f0, (rd_T40 x4_3 (ji33)).f1, (rd_T40 x4_3 (ji33)).f2⟩ : S40)) x5_1 ji33) else (marchlandref03_sums.l0 k3 l0 x4_3 (wrap64 (x5_1 + 1)))) = some (r1, r2) := H
                  have A36 := Aside0.mk A360
                  clear A360
                  by_cases c37 : t198 = true
                  ·subst c37
                   have H1 : (marchlandref03_sums.l2 k3 l0 ((x4_3.set ((ji33) : Int).toNat (⟨(rd_T40 x4_3 x8_3).f0, (rd_T40 x4_3 x8_3).f1, (rd_T40 x4_3 x8_3).f2⟩ : S40)).set (x8_3 : Int).toNat (⟨(rd_T40 x4_3 (ji33)).f0, (rd_T40 x4_3 (ji33)).f1, (rd_T40 x4_3 (ji33)).f2⟩ : S40)) x5_1 ji33) = some (r1, r2) := by rw [if_pos rfl] at H; exact H
                   clear H
                   have H := H1
                   clear H1
                   obtain ⟨y201, hy201⟩ : ∃ y_ : List (S40), y_ = (x4_3.set ((ji33) : Int).toNat (⟨(rd_T40 x4_3 x8_3).f0, (rd_T40 x4_3 x8_3).f1, (rd_T40 x4_3 x8_3).f2⟩ : S40)) := ⟨_, rfl⟩
                   replace H : (marchlandref03_sums.l2 k3 l0 (y201.set (x8_3 : Int).toNat (⟨(rd_T40 x4_3 (ji33)).f0, (rd_T40 x4_3 (ji33)).f1, (rd_T40 x4_3 (ji33)).f2⟩ : S40)) x5_1 ji33) = some (r1, r2) := by first | (rw [hy201]; with_reducible exact H) | (have H2_ := (Option.bind_some _ _).symm.trans H; rw [hy201]; with_reducible exact H2_) | (have H2_ := (Option.bind_some _ _).symm.trans H; with_reducible exact H2_) | with_reducible exact H | (rw [hy201]; exact H) | exact H
                   have Ny201 := Aside0.mk hy201
                   clear hy201
                   obtain ⟨y202, hy202⟩ : ∃ y_ : List (S40), y_ = (y201.set (x8_3 : Int).toNat (⟨(rd_T40 x4_3 (ji33)).f0, (rd_T40 x4_3 (ji33)).f1, (rd_T40 x4_3 (ji33)).f2⟩ : S40)) := ⟨_, rfl⟩
                   replace H : (marchlandref03_sums.l2 k3 l0 y202 x5_1 ji33) = some (r1, r2) := by first | (rw [hy202]; with_reducible exact H) | (have H2_ := (Option.bind_some _ _).symm.trans H; rw [hy202]; with_reducible exact H2_) | (have H2_ := (Option.bind_some _ _).symm.trans H; with_reducible exact H2_) | with_reducible exact H | (rw [hy202]; exact H) | exact H
                   have Ny202 := Aside0.mk hy202
                   clear hy202
                   have H' := Aside0.mk H
                   clear H
                   try go_wp2
                   have n0_ := Aside0.mk (Kd.R_drew HO_4.out)
                   have n1_ := Aside0.mk (below_drew1 HB.out)
                   clear HO_4
                   clear HB
                   have HO_4 := n0_
                   have HB := n1_
                   clear n0_ n1_
                   have p196 : 0 ≤ (x8_3 : Int) := of_decide_eq_true (by assumption)
                   have q196 : x8_3 < (x4_3.length : Int) := of_decide_eq_true (by assumption)
                   obtain ⟨ad196, e196, hx196_0, hx196_1, hx196_2⟩ := at_T40 (Kd.R_reads' HO_4.out).2.2 x8_3 p196 q196
                   cases e196
                   replace p196 := eq_true p196
                   replace q196 := eq_true q196
                   have p197 : 0 ≤ ((ji33) : Int) := of_decide_eq_true (by assumption)
                   have q197 : (ji33) < (x4_3.length : Int) := of_decide_eq_true (by assumption)
                   obtain ⟨ad197, e197, hx197_0, hx197_1, hx197_2⟩ := at_T40 (Kd.R_reads' HO_4.out).2.2 (ji33) p197 q197
                   obtain rfl : ad196 = ad197 := (by injection e197)
                   replace p197 := eq_true p197
                   replace q197 := eq_true q197
                   refine start_ (n := 14) (S := fun w' => w'.cell? (ad196.add ((x8_3).toNat * 3)) = some (.int .i64 ((rd_T40 x4_3 x8_3).f0)) ∧ w'.cell? ⟨(ad196.add ((x8_3).toNat * 3)).block, (ad196.add ((x8_3).toNat * 3)).off + 1, none⟩ = some (.int .u64 ((rd_T40 x4_3 x8_3).f1)) ∧ w'.cell? ⟨(ad196.add ((x8_3).toNat * 3)).block, (ad196.add ((x8_3).toNat * 3)).off + 2, none⟩ = some (.int .i64 ((rd_T40 x4_3 x8_3).f2)) ∧ w'.cell? (ad196.add (((ji33)).toNat * 3)) = some (.int .i64 ((rd_T40 x4_3 (ji33)).f0)) ∧ w'.cell? ⟨(ad196.add (((ji33)).toNat * 3)).block, (ad196.add (((ji33)).toNat * 3)).off + 1, none⟩ = some (.int .u64 ((rd_T40 x4_3 (ji33)).f1)) ∧ w'.cell? ⟨(ad196.add (((ji33)).toNat * 3)).block, (ad196.add (((ji33)).toNat * 3)).off + 2, none⟩ = some (.int .i64 ((rd_T40 x4_3 (ji33)).f2))) (ds := []) (mk_ 0 14) (by kernel_rfl) rfl rfl ⟨hx196_0, hx196_1, hx196_2, hx197_0, hx197_1, hx197_2⟩ (fun hHeld => ?_); refine with_tabW marchlandref03_sums.tab15 marchlandref03_sums.bits15 (fun HT_ HW_ => ?_)
                   generalize wr.drew = w40 at HO_4 HB hx196_0 hx196_1 hx196_2 hx197_0 hx197_1 hx197_2 hHeld ⊢
                   refine pv_ 0 75 (mk_ 1 13) HT_ ?_
                   refine pv_ 1 76 (mk_ 2 12) HT_ ?_
                   refine pv_ 2 77 (mk_ 3 11) HT_ ?_
                   refine pv_ 3 78 (mk_ 4 10) HT_ ?_
                   refine pv_ 4 79 (mk_ 5 9) HT_ ?_
                   refine pv_ 5 80 (mk_ 6 8) HT_ ?_
                   refine pv_ 7 82 #[true, true, true, true, true, true, false, true, false, false, false, false, false, false] HT_ ?_
                   refine pv_ 8 83 #[true, true, true, true, true, true, false, true, true, false, false, false, false, false] HT_ ?_
                   refine pv_ 9 84 #[true, true, true, true, true, true, false, true, true, true, false, false, false, false] HT_ ?_
                   refine pv_ 10 85 #[true, true, true, true, true, true, false, true, true, true, true, false, false, false] HT_ ?_
                   refine tv_ 6 81 (mk_ 11 3) HT_ HW_ hHeld (hy := by rintro w' ⟨s0, s1, s2, s3, s4, s5⟩; go_simp; with_reducible rfl) (h := ?_)
                   refine tv_ 11 86 (mk_ 12 2) HT_ HW_ hHeld (hy := by rintro w' ⟨s0, s1, s2, s3, s4, s5⟩; go_simp; with_reducible rfl) (h := ?_)
                   refine one_ (i := 12) (N := some 87) (mk_ 13 1) rfl rfl (one_of HT_.out (by kernel_rfl)) (by decide) (fun K hK => ?_)
                   refine goes_ Try.func54 (by kernel_rfl) rfl #[.agg #[.int .i64 ((rd_T40 x4_3 x8_3).f0), .int .u64 ((rd_T40 x4_3 x8_3).f1), .int .i64 ((rd_T40 x4_3 x8_3).f2)], .agg #[.int .i64 ((rd_T40 x4_3 (ji33)).f0), .int .u64 ((rd_T40 x4_3 (ji33)).f1), .int .i64 ((rd_T40 x4_3 (ji33)).f2)]] (by rfl) rfl rfl (by (try simp only [List.map_toArray, List.map_cons, List.map_nil]); first | done | (simp only [hji33]; rfl) | rfl | (simp only [List.length_drop, List.length_take]; rfl)) ?_
                   with_reducible refine (marchlandref03_before.calls ((rd_T40 x4_3 x8_3).f0) ((rd_T40 x4_3 x8_3).f1) ((rd_T40 x4_3 x8_3).f2) ((rd_T40 x4_3 (ji33)).f0) ((rd_T40 x4_3 (ji33)).f1) ((rd_T40 x4_3 (ji33)).f2) true _ A36.out).mono ?_
                   rintro e w41 ⟨rfl, hb⟩
                   have HS0_ := (hb.cell (World.block_lt_of_cell? _ _ (hHeld.1))).trans (hHeld.1)
                   have HS1_ := (hb.cell (World.block_lt_of_cell? _ _ (hHeld.2.1))).trans (hHeld.2.1)
                   have HS2_ := (hb.cell (World.block_lt_of_cell? _ _ (hHeld.2.2.1))).trans (hHeld.2.2.1)
                   have HS3_ := (hb.cell (World.block_lt_of_cell? _ _ (hHeld.2.2.2.1))).trans (hHeld.2.2.2.1)
                   have HS4_ := (hb.cell (World.block_lt_of_cell? _ _ (hHeld.2.2.2.2.1))).trans (hHeld.2.2.2.2.1)
                   have HS5_ := (hb.cell (World.block_lt_of_cell? _ _ (hHeld.2.2.2.2.2))).trans (hHeld.2.2.2.2.2)
                   refine ⟨_, rfl, ?_⟩
                   have n0_ := Aside0.mk (Kd.R_below (rn HO_4) hb)
                   have n1_ := Aside0.mk (below_step (bn HB) hb)
                   clear HO_4
                   clear HB
                   have HO_4 := n0_
                   have HB := n1_
                   clear n0_ n1_
                   (try clear hb)
                   (try clear hb2)
                   (try clear hk)
                   (try clear hi)
                   refine hK.out _ _ ⟨HS0_, HS1_, HS2_, HS3_, HS4_, HS5_⟩ (fun hHeld => ?_)
                   clear hK K
                   refine norm_ (a' := ?_) ?_ ?_
                   rotate_left
                   ·show Act.put _ (some 87) _ = _
                    simp only [Act.put, List.setIfInBounds_toArray, List.set_cons_zero, List.set_cons_succ, i64_w, i32_w]
                    rfl
                   refine pv_ 13 88 (mk_ 14 0) HT_ ?_
                   refine done_ (done_of HT_.out (by kernel_rfl)) ?_
                   try go_wp2
                   have n0_ := Aside0.mk (Kd.R_drew HO_4.out)
                   have n1_ := Aside0.mk (below_drew1 HB.out)
                   clear HO_4
                   clear HB
                   have HO_4 := n0_
                   have HB := n1_
                   clear n0_ n1_
                   have p199 : 0 ≤ (x8_3 : Int) := of_decide_eq_true (by assumption)
                   have q199 : x8_3 < (x4_3.length : Int) := of_decide_eq_true (by assumption)
                   obtain ⟨ad199, e199, hx199_0, hx199_1, hx199_2⟩ := at_T40 (Kd.R_reads' HO_4.out).2.2 x8_3 p199 q199
                   obtain rfl : ad196 = ad199 := (by injection e199)
                   replace p199 := eq_true p199
                   replace q199 := eq_true q199
                   have p200 : 0 ≤ ((ji33) : Int) := of_decide_eq_true (by assumption)
                   have q200 : (ji33) < (x4_3.length : Int) := of_decide_eq_true (by assumption)
                   obtain ⟨ad200, e200, hx200_0, hx200_1, hx200_2⟩ := at_T40 (Kd.R_reads' HO_4.out).2.2 (ji33) p200 q200
                   obtain rfl : ad196 = ad200 := (by injection e200)
                   replace p200 := eq_true p200
                   replace q200 := eq_true q200
                   have p38 : 0 ≤ ((ji33) : Int) := of_decide_eq_true (by assumption)
                   have q38 : ((ji33) : Int) < ((x4_3.length : Int) : Int) := of_decide_eq_true (by assumption)
                   obtain ⟨go38, co38, eo38, gb38, gl38, cl38, HG38⟩ := Kd.R_form HO_4.out (by omega)
                   (first | cases eo38 | (injection eo38 with ea_ en_ ec_; (first | subst ea_ | (injection ea_ with ea_; subst ea_)); subst ec_; clear en_))
                   have GB38 := Aside0.mk gb38
                   have GG38 := Aside0.mk HG38
                   clear gb38 gl38 HG38
                   (first | simp only [add_plain] at hx196_0 | skip)
                   (first | simp only [add_plain] at hx196_1 | skip)
                   (first | simp only [add_plain] at hx196_2 | skip)
                   (first | simp only [add_plain] at hx197_0 | skip)
                   (first | simp only [add_plain] at hx197_1 | skip)
                   (first | simp only [add_plain] at hx197_2 | skip)
                   (first | simp only [add_plain] at hx199_0 | skip)
                   (first | simp only [add_plain] at hx199_1 | skip)
                   (first | simp only [add_plain] at hx199_2 | skip)
                   (first | simp only [add_plain] at hx200_0 | skip)
                   (first | simp only [add_plain] at hx200_1 | skip)
                   (first | simp only [add_plain] at hx200_2 | skip)
                   obtain ⟨ce38, hcl38, hM38, hcc38, hfr38⟩ := Kd.R_elem HO_4.out z40 ((ji33) : Int) p38 q38
                   obtain rfl := k40_openM hM38
                   have hx38_0 : World.cell? _ ⟨go38, ((ji33) : Int).toNat * 3, none⟩ = some (.int .i64 ((rd_T40 x4_3 (ji33)).f0)) := hcc38 0 _ rfl
                   have hx38_1 : World.cell? _ ⟨go38, ((ji33) : Int).toNat * 3 + 1, none⟩ = some (.int .u64 ((rd_T40 x4_3 (ji33)).f1)) := hcc38 1 _ rfl
                   have hx38_2 : World.cell? _ ⟨go38, ((ji33) : Int).toNat * 3 + 2, none⟩ = some (.int .i64 ((rd_T40 x4_3 (ji33)).f2)) := hcc38 2 _ rfl
                   have hf38_0 : World.frozen? _ ⟨go38, ((ji33) : Int).toNat * 3, none⟩ = false := hfr38 0
                   have hf38_1 : World.frozen? _ ⟨go38, ((ji33) : Int).toNat * 3 + 1, none⟩ = false := hfr38 1
                   have hf38_2 : World.frozen? _ ⟨go38, ((ji33) : Int).toNat * 3 + 2, none⟩ = false := hfr38 2
                   clear hcl38 hcc38 hfr38 hM38
                   replace p38 := eq_true p38
                   replace q38 := eq_true q38
                   obtain ⟨ce43, hcl43, hM43, hcc43, hfr43⟩ := Kd.R_elem HO_4.out z40 ((ji33) : Int) (of_decide_eq_true (by assumption)) (by have h_ : ((ji33) : Int) < ((x4_3.length : Int) : Int) := of_decide_eq_true (by assumption); first | exact h_ | (have e_ := (Kd.R_reads' HO_4.out).1; omega) | simpa using h_)
                   obtain rfl := k40_openM hM43
                   have HP43 := (Kd.R_seg HO_4.out ((ji33) : Int) (of_decide_eq_true (by assumption)) (by have h_ : ((ji33) : Int) < ((x4_3.length : Int) : Int) := of_decide_eq_true (by assumption); first | exact h_ | (have e_ := (Kd.R_reads' HO_4.out).1; omega) | simpa using h_) (seg := [.int .i64 ((rd_T40 x4_3 x8_3).f0), .int .u64 ((rd_T40 x4_3 x8_3).f1), .int .i64 ((rd_T40 x4_3 x8_3).f2)]) (j := 0) hcl43 hcc43 (show 3 ≤ 3 from by decide) (x' := (⟨(rd_T40 x4_3 x8_3).f0, (rd_T40 x4_3 x8_3).f1, (rd_T40 x4_3 x8_3).f2⟩ : S40)) (k40_mkM _ _ _ (⟨(rd_T40 x4_3 x8_3).f0, (rd_T40 x4_3 x8_3).f1, (rd_T40 x4_3 x8_3).f2⟩ : S40) ) (fun _ hk => hk)).1
                   rw [← Ny201.out] at HP43
                   have HQ43 := Aside0.mk HP43
                   clear hcl43 hcc43 hfr43 hM43 HP43
                   have p39 : 0 ≤ (x8_3 : Int) := of_decide_eq_true (by assumption)
                   have q39 : (x8_3 : Int) < ((x4_3.length : Int) : Int) := of_decide_eq_true (by assumption)
                   obtain ⟨ce39, hcl39, hM39, hcc39, hfr39⟩ := Kd.R_elem HQ43.out z40 (x8_3 : Int) p39 q39
                   obtain rfl := k40_openM hM39
                   have hx39_0 : World.cell? _ ⟨go38, (x8_3 : Int).toNat * 3, none⟩ = some (.int .i64 ((rd_T40 y201 x8_3).f0)) := hcc39 0 _ rfl
                   have hx39_1 : World.cell? _ ⟨go38, (x8_3 : Int).toNat * 3 + 1, none⟩ = some (.int .u64 ((rd_T40 y201 x8_3).f1)) := hcc39 1 _ rfl
                   have hx39_2 : World.cell? _ ⟨go38, (x8_3 : Int).toNat * 3 + 2, none⟩ = some (.int .i64 ((rd_T40 y201 x8_3).f2)) := hcc39 2 _ rfl
                   have hf39_0 : World.frozen? _ ⟨go38, (x8_3 : Int).toNat * 3, none⟩ = false := hfr39 0
                   have hf39_1 : World.frozen? _ ⟨go38, (x8_3 : Int).toNat * 3 + 1, none⟩ = false := hfr39 1
                   have hf39_2 : World.frozen? _ ⟨go38, (x8_3 : Int).toNat * 3 + 2, none⟩ = false := hfr39 2
                   clear hcl39 hcc39 hfr39 hM39
                   replace p39 := eq_true p39
                   replace q39 := eq_true q39
                   obtain ⟨ce44, hcl44, hM44, hcc44, hfr44⟩ := Kd.R_elem HQ43.out z40 (x8_3 : Int) (of_decide_eq_true (by assumption)) (by have h_ : (x8_3 : Int) < ((x4_3.length : Int) : Int) := of_decide_eq_true (by assumption); first | exact h_ | (have e_ := (Kd.R_reads' HO_4.out).1; omega) | simpa using h_)
                   obtain rfl := k40_openM hM44
                   have HP44 := (Kd.R_seg HQ43.out (x8_3 : Int) (of_decide_eq_true (by assumption)) (by have h_ : (x8_3 : Int) < ((x4_3.length : Int) : Int) := of_decide_eq_true (by assumption); first | exact h_ | (have e_ := (Kd.R_reads' HO_4.out).1; omega) | simpa using h_) (seg := [.int .i64 ((rd_T40 x4_3 (ji33)).f0), .int .u64 ((rd_T40 x4_3 (ji33)).f1), .int .i64 ((rd_T40 x4_3 (ji33)).f2)]) (j := 0) hcl44 hcc44 (show 3 ≤ 3 from by decide) (x' := (⟨(rd_T40 x4_3 (ji33)).f0, (rd_T40 x4_3 (ji33)).f1, (rd_T40 x4_3 (ji33)).f2⟩ : S40)) (k40_mkM _ _ _ (⟨(rd_T40 x4_3 (ji33)).f0, (rd_T40 x4_3 (ji33)).f1, (rd_T40 x4_3 (ji33)).f2⟩ : S40) ) (fun _ hk => hk)).1
                   rw [← Ny202.out] at HP44
                   have HQ44 := Aside0.mk HP44
                   clear hcl44 hcc44 hfr44 hM44 HP44
                   refine start_ (n := 18) (S := fun w' => w'.cell? ⟨go38, ((x8_3).toNat * 3), none⟩ = some (.int .i64 ((rd_T40 x4_3 x8_3).f0)) ∧ w'.cell? ⟨go38, ((x8_3).toNat * 3) + 1, none⟩ = some (.int .u64 ((rd_T40 x4_3 x8_3).f1)) ∧ w'.cell? ⟨go38, ((x8_3).toNat * 3) + 2, none⟩ = some (.int .i64 ((rd_T40 x4_3 x8_3).f2)) ∧ w'.cell? ⟨go38, (((ji33)).toNat * 3), none⟩ = some (.int .i64 ((rd_T40 x4_3 (ji33)).f0)) ∧ w'.cell? ⟨go38, (((ji33)).toNat * 3) + 1, none⟩ = some (.int .u64 ((rd_T40 x4_3 (ji33)).f1)) ∧ w'.cell? ⟨go38, (((ji33)).toNat * 3) + 2, none⟩ = some (.int .i64 ((rd_T40 x4_3 (ji33)).f2))) (ds := [15, 17]) (mk_ 0 18) (by kernel_rfl) rfl rfl ⟨hx199_0, hx199_1, hx199_2, hx200_0, hx200_1, hx200_2⟩ (fun hHeld => ?_); refine with_tabW marchlandref03_sums.tab17 marchlandref03_sums.bits17 (fun HT_ HW_ => ?_)
                   generalize w41.drew = w42 at HO_4 HB GG38 HQ43 HQ44 hf38_0 hf38_1 hf38_2 hf39_0 hf39_1 hf39_2 hx196_0 hx196_1 hx196_2 hx197_0 hx197_1 hx197_2 hx199_0 hx199_1 hx199_2 hx200_0 hx200_1 hx200_2 hx38_0 hx38_1 hx38_2 hx39_0 hx39_1 hx39_2 hHeld ⊢
                   refine pv_ 0 91 (mk_ 1 17) HT_ ?_
                   refine pv_ 1 92 (mk_ 2 16) HT_ ?_
                   refine pv_ 2 93 (mk_ 3 15) HT_ ?_
                   refine pv_ 3 94 (mk_ 4 14) HT_ ?_
                   refine pv_ 4 95 (mk_ 5 13) HT_ ?_
                   refine pv_ 5 96 (mk_ 6 12) HT_ ?_
                   refine pv_ 6 97 (mk_ 7 11) HT_ ?_
                   refine pv_ 7 98 (mk_ 8 10) HT_ ?_
                   refine pv_ 9 100 #[true, true, true, true, true, true, true, true, false, true, false, false, false, false, false, false, false, false] HT_ ?_
                   refine pv_ 10 101 #[true, true, true, true, true, true, true, true, false, true, true, false, false, false, false, false, false, false] HT_ ?_
                   refine pv_ 11 102 #[true, true, true, true, true, true, true, true, false, true, true, true, false, false, false, false, false, false] HT_ ?_
                   refine pv_ 12 103 #[true, true, true, true, true, true, true, true, false, true, true, true, true, false, false, false, false, false] HT_ ?_
                   refine tv_ 8 99 (mk_ 13 5) HT_ HW_ hHeld (hy := by rintro w' ⟨s0, s1, s2, s3, s4, s5⟩; go_simp; with_reducible rfl) (h := ?_)
                   refine tv_ 13 104 (mk_ 14 4) HT_ HW_ hHeld (hy := by rintro w' ⟨s0, s1, s2, s3, s4, s5⟩; go_simp; with_reducible rfl) (h := ?_)
                   refine pv_ 14 105 (mk_ 15 3) HT_ ?_
                   refine last_ (i := 15) (N := none) (mk_ 16 2) rfl rfl (one_of HT_.out (by kernel_rfl)) (by decide) (fun K hK => ?_)
                   refine skip_ (w1 := ?_) (by rfl) rfl ?_ ?_
                   rotate_left
                   ·go_simp
                    rfl
                   refine hK.out _ _ ?_
                   clear hK K
                   refine pv_ 16 106 (mk_ 17 1) HT_ ?_
                   refine last_ (i := 17) (N := none) (mk_ 18 0) rfl rfl (one_of HT_.out (by kernel_rfl)) (by decide) (fun K hK => ?_)
                   refine skip_ (w1 := ?_) (by rfl) rfl ?_ ?_
                   rotate_left
                   ·have hne_ : ¬ (ji33.toNat = x8_3.toNat) := fun e_ => by have h1_ := hji33; have h2_ : 0 ≤ ji33 := of_eq_true p38; have h3_ : 0 ≤ x8_3 := of_eq_true p39; unfold wrap64 at h1_; omega
                    have hne2_ : ¬ (x8_3.toNat = ji33.toNat) := fun e_ => hne_ e_.symm
                    have hfz0_ : w42.frozen? ⟨go38, x8_3.toNat * 3, none⟩ = false := by have h_ := hf39_0; simpa [World.frozen?_setCell, World.setCells] using h_
                    have hfz1_ : w42.frozen? ⟨go38, x8_3.toNat * 3 + 1, none⟩ = false := by have h_ := hf39_1; simpa [World.frozen?_setCell, World.setCells] using h_
                    have hfz2_ : w42.frozen? ⟨go38, x8_3.toNat * 3 + 2, none⟩ = false := by have h_ := hf39_2; simpa [World.frozen?_setCell, World.setCells] using h_
                    go_simp
                    rfl
                   refine hK.out _ _ ?_
                   clear hK K
                   refine done_ (done_of HT_.out (by kernel_rfl)) ?_
                   try go_wp2
                   (try simp only [← hl4_3])
                   go_roundg k3
                   case measure => have := HK1.out; have := HK2.out; have := HK3.out; omega
                   case rel => exact ⟨(y202), (ji33), (by first | rfl | (simp; done) | (simp only [← hji33] <;> (first | rfl | simp)) | (simp [*]; done)), H', ⟨by have := HK1.out; have := HK2.out; have := HK3.out; omega⟩, ⟨by (try simp only [hl4_3]); (with_reducible repeat (first | apply Kd.R_alloc | apply Kd.R_drewN | apply Kd.R_drew)); exact HQ44.out⟩, ⟨by repeat (first | (with_reducible first | exact HB.out | apply below_alloc | apply pw_below_drewN | apply below_drew1 | refine below_set ?_ GB38.out | refine below_set ?_ GB38.out | refine below_set ?_ GB38.out | refine below_set ?_ GB38.out | refine below_set ?_ GB38.out | refine below_set ?_ GB38.out) | exact HB.out)⟩⟩
                  ·replace c37 := Bool.eq_false_iff.mpr c37
                   subst c37
                   have H1 : (marchlandref03_sums.l0 k3 l0 x4_3 (wrap64 (x5_1 + 1))) = some (r1, r2) := by rw [if_neg (show ¬ (false = true) by decide)] at H; exact H
                   clear H
                   have H := H1
                   clear H1
                   have H' := Aside0.mk H
                   clear H
                   try go_wp2
                   have n0_ := Aside0.mk (Kd.R_drew HO_4.out)
                   have n1_ := Aside0.mk (below_drew1 HB.out)
                   clear HO_4
                   clear HB
                   have HO_4 := n0_
                   have HB := n1_
                   clear n0_ n1_
                   have p196 : 0 ≤ (x8_3 : Int) := of_decide_eq_true (by assumption)
                   have q196 : x8_3 < (x4_3.length : Int) := of_decide_eq_true (by assumption)
                   obtain ⟨ad196, e196, hx196_0, hx196_1, hx196_2⟩ := at_T40 (Kd.R_reads' HO_4.out).2.2 x8_3 p196 q196
                   cases e196
                   replace p196 := eq_true p196
                   replace q196 := eq_true q196
                   have p197 : 0 ≤ ((ji33) : Int) := of_decide_eq_true (by assumption)
                   have q197 : (ji33) < (x4_3.length : Int) := of_decide_eq_true (by assumption)
                   obtain ⟨ad197, e197, hx197_0, hx197_1, hx197_2⟩ := at_T40 (Kd.R_reads' HO_4.out).2.2 (ji33) p197 q197
                   obtain rfl : ad196 = ad197 := (by injection e197)
                   replace p197 := eq_true p197
                   replace q197 := eq_true q197
                   refine start_ (n := 14) (S := fun w' => w'.cell? (ad196.add ((x8_3).toNat * 3)) = some (.int .i64 ((rd_T40 x4_3 x8_3).f0)) ∧ w'.cell? ⟨(ad196.add ((x8_3).toNat * 3)).block, (ad196.add ((x8_3).toNat * 3)).off + 1, none⟩ = some (.int .u64 ((rd_T40 x4_3 x8_3).f1)) ∧ w'.cell? ⟨(ad196.add ((x8_3).toNat * 3)).block, (ad196.add ((x8_3).toNat * 3)).off + 2, none⟩ = some (.int .i64 ((rd_T40 x4_3 x8_3).f2)) ∧ w'.cell? (ad196.add (((ji33)).toNat * 3)) = some (.int .i64 ((rd_T40 x4_3 (ji33)).f0)) ∧ w'.cell? ⟨(ad196.add (((ji33)).toNat * 3)).block, (ad196.add (((ji33)).toNat * 3)).off + 1, none⟩ = some (.int .u64 ((rd_T40 x4_3 (ji33)).f1)) ∧ w'.cell? ⟨(ad196.add (((ji33)).toNat * 3)).block, (ad196.add (((ji33)).toNat * 3)).off + 2, none⟩ = some (.int .i64 ((rd_T40 x4_3 (ji33)).f2))) (ds := []) (mk_ 0 14) (by kernel_rfl) rfl rfl ⟨hx196_0, hx196_1, hx196_2, hx197_0, hx197_1, hx197_2⟩ (fun hHeld => ?_); refine with_tabW marchlandref03_sums.tab15 marchlandref03_sums.bits15 (fun HT_ HW_ => ?_)
                   generalize wr.drew = w45 at HO_4 HB hx196_0 hx196_1 hx196_2 hx197_0 hx197_1 hx197_2 hHeld ⊢
                   refine pv_ 0 75 (mk_ 1 13) HT_ ?_
                   refine pv_ 1 76 (mk_ 2 12) HT_ ?_
                   refine pv_ 2 77 (mk_ 3 11) HT_ ?_
                   refine pv_ 3 78 (mk_ 4 10) HT_ ?_
                   refine pv_ 4 79 (mk_ 5 9) HT_ ?_
                   refine pv_ 5 80 (mk_ 6 8) HT_ ?_
                   refine pv_ 7 82 #[true, true, true, true, true, true, false, true, false, false, false, false, false, false] HT_ ?_
                   refine pv_ 8 83 #[true, true, true, true, true, true, false, true, true, false, false, false, false, false] HT_ ?_
                   refine pv_ 9 84 #[true, true, true, true, true, true, false, true, true, true, false, false, false, false] HT_ ?_
                   refine pv_ 10 85 #[true, true, true, true, true, true, false, true, true, true, true, false, false, false] HT_ ?_
                   refine tv_ 6 81 (mk_ 11 3) HT_ HW_ hHeld (hy := by rintro w' ⟨s0, s1, s2, s3, s4, s5⟩; go_simp; with_reducible rfl) (h := ?_)
                   refine tv_ 11 86 (mk_ 12 2) HT_ HW_ hHeld (hy := by rintro w' ⟨s0, s1, s2, s3, s4, s5⟩; go_simp; with_reducible rfl) (h := ?_)
                   refine one_ (i := 12) (N := some 87) (mk_ 13 1) rfl rfl (one_of HT_.out (by kernel_rfl)) (by decide) (fun K hK => ?_)
                   refine goes_ Try.func54 (by kernel_rfl) rfl #[.agg #[.int .i64 ((rd_T40 x4_3 x8_3).f0), .int .u64 ((rd_T40 x4_3 x8_3).f1), .int .i64 ((rd_T40 x4_3 x8_3).f2)], .agg #[.int .i64 ((rd_T40 x4_3 (ji33)).f0), .int .u64 ((rd_T40 x4_3 (ji33)).f1), .int .i64 ((rd_T40 x4_3 (ji33)).f2)]] (by rfl) rfl rfl (by (try simp only [List.map_toArray, List.map_cons, List.map_nil]); first | done | (simp only [hji33]; rfl) | rfl | (simp only [List.length_drop, List.length_take]; rfl)) ?_
                   with_reducible refine (marchlandref03_before.calls ((rd_T40 x4_3 x8_3).f0) ((rd_T40 x4_3 x8_3).f1) ((rd_T40 x4_3 x8_3).f2) ((rd_T40 x4_3 (ji33)).f0) ((rd_T40 x4_3 (ji33)).f1) ((rd_T40 x4_3 (ji33)).f2) false _ A36.out).mono ?_
                   rintro e w46 ⟨rfl, hb⟩
                   have HS0_ := (hb.cell (World.block_lt_of_cell? _ _ (hHeld.1))).trans (hHeld.1)
                   have HS1_ := (hb.cell (World.block_lt_of_cell? _ _ (hHeld.2.1))).trans (hHeld.2.1)
                   have HS2_ := (hb.cell (World.block_lt_of_cell? _ _ (hHeld.2.2.1))).trans (hHeld.2.2.1)
                   have HS3_ := (hb.cell (World.block_lt_of_cell? _ _ (hHeld.2.2.2.1))).trans (hHeld.2.2.2.1)
                   have HS4_ := (hb.cell (World.block_lt_of_cell? _ _ (hHeld.2.2.2.2.1))).trans (hHeld.2.2.2.2.1)
                   have HS5_ := (hb.cell (World.block_lt_of_cell? _ _ (hHeld.2.2.2.2.2))).trans (hHeld.2.2.2.2.2)
                   refine ⟨_, rfl, ?_⟩
                   have n0_ := Aside0.mk (Kd.R_below (rn HO_4) hb)
                   have n1_ := Aside0.mk (below_step (bn HB) hb)
                   clear HO_4
                   clear HB
                   have HO_4 := n0_
                   have HB := n1_
                   clear n0_ n1_
                   (try clear hb)
                   (try clear hb2)
                   (try clear hk)
                   (try clear hi)
                   refine hK.out _ _ ⟨HS0_, HS1_, HS2_, HS3_, HS4_, HS5_⟩ (fun hHeld => ?_)
                   clear hK K
                   refine norm_ (a' := ?_) ?_ ?_
                   rotate_left
                   ·show Act.put _ (some 87) _ = _
                    simp only [Act.put, List.setIfInBounds_toArray, List.set_cons_zero, List.set_cons_succ, i64_w, i32_w]
                    rfl
                   refine pv_ 13 88 (mk_ 14 0) HT_ ?_
                   refine done_ (done_of HT_.out (by kernel_rfl)) ?_
                   try go_wp2
                   (try simp only [← hl4_3])
                   go_roundg k3
                   case measure => have := HK1.out; have := HK2.out; have := HK3.out; omega
                   case rel => exact ⟨(x4_3), (wrap64 (x5_1 + 1)), (by first | rfl | (simp; done) | (simp [*]; done)), H', ⟨by have := HK1.out; have := HK2.out; have := HK3.out; omega⟩, ⟨by (try simp only [hl4_3]); (with_reducible repeat (first | apply Kd.R_alloc | apply Kd.R_drewN | apply Kd.R_drew)); exact HO_4.out⟩, ⟨by repeat (first | (with_reducible first | exact HB.out | apply below_alloc | apply pw_below_drewN | apply below_drew1) | exact HB.out)⟩⟩
                 ·rw [if_neg c35] at H
                  exact absurd H (by simp)
                ·rw [if_neg c34] at H
                 exact absurd H (by simp)
               ·rw [if_neg c32] at H
                exact absurd H (by simp)
              ·rw [if_neg c31] at H
               exact absurd H (by simp)
             ·rw [if_neg c30] at H
              have c30b0 : decide (0 < x8_3) = false := decide_eq_false c30
              clear c30
              have H' := Aside0.mk H
              clear H
              try go_wp2
              have n0_ := Aside0.mk (Kd.R_drew HO_4.out)
              have n1_ := Aside0.mk (below_drew1 HB.out)
              clear HO_4
              clear HB
              have HO_4 := n0_
              have HB := n1_
              clear n0_ n1_
              refine start_ (n := 14) (S := fun w' => True) (ds := []) (mk_ 0 14) (by kernel_rfl) rfl rfl trivial (fun hHeld => ?_); refine with_tabW marchlandref03_sums.tab15 marchlandref03_sums.bits15 (fun HT_ HW_ => ?_)
              generalize wr.drew = w47 at HO_4 HB hHeld ⊢
              refine pv_ 0 75 (mk_ 1 13) HT_ ?_
              refine pv_ 1 76 (mk_ 2 12) HT_ ?_
              refine pv_ 2 77 (mk_ 3 11) HT_ ?_
              refine pu_ 3 78 (mk_ 4 10) HT_ ?_
              refine pu_ 4 79 (mk_ 5 9) HT_ ?_
              refine pu_ 5 80 (mk_ 6 8) HT_ ?_
              refine pu_ 6 81 (mk_ 7 7) HT_ ?_
              refine pu_ 7 82 (mk_ 8 6) HT_ ?_
              refine pu_ 8 83 (mk_ 9 5) HT_ ?_
              refine pu_ 9 84 (mk_ 10 4) HT_ ?_
              refine pu_ 10 85 (mk_ 11 3) HT_ ?_
              refine pu_ 11 86 (mk_ 12 2) HT_ ?_
              refine pu_ 12 87 (mk_ 13 1) HT_ ?_
              refine pv_ 13 88 (mk_ 14 0) HT_ ?_
              refine done_ (done_of HT_.out (by kernel_rfl)) ?_
              try go_wp2
              (try simp only [← hl4_3])
              go_roundg k3
              case measure => have := HK1.out; have := HK2.out; have := HK3.out; omega
              case rel => exact ⟨(x4_3), (wrap64 (x5_1 + 1)), (by first | rfl | (simp; done) | (simp [*]; done)), H', ⟨by have := HK1.out; have := HK2.out; have := HK3.out; omega⟩, ⟨by (try simp only [hl4_3]); (with_reducible repeat (first | apply Kd.R_alloc | apply Kd.R_drewN | apply Kd.R_drew)); exact HO_4.out⟩, ⟨by repeat (first | (with_reducible first | exact HB.out | apply below_alloc | apply pw_below_drewN | apply below_drew1) | exact HB.out)⟩⟩
          ·rw [if_neg c26] at H
           exact absurd H (by simp)
         ·rw [if_neg c25] at H
          exact absurd H (by simp)
        ·rw [if_neg c24] at H
         exact absurd H (by simp)
   ·rw [if_neg c2] at H
    have c2b0 : decide (x5_1 < (l0.length : Int)) = false := decide_eq_false c2
    clear c2
    have H' := Aside0.mk H
    clear H
    go_wp2
    go_loopg [9, 10] k1 (fun kq v9 v10 w' => ∃ (x9_2 : List (S40)) (x10_2 : Int), v10 = .int .i64 x10_2 ∧ Aside0 (marchlandref03_sums.l3 kq x4_1 x9_2 x10_2 = some (r1, r2)) ∧ Aside0 (kq ≤ k1) ∧ Aside0 (Kd.R k40 40 w' w.heap.size (fun k_ => some k_ ≠ (v9 : Value).ownBlock) u4 x4_1) ∧ Aside0 (Kd.R k40 40 w' w.heap.size (fun k_ => some k_ ≠ (u4 : Value).ownBlock) v9 x9_2) ∧ Aside0 (Below w.heap.size w w'))
    case atStart => exact ⟨(([] : List (S40))), (0), (by first | rfl | (simp; done) | (simp [*]; done)), H', ⟨Nat.le_refl _⟩, ⟨by (with_reducible repeat (first | apply Kd.R_alloc | apply Kd.R_drewN | apply Kd.R_drew)); exact Kd.R_mono HO_4.out (fun _ hk => (by simp [Value.ownBlock]))⟩, ⟨by first | exact Kd.R_nil _ _ _ _ _ | exact Kd.N_nil _ _ _ _ _ | exact Kd.V_nil _ _ _ _ _ | exact Kd.Q_nil _ _ _ _ _ | exact Kd.S_nil _ _ _ _ _⟩, ⟨by repeat (first | (with_reducible first | exact HB.out | apply below_alloc | apply pw_below_drewN | apply below_drew1) | exact HB.out)⟩⟩
    case round =>
     clear H'
     (try clear p1); (try clear q1); (try clear hx1); (try clear c2); (try clear c2b0); (try clear p2); (try clear q2); (try clear hx2); (try clear c3); (try clear p3); (try clear q3); (try clear hx3); (try clear hf3); (try clear c4); (try clear c5); (try clear p6); (try clear p19); (try clear q19); (try clear hx19)
     (try clear p20); (try clear q20); (try clear hx20); (try clear c24); (try clear c25); (try clear c26); (try clear c30); (try clear c30b0); (try clear c31); (try clear c32); (try clear c34); (try clear c35); (try clear c37); (try clear c38); (try clear p38); (try clear q38); (try clear hx38); (try clear hf38)
     (try clear c39); (try clear p39); (try clear q39); (try clear hx39); (try clear hf39); (try clear c43); (try clear c44); (try clear hx196_0); (try clear hx196_1); (try clear hx196_2); (try clear hx197_0); (try clear hx197_1); (try clear hx197_2); (try clear hx199_0); (try clear hx199_1); (try clear hx199_2)
     (try clear hx200_0); (try clear hx200_1); (try clear hx200_2); (try clear hx38_0); (try clear hx38_1); (try clear hx38_2); (try clear hx39_0); (try clear hx39_1); (try clear hx39_2); (try clear p196); (try clear p197); (try clear p199); (try clear p200); (try clear p38); (try clear p39); (try clear q196)
     (try clear q197); (try clear q199); (try clear q200); (try clear q38); (try clear q39)
     obtain ⟨x9_2, x10_2, rfl, HA, HK2, HO_4, HO_9, HB⟩ := hrel
     cases gk with
     | zero => exact absurd HA.out (by simp [marchlandref03_sums.l3])
     | succ k2 =>
      have H := HA.out
      clear HA
      simp only [marchlandref03_sums.l3] at H
      by_cases c48 : x10_2 < (x4_1.length : Int)
      ·rw [if_pos c48] at H
       have c48b0 : decide (x10_2 < (x4_1.length : Int)) = true := decide_eq_true c48
       clear c48
       by_cases c49 : 0 ≤ x10_2
       ·rw [if_pos c49] at H
        have c49b0 : decide (0 ≤ x10_2) = true := decide_eq_true c49
        clear c49
        replace H := Option.bind_eq_some_iff.mp H
        obtain ⟨t204, A500, H⟩ := H
        replace H : (if t204 = true then (if ((rd_T40 x4_1 x10_2).f2) = 0 then (marchlandref03_sums.l3 k2 x4_1 x9_2 (wrap64 (x10_2 + 1))) else (if x9_2.length < 5864062014805 then (marchlandref03_sums.l3 k2 x4_1 (x9_2 ++ [(⟨(rd_T40 x4_1 x10_2).f0, (rd_T40 x4_1 x10_2).f1, (rd_T40 x4_1 x10_2).f2⟩ : S40)]) (wrap64 (x10_2 + 1))) else (none))) else (some (([] : List (S40)), false))) = some (r1, r2) := H
        have A50 := Aside0.mk A500
        clear A500
        by_cases c51 : t204 = true
        ·subst c51
         have H1 : (if ((rd_T40 x4_1 x10_2).f2) = 0 then (marchlandref03_sums.l3 k2 x4_1 x9_2 (wrap64 (x10_2 + 1))) else (if x9_2.length < 5864062014805 then (marchlandref03_sums.l3 k2 x4_1 (x9_2 ++ [(⟨(rd_T40 x4_1 x10_2).f0, (rd_T40 x4_1 x10_2).f1, (rd_T40 x4_1 x10_2).f2⟩ : S40)]) (wrap64 (x10_2 + 1))) else (none))) = some (r1, r2) := by rw [if_pos rfl] at H; exact H
         clear H
         have H := H1
         clear H1
         by_cases c52 : ((rd_T40 x4_1 x10_2).f2) = 0
         ·rw [if_pos c52] at H
          have c52b0 : (((rd_T40 x4_1 x10_2).f2) == 0) = true := beq_iff_eq.mpr c52
          have c52b1 : (((rd_T40 x4_1 x10_2).f2) != 0) = false := bne_eq_false_iff_eq.mpr c52
          clear c52
          have H' := Aside0.mk H
          clear H
          obtain ⟨Ao53, co53, eo53⟩ := Kd.R_slice HO_4.out
          subst eo53
          have p203 : 0 ≤ (x10_2 : Int) := of_decide_eq_true (by assumption)
          have q203 : x10_2 < (x4_1.length : Int) := of_decide_eq_true (by assumption)
          obtain ⟨ad203, e203, hx203_0, hx203_1, hx203_2⟩ := at_T40 (Kd.R_reads' HO_4.out).2.2 x10_2 p203 q203
          cases e203
          replace p203 := eq_true p203
          replace q203 := eq_true q203
          go_wp2_with (first | ((with_reducible refine gate_callee (f := 51) rfl ?_); refine gl (some 118) Try.func51 #[.int .i64 ((rd_T40 x4_1 x10_2).f2)] ?_; (with_reducible refine (marchlandref03_within.calls ((rd_T40 x4_1 x10_2).f2) true _ A50.out).mono ?_); rintro e w' ⟨rfl, ⟨nd, rfl⟩⟩; refine ⟨_, rfl, ?_⟩; have p205 : 0 ≤ (x10_2 : Int) := of_decide_eq_true (by assumption); have q205 : x10_2 < (x4_1.length : Int) := of_decide_eq_true (by assumption); obtain ⟨ad205, e205, hx205_0, hx205_1, hx205_2⟩ := at_T40 (Kd.R_reads' HO_4.out).2.2 x10_2 p205 q205; obtain rfl : ad203 = ad205 := (by injection e205); replace p205 := eq_true p205; replace q205 := eq_true q205))
          go_roundg k2
          case measure => have := HK1.out; have := HK2.out; omega
          case rel => exact ⟨(x9_2), (wrap64 (x10_2 + 1)), (by first | rfl | (simp; done) | (simp [*]; done)), H', ⟨by have := HK1.out; have := HK2.out; omega⟩, ⟨by (with_reducible repeat (first | apply Kd.R_alloc | apply Kd.R_drewN | apply Kd.R_drew)); exact HO_4.out⟩, ⟨by (with_reducible repeat (first | apply Kd.R_alloc | apply Kd.R_drewN | apply Kd.R_drew)); exact HO_9.out⟩, ⟨by repeat (first | (with_reducible first | exact HB.out | apply below_alloc | apply pw_below_drewN | apply below_drew1) | exact HB.out)⟩⟩
         ·rw [if_neg c52] at H
          have c52b0 : (((rd_T40 x4_1 x10_2).f2) == 0) = false := beq_eq_false_iff_ne.mpr c52
          have c52b1 : (((rd_T40 x4_1 x10_2).f2) != 0) = true := bne_iff_ne.mpr c52
          by_cases c54 : x9_2.length < 5864062014805
          ·rw [if_pos c54] at H
           have LMc54 := Aside0.mk c54
           clear c54
           obtain ⟨y207, hy207⟩ : ∃ y_ : List (S40), y_ = (x9_2 ++ [(⟨(rd_T40 x4_1 x10_2).f0, (rd_T40 x4_1 x10_2).f1, (rd_T40 x4_1 x10_2).f2⟩ : S40)]) := ⟨_, rfl⟩
           replace H : (marchlandref03_sums.l3 k2 x4_1 y207 (wrap64 (x10_2 + 1))) = some (r1, r2) := by first | (rw [hy207]; with_reducible exact H) | (have H2_ := (Option.bind_some _ _).symm.trans H; rw [hy207]; with_reducible exact H2_) | (have H2_ := (Option.bind_some _ _).symm.trans H; with_reducible exact H2_) | with_reducible exact H | (rw [hy207]; exact H) | exact H
           have Ny207 := Aside0.mk hy207
           clear hy207
           have H' := Aside0.mk H
           clear H
           obtain ⟨Ao55, co55, eo55⟩ := Kd.R_slice HO_4.out
           subst eo55
           have p203 : 0 ≤ (x10_2 : Int) := of_decide_eq_true (by assumption)
           have q203 : x10_2 < (x4_1.length : Int) := of_decide_eq_true (by assumption)
           obtain ⟨ad203, e203, hx203_0, hx203_1, hx203_2⟩ := at_T40 (Kd.R_reads' HO_4.out).2.2 x10_2 p203 q203
           cases e203
           replace p203 := eq_true p203
           replace q203 := eq_true q203
           go_wp2_with (first | ((with_reducible refine gate_callee (f := 51) rfl ?_); refine gl (some 118) Try.func51 #[.int .i64 ((rd_T40 x4_1 x10_2).f2)] ?_; (with_reducible refine (marchlandref03_within.calls ((rd_T40 x4_1 x10_2).f2) true _ A50.out).mono ?_); rintro e w' ⟨rfl, ⟨nd, rfl⟩⟩; refine ⟨_, rfl, ?_⟩; have p205 : 0 ≤ (x10_2 : Int) := of_decide_eq_true (by assumption); have q205 : x10_2 < (x4_1.length : Int) := of_decide_eq_true (by assumption); obtain ⟨ad205, e205, hx205_0, hx205_1, hx205_2⟩ := at_T40 (Kd.R_reads' HO_4.out).2.2 x10_2 p205 q205; obtain rfl : ad203 = ad205 := (by injection e205); replace p205 := eq_true p205; replace q205 := eq_true q205; have p206 : 0 ≤ (x10_2 : Int) := of_decide_eq_true (by assumption); have q206 : x10_2 < (x4_1.length : Int) := of_decide_eq_true (by assumption); obtain ⟨ad206, e206, hx206_0, hx206_1, hx206_2⟩ := at_T40 (Kd.R_reads' HO_4.out).2.2 x10_2 p206 q206; obtain rfl : ad203 = ad206 := (by injection e206); replace p206 := eq_true p206; replace q206 := eq_true q206) | ((with_reducible refine gate_builtin (b := .append) (xs := #[.tmp 126, .tmp 131]) rfl ?_); at_builtin; refine Kd.R_append k40 (w0 := w) w.heap.size rfl (.tmp 126) (.tmp 131) 22 40 (.agg #[(.int .i64 0), (.int .u64 0), (.int .i64 0)]) 24 rfl Try.underlying22 info40 rfl (by decide) (by omega) u9 x9_2 (⟨(rd_T40 x4_1 x10_2).f0, (rd_T40 x4_1 x10_2).f1, (rd_T40 x4_1 x10_2).f2⟩ : S40) [.int .i64 ((rd_T40 x4_1 x10_2).f0), .int .u64 ((rd_T40 x4_1 x10_2).f1), .int .i64 ((rd_T40 x4_1 x10_2).f2)] (fun k_ => some k_ ≠ (.slice (some ad203) x4_1.length co55 : Value).ownBlock) (fun _ => False) rfl rfl ?aP (fun _ hk => hk.elim) ?aF ?aO ?aB ?aS ?aL ?_; (case aP => exact k40_mkM _ _ _ (⟨(rd_T40 x4_1 x10_2).f0, (rd_T40 x4_1 x10_2).f1, (rd_T40 x4_1 x10_2).f2⟩ : S40)); (case aB => exact (bn HB)); (case aF => exact (fun k_ hk => Kd.fresh' (Kd.R_lt (rn HO_4)) k_ hk)); (case aO => exact (rn HO_9)); (case aS => exact (below_size (bn HB))); (case aL => have := LMc54.out; omega); intro v208 w56 ho hb hg hat; rw [← Ny207.out] at ho; have n0_ := Aside0.mk (Kd.R_after (ok := (fun _ => True)) (by (with_reducible repeat (first | apply Kd.R_alloc | apply Kd.R_drewN | apply Kd.R_drew)); exact Kd.R_mono HO_4.out (fun _ hk => ⟨trivial, hk⟩)) hg hat); have n1_ := Aside0.mk (hb); have n2_ := Aside0.mk (ho); clear HO_4; clear HB; clear HO_9; have HO_4 := n0_; have HB := n1_; have HO209 := n2_; clear n0_ n1_ n2_; clear ho hb hg hat))
           go_roundg k2
           case measure => have := HK1.out; have := HK2.out; omega
           case rel => exact ⟨(y207), (wrap64 (x10_2 + 1)), (by first | rfl | (simp; done) | (simp [*]; done)), H', ⟨by have := HK1.out; have := HK2.out; omega⟩, ⟨by (with_reducible repeat (first | apply Kd.R_alloc | apply Kd.R_drewN | apply Kd.R_drew)); exact Kd.R_mono HO_4.out (fun _ hk => hk.2)⟩, ⟨by (with_reducible repeat (first | apply Kd.R_alloc | apply Kd.R_drewN | apply Kd.R_drew)); exact HO209.out⟩, ⟨by repeat (first | (with_reducible first | exact HB.out | apply below_alloc | apply pw_below_drewN | apply below_drew1) | exact HB.out)⟩⟩
          ·rw [if_neg c54] at H
           exact absurd H (by simp)
        ·replace c51 := Bool.eq_false_iff.mpr c51
         subst c51
         have H1 : (some (([] : List (S40)), false)) = some (r1, r2) := by rw [if_neg (show ¬ (false = true) by decide)] at H; exact H
         clear H
         have H := H1
         clear H1
         simp only [Option.some.injEq, Prod.mk.injEq] at H
         obtain ⟨rfl, rfl⟩ := H
         obtain ⟨Ao57, co57, eo57⟩ := Kd.R_slice HO_4.out
         subst eo57
         have p203 : 0 ≤ (x10_2 : Int) := of_decide_eq_true (by assumption)
         have q203 : x10_2 < (x4_1.length : Int) := of_decide_eq_true (by assumption)
         obtain ⟨ad203, e203, hx203_0, hx203_1, hx203_2⟩ := at_T40 (Kd.R_reads' HO_4.out).2.2 x10_2 p203 q203
         cases e203
         replace p203 := eq_true p203
         replace q203 := eq_true q203
         go_wp2_with (first | ((with_reducible refine gate_callee (f := 51) rfl ?_); refine gl (some 118) Try.func51 #[.int .i64 ((rd_T40 x4_1 x10_2).f2)] ?_; (with_reducible refine (marchlandref03_within.calls ((rd_T40 x4_1 x10_2).f2) false _ A50.out).mono ?_); rintro e w' ⟨rfl, ⟨nd, rfl⟩⟩; refine ⟨_, rfl, ?_⟩))
         go_ret2
         exact ⟨_, by first | rfl | (simp [errW_none, errW_some] <;> rfl) | (simp [*, errW_none, errW_some] <;> rfl), by first | exact Kd.R_nil _ _ _ _ _ | exact Kd.N_nil _ _ _ _ _ | exact Kd.V_nil _ _ _ _ _ | exact Kd.Q_nil _ _ _ _ _ | exact Kd.S_nil _ _ _ _ _, by repeat (first | (with_reducible first | exact HB.out | apply below_alloc | apply pw_below_drewN | apply below_drew1) | exact HB.out)⟩
       ·rw [if_neg c49] at H
        exact absurd H (by simp)
      ·rw [if_neg c48] at H
       have c48b0 : decide (x10_2 < (x4_1.length : Int)) = false := decide_eq_false c48
       clear c48
       simp only [Option.some.injEq, Prod.mk.injEq] at H
       obtain ⟨rfl, rfl⟩ := H
       obtain ⟨Ao58, co58, eo58⟩ := Kd.R_slice HO_4.out
       subst eo58
       go_wp2
       go_ret2
       exact ⟨_, by first | rfl | (simp [errW_none, errW_some] <;> rfl) | (simp [*, errW_none, errW_some] <;> rfl), by (with_reducible repeat (first | apply Kd.R_alloc | apply Kd.R_drewN | apply Kd.R_drew)); exact Kd.R_mono HO_9.out (fun _ hk => trivial), by repeat (first | (with_reducible first | exact HB.out | apply below_alloc | apply pw_below_drewN | apply below_drew1) | exact HB.out)⟩
end Go.Proofs.Ytgeldmhgbnamcaa.P
end
section
-- Printed by the session's own turn of the print (wip/tools/print2.sh): some callees are proved by hand.
namespace Go.Proofs.Ytgeldmhgbnamcaa.P
open Go.RowKit Go.Proofs.YtgeldmhgbnamcaaW.PrintWords Go.Proofs.YtgeldmhgbnamcaaW.PrintLast Go.Proofs.YtgeldmhgbnamcaaW.PrintMore
attribute [local go_sem] max2_int min2_int max_two min_two max_three min_three max_four min_four   -- for this text's walks alone
set_option linter.unusedVariables false
set_option linter.unusedSimpArgs false
/-! ### marchlandref03_Fix: function 22 -/
def marchlandref03_Fix.l0 : Nat → List (S40) → List (S40) → Int → Option ((List (S40)))
 | 0, _, _, _ => none
 | k + 1, x0, x3, x4 => if x4 < (x0.length : Int) then (if x4 < 12 then (if 0 ≤ x4 then (if x3.length < 5864062014805 then (marchlandref03_Fix.l0 k x0 (x3 ++ [(⟨wrap64 (Int.tmod (IntKind.u64.wrap ((rd_T40 x0 x4).f0)) 64), Int.tmod ((rd_T40 x0 x4).f1) 18446744073709551615, Int.tmod ((rd_T40 x0 x4).f2) 1000⟩ : S40)]) (wrap64 (x4 + 1))) else (none)) else (none)) else ((marchlandref03_sums.f k x3).bind fun bt301 => (some bt301.1))) else ((marchlandref03_sums.f k x3).bind fun bt305 => (some bt305.1))
def marchlandref03_Fix.f (k : Nat) (l0 : List (S40)) : Option ((List (S40))) := marchlandref03_Fix.l0 k l0 ([] : List (S40)) 0
def marchlandref03_Fix.T5 : Bool × List (List Nat × List Nat) := (true, [([], []), ([], []), ([], []), ([1, 2], [1, 2]), ([3], [3]), ([4], [4]), ([5], [5]), ([6], [6]), ([7], [7]), ([], []), ([], []), ([9, 10], [9, 10]), ([11], [11]), ([12], [12]), ([13], [13]), ([], []), ([], []), ([15, 16], [15, 16]), ([17], [17]), ([18], [18]), ([19], [19]), ([8, 14, 20], [8, 14, 20]), ([21], [21]), ([0, 22], [0, 22]), ([23, 23, 0, 1, 2, 3, 4, 5, 6, 7, 8, 9, 10, 11, 12, 13, 14, 15, 16, 17, 18, 19, 20, 21, 22, 23], [0, 23])])
def marchlandref03_Fix.B5 : List Nat := [0, 0, 0, 6, 14, 30, 62, 126, 254, 0, 0, 1536, 3584, 7680, 15872, 0, 0, 98304, 229376, 491520, 1015808, 2097150, 4194302, 8388607, 16777215]
theorem marchlandref03_Fix.tab5 : rtab .any (opsOf Try.f22 5) = marchlandref03_Fix.T5 := by kernel_rfl
theorem marchlandref03_Fix.bits5 : waitsOk marchlandref03_Fix.T5.2 marchlandref03_Fix.B5 = true := by kernel_rfl
set_option maxHeartbeats 8000000 in
set_option maxRecDepth 100000 in
theorem marchlandref03_Fix.calls (k : Nat) (A0 : Option Addr) (c0 : Nat) (l0 : List (S40)) (r : List (S40)) (w : World) (hr0 : Kd.C k40 w A0 l0.length l0) (hc0 : l0.length ≤ c0) (h : marchlandref03_Fix.f k l0 = some r) :
  Calls Try.prog 22 #[.slice A0 l0.length c0] w fun e w' => ∃ v0_ : Value, e = .returned (v0_) ∧ Kd.R k40 40 w' w.heap.size (fun _ => True) v0_ r ∧ Below w.heap.size w w' := by
 have hu40 := Try.underlying40
 have HR0 := Aside0.mk hr0
 have HC0 := Aside0.mk hc0
 clear hr0 hc0
 have HB := Aside0.mk (Below.refl w.heap.size w)
 have H : (marchlandref03_Fix.l0 k l0 ([] : List (S40)) 0) = some r := h
 clear h
 have H' := Aside0.mk H
 clear H
 go_enter Try.func22, Try.ntmps22
 go_wp2
 go_loopg [3, 4] k (fun kq v3 v4 w' => ∃ (x3_1 : List (S40)) (x4_1 : Int), v4 = .int .i64 x4_1 ∧ Aside0 (marchlandref03_Fix.l0 kq l0 x3_1 x4_1 = some r) ∧ Aside0 (kq ≤ k) ∧ Aside0 (Kd.R k40 40 w' w.heap.size (fun _ => True) v3 x3_1) ∧ Aside0 (Below w.heap.size w w'))
 case atStart => exact ⟨(([] : List (S40))), (0), (by first | rfl | (simp; done) | (simp [*]; done)), H', ⟨Nat.le_refl _⟩, ⟨by first | exact Kd.R_nil _ _ _ _ _ | exact Kd.N_nil _ _ _ _ _ | exact Kd.V_nil _ _ _ _ _ | exact Kd.Q_nil _ _ _ _ _ | exact Kd.S_nil _ _ _ _ _⟩, ⟨by repeat (first | (with_reducible first | exact HB.out | apply below_alloc | apply pw_below_drewN | apply below_drew1) | exact HB.out)⟩⟩
 case round =>
  clear H'
  obtain ⟨x3_1, x4_1, rfl, HA, HK1, HO_3, HB⟩ := hrel
  cases gk with
  | zero => exact absurd HA.out (by simp [marchlandref03_Fix.l0])
  | succ k1 =>
   have H := HA.out
   clear HA
   simp only [marchlandref03_Fix.l0] at H
   by_cases c2 : x4_1 < (l0.length : Int)
   ·rw [if_pos c2] at H
    have c2b0 : decide (x4_1 < (l0.length : Int)) = true := decide_eq_true c2
    clear c2
    by_cases c3 : x4_1 < 12
    ·rw [if_pos c3] at H
     have c3b0 : decide (x4_1 < 12) = true := decide_eq_true c3
     clear c3
     by_cases c4 : 0 ≤ x4_1
     ·rw [if_pos c4] at H
      have c4b0 : decide (0 ≤ x4_1) = true := decide_eq_true c4
      clear c4
      by_cases c5 : x3_1.length < 5864062014805
      ·rw [if_pos c5] at H
       have LMc5 := Aside0.mk c5
       clear c5
       obtain ⟨y298, hy298⟩ : ∃ y_ : List (S40), y_ = (x3_1 ++ [(⟨wrap64 (Int.tmod (IntKind.u64.wrap ((rd_T40 l0 x4_1).f0)) 64), Int.tmod ((rd_T40 l0 x4_1).f1) 18446744073709551615, Int.tmod ((rd_T40 l0 x4_1).f2) 1000⟩ : S40)]) := ⟨_, rfl⟩
       replace H : (marchlandref03_Fix.l0 k1 l0 y298 (wrap64 (x4_1 + 1))) = some r := by first | (rw [hy298]; with_reducible exact H) | (have H2_ := (Option.bind_some _ _).symm.trans H; rw [hy298]; with_reducible exact H2_) | (have H2_ := (Option.bind_some _ _).symm.trans H; with_reducible exact H2_) | with_reducible exact H | (rw [hy298]; exact H) | exact H
       have Ny298 := Aside0.mk hy298
       clear hy298
       have H' := Aside0.mk H
       clear H
       try go_wp2
       have n0_ := Aside0.mk (Kd.R_drew HO_3.out)
       have n1_ := Aside0.mk (below_drew1 HB.out)
       clear HO_3
       clear HB
       have HO_3 := n0_
       have HB := n1_
       clear n0_ n1_
       have p295 : 0 ≤ (x4_1 : Int) := of_decide_eq_true (by assumption)
       have q295 : x4_1 < (l0.length : Int) := of_decide_eq_true (by assumption)
       obtain ⟨ad295, e295, hx295_0, hx295_1, hx295_2⟩ := at_T40 HR0.out x4_1 p295 q295
       have hw295_2 := hx295_2
       have hw295_1 := hx295_1
       have hw295_0 := hx295_0
       cases e295
       replace hx295_0 := (HB.out.cell (World.block_lt_of_cell? w _ hx295_0)).trans hx295_0
       replace hx295_1 := (HB.out.cell (World.block_lt_of_cell? w _ hx295_1)).trans hx295_1
       replace hx295_2 := (HB.out.cell (World.block_lt_of_cell? w _ hx295_2)).trans hx295_2
       replace p295 := eq_true p295
       replace q295 := eq_true q295
       have p296 : 0 ≤ (x4_1 : Int) := of_decide_eq_true (by assumption)
       have q296 : x4_1 < (l0.length : Int) := of_decide_eq_true (by assumption)
       obtain ⟨ad296, e296, hx296_0, hx296_1, hx296_2⟩ := at_T40 HR0.out x4_1 p296 q296
       have hw296_2 := hx296_2
       have hw296_1 := hx296_1
       have hw296_0 := hx296_0
       obtain rfl : ad295 = ad296 := (by injection e296)
       replace hx296_0 := (HB.out.cell (World.block_lt_of_cell? w _ hx296_0)).trans hx296_0
       replace hx296_1 := (HB.out.cell (World.block_lt_of_cell? w _ hx296_1)).trans hx296_1
       replace hx296_2 := (HB.out.cell (World.block_lt_of_cell? w _ hx296_2)).trans hx296_2
       replace p296 := eq_true p296
       replace q296 := eq_true q296
       have p297 : 0 ≤ (x4_1 : Int) := of_decide_eq_true (by assumption)
       have q297 : x4_1 < (l0.length : Int) := of_decide_eq_true (by assumption)
       obtain ⟨ad297, e297, hx297_0, hx297_1, hx297_2⟩ := at_T40 HR0.out x4_1 p297 q297
       have hw297_2 := hx297_2
       have hw297_1 := hx297_1
       have hw297_0 := hx297_0
       obtain rfl : ad295 = ad297 := (by injection e297)
       replace hx297_0 := (HB.out.cell (World.block_lt_of_cell? w _ hx297_0)).trans hx297_0
       replace hx297_1 := (HB.out.cell (World.block_lt_of_cell? w _ hx297_1)).trans hx297_1
       replace hx297_2 := (HB.out.cell (World.block_lt_of_cell? w _ hx297_2)).trans hx297_2
       replace p297 := eq_true p297
       replace q297 := eq_true q297
       refine start_ (n := 25) (S := fun w' => w'.cell? (ad295.add ((x4_1).toNat * 3)) = some (.int .i64 ((rd_T40 l0 x4_1).f0)) ∧ w'.cell? ⟨(ad295.add ((x4_1).toNat * 3)).block, (ad295.add ((x4_1).toNat * 3)).off + 1, none⟩ = some (.int .u64 ((rd_T40 l0 x4_1).f1)) ∧ w'.cell? ⟨(ad295.add ((x4_1).toNat * 3)).block, (ad295.add ((x4_1).toNat * 3)).off + 2, none⟩ = some (.int .i64 ((rd_T40 l0 x4_1).f2)) ∧ w'.cell? (ad295.add ((x4_1).toNat * 3)) = some (.int .i64 ((rd_T40 l0 x4_1).f0)) ∧ w'.cell? ⟨(ad295.add ((x4_1).toNat * 3)).block, (ad295.add ((x4_1).toNat * 3)).off + 1, none⟩ = some (.int .u64 ((rd_T40 l0 x4_1).f1)) ∧ w'.cell? ⟨(ad295.add ((x4_1).toNat * 3)).block, (ad295.add ((x4_1).toNat * 3)).off + 2, none⟩ = some (.int .i64 ((rd_T40 l0 x4_1).f2)) ∧ w'.cell? (ad295.add ((x4_1).toNat * 3)) = some (.int .i64 ((rd_T40 l0 x4_1).f0)) ∧ w'.cell? ⟨(ad295.add ((x4_1).toNat * 3)).block, (ad295.add ((x4_1).toNat * 3)).off + 1, none⟩ = some (.int .u64 ((rd_T40 l0 x4_1).f1)) ∧ w'.cell? ⟨(ad295.add ((x4_1).toNat * 3)).block, (ad295.add ((x4_1).toNat * 3)).off + 2, none⟩ = some (.int .i64 ((rd_T40 l0 x4_1).f2))) (ds := []) (mk_ 0 25) (by kernel_rfl) rfl rfl ⟨((HB.out.cell (World.block_lt_of_cell? w _ hw295_0)).trans hw295_0), ((HB.out.cell (World.block_lt_of_cell? w _ hw295_1)).trans hw295_1), ((HB.out.cell (World.block_lt_of_cell? w _ hw295_2)).trans hw295_2), ((HB.out.cell (World.block_lt_of_cell? w _ hw296_0)).trans hw296_0), ((HB.out.cell (World.block_lt_of_cell? w _ hw296_1)).trans hw296_1), ((HB.out.cell (World.block_lt_of_cell? w _ hw296_2)).trans hw296_2), ((HB.out.cell (World.block_lt_of_cell? w _ hw297_0)).trans hw297_0), ((HB.out.cell (World.block_lt_of_cell? w _ hw297_1)).trans hw297_1), ((HB.out.cell (World.block_lt_of_cell? w _ hw297_2)).trans hw297_2)⟩ (fun hHeld => ?_); refine with_tabW marchlandref03_Fix.tab5 marchlandref03_Fix.bits5 (fun HT_ HW_ => ?_)
       generalize wr.drew = w6 at HO_3 HB hx295_0 hx295_1 hx295_2 hx296_0 hx296_1 hx296_2 hx297_0 hx297_1 hx297_2 hHeld ⊢
       refine pv_ 0 17 (mk_ 1 24) HT_ ?_
       refine pv_ 1 18 (mk_ 2 23) HT_ ?_
       refine pv_ 2 19 (mk_ 3 22) HT_ ?_
       refine pv_ 3 20 (mk_ 4 21) HT_ ?_
       refine pv_ 4 21 (mk_ 5 20) HT_ ?_
       refine pv_ 9 26 #[true, true, true, true, true, false, false, false, false, true, false, false, false, false, false, false, false, false, false, false, false, false, false, false, false] HT_ ?_
       refine pv_ 10 27 #[true, true, true, true, true, false, false, false, false, true, true, false, false, false, false, false, false, false, false, false, false, false, false, false, false] HT_ ?_
       refine pv_ 11 28 #[true, true, true, true, true, false, false, false, false, true, true, true, false, false, false, false, false, false, false, false, false, false, false, false, false] HT_ ?_
       refine pv_ 12 29 #[true, true, true, true, true, false, false, false, false, true, true, true, true, false, false, false, false, false, false, false, false, false, false, false, false] HT_ ?_
       refine pv_ 15 32 #[true, true, true, true, true, false, false, false, false, true, true, true, true, false, false, true, false, false, false, false, false, false, false, false, false] HT_ ?_
       refine pv_ 16 33 #[true, true, true, true, true, false, false, false, false, true, true, true, true, false, false, true, true, false, false, false, false, false, false, false, false] HT_ ?_
       refine pv_ 17 34 #[true, true, true, true, true, false, false, false, false, true, true, true, true, false, false, true, true, true, false, false, false, false, false, false, false] HT_ ?_
       refine pv_ 18 35 #[true, true, true, true, true, false, false, false, false, true, true, true, true, false, false, true, true, true, true, false, false, false, false, false, false] HT_ ?_
       refine tv_ 5 22 #[true, true, true, true, true, true, false, false, false, true, true, true, true, false, false, true, true, true, true, false, false, false, false, false, false] HT_ HW_ hHeld (hy := by rintro w' ⟨s0, s1, s2, s3, s4, s5, s6, s7, s8⟩; go_simp; with_reducible rfl) (h := ?_)
       refine pv_ 6 23 #[true, true, true, true, true, true, true, false, false, true, true, true, true, false, false, true, true, true, true, false, false, false, false, false, false] HT_ ?_
       refine pv_ 7 24 #[true, true, true, true, true, true, true, true, false, true, true, true, true, false, false, true, true, true, true, false, false, false, false, false, false] HT_ ?_
       refine pv_ 8 25 #[true, true, true, true, true, true, true, true, true, true, true, true, true, false, false, true, true, true, true, false, false, false, false, false, false] HT_ ?_
       refine tv_ 13 30 #[true, true, true, true, true, true, true, true, true, true, true, true, true, true, false, true, true, true, true, false, false, false, false, false, false] HT_ HW_ hHeld (hy := by rintro w' ⟨s0, s1, s2, s3, s4, s5, s6, s7, s8⟩; go_simp; with_reducible rfl) (h := ?_)
       refine pv_ 14 31 (mk_ 19 6) HT_ ?_
       refine tv_ 19 36 (mk_ 20 5) HT_ HW_ hHeld (hy := by rintro w' ⟨s0, s1, s2, s3, s4, s5, s6, s7, s8⟩; go_simp; with_reducible rfl) (h := ?_)
       refine pv_ 20 37 (mk_ 21 4) HT_ ?_
       refine pv_ 21 38 (mk_ 22 3) HT_ ?_
       refine one_ (i := 22) (N := some 39) (mk_ 23 2) rfl rfl (one_of HT_.out (by kernel_rfl)) (by decide) (fun K hK => ?_)
       refine value_ (w1 := ?_) (v := ?_) (by rfl) rfl ?_ ?_
       rotate_left 2
       ·go_simp
        constructor
        ·rfl
        ·rfl
       refine hK.out _ _ ⟨(World.cell?_alloc_lt _ _ _ (World.block_lt_of_cell? _ _ (((HB.out.cell (World.block_lt_of_cell? w _ hw295_0)).trans hw295_0)))).trans (((HB.out.cell (World.block_lt_of_cell? w _ hw295_0)).trans hw295_0)), (World.cell?_alloc_lt _ _ _ (World.block_lt_of_cell? _ _ (((HB.out.cell (World.block_lt_of_cell? w _ hw295_1)).trans hw295_1)))).trans (((HB.out.cell (World.block_lt_of_cell? w _ hw295_1)).trans hw295_1)), (World.cell?_alloc_lt _ _ _ (World.block_lt_of_cell? _ _ (((HB.out.cell (World.block_lt_of_cell? w _ hw295_2)).trans hw295_2)))).trans (((HB.out.cell (World.block_lt_of_cell? w _ hw295_2)).trans hw295_2)), (World.cell?_alloc_lt _ _ _ (World.block_lt_of_cell? _ _ (((HB.out.cell (World.block_lt_of_cell? w _ hw296_0)).trans hw296_0)))).trans (((HB.out.cell (World.block_lt_of_cell? w _ hw296_0)).trans hw296_0)), (World.cell?_alloc_lt _ _ _ (World.block_lt_of_cell? _ _ (((HB.out.cell (World.block_lt_of_cell? w _ hw296_1)).trans hw296_1)))).trans (((HB.out.cell (World.block_lt_of_cell? w _ hw296_1)).trans hw296_1)), (World.cell?_alloc_lt _ _ _ (World.block_lt_of_cell? _ _ (((HB.out.cell (World.block_lt_of_cell? w _ hw296_2)).trans hw296_2)))).trans (((HB.out.cell (World.block_lt_of_cell? w _ hw296_2)).trans hw296_2)), (World.cell?_alloc_lt _ _ _ (World.block_lt_of_cell? _ _ (((HB.out.cell (World.block_lt_of_cell? w _ hw297_0)).trans hw297_0)))).trans (((HB.out.cell (World.block_lt_of_cell? w _ hw297_0)).trans hw297_0)), (World.cell?_alloc_lt _ _ _ (World.block_lt_of_cell? _ _ (((HB.out.cell (World.block_lt_of_cell? w _ hw297_1)).trans hw297_1)))).trans (((HB.out.cell (World.block_lt_of_cell? w _ hw297_1)).trans hw297_1)), (World.cell?_alloc_lt _ _ _ (World.block_lt_of_cell? _ _ (((HB.out.cell (World.block_lt_of_cell? w _ hw297_2)).trans hw297_2)))).trans (((HB.out.cell (World.block_lt_of_cell? w _ hw297_2)).trans hw297_2))⟩ (fun hHeld => ?_)
       clear hK K
       refine norm_ (a' := ?_) ?_ ?_
       rotate_left
       ·show Act.put _ (some 39) _ = _
        simp only [Act.put, List.setIfInBounds_toArray, List.set_cons_zero, List.set_cons_succ, i64_w, i32_w]
        rfl
       refine one_ (i := 23) (N := some 40) (mk_ 24 1) rfl rfl (one_of HT_.out (by kernel_rfl)) (by decide) (fun K hK => ?_)
       refine Kd.R_append_step k40 (w0 := w) w.heap.size (by rfl) (.tmp 17) (.tmp 39) 22 40 (.agg #[(.int .i64 0), (.int .u64 0), (.int .i64 0)]) 24 rfl Try.underlying22 info40 rfl (by decide) (by omega) u3 x3_1 (⟨wrap64 (Int.tmod (IntKind.u64.wrap ((rd_T40 l0 x4_1).f0)) 64), Int.tmod ((rd_T40 l0 x4_1).f1) 18446744073709551615, Int.tmod ((rd_T40 l0 x4_1).f2) 1000⟩ : S40) [.int .i64 (wrap64 (Int.tmod (IntKind.u64.wrap ((rd_T40 l0 x4_1).f0)) 64)), .int .u64 (Int.tmod ((rd_T40 l0 x4_1).f1) 18446744073709551615), .int .i64 (Int.tmod ((rd_T40 l0 x4_1).f2) 1000)] (fun _ => True) (fun _ => False) rfl rfl ?aP (fun _ hk => hk.elim) ?aF ?aO ?aB ?aS ?aL ?_
       (case aP => exact k40_mkM _ _ _ (⟨wrap64 (Int.tmod (IntKind.u64.wrap ((rd_T40 l0 x4_1).f0)) 64), Int.tmod ((rd_T40 l0 x4_1).f1) 18446744073709551615, Int.tmod ((rd_T40 l0 x4_1).f2) 1000⟩ : S40))
       (case aB => exact (bn HB))
       (case aF => exact (fun _ _ => trivial))
       (case aO => exact (rn HO_3))
       (case aS => exact (below_size (bn HB)))
       (case aL => have := LMc5.out; omega)
       intro v299 w7 ho hb hg hat
       rw [← Ny298.out] at ho
       have n0_ := Aside0.mk (hb)
       have n1_ := Aside0.mk (ho)
       clear HB
       clear HO_3
       have HB := n0_
       have HO300 := n1_
       clear n0_ n1_
       clear ho hb hg hat
       refine hK.out _ _ ⟨((HB.out.cell (World.block_lt_of_cell? w _ hw295_0)).trans hw295_0), ((HB.out.cell (World.block_lt_of_cell? w _ hw295_1)).trans hw295_1), ((HB.out.cell (World.block_lt_of_cell? w _ hw295_2)).trans hw295_2), ((HB.out.cell (World.block_lt_of_cell? w _ hw296_0)).trans hw296_0), ((HB.out.cell (World.block_lt_of_cell? w _ hw296_1)).trans hw296_1), ((HB.out.cell (World.block_lt_of_cell? w _ hw296_2)).trans hw296_2), ((HB.out.cell (World.block_lt_of_cell? w _ hw297_0)).trans hw297_0), ((HB.out.cell (World.block_lt_of_cell? w _ hw297_1)).trans hw297_1), ((HB.out.cell (World.block_lt_of_cell? w _ hw297_2)).trans hw297_2)⟩ (fun hHeld => ?_)
       clear hK K
       refine norm_ (a' := ?_) ?_ ?_
       rotate_left
       ·show Act.put _ (some 40) _ = _
        simp only [Act.put, List.setIfInBounds_toArray, List.set_cons_zero, List.set_cons_succ, i64_w, i32_w]
        rfl
       refine pv_ 24 3 (mk_ 25 0) HT_ ?_
       refine done_ (done_of HT_.out (by kernel_rfl)) ?_
       try go_wp2
       go_roundg k1
       case measure => have := HK1.out; omega
       case rel => exact ⟨(y298), (wrap64 (x4_1 + 1)), (by first | rfl | (simp; done) | (simp [*]; done)), H', ⟨by have := HK1.out; omega⟩, ⟨by (with_reducible repeat (first | apply Kd.R_alloc | apply Kd.R_drewN | apply Kd.R_drew)); exact HO300.out⟩, ⟨by repeat (first | (with_reducible first | exact HB.out | apply below_alloc | apply pw_below_drewN | apply below_drew1) | exact HB.out)⟩⟩
      ·rw [if_neg c5] at H
       exact absurd H (by simp)
     ·rw [if_neg c4] at H
      exact absurd H (by simp)
    ·rw [if_neg c3] at H
     have c3b0 : decide (x4_1 < 12) = false := decide_eq_false c3
     clear c3
     replace H := Option.bind_eq_some_iff.mp H
     obtain ⟨⟨t301, t302⟩, A80, H⟩ := H
     replace H : (some t301) = some r := H
     have A8 := Aside0.mk A80
     clear A80
     obtain rfl := Option.some.inj H
     obtain ⟨Ao9, co9, eo9⟩ := Kd.R_slice HO_3.out
     subst eo9
     go_wp2_with (first | ((with_reducible refine gate_callee (f := 52) rfl ?_); refine gl (some 43) Try.func52 #[.slice Ao9 x3_1.length co9] ?_; (with_reducible refine (marchlandref03_sums.calls k1 _ _ x3_1 t301 t302 _ ?side1 ?side2 A8.out).mono ?_); (case side1 => exact rc HO_3); (case side2 => exact rs HO_3); rintro e w10 ⟨v303, rfl, ho0, hb⟩; refine ⟨_, rfl, ?_⟩; have n1_ := Aside0.mk (Kd.R_lower (Kd.R_new' ho0 (Kd.R_lt (rn HO_3))) (below_size (bn HB))); replace HO_3 := rl HO_3 (Kd.R_base ho0) hb; have HO304 := n1_; replace HB := bb HB hb; clear n1_; (try clear hb); (try clear ho0)))
     go_ret
     exact ⟨_, by first | rfl | (simp [errW_none, errW_some] <;> rfl) | (simp [*, errW_none, errW_some] <;> rfl), by (with_reducible repeat (first | apply Kd.R_alloc | apply Kd.R_drewN | apply Kd.R_drew)); exact Kd.R_mono HO304.out (fun _ hk => trivial), by repeat (first | (with_reducible first | exact HB.out | apply below_alloc | apply pw_below_drewN | apply below_drew1) | exact HB.out)⟩
   ·rw [if_neg c2] at H
    have c2b0 : decide (x4_1 < (l0.length : Int)) = false := decide_eq_false c2
    clear c2
    replace H := Option.bind_eq_some_iff.mp H
    obtain ⟨⟨t305, t306⟩, A110, H⟩ := H
    replace H : (some t305) = some r := H
    have A11 := Aside0.mk A110
    clear A110
    obtain rfl := Option.some.inj H
    obtain ⟨Ao12, co12, eo12⟩ := Kd.R_slice HO_3.out
    subst eo12
    go_wp2_with (first | ((with_reducible refine gate_callee (f := 52) rfl ?_); refine gl (some 43) Try.func52 #[.slice Ao12 x3_1.length co12] ?_; (with_reducible refine (marchlandref03_sums.calls k1 _ _ x3_1 t305 t306 _ ?side1 ?side2 A11.out).mono ?_); (case side1 => exact rc HO_3); (case side2 => exact rs HO_3); rintro e w13 ⟨v307, rfl, ho0, hb⟩; refine ⟨_, rfl, ?_⟩; have n1_ := Aside0.mk (Kd.R_lower (Kd.R_new' ho0 (Kd.R_lt (rn HO_3))) (below_size (bn HB))); replace HO_3 := rl HO_3 (Kd.R_base ho0) hb; have HO308 := n1_; replace HB := bb HB hb; clear n1_; (try clear hb); (try clear ho0)))
    go_ret
    exact ⟨_, by first | rfl | (simp [errW_none, errW_some] <;> rfl) | (simp [*, errW_none, errW_some] <;> rfl), by (with_reducible repeat (first | apply Kd.R_alloc | apply Kd.R_drewN | apply Kd.R_drew)); exact Kd.R_mono HO308.out (fun _ hk => trivial), by repeat (first | (with_reducible first | exact HB.out | apply below_alloc | apply pw_below_drewN | apply below_drew1) | exact HB.out)⟩
end Go.Proofs.Ytgeldmhgbnamcaa.P
end
section
-- Printed by the session's own turn of the print (wip/tools/print2.sh): some callees are proved by hand.
namespace Go.Proofs.Ytgeldmhgbnamcaa.P
open Go.RowKit Go.Proofs.YtgeldmhgbnamcaaW.PrintWords Go.Proofs.YtgeldmhgbnamcaaW.PrintLast Go.Proofs.YtgeldmhgbnamcaaW.PrintMore
attribute [local go_sem] max2_int min2_int max_two min_two max_three min_three max_four min_four   -- for this text's walks alone
set_option linter.unusedVariables false
set_option linter.unusedSimpArgs false
theorem eqA50 (d : Nat) (w : World) (x0 y0 : Int) (x1 y1 : Int) (x2 y2 : Int) :
  (Op.equalIn (d + 2) 50 (.agg #[.int .i64 x0, .int .u64 x1, .int .i64 x2]) (.agg #[.int .i64 y0, .int .u64 y1, .int .i64 y2])).run Try.prog w = .ok (x0 == y0 && (x1 == y1 && (x2 == y2))) w := by
 refine eqA_of Try.underlying50 (by kernel_rfl) ?_
 refine eqf_cons (by rfl) (by go_simp; rfl) (by go_simp; rfl) (by go_simp) ?_
 refine eqf_cons (by rfl) (by go_simp; rfl) (by go_simp; rfl) (by go_simp) ?_
 exact eqf_last (by rfl) (by go_simp; rfl) (by go_simp; rfl) (by go_simp)
end Go.Proofs.Ytgeldmhgbnamcaa.P
end
section
namespace Go.Proofs.Ytgeldmhgbnamcaa.P
open Go.RowKit Go.Proofs.YtgeldmhgbnamcaaW.PrintWords Go.Proofs.YtgeldmhgbnamcaaW.PrintLast Go.Proofs.YtgeldmhgbnamcaaW.PrintMore
set_option linter.unusedVariables false
set_option linter.unusedSimpArgs false
def slices_GrowNil.f (a1 : Int) : Option (List S50) := if 0 ≤ a1 then (if a1 < 5864062014805 then some [] else none) else none
theorem slices_GrowNil.zero (W : World) (base : Nat) : Kd.M k50 W base (fun _ => False) z50 (((.agg #[(.int .i64 0), (.int .u64 0), (.int .i64 0)]) : Value).cells.toList) := by
 show Kd.M k50 W base (fun _ => False) z50 [.int .i64 0, .int .u64 0, .int .i64 0]
 exact k50_mkM _ _ _ z50
set_option maxHeartbeats 400000 in
theorem slices_GrowNil.calls (a1 : Int) (r : List S50) (w : World) (h : slices_GrowNil.f a1 = some r) :
  Calls Try.prog 78 #[.slice none 0 0, .int .i64 a1] w fun e w' => ∃ v0_ : Value, e = .returned v0_ ∧ Kd.R k50 50 w' w.heap.size (fun _ => True) v0_ r ∧ Below w.heap.size w w' := by
 unfold slices_GrowNil.f at h
 by_cases h0 : 0 ≤ a1
 ·rw [if_pos h0] at h
  by_cases hlim : a1 < 5864062014805
  ·rw [if_pos hlim] at h
   obtain rfl := Option.some.inj h
   clear h
   by_cases hz : a1 = 0
   ·subst hz
    go_enter Try.func78, Try.ntmps78
    go_wp2
    go_ret
    exact ⟨_, rfl, Kd.R_nil _ _ _ _ _, Below.refl _ _⟩
   ·have hpos : 0 < a1 := by omega
    clear hz
    have HP := Aside0.mk hpos
    have HL := Aside0.mk hlim
    go_enter Try.func78, Try.ntmps78
    go_wp2_with (first | ((with_reducible refine gate_builtin (b := .append) (xs := #[.tmp 20, .tmp 21]) rfl ?_); at_builtin; refine Kd.R_append_zeros k50 (w0 := w) w.heap.size rfl (.tmp 20) (.tmp 21) 25 3 50 (.agg #[(.int .i64 0), (.int .u64 0), (.int .i64 0)]) 24 rfl Try.underlying25 Try.underlying3 info50 rfl (by decide) (by omega) (.slice none 0 0) [] z50 a1 (fun _ => True) rfl rfl (slices_GrowNil.zero _ _) (fun _ _ => trivial) (Kd.R_nil _ _ _ _ _) (by have := HP.out; omega) (Below.refl _ _) (Nat.le_refl _) (by have := HL.out; have := HP.out; simp only [List.length_nil]; omega) ?_; intro v1 w1 ho hb hg hat; obtain ⟨A1, c1, e1⟩ := Kd.R_slice ho; subst e1; have HO := Aside0.mk ho; have HB := Aside0.mk hb; clear ho hb hg hat))
    go_ret
    exact ⟨_, rfl, by have := Kd.R_take HO.out (m := 0) (Nat.zero_le _); rwa [List.take_zero] at this, HB.out⟩
  ·rw [if_neg hlim] at h
   cases h
 ·rw [if_neg h0] at h
  cases h
end Go.Proofs.Ytgeldmhgbnamcaa.P
end
section
-- Printed by the session's own turn of the print (wip/tools/print2.sh): some callees are proved by hand.
namespace Go.Proofs.Ytgeldmhgbnamcaa.P
open Go.RowKit Go.Proofs.YtgeldmhgbnamcaaW.PrintWords Go.Proofs.YtgeldmhgbnamcaaW.PrintLast Go.Proofs.YtgeldmhgbnamcaaW.PrintMore
attribute [local go_sem] max2_int min2_int max_two min_two max_three min_three max_four min_four   -- for this text's walks alone
set_option linter.unusedVariables false
set_option linter.unusedSimpArgs false
/-! ### batch_Change_57: function 57 -/
mutual
def batch_Change_57.l0 : Nat → List (List (S50)) → Int → List (List (S50)) → Int → Int → Option ((List (S50)))
 | 0, _, _, _, _, _ => none
 | k + 1, x0, x3, x9, x10, x11 => if x11 < x10 then (if 0 ≤ x11 then (if x11 < (x9.length : Int) then (if (wrap64 (x3 + ((rd_L4 x9 x11).length : Int))) < 0 then (none) else (batch_Change_57.l0 k x0 (wrap64 (x3 + ((rd_L4 x9 x11).length : Int))) x9 x10 (wrap64 (x11 + 1)))) else (none)) else (none)) else ((slices_GrowNil.f x3).bind fun t337 => (batch_Change_57.l1 k t337 x0 (x0.length : Int) 0))
def batch_Change_57.l1 : Nat → List (S50) → List (List (S50)) → Int → Int → Option ((List (S50)))
 | 0, _, _, _, _ => none
 | k + 1, x6, x25, x26, x27 => if x27 < x26 then (if 0 ≤ x27 then (if x27 < (x25.length : Int) then (if x6.length + (rd_L4 x25 x27).length < 5864062014805 then (batch_Change_57.l1 k (x6 ++ (rd_L4 x25 x27)) x25 x26 (wrap64 (x27 + 1))) else (none)) else (none)) else (none)) else (some x6)
end
def batch_Change_57.f (k : Nat) (l0 : List (List (S50))) : Option ((List (S50))) := batch_Change_57.l0 k l0 0 l0 (l0.length : Int) 0
theorem batch_Change_57.mono_l : ∀ k, (∀ y0 y1 y2 y3 y4, LeO (batch_Change_57.l0 k y0 y1 y2 y3 y4) (batch_Change_57.l0 (k + 1) y0 y1 y2 y3 y4)) ∧ (∀ y0 y1 y2 y3, LeO (batch_Change_57.l1 k y0 y1 y2 y3) (batch_Change_57.l1 (k + 1) y0 y1 y2 y3))
 | 0 => ⟨fun _ _ _ _ _ r h => by simp [batch_Change_57.l0] at h, fun _ _ _ _ r h => by simp [batch_Change_57.l1] at h⟩
 | k + 1 => by
  obtain ⟨ih0, ih1⟩ := batch_Change_57.mono_l k
  refine ⟨?_, ?_⟩
  ·intro y0 y1 y2 y3 y4
   unfold batch_Change_57.l0
   repeat' first
   | (with_reducible exact ih0 _ _ _ _ _)
   | (with_reducible exact ih1 _ _ _ _)
   | (with_reducible exact LeO.refl _)
   | (with_reducible exact LeO.none _)
   | (with_reducible refine LeO.ite ?_ ?_)
   | (with_reducible refine LeO.bind ?_ (fun _ => ?_))
   | exact ih0 _ _ _ _ _
   | exact ih1 _ _ _ _
   | exact LeO.none _
   | refine LeO.ite ?_ ?_
   | refine LeO.bind ?_ (fun _ => ?_)
  ·intro y0 y1 y2 y3
   unfold batch_Change_57.l1
   repeat' first
   | (with_reducible exact ih0 _ _ _ _ _)
   | (with_reducible exact ih1 _ _ _ _)
   | (with_reducible exact LeO.refl _)
   | (with_reducible exact LeO.none _)
   | (with_reducible refine LeO.ite ?_ ?_)
   | (with_reducible refine LeO.bind ?_ (fun _ => ?_))
   | exact ih0 _ _ _ _ _
   | exact ih1 _ _ _ _
   | exact LeO.none _
   | refine LeO.ite ?_ ?_
   | refine LeO.bind ?_ (fun _ => ?_)
theorem batch_Change_57.mono : ∀ a0 k, LeO (batch_Change_57.f k a0) (batch_Change_57.f (k + 1) a0) := by
 intro a0 k
 obtain ⟨ih0, ih1⟩ := batch_Change_57.mono_l k
 unfold batch_Change_57.f
 repeat' first
   | (with_reducible exact ih0 _ _ _ _ _)
   | (with_reducible exact ih1 _ _ _ _)
   | (with_reducible exact LeO.refl _)
   | (with_reducible exact LeO.none _)
   | (with_reducible refine LeO.ite ?_ ?_)
   | (with_reducible refine LeO.bind ?_ (fun _ => ?_))
   | exact ih0 _ _ _ _ _
   | exact ih1 _ _ _ _
   | exact LeO.none _
   | refine LeO.ite ?_ ?_
   | refine LeO.bind ?_ (fun _ => ?_)
set_option maxHeartbeats 8000000 in
set_option maxRecDepth 100000 in
theorem batch_Change_57.calls (k : Nat) (A0 : Option Addr) (c0 : Nat) (l0 : List (List (S50))) (r : List (S50)) (w : World) (hr0 : Kd.C (Kd.slice 50 k50) w A0 l0.length l0) (hc0 : l0.length ≤ c0) (h : batch_Change_57.f k l0 = some r) :
  Calls Try.prog 57 #[.slice A0 l0.length c0] w fun e w' => ∃ v0_ : Value, e = .returned (v0_) ∧ Kd.R k50 50 w' w.heap.size (fun _ => True) v0_ r ∧ Below w.heap.size w w' := by
 have HR0 := Aside0.mk hr0
 have HC0 := Aside0.mk hc0
 clear hr0 hc0
 have HB := Aside0.mk (Below.refl w.heap.size w)
 have H : (batch_Change_57.l0 k l0 0 l0 (l0.length : Int) 0) = some r := h
 clear h
 have H' := Aside0.mk H
 clear H
 go_enter Try.func57, Try.ntmps57
 go_wp2
 go_loopg [3, 11] k (fun kq v3 v11 w' => ∃ (x3_1 : Int) (x11_1 : Int), v3 = .int .i64 x3_1 ∧ v11 = .int .i64 x11_1 ∧ Aside0 (batch_Change_57.l0 kq l0 x3_1 l0 (l0.length : Int) x11_1 = some r) ∧ Aside0 (kq ≤ k) ∧ Aside0 (Below w.heap.size w w'))
 case atStart => exact ⟨(0), (0), (by first | rfl | (simp; done) | (simp [*]; done)), (by first | rfl | (simp; done) | (simp [*]; done)), H', ⟨Nat.le_refl _⟩, ⟨by repeat (first | (with_reducible first | exact HB.out | apply below_alloc | apply pw_below_drewN | apply below_drew1) | exact HB.out)⟩⟩
 case round =>
  clear H'
  obtain ⟨x3_1, x11_1, rfl, rfl, HA, HK1, HB⟩ := hrel
  cases gk with
  | zero => exact absurd HA.out (by simp [batch_Change_57.l0])
  | succ k1 =>
   have H := HA.out
   clear HA
   simp only [batch_Change_57.l0] at H
   by_cases c2 : x11_1 < (l0.length : Int)
   ·rw [if_pos c2] at H
    have c2b0 : decide (x11_1 < (l0.length : Int)) = true := decide_eq_true c2
    clear c2
    by_cases c3 : 0 ≤ x11_1
    ·rw [if_pos c3] at H
     have c3b0 : decide (0 ≤ x11_1) = true := decide_eq_true c3
     clear c3
     by_cases c4 : x11_1 < (l0.length : Int)
     ·rw [if_pos c4] at H
      have c4b0 : decide (x11_1 < (l0.length : Int)) = true := decide_eq_true c4
      clear c4
      by_cases c5 : (wrap64 (x3_1 + ((rd_L4 l0 x11_1).length : Int))) < 0
      ·rw [if_pos c5] at H
       exact absurd H (by simp)
      ·rw [if_neg c5] at H
       have c5b0 : decide ((wrap64 (x3_1 + ((rd_L4 l0 x11_1).length : Int))) < 0) = false := decide_eq_false c5
       clear c5
       have H' := Aside0.mk H
       clear H
       have p336 : 0 ≤ (x11_1 : Int) := of_decide_eq_true (by assumption)
       have q336 : x11_1 < (l0.length : Int) := of_decide_eq_true (by assumption)
       obtain ⟨ad336, A336_0, c336_0, e336, hx336_0, hl336_0, hi336_0⟩ := at_L4 HR0.out x11_1 p336 q336
       cases e336
       replace hx336_0 := (HB.out.cell (World.block_lt_of_cell? w _ hx336_0)).trans hx336_0
       have HR336_0 := Aside0.mk hi336_0
       have HC336_0 := Aside0.mk hl336_0
       clear hi336_0 hl336_0
       replace p336 := eq_true p336
       replace q336 := eq_true q336
       go_wp2
       go_roundg k1
       case measure => have := HK1.out; omega
       case rel => exact ⟨(wrap64 (x3_1 + ((rd_L4 l0 x11_1).length : Int))), (wrap64 (x11_1 + 1)), (by first | rfl | (simp; done) | (simp [*]; done)), (by first | rfl | (simp; done) | (simp [*]; done)), H', ⟨by have := HK1.out; omega⟩, ⟨by repeat (first | (with_reducible first | exact HB.out | apply below_alloc | apply pw_below_drewN | apply below_drew1) | exact HB.out)⟩⟩
     ·rw [if_neg c4] at H
      exact absurd H (by simp)
    ·rw [if_neg c3] at H
     exact absurd H (by simp)
   ·rw [if_neg c2] at H
    have c2b0 : decide (x11_1 < (l0.length : Int)) = false := decide_eq_false c2
    clear c2
    replace H := Option.bind_eq_some_iff.mp H
    obtain ⟨t337, A60, H⟩ := H
    replace H : (batch_Change_57.l1 k1 t337 l0 (l0.length : Int) 0) = some r := H
    have A6 := Aside0.mk A60
    clear A60
    have H' := Aside0.mk H
    clear H
    go_wp2_with (first | ((with_reducible refine gate_callee (f := 78) rfl ?_); refine gl (some 24) Try.func78 #[.slice none 0 0, .int .i64 x3_1] ?_; (with_reducible refine (slices_GrowNil.calls  x3_1 t337 _ A6.out).mono ?_); rintro e w7 ⟨v338, rfl, ho0, hb⟩; refine ⟨_, rfl, ?_⟩; have n0_ := Aside0.mk (Kd.R_lower ho0 (below_size (bn HB))); have HO339 := n0_; replace HB := bb HB hb; clear n0_; (try clear hb); (try clear ho0)))
    go_loopg [6, 27] k1 (fun kq v6 v27 w' => ∃ (x6_2 : List (S50)) (x27_2 : Int), v27 = .int .i64 x27_2 ∧ Aside0 (batch_Change_57.l1 kq x6_2 l0 (l0.length : Int) x27_2 = some r) ∧ Aside0 (kq ≤ k1) ∧ Aside0 (Kd.R k50 50 w' w.heap.size (fun _ => True) v6 x6_2) ∧ Aside0 (Below w.heap.size w w'))
    case atStart => exact ⟨(t337), (0), (by first | rfl | (simp; done) | (simp [*]; done)), H', ⟨Nat.le_refl _⟩, ⟨by (with_reducible repeat (first | apply Kd.R_alloc | apply Kd.R_drewN | apply Kd.R_drew)); exact HO339.out⟩, ⟨by repeat (first | (with_reducible first | exact HB.out | apply below_alloc | apply pw_below_drewN | apply below_drew1) | exact HB.out)⟩⟩
    case round =>
     clear H'
     (try clear c2); (try clear c2b0); (try clear p2); (try clear c3); (try clear c3b0); (try clear p3); (try clear q3); (try clear hx3); (try clear c4); (try clear c4b0); (try clear c5); (try clear c5b0); (try clear p6); (try clear c7); (try clear hx336_0); (try clear p336); (try clear q336)
     obtain ⟨x6_2, x27_2, rfl, HA, HK2, HO_6, HB⟩ := hrel
     cases gk with
     | zero => exact absurd HA.out (by simp [batch_Change_57.l1])
     | succ k2 =>
      have H := HA.out
      clear HA
      simp only [batch_Change_57.l1] at H
      by_cases c8 : x27_2 < (l0.length : Int)
      ·rw [if_pos c8] at H
       have c8b0 : decide (x27_2 < (l0.length : Int)) = true := decide_eq_true c8
       clear c8
       by_cases c9 : 0 ≤ x27_2
       ·rw [if_pos c9] at H
        have c9b0 : decide (0 ≤ x27_2) = true := decide_eq_true c9
        clear c9
        by_cases c10 : x27_2 < (l0.length : Int)
        ·rw [if_pos c10] at H
         have c10b0 : decide (x27_2 < (l0.length : Int)) = true := decide_eq_true c10
         clear c10
         by_cases c11 : x6_2.length + (rd_L4 l0 x27_2).length < 5864062014805
         ·rw [if_pos c11] at H
          have LMc11 := Aside0.mk c11
          clear c11
          obtain ⟨y341, hy341⟩ : ∃ y_ : List (S50), y_ = (x6_2 ++ (rd_L4 l0 x27_2)) := ⟨_, rfl⟩
          replace H : (batch_Change_57.l1 k2 y341 l0 (l0.length : Int) (wrap64 (x27_2 + 1))) = some r := by first | (rw [hy341]; with_reducible exact H) | (have H2_ := (Option.bind_some _ _).symm.trans H; rw [hy341]; with_reducible exact H2_) | (have H2_ := (Option.bind_some _ _).symm.trans H; with_reducible exact H2_) | with_reducible exact H | (rw [hy341]; exact H) | exact H
          have Ny341 := Aside0.mk hy341
          clear hy341
          have H' := Aside0.mk H
          clear H
          have p340 : 0 ≤ (x27_2 : Int) := of_decide_eq_true (by assumption)
          have q340 : x27_2 < (l0.length : Int) := of_decide_eq_true (by assumption)
          obtain ⟨ad340, A340_0, c340_0, e340, hx340_0, hl340_0, hi340_0⟩ := at_L4 HR0.out x27_2 p340 q340
          cases e340
          replace hx340_0 := (HB.out.cell (World.block_lt_of_cell? w _ hx340_0)).trans hx340_0
          have HR340_0 := Aside0.mk hi340_0
          have HC340_0 := Aside0.mk hl340_0
          clear hi340_0 hl340_0
          replace p340 := eq_true p340
          replace q340 := eq_true q340
          go_wp2_with (first | ((with_reducible refine gate_builtin (b := .append) (xs := #[.tmp 31, .tmp 32]) rfl ?_); at_builtin; refine Kd.R_append_rows k50 (w0 := w) w.heap.size rfl (.tmp 31) (.tmp 32) 25 50 (.agg #[(.int .i64 0), (.int .u64 0), (.int .i64 0)]) 24 rfl Try.underlying25 info50 rfl (by decide) (by omega) u6 x6_2 (rd_L4 l0 x27_2) _ _ _ (fun _ => True) (fun _ => False) rfl rfl ?aO ?aR (fun _ _ h => h) (fun _ h => h.elim) ?aF ?aB ?aS ?aL ?_; (case aR => repeat (first | exact (Kd.C_below HR340_0.out HB.out) | (with_reducible refine Kd.C_alloc ?_ _) | (with_reducible refine Kd.C_drewN ?_ _) | (with_reducible refine Kd.C_drew ?_))); (case aB => exact (bn HB)); (case aF => exact (fun _ _ => trivial)); (case aO => exact (rn HO_6)); (case aS => exact (below_size (bn HB))); (case aL => have := LMc11.out; omega); intro v342 w12 ho hb hg hat; rw [← Ny341.out] at ho; have n0_ := Aside0.mk (hb); have n1_ := Aside0.mk (ho); clear HB; clear HO_6; have HB := n0_; have HO343 := n1_; clear n0_ n1_; clear ho hb hg hat))
          go_roundg k2
          case measure => have := HK1.out; have := HK2.out; omega
          case rel => exact ⟨(y341), (wrap64 (x27_2 + 1)), (by first | rfl | (simp; done) | (simp [*]; done)), H', ⟨by have := HK1.out; have := HK2.out; omega⟩, ⟨by (with_reducible repeat (first | apply Kd.R_alloc | apply Kd.R_drewN | apply Kd.R_drew)); exact HO343.out⟩, ⟨by repeat (first | (with_reducible first | exact HB.out | apply below_alloc | apply pw_below_drewN | apply below_drew1) | exact HB.out)⟩⟩
         ·rw [if_neg c11] at H
          exact absurd H (by simp)
        ·rw [if_neg c10] at H
         exact absurd H (by simp)
       ·rw [if_neg c9] at H
        exact absurd H (by simp)
      ·rw [if_neg c8] at H
       have c8b0 : decide (x27_2 < (l0.length : Int)) = false := decide_eq_false c8
       clear c8
       obtain rfl := Option.some.inj H
       go_wp2
       go_ret
       exact ⟨_, by first | rfl | (simp [errW_none, errW_some] <;> rfl) | (simp [*, errW_none, errW_some] <;> rfl), by (with_reducible repeat (first | apply Kd.R_alloc | apply Kd.R_drewN | apply Kd.R_drew)); exact HO_6.out, by repeat (first | (with_reducible first | exact HB.out | apply below_alloc | apply pw_below_drewN | apply below_drew1) | exact HB.out)⟩
end Go.Proofs.Ytgeldmhgbnamcaa.P
end
section
-- Printed by the session's own turn of the print (wip/tools/print2.sh): some callees are proved by hand.
namespace Go.Proofs.Ytgeldmhgbnamcaa.P
open Go.RowKit Go.Proofs.YtgeldmhgbnamcaaW.PrintWords Go.Proofs.YtgeldmhgbnamcaaW.PrintLast Go.Proofs.YtgeldmhgbnamcaaW.PrintMore
attribute [local go_sem] max2_int min2_int max_two min_two max_three min_three max_four min_four   -- for this text's walks alone
set_option linter.unusedVariables false
set_option linter.unusedSimpArgs false
/-! ### batch_Merge: function 25 -/
def batch_Merge.f (k : Nat) (l0 : List (S50)) (l1 : List (S50)) : Option ((List (S50)) × Int) := (batch_Change_57.f k (([l0, l1] : List (List (S50))))).bind fun t347 => ((batch_summed.f k t347).bind fun bt350 => (some (bt350.1, bt350.2.1)))
theorem batch_Merge.mono : ∀ a0 a1 k, LeO (batch_Merge.f k a0 a1) (batch_Merge.f (k + 1) a0 a1) := by
 intro a0 a1 k
 unfold batch_Merge.f
 repeat' first
   | (with_reducible exact batch_Change_57.mono _ _)
   | (with_reducible exact batch_summed.mono _ _)
   | (with_reducible exact LeO.refl _)
   | (with_reducible exact LeO.none _)
   | (with_reducible refine LeO.ite ?_ ?_)
   | (with_reducible refine LeO.bind ?_ (fun _ => ?_))
   | exact batch_Change_57.mono _ _
   | exact batch_summed.mono _ _
   | exact LeO.none _
   | refine LeO.ite ?_ ?_
   | refine LeO.bind ?_ (fun _ => ?_)
set_option maxHeartbeats 8000000 in
set_option maxRecDepth 100000 in
theorem batch_Merge.calls (k : Nat) (P0_ : Nat → Prop) (A0 : Option Addr) (c0 : Nat) (l0 : List (S50)) (P1_ : Nat → Prop) (A1 : Option Addr) (c1 : Nat) (l1 : List (S50)) (r1 : List (S50)) (r2 : Int) (w : World) (hs0 : Kd.V k50 50 w w.heap.size (fun k_ => P0_ k_) (.slice A0 l0.length c0) l0) (hs1 : Kd.V k50 50 w w.heap.size (fun k_ => P1_ k_) (.slice A1 l1.length c1) l1) (h : batch_Merge.f k l0 l1 = some (r1, r2)) :
  Calls Try.prog 25 #[.slice A0 l0.length c0, .slice A1 l1.length c1] w fun e w' => ∃ v0_ : Value, e = .returned (.tuple #[v0_, .int .i64 r2]) ∧ Kd.R k50 50 w' w.heap.size (fun k_ => (w.heap.size ≤ k_)) v0_ r1 ∧ Below w.heap.size w w' := by
 have HO0 := Aside0.mk (show Kd.V k50 50 w w.heap.size (fun k_ => ((P0_ k_ ∨ P1_ k_) ∨ w.heap.size ≤ k_)) (.slice A0 l0.length c0) l0 from Kd.V_mono hs0 (fun k_ hk => .inl (.inl hk)))
 have HO1 := Aside0.mk (show Kd.V k50 50 w w.heap.size (fun k_ => ((P0_ k_ ∨ P1_ k_) ∨ w.heap.size ≤ k_)) (.slice A1 l1.length c1) l1 from Kd.V_mono hs1 (fun k_ hk => .inl (.inr hk)))
 have HB := Aside0.mk (Below.refl w.heap.size w)
 have H : ((batch_Change_57.f k (([l0, l1] : List (List (S50))))).bind fun t347 => ((batch_summed.f k t347).bind fun bt350 => (some (bt350.1, bt350.2.1)))) = some (r1, r2) := h
 clear h
 obtain ⟨y344, hy344⟩ : ∃ y_ : List (List (S50)), y_ = (([l0, l1] : List (List (S50)))) := ⟨_, rfl⟩
 replace H : ((batch_Change_57.f k y344).bind fun t347 => ((batch_summed.f k t347).bind fun bt350 => (some (bt350.1, bt350.2.1)))) = some (r1, r2) := by first | (rw [hy344]; with_reducible exact H) | (have H2_ := (Option.bind_some _ _).symm.trans H; rw [hy344]; with_reducible exact H2_) | (have H2_ := (Option.bind_some _ _).symm.trans H; with_reducible exact H2_) | with_reducible exact H | (rw [hy344]; exact H) | exact H
 have Ny344 := Aside0.mk hy344
 clear hy344
 replace H := Option.bind_eq_some_iff.mp H
 obtain ⟨t347, A30, H⟩ := H
 replace H : ((batch_summed.f k t347).bind fun bt350 => (some (bt350.1, bt350.2.1))) = some (r1, r2) := H
 have A3 := Aside0.mk A30
 clear A30
 replace H := Option.bind_eq_some_iff.mp H
 obtain ⟨⟨t350, t353, t354⟩, A40, H⟩ := H
 replace H : (some (t350, t353)) = some (r1, r2) := H
 have A4 := Aside0.mk A40
 clear A40
 simp only [Option.some.injEq, Prod.mk.injEq] at H
 obtain ⟨rfl, rfl⟩ := H
 go_enter Try.func25, Try.ntmps25
 go_wp2_with (first | ((with_reducible refine gate_dst (N := 8) rfl ?_); refine Kd.N_lit (Kd.slice 50 k50) _ 25 ?hg (N' := 8) ?hd (xs := ([l0, l1] : List (List (S50)))) (inner := [.slice A0 l0.length c0, .slice A1 l1.length c1]) (ok := (fun k_ => ((P0_ k_ ∨ P1_ k_) ∨ w.heap.size ≤ k_))) (okp := (fun k_ => ((P0_ k_ ∨ P1_ k_) ∨ w.heap.size ≤ k_))) ?hr ?hp (fun _ hk => hk) ((show ∀ k_, w.heap.size ≤ k_ → (fun k_ => ((P0_ k_ ∨ P1_ k_) ∨ w.heap.size ≤ k_)) k_ from fun k_ hk => (.inr (Nat.le_trans (below_size (bn HB)) hk))) _ (Nat.le_refl _)) (Below.refl _ _) (Nat.le_refl _) (by simp) ?_; (case hd => rfl); (case hg => rfl); (case hr => first | (go_simp; done) | (go_simp; rfl)); (case hp => exact (Reps.one (show Kd.FK (Kd.slice 50 k50) _ _ l0 [.slice A0 l0.length c0] from (Kd.FK_slice_mk (Kd.V_reads' (Kd.V_mono (ok' := (fun k_ => ((P0_ k_ ∨ P1_ k_) ∨ w.heap.size ≤ k_))) (HO0.out) (fun k_ hk => hk))).2.1 (Kd.V_F (Kd.V_mono (ok' := (fun k_ => ((P0_ k_ ∨ P1_ k_) ∨ w.heap.size ≤ k_))) (HO0.out) (fun k_ hk => hk))))) (Reps.one (show Kd.FK (Kd.slice 50 k50) _ _ l1 [.slice A1 l1.length c1] from (Kd.FK_slice_mk (Kd.V_reads' (Kd.V_mono (ok' := (fun k_ => ((P0_ k_ ∨ P1_ k_) ∨ w.heap.size ≤ k_))) (HO1.out) (fun k_ hk => hk))).2.1 (Kd.V_F (Kd.V_mono (ok' := (fun k_ => ((P0_ k_ ∨ P1_ k_) ∨ w.heap.size ≤ k_))) (HO1.out) (fun k_ hk => hk))))) (Reps.none _ _)))); intro v345 w5 ho6 hb hg_ hnew_; clear hg_ hnew_; (first | rw [← Ny344.out] at ho6 | (simp only [Int.reduceToNat] at ho6; rw [← Ny344.out] at ho6)); have n0_ := Aside0.mk (Kd.V_elder' (by (with_reducible repeat (first | apply Kd.V_alloc | apply Kd.V_drewN | apply Kd.V_drew)); exact HO0.out) (Kd.N_base ho6) hb); have n1_ := Aside0.mk (Kd.V_elder' (by (with_reducible repeat (first | apply Kd.V_alloc | apply Kd.V_drewN | apply Kd.V_drew)); exact HO1.out) (Kd.N_base ho6) hb); have n2_ := Aside0.mk (Kd.N_lower ho6 (below_size (bn HB))); clear HO0; clear HO1; have HO0 := n0_; have HO1 := n1_; have HO346 := n2_; replace HB := bb HB hb; clear n0_ n1_ n2_; clear hb ho6; obtain ⟨Ao7, co7, eo7⟩ := Kd.N_slice HO346.out; subst eo7) | ((with_reducible refine gate_callee (f := 57) rfl ?_); refine gl (some 9) Try.func57 #[.slice Ao7 y344.length co7] ?_; (with_reducible refine (batch_Change_57.calls k _ _ y344 t347 _ ?side1 ?side2 A3.out).mono ?_); (case side1 => repeat (first | exact (Kd.N_reads' HO346.out).2.2 | (with_reducible refine Kd.C_alloc ?_ _) | (with_reducible refine Kd.C_drewN ?_ _) | (with_reducible refine Kd.C_drew ?_))); (case side2 => exact (Kd.N_reads' HO346.out).2.1); rintro e w8 ⟨v348, rfl, ho0, hb⟩; refine ⟨_, rfl, ?_⟩; have n0_ := Aside0.mk (Kd.V_elder' (by (with_reducible repeat (first | apply Kd.V_alloc | apply Kd.V_drewN | apply Kd.V_drew)); exact HO0.out) (Kd.R_base ho0) hb); have n1_ := Aside0.mk (Kd.V_elder' (by (with_reducible repeat (first | apply Kd.V_alloc | apply Kd.V_drewN | apply Kd.V_drew)); exact HO1.out) (Kd.R_base ho0) hb); have n2_ := Aside0.mk (Kd.N_elder' (by (with_reducible repeat (first | apply Kd.N_alloc | apply Kd.N_drewN | apply Kd.N_drew)); exact HO346.out) (Kd.R_base ho0) hb); have n3_ := Aside0.mk (Kd.R_lower (Kd.R_newM (M := fun k_ => (w.heap.size ≤ k_)) ho0 (below_size (bn HB)) (fun k_ h_ => h_)) (below_size (bn HB))); clear HO0; clear HO1; clear HO346; have HO0 := n0_; have HO1 := n1_; have HO346 := n2_; have HO349 := n3_; replace HB := bb HB hb; clear n0_ n1_ n2_ n3_; (try clear hb); (try clear ho0); obtain ⟨Ao9, co9, eo9⟩ := Kd.R_slice HO349.out; subst eo9) | ((with_reducible refine gate_callee (f := 49) rfl ?_); refine gl (some 10) Try.func49 #[.slice Ao9 t347.length co9] ?_; (with_reducible refine (batch_summed.calls k (fun k_ => some k_ = (.slice Ao9 t347.length co9 : Value).ownBlock) (.slice Ao9 t347.length co9) t347 t350 t353 t354 w _ ?side1 ?side2 A4.out).mono ?_); (case side1 => repeat (first | (with_reducible first | exact HB.out | apply below_alloc | apply pw_below_drewN | apply below_drew1) | exact HB.out)); (case side2 => exact Kd.R_tight rfl HO349.out); rintro e w10 ⟨v351, rfl, ho0, hy0, hb, hkp⟩; refine ⟨_, rfl, ?_⟩; have n0_ := Aside0.mk (Kd.V_mono (ok' := fun k_ => ((P0_ k_ ∨ P1_ k_) ∨ w.heap.size ≤ k_) ∧ some k_ ≠ (.slice Ao7 y344.length co7 : Value).ownBlock ∧ some k_ ≠ (.slice Ao9 t347.length co9 : Value).ownBlock ∧ some k_ ≠ (v351 : Value).ownBlock) (Kd.V_keptB (HO0.out) hkp (fun k_ hk_ hs_ => (hk_.2) hs_)) (fun k_ hk_ => ⟨hk_.1.1.1, hk_.1.1.2, hk_.1.2, fun e_ => Or.elim (ho0.1 k_ e_.symm).1 (fun hs_ => hk_.2.1 hs_) (fun hn_ => Nat.not_le.2 hk_.2.2 hn_)⟩)); have n1_ := Aside0.mk (Kd.V_mono (ok' := fun k_ => ((P0_ k_ ∨ P1_ k_) ∨ w.heap.size ≤ k_) ∧ some k_ ≠ (.slice Ao7 y344.length co7 : Value).ownBlock ∧ some k_ ≠ (.slice Ao9 t347.length co9 : Value).ownBlock ∧ some k_ ≠ (v351 : Value).ownBlock) (Kd.V_keptB (HO1.out) hkp (fun k_ hk_ hs_ => (hk_.2) hs_)) (fun k_ hk_ => ⟨hk_.1.1.1, hk_.1.1.2, hk_.1.2, fun e_ => Or.elim (ho0.1 k_ e_.symm).1 (fun hs_ => hk_.2.1 hs_) (fun hn_ => Nat.not_le.2 hk_.2.2 hn_)⟩)); have n2_ := Aside0.mk (Kd.N_mono (ok' := fun k_ => ((P0_ k_ ∨ P1_ k_) ∨ w.heap.size ≤ k_) ∧ some k_ ≠ (.slice Ao9 t347.length co9 : Value).ownBlock ∧ some k_ ≠ (v351 : Value).ownBlock) (Kd.N_keptB (HO346.out) hkp (fun k_ hk_ hs_ => (hk_.2) hs_)) (fun k_ hk_ => ⟨hk_.1.1, hk_.1.2, fun e_ => Or.elim (ho0.1 k_ e_.symm).1 (fun hs_ => hk_.2.1 hs_) (fun hn_ => Nat.not_le.2 hk_.2.2 hn_)⟩)); have n3_ := Aside0.mk (Kd.R_reok rfl hy0 (fun k_ e_ => HO349.out.1 k_ e_)); have n4_ := Aside0.mk (Kd.R_mono (ok' := fun k_ => (w.heap.size ≤ k_) ∧ some k_ ≠ (.slice Ao9 t347.length co9 : Value).ownBlock) ho0 (fun k_ hk_ => ⟨Or.elim hk_.1 (fun hs_ => (HO349.out.1 k_ (hs_).symm).1) (fun hn_ => (Nat.le_trans (below_size (bn HB)) hn_)), hk_.2⟩)); have n5_ := Aside0.mk (hb); clear HO0; clear HO1; clear HO346; clear HO349; clear HB; have HO0 := n0_; have HO1 := n1_; have HO346 := n2_; have HO349 := n3_; have HO352 := n4_; have HB := n5_; clear n0_ n1_ n2_ n3_ n4_ n5_; (try clear hb); (try clear hkp); (try clear ho0); (try clear hy0)))
 go_ret2
 exact ⟨_, by first | rfl | (simp [errW_none, errW_some] <;> rfl) | (simp [*, errW_none, errW_some] <;> rfl), by (with_reducible repeat (first | apply Kd.R_alloc | apply Kd.R_drewN | apply Kd.R_drew)); exact Kd.R_mono HO352.out (fun _ hk => hk.1), by repeat (first | (with_reducible first | exact HB.out | apply below_alloc | apply pw_below_drewN | apply below_drew1) | exact HB.out)⟩
end Go.Proofs.Ytgeldmhgbnamcaa.P
end
section
namespace Go.Proofs.Ytgeldmhgbnamcaa.P
open Go.RowKit Go.Proofs.YtgeldmhgbnamcaaW.PrintWords Go.Proofs.YtgeldmhgbnamcaaW.PrintLast Go.Proofs.YtgeldmhgbnamcaaW.PrintMore
set_option linter.unusedVariables false
set_option linter.unusedSimpArgs false
open Go.ChangeShapes Go.WideShapes Go.Deep
/-- Whatever reads at type t is told by the kind d, and is so as q says. -/
def Opens (P : Program) (t : TypeId) {α : Type} (d : Kd α) (q : α → Prop) : Prop :=
 ∀ (H : Type) (enc : TypeId × Value → H) (w : World) (base : Nat) (spare : Nat → Bool) (held : Bool) (fuel : Nat) (cs : List Value) (x : DataW H × List MemPlace),
  DataW.trod enc P w base spare held fuel t cs = some x → ∃ y : α, d.K w y cs ∧ q y
theorem Opens.int {P : Program} {t : TypeId} {k : IntKind} (hu : P.underlying t = some (.int k)) : Opens P t (Kd.int k) (fun n => (Lit.int k n).wf = true) := by
 intro H enc w base spare held fuel cs x h
 obtain ⟨n, rfl, _, hw⟩ := DataW.trod_int hu h
 exact ⟨n, rfl, hw⟩
theorem Opens.bool {P : Program} {t : TypeId} (hu : P.underlying t = some .bool) : Opens P t Kd.bool (fun _ => True) := by
 intro H enc w base spare held fuel cs x h
 obtain ⟨b, rfl, _⟩ := DataW.trod_bool hu h
 exact ⟨b, rfl, trivial⟩
theorem Opens.string {P : Program} {t : TypeId} (hu : P.underlying t = some .string) : Opens P t Kd.string (fun s => s.size ≤ maxLen) := by
 intro H enc w base spare held fuel cs x h
 obtain ⟨s, rfl, _, hs⟩ := DataW.trod_string hu h
 exact ⟨s, rfl, hs⟩
theorem Opens.imp {P : Program} {t : TypeId} {α : Type} {d : Kd α} {q q' : α → Prop} (h : Opens P t d q) (hq : ∀ y, q y → q' y) : Opens P t d q' := by
 intro H enc w base spare held fuel cs x hx
 obtain ⟨y, h1, h2⟩ := h H enc w base spare held fuel cs x hx
 exact ⟨y, h1, hq y h2⟩
theorem Opens.iso {P : Program} {t : TypeId} {α β : Type} {d : Kd α} {q : α → Prop} (h : Opens P t d q) (f : β → α) (g : α → β) (hfg : ∀ y, f (g y) = y) : Opens P t (Kd.iso d f) (fun x => q (f x)) := by
 intro H enc w base spare held fuel cs x hx
 obtain ⟨y, h1, h2⟩ := h H enc w base spare held fuel cs x hx
 refine ⟨g y, ?_, by show q (f (g y)); rw [hfg]; exact h2⟩
 show d.K w (f (g y)) cs
 rw [hfg]; exact h1
theorem Opens.slice {P : Program} {t e : TypeId} {α : Type} [Inhabited α] {d : Kd α} {q : α → Prop} (hu : P.underlying t = some (.slice e)) (hc : P.cellsOf e = d.sz) (h : Opens P e d q) : Opens P t (Kd.slice e d) (fun l => l.length ≤ maxLen ∧ ∀ y ∈ l, q y) := by
 intro H enc w base spare held fuel cs x hx
 rcases open_slice hu hx with ⟨rfl, _⟩ | ⟨a, len, cap, m, n, D, Pl, rfl, hb, hl, hm, hmm, _, hel⟩
 ·exact ⟨[], ⟨none, 0, rfl, Nat.le_refl _, rfl, Nat.zero_le _, fun h => absurd h (by simp)⟩, Nat.zero_le _, fun y hy => by simp at hy⟩
 ·have hlm : len ≤ m := by rw [hmm]; split <;> omega
  obtain ⟨Y, hY⟩ := choose_lt (α := α) (n := len) (p := fun i y => ∃ cs', w.cells? base (a.add (i * P.cellsOf e)) (P.cellsOf e) = some cs' ∧ d.K w y cs' ∧ q y) (fun i hi => by
   obtain ⟨cs', h1, h2⟩ := hel i (by omega)
   obtain ⟨y, h3, h4⟩ := h H enc w base spare held n cs' _ h2
   exact ⟨y, cs', h1, h3, h4⟩)
  have hlen : ((List.range len).map Y).length = len := by simp
  refine ⟨(List.range len).map Y, ⟨some a, cap, by rw [hlen], by rw [hlen]; exact hl, rfl, ?_, fun _ => ⟨a, rfl, fun j p hj => ?_⟩⟩, ?_, fun y hy => ?_⟩
  ·rw [hlen]; unfold maxLen at hm; omega
  ·obtain ⟨hjl, hje⟩ := List.getElem?_eq_some_iff.1 hj
   rw [hlen] at hjl
   have hpj : p = Y j := by rw [← hje]; simp
   obtain ⟨cs', h1, h3, _⟩ := hY j hjl
   obtain ⟨_, hcl, hcc⟩ := World.cells?_some h1
   refine ⟨cs', d.K_len h3, by rw [hpj]; exact h3, fun i u hu2 => ?_⟩
   have hi := (List.getElem?_eq_some_iff.1 hu2).1
   rw [d.K_len h3] at hi
   have h5 := hcc i (by rw [hc]; exact hi)
   rw [hc, Go.Deep.add_add] at h5
   rw [h5, ← hu2]
  ·rw [hlen]; omega
  ·obtain ⟨j, hj, rfl⟩ := List.mem_map.1 hy
   obtain ⟨_, _, _, h4⟩ := hY j (List.mem_range.1 hj)
   exact h4
/-- Fields, one behind the other, from a place on. -/
def OpensSeg (P : Program) (fs : List Field) (off : Nat) {α : Type} (d : Kd α) (q : α → Prop) : Prop :=
 ∀ (H : Type) (enc : TypeId × Value → H) (w : World) (base : Nat) (spare : Nat → Bool) (held : Bool) (fuel : Nat) (cs : List Value), cs.length = d.sz →
  (∀ f ∈ fs, ∃ x : DataW H × List MemPlace, DataW.trod enc P w base spare held fuel f.type ((cs.drop (f.offset - off)).take (P.cellsOf f.type)) = some x) → ∃ y : α, d.K w y cs ∧ q y
theorem OpensSeg.one {P : Program} {f : Field} {off : Nat} {α : Type} {d : Kd α} {q : α → Prop} (ho : f.offset = off) (hc : P.cellsOf f.type = d.sz) (h : Opens P f.type d q) : OpensSeg P [f] off d q := by
 intro H enc w base spare held fuel cs hl hf
 obtain ⟨x, hx⟩ := hf f List.mem_cons_self
 rw [ho, Nat.sub_self, List.drop_zero, hc, ← hl, List.take_length] at hx
 exact h H enc w base spare held fuel cs x hx
theorem OpensSeg.cons {P : Program} {f : Field} {fs : List Field} {off : Nat} {α β : Type} {d : Kd α} {d2 : Kd β} {q : α → Prop} {q2 : β → Prop} (ho : f.offset = off) (hc : P.cellsOf f.type = d.sz) (hm : ∀ g ∈ fs, off + d.sz ≤ g.offset) (h : Opens P f.type d q) (h2 : OpensSeg P fs (off + d.sz) d2 q2) :
  OpensSeg P (f :: fs) off (Kd.pair d d2) (fun y => q y.1 ∧ q2 y.2) := by
 intro H enc w base spare held fuel cs hl hf
 have hl' : cs.length = d.sz + d2.sz := hl
 obtain ⟨x, hx⟩ := hf f List.mem_cons_self
 rw [ho, Nat.sub_self, List.drop_zero, hc] at hx
 obtain ⟨y, h3, h4⟩ := h H enc w base spare held fuel _ x hx
 obtain ⟨y2, h5, h6⟩ := h2 H enc w base spare held fuel (cs.drop d.sz) (by rw [List.length_drop]; omega) (fun g hg => by
  obtain ⟨x2, hx2⟩ := hf g (List.mem_cons_of_mem _ hg)
  refine ⟨x2, ?_⟩
  have := hm g hg
  rw [List.drop_drop, show d.sz + (g.offset - (off + d.sz)) = g.offset - off by omega]
  exact hx2)
 exact ⟨(y, y2), ⟨cs.take d.sz, cs.drop d.sz, (List.take_append_drop _ _).symm, h3, h5⟩, h4, h6⟩
theorem Opens.struct {P : Program} {t : TypeId} {fs : Array Field} {α : Type} {d : Kd α} {q : α → Prop} (hu : P.underlying t = some (.struct fs)) (hc : P.cellsOf t = d.sz) (h : OpensSeg P fs.toList 0 d q) : Opens P t d q := by
 intro H enc w base spare held fuel cs x hx
 obtain ⟨xs, n, rfl, _, hl, hxs, hf⟩ := DataW.trod_struct hu hx
 refine h H enc w base spare held n cs (by rw [hl, hc]) (fun f hf2 => ?_)
 obtain ⟨i, hi, rfl⟩ := List.getElem_of_mem hf2
 have h1 := hf i fs.toList[i] (by rw [Array.getElem?_eq_getElem (by simpa using hi)]; simp)
 have hi2 : i < fs.size := by simpa using hi
 rw [List.getElem?_eq_getElem (by omega)] at h1
 exact ⟨_, by rw [Nat.sub_zero]; exact h1⟩
/-- An argument that is a slice: its value, its list, how long it may be. -/
theorem Opens.arg {P : Program} {t e : TypeId} {α : Type} {d : Kd α} {q : List α → Prop} (ho : Opens P t (Kd.slice e d) q) {H : Type} {enc : TypeId × Value → H} {w : World} {base : Nat} {spare : Nat → Bool} {held : Bool} {a : Option Addr} {len cap : Nat} {D : DataW H} {ps : List MemPlace} (h : DataW.Trod enc P w base spare held t (.slice a len cap) D ps) :
  ∃ l : List α, len = l.length ∧ Kd.C d w a l.length l ∧ l.length ≤ cap ∧ q l := by
 obtain ⟨fuel, hf⟩ := h
 obtain ⟨l, ⟨A, c, he, hlc, hC⟩, hq⟩ := ho H enc w base spare held fuel _ _ hf
 simp [Value.cells] at he
 obtain ⟨rfl, rfl, rfl⟩ := he
 exact ⟨l, rfl, hC, hlc, hq⟩
theorem sized_slice_any {H : Type} {enc : TypeId × Value → H} {P : Program} {W : World} {base : Nat} {spare : Nat → Bool} {held : Bool} {t e : TypeId} {a : Option Addr} {len cap : Nat} {d : DataW H} {ps : List MemPlace} {ts : List TypeId} {ds : List (DataW H)} {j : Nat}
  (hsz : (DataW.weightsEach P ts ds).all (· ≤ reachBytes) = true) (ht : ts[j]? = some t) (hd : ds[j]? = some d) (hu : P.underlying t = some (.slice e)) {B : Nat} (hB : P.bytesOf e = B)
  (h : DataW.Trod enc P W base spare held t (.slice a len cap) d ps) : len * B ≤ 140737488351232 := by
 obtain ⟨fuel, hf⟩ := h
 rcases open_slice hu hf with ⟨hcs, _⟩ | ⟨x, l, c, m, n, D, Pl, hcs, _, hl, _, hm, hx, _⟩
 ·simp [Value.cells] at hcs
  obtain ⟨rfl, rfl, rfl⟩ := hcs
  simp
 ·simp [Value.cells] at hcs
  obtain ⟨rfl, rfl, rfl⟩ := hcs
  obtain ⟨hx, _⟩ := Prod.mk.inj hx
  subst hx
  have z := sized_slice hsz ht hd hu
  rw [hB] at z
  have h1 : len ≤ ((List.range len).map D).length + ((List.range (m - len)).map fun j => D (len + j)).length := by simp
  exact Nat.le_trans (Nat.mul_le_mul_right _ h1) z
end Go.Proofs.Ytgeldmhgbnamcaa.P
end
section
namespace Go.Proofs.Ytgeldmhgbnamcaa.P
open Go.RowKit Go.Proofs.YtgeldmhgbnamcaaW.PrintWords Go.Proofs.YtgeldmhgbnamcaaW.PrintLast Go.Proofs.YtgeldmhgbnamcaaW.PrintMore
set_option linter.unusedVariables false
set_option linter.unusedSimpArgs false
def wfC (x : S40) : Prop := (-9223372036854775808 ≤ x.f0 ∧ x.f0 ≤ 9223372036854775807) ∧ (0 ≤ x.f1 ∧ x.f1 ≤ 18446744073709551615) ∧ (-9223372036854775808 ≤ x.f2 ∧ x.f2 ≤ 9223372036854775807)
instance : Inhabited S40 := ⟨z40⟩
theorem opens_i64 {P : Program} {t : TypeId} (hu : P.underlying t = some (.int .i64)) : Opens P t (Kd.int .i64) (fun n => -9223372036854775808 ≤ n ∧ n ≤ 9223372036854775807) := (Opens.int hu).imp fun _ h => bounds_i64 h
theorem opens_u64 {P : Program} {t : TypeId} (hu : P.underlying t = some (.int .u64)) : Opens P t (Kd.int .u64) (fun n => 0 ≤ n ∧ n ≤ 18446744073709551615) := (Opens.int hu).imp fun _ h => bounds_u64 h
theorem opens40 : Opens Try.prog 40 k40 wfC :=
 Opens.iso (Opens.struct (d := Kd.pair (Kd.int .i64) (Kd.pair (Kd.int .u64) (Kd.int .i64))) Try.underlying40 (by kernel_rfl)
  (OpensSeg.cons rfl (by kernel_rfl) (by decide) (opens_i64 Try.underlying3) (OpensSeg.cons rfl (by kernel_rfl) (by decide) (opens_u64 Try.underlying38) (OpensSeg.one rfl (by kernel_rfl) (opens_i64 Try.underlying2)))))
  (fun x : S40 => (x.f0, x.f1, x.f2)) (fun y => ⟨y.1, y.2.1, y.2.2⟩) (fun _ => rfl)
theorem opens22 : Opens Try.prog 22 (Kd.slice 40 k40) (fun l => l.length ≤ maxLen ∧ ∀ y ∈ l, wfC y) := Opens.slice Try.underlying22 (by kernel_rfl) opens40
end Go.Proofs.Ytgeldmhgbnamcaa.P
end
section
/- Plain laws of batches, first part: numbers, reading, order, sums by insertion. No program's step in sight, only the printed functions. -/
namespace Go.Proofs.Ytgeldmhgbnamcaa.Pure
open Go.RowKit Go.Proofs.Ytgeldmhgbnamcaa.P Go.Proofs.YtgeldmhgbnamcaaW.PrintWords Go.Proofs.YtgeldmhgbnamcaaW.PrintLast
set_option linter.unusedVariables false
set_option linter.unusedSimpArgs false
/-- no list here is longer -/
abbrev Short (n : Nat) : Prop := n ≤ 5864062014634
theorem w64s {n : Nat} (h : n ≤ 9000000000000000000) : wrap64 ((n : Int) + 1) = ((n + 1 : Nat) : Int) := by unfold wrap64; omega
theorem w64p {n : Nat} (h : n ≤ 9000000000000000000) : wrap64 (((n + 1 : Nat) : Int) - 1) = (n : Int) := by unfold wrap64; omega
theorem rd4 (p : List S40) (x : S40) (q : List S40) {i : Int} (h : i = p.length) : rd_T40 (p ++ x :: q) i = x := by subst h; simp [rd_T40]
theorem rd5 (p : List S50) (x : S50) (q : List S50) {i : Int} (h : i = p.length) : rd_T50 (p ++ x :: q) i = x := by subst h; simp [rd_T50]
theorem Ev.id {α : Type} {g f : Nat → Option α} {r : α} (k : Ev f r) (h : ∀ k, f k = g k) : Ev g r := Ev.congr (fun k => (h k).symm) k
def u (x : S40) : S50 := ⟨x.f0, x.f1, x.f2⟩
def v (x : S50) : S40 := ⟨x.f0, x.f1, x.f2⟩
/-! ### the order -/
def kl (a b : S50) : Prop := a.f0 < b.f0 ∨ (a.f0 = b.f0 ∧ a.f1 < b.f1)
def ke (a b : S50) : Prop := a.f0 = b.f0 ∧ a.f1 = b.f1
instance (a b : S50) : Decidable (kl a b) := by unfold kl; exact inferInstance
instance (a b : S50) : Decidable (ke a b) := by unfold ke; exact inferInstance
def ordv (a b : S50) : Int := if kl a b then -1 else if ke a b then 0 else 1
theorem kl_trans {a b c : S50} (h : kl a b) (k : kl b c) : kl a c := by unfold kl at *; omega
theorem kl_irrefl {a : S50} : ¬ kl a a := by unfold kl; omega
theorem kl_tri (a b : S50) : kl a b ∨ ke a b ∨ kl b a := by unfold kl ke; omega
theorem cmp_i (a b : Int) : cmp_Compare_int.f a b = some (if a < b then -1 else if b < a then 1 else 0) := by
 simp only [cmp_Compare_int.f, cmp_isNaN_int.f, Option.bind_some, bne_self_eq_false, Bool.false_eq_true, if_false]
 split <;> (try split) <;> simp_all
theorem cmp_u (a b : Int) : cmp_Compare_uint64.f a b = some (if a < b then -1 else if b < a then 1 else 0) := by
 simp only [cmp_Compare_uint64.f, cmp_isNaN_uint64.f, Option.bind_some, bne_self_eq_false, Bool.false_eq_true, if_false]
 split <;> (try split) <;> simp_all
theorem order_ev (a0 a1 a2 b0 b1 b2 : Int) : Ev (fun k => batch_order.f k a0 a1 a2 b0 b1 b2) (ordv ⟨a0, a1, a2⟩ ⟨b0, b1, b2⟩) := by
 refine ⟨3, fun k hk => ?_⟩
 obtain ⟨k, rfl⟩ : ∃ m, k = m + 3 := ⟨k - 3, by omega⟩
 have w1 : wrap64 (0 + 1) = 1 := by unfold wrap64; omega
 have w2 : wrap64 (1 + 1) = 2 := by unfold wrap64; omega
 simp only [batch_order.f, cmp_i, cmp_u, Option.bind_some, ordv, kl, ke]
 have w3 : wrap64 1 = 1 := by unfold wrap64; omega
 have w4 : wrap64 2 = 2 := by unfold wrap64; omega
 by_cases h1 : a0 < b0
 ·simp [h1, cmp_Or_int.f, cmp_Or_int.l0, rd]
 by_cases h2 : b0 < a0
 ·have : ¬ a0 = b0 := by omega
  simp [h1, h2, this, cmp_Or_int.f, cmp_Or_int.l0, rd]
 obtain rfl : a0 = b0 := by omega
 by_cases h3 : a1 < b1
 ·simp [h1, h3, cmp_Or_int.f, cmp_Or_int.l0, rd, w1, w3, w4]
 by_cases h4 : b1 < a1
 ·have : ¬ a1 = b1 := by omega
  simp [h1, h3, h4, this, cmp_Or_int.f, cmp_Or_int.l0, rd, w1, w3, w4]
 obtain rfl : a1 = b1 := by omega
 simp [h1, h3, cmp_Or_int.f, cmp_Or_int.l0, rd, w1, w3, w4, w2]
def wi (n : Int) : Prop := -576460752303423488 ≤ n ∧ n ≤ 576460752303423488
instance (n : Int) : Decidable (wi n) := by unfold wi; exact inferInstance
theorem within_eq (n : Int) : batch_within.f n = some (decide (wi n)) := by
 unfold batch_within.f wi
 by_cases h : n ≥ -576460752303423488
 ·rw [if_pos h]; simp [h]
 ·rw [if_neg h]; simp [h]
theorem within3_eq (n : Int) : marchlandref03_within.f n = some (decide (wi n)) := by
 unfold marchlandref03_within.f wi
 by_cases h : n ≥ -576460752303423488
 ·rw [if_pos h]; simp [h]
 ·rw [if_neg h]; simp [h]
theorem before_eq (a b : S50) : marchlandref03_before.f a.f0 a.f1 a.f2 b.f0 b.f1 b.f2 = some (decide (kl a b)) := by
 unfold marchlandref03_before.f kl
 by_cases h : a.f0 < b.f0
 ·rw [if_pos h]; simp [h]
 ·rw [if_neg h]
  by_cases h2 : a.f0 = b.f0
  ·rw [if_pos h2]; simp [h2]
  ·rw [if_neg h2]; simp [h, h2]
def wrongv (x : S50) : Int := if x.f0 < 0 ∨ x.f0 ≥ 64 then 2 else if x.f1 = 18446744073709551615 then 1 else if wi x.f2 then 0 else 10
/-! ### sums by insertion -/
def plus (y x : S50) : S50 := ⟨y.f0, y.f1, wrap64 (y.f2 + x.f2)⟩
def ins (x : S50) : List S50 → List S50
 | [] => [x]
 | y :: l => if ke y x then plus y x :: l else if kl x y then x :: y :: l else y :: ins x l
def tot (l : List S50) : List S50 := l.foldl (fun a x => ins x a) []
theorem wrap64_ass (a b c : Int) : wrap64 (wrap64 (a + b) + c) = wrap64 (a + b + c) := by unfold wrap64; omega
theorem ins_comm (x y : S50) : ∀ l, ins x (ins y l) = ins y (ins x l) := by
 have pc : ke y x → plus y x = plus x y := by intro h; unfold plus ke at *; simp [h.1, h.2, Int.add_comm]
 have pp : ∀ z, plus (plus z x) y = plus (plus z y) x := by intro z; unfold plus; simp only [wrap64_ass]; congr 2; omega
 intro l
 induction l with
 | nil =>
  simp only [ins]
  rcases kl_tri x y with h | h | h
  ·have a1 : ¬ ke y x := by unfold kl ke at *; omega
   have a2 : ¬ ke x y := by unfold kl ke at *; omega
   have a3 : ¬ kl y x := by unfold kl at *; omega
   simp [a1, a2, a3, h]
  ·have h' : ke y x := ⟨h.1.symm, h.2.symm⟩
   simp [h, h', pc h']
  ·have a1 : ¬ ke y x := by unfold kl ke at *; omega
   have a2 : ¬ ke x y := by unfold kl ke at *; omega
   have a3 : ¬ kl x y := by unfold kl at *; omega
   simp [a1, a2, a3, h]
 | cons z l ih =>
  have kp : ∀ w, ke (plus z x) w = ke z w := fun w => rfl
  have kq : ∀ w, ke (plus z y) w = ke z w := fun w => rfl
  have lp : ∀ w, kl w (plus z x) = kl w z := fun w => rfl
  have lq : ∀ w, kl w (plus z y) = kl w z := fun w => rfl
  by_cases e1 : ke z x
  ·by_cases e2 : ke z y
   ·simp [ins, e1, e2, kp, kq, pp]
   ·by_cases c2 : kl y z
    ·have a1 : ¬ ke y x := by unfold kl ke at *; omega
     have a2 : ¬ kl x y := by unfold kl ke at *; omega
     simp [ins, e1, e2, kp, kq, c2, a1, a2, lp]
    ·simp [ins, e1, e2, kp, kq, c2, lp]
  ·by_cases e2 : ke z y
   ·by_cases c2 : kl x z
    ·have a1 : ¬ ke x y := by unfold kl ke at *; omega
     have a2 : ¬ kl y x := by unfold kl ke at *; omega
     simp [ins, e1, e2, kp, kq, c2, a1, a2, lq]
    ·simp [ins, e1, e2, kp, kq, c2, lq]
   ·by_cases c1 : kl x z
    ·by_cases c2 : kl y z
     ·rcases kl_tri x y with h | h | h
      ·have a1 : ¬ ke y x := by unfold kl ke at *; omega
       have a2 : ¬ ke x y := by unfold kl ke at *; omega
       have a3 : ¬ kl y x := by unfold kl at *; omega
       simp [ins, e1, e2, c1, c2, a1, a2, a3, h]
      ·have h' : ke y x := ⟨h.1.symm, h.2.symm⟩
       simp [ins, e1, e2, c1, c2, h, h', pc h']
      ·have a1 : ¬ ke y x := by unfold kl ke at *; omega
       have a2 : ¬ ke x y := by unfold kl ke at *; omega
       have a3 : ¬ kl x y := by unfold kl at *; omega
       simp [ins, e1, e2, c1, c2, a1, a2, a3, h]
     ·have a1 : ¬ ke x y := by unfold kl ke at *; omega
      have a2 : ¬ kl y x := by unfold kl ke at *; omega
      simp [ins, e1, e2, c1, c2, a1, a2]
    ·by_cases c2 : kl y z
     ·have a1 : ¬ ke y x := by unfold kl ke at *; omega
      have a2 : ¬ kl x y := by unfold kl ke at *; omega
      simp [ins, e1, e2, c1, c2, a1, a2]
     ·simp [ins, e1, e2, c1, c2, ih]
theorem tot_perm {a b : List S50} (h : a.Perm b) : tot a = tot b := h.foldl_eq' (fun x _ y _ z => ins_comm y x z) []
theorem ins_app {x : S50} : ∀ {A : List S50} (B : List S50), (∀ a ∈ A, kl a x) → ins x (A ++ B) = A ++ ins x B := by
 intro A
 induction A with
 | nil => intro B _; rfl
 | cons a A ih =>
  intro B h
  have h1 : kl a x := h a (by simp)
  have a1 : ¬ ke a x := by unfold kl ke at *; omega
  have a2 : ¬ kl x a := by unfold kl at *; omega
  simp [ins, a1, a2, ih B (fun b hb => h b (by simp [hb]))]
/-- strictly in order -/
abbrev Str (l : List S50) : Prop := l.Pairwise kl
/-- in order -/
abbrev Srt (l : List S50) : Prop := l.Pairwise (fun a b => ¬ kl b a)
theorem ins_mem {x : S50} : ∀ {l : List S50} {z : S50}, z ∈ ins x l → ke z x ∨ ∃ y ∈ l, ke z y := by
 intro l
 induction l with
 | nil => intro z h; simp only [ins, List.mem_singleton] at h; subst h; exact .inl ⟨rfl, rfl⟩
 | cons y l ih =>
  intro z h
  simp only [ins] at h
  split at h
  ·rcases List.mem_cons.1 h with rfl | h
   ·exact .inr ⟨y, by simp, rfl, rfl⟩
   ·exact .inr ⟨z, by simp [h], rfl, rfl⟩
  ·split at h
   ·rcases List.mem_cons.1 h with rfl | h
    ·exact .inl ⟨rfl, rfl⟩
    ·exact .inr ⟨z, h, rfl, rfl⟩
   ·rcases List.mem_cons.1 h with rfl | h
    ·exact .inr ⟨z, by simp, rfl, rfl⟩
    ·rcases ih h with h | ⟨w, hw, h⟩
     ·exact .inl h
     ·exact .inr ⟨w, by simp [hw], h⟩
theorem ins_str {x : S50} : ∀ {l : List S50}, Str l → Str (ins x l) := by
 intro l
 induction l with
 | nil => intro _; simp [ins]
 | cons y l ih =>
  intro h
  obtain ⟨h1, h2⟩ := List.pairwise_cons.1 h
  simp only [ins]
  split
  ·exact List.pairwise_cons.2 ⟨fun z hz => h1 z hz, h2⟩
  ·rename_i e
   split
   ·rename_i c
    refine List.pairwise_cons.2 ⟨fun z hz => ?_, h⟩
    rcases List.mem_cons.1 hz with rfl | hz
    ·exact c
    ·exact kl_trans c (h1 z hz)
   ·rename_i c
    refine List.pairwise_cons.2 ⟨fun z hz => ?_, ih h2⟩
    rcases ins_mem hz with k | ⟨w, hw, k⟩
    ·have := kl_tri x y; unfold kl ke at *; omega
    ·have := h1 w hw; unfold kl ke at *; omega
theorem foldl_ins_str : ∀ (l a : List S50), Str a → Str (l.foldl (fun a x => ins x a) a) := by
 intro l
 induction l with
 | nil => intro a h; exact h
 | cons x l ih => intro a h; exact ih _ (ins_str h)
theorem tot_str (l : List S50) : Str (tot l) := foldl_ins_str l [] List.Pairwise.nil
theorem foldl_ins_mem : ∀ (l a : List S50) {z : S50}, z ∈ l.foldl (fun a x => ins x a) a → (∃ y ∈ l, ke z y) ∨ ∃ y ∈ a, ke z y := by
 intro l
 induction l with
 | nil => intro a z h; exact .inr ⟨z, h, rfl, rfl⟩
 | cons x l ih =>
  intro a z h
  rcases ih _ h with ⟨y, hy, k⟩ | ⟨y, hy, k⟩
  ·exact .inl ⟨y, by simp [hy], k⟩
  ·rcases ins_mem hy with j | ⟨w, hw, j⟩
   ·exact .inl ⟨x, by simp, k.1.trans j.1, k.2.trans j.2⟩
   ·exact .inr ⟨w, hw, k.1.trans j.1, k.2.trans j.2⟩
theorem tot_mem {l : List S50} {z : S50} (h : z ∈ tot l) : ∃ y ∈ l, ke z y := by
 rcases foldl_ins_mem l [] h with h | ⟨y, hy, _⟩
 ·exact h
 ·cases hy
theorem ins_len {x : S50} : ∀ {l : List S50}, (ins x l).length ≤ l.length + 1 := by
 intro l
 induction l with
 | nil => simp [ins]
 | cons y l ih => simp only [ins]; split <;> (try split) <;> simp <;> omega
theorem foldl_ins_len : ∀ (l a : List S50), (l.foldl (fun a x => ins x a) a).length ≤ a.length + l.length := by
 intro l
 induction l with
 | nil => intro a; simp
 | cons x l ih => intro a; have := ih (ins x a); have := ins_len (x := x) (l := a); simp only [List.foldl_cons, List.length_cons]; omega
theorem tot_len (l : List S50) : (tot l).length ≤ l.length := by have := foldl_ins_len l []; simpa [tot] using this
/-- the groups of a list in order, the open one first -/
def grp (c : S50) : List S50 → List S50
 | [] => [c]
 | y :: r => if ke c y then grp (plus c y) r else c :: grp y r
theorem foldl_grp : ∀ (r : List S50) (A : List S50) (c : S50), (∀ a ∈ A, kl a c) → Srt (c :: r) → r.foldl (fun a x => ins x a) (A ++ [c]) = A ++ grp c r := by
 intro r
 induction r with
 | nil => intro A c _ _; rfl
 | cons y r ih =>
  intro A c hA hs
  obtain ⟨h1, h2⟩ := List.pairwise_cons.1 hs
  have hcy : ¬ kl y c := h1 y (by simp)
  have hAy : ∀ a ∈ A, kl a y := fun a ha => by have := hA a ha; unfold kl at *; omega
  simp only [List.foldl_cons, ins_app [c] hAy, ins, grp]
  by_cases e : ke c y
  ·rw [if_pos e, if_pos e]
   refine ih A (plus c y) hA (List.pairwise_cons.2 ⟨fun z hz => h1 z (by simp [hz]), (List.pairwise_cons.1 h2).2⟩)
  ·have hcy' : kl c y := (kl_tri c y).elim id (fun h => h.elim (fun h => absurd h e) (fun h => absurd h hcy))
   rw [if_neg e, if_neg e, if_neg hcy]
   have := ih (A ++ [c]) y (fun a ha => (List.mem_append.1 ha).elim (fun h => hAy a h) (fun h => by simp at h; subst h; exact hcy')) h2
   simpa using this
theorem tot_grp {c : S50} {r : List S50} (h : Srt (c :: r)) : tot (c :: r) = grp c r := by
 have := foldl_grp r [] c (fun _ h => by cases h) h
 simpa [tot, ins] using this
/-- sums checked: what lies outside the bounds spoils all, what is nought falls away -/
def good (G : List S50) : Bool := G.all (fun x => decide (wi x.f2))
def fin (G : List S50) : List S50 := G.filter (fun x => decide (x.f2 ≠ 0))
end Go.Proofs.Ytgeldmhgbnamcaa.Pure
end
