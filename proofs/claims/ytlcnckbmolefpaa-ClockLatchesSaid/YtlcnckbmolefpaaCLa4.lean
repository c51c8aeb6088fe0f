/- Walks and laws of several statements of this seat, joined into one text; no condition. -/
import Derived.Test.YtlcnckbmolefpaaProg
import Derived.Below
import Derived.Deep.Draws
import Derived.Deep.AppendLies
import Derived.Maps.AppendAt
import Derived.OwnWalk
import Derived.Laws.BytesArg
import Derived.Laws.MakeOwn
import Derived.Laws.OwnMore
import Derived.Deep.OwnRows
import Derived.Tactics
import Derived.Lib.ConvBytes
import Derived.Laws.Slices
import Derived.WalkKit
import Derived.KernelRfl
import Derived.RowKit3
import Derived.Deep.LoopGhost
import Derived.Deep.QuietTactic
import Derived.BigQuiet
import Derived.WideLaws
import Derived.Deep.DeepCutAuto
import Derived.Deep.CutBlock
import Derived.Deep.RegionHeld3
import Derived.Laws.Rows
import Derived.Lib.AppendStr
import Derived.ArgAppend
import Derived.Laws.IdiomCopy
import Derived.OrdersHeld
import Derived.Laws.BitsLemmas
import Derived.RowKit
import Derived.Laws.StructEq
import Derived.Maps.RangeWalk
import Derived.Maps.OwnRows
import Derived.Maps.Views
import Derived.Maps.OwnSet
import Derived.IntWalk
import Derived.Shelf.SlMaps.Clone
import Derived.Deep.RegionHeldLaw
import Derived.Maps.GroupsBeside
import Derived.Test.YtlcnckbmolefpaaCLa0
import Derived.Test.YtlcnckbmolefpaaCLa1
import Derived.Test.YtlcnckbmolefpaaCLa2
import Derived.Test.YtlcnckbmolefpaaCLa3
section
namespace Go.Proofs.Ytlcnckbmolefpaa.P
open Go.RowKit Go.Proofs.YtlcnckbmolefpaaW.PrintWords Go.Proofs.YtlcnckbmolefpaaW.PrintLast Go.Proofs.YtlcnckbmolefpaaW.PrintMore
attribute [local go_sem] max2_int min2_int max_two min_two max_three min_three max_four min_four   -- for this text's walks alone
set_option linter.unusedVariables false
set_option linter.unusedSimpArgs false
/-! ### marchlandlaw09_told: function 26 -/
def marchlandlaw09_told.f  : Option (Bool) := (some (([(⟨0, 3, 0, true⟩ : S128), (⟨0, 1, 0, true⟩ : S128), (⟨1, 0, 0, true⟩ : S128), (⟨1, 2, 0, true⟩ : S128)] : List (S128)) : List (S128))).bind fun y184 => ((clock_Race.f y184).bind fun bt187 => (if 0 < (y184.length : Int) then (if 1 < (y184.length : Int) then (if 3 < (y184.length : Int) then ((clock_Race.f (([(⟨(rd_T128 y184 0).f0, (rd_T128 y184 0).f1, (rd_T128 y184 0).f2, (rd_T128 y184 0).f3⟩ : S128), (⟨(rd_T128 y184 1).f0, (rd_T128 y184 1).f1, (rd_T128 y184 1).f2, (rd_T128 y184 1).f3⟩ : S128), (⟨(rd_T128 y184 3).f0, (rd_T128 y184 3).f1, (rd_T128 y184 3).f2, (rd_T128 y184 3).f3⟩ : S128)] : List (S128)))).bind fun bt195 => (if bt187.1 = (-1) then (if bt187.2 = (-1) then (if bt195.1 = 0 then (if bt195.2 = 2 then ((clock_Before.f y184 0 3).bind fun t197 => (if t197 = true then ((clock_Before.f y184 3 0).bind fun t198 => (some (!t198))) else (some false))) else (some false)) else (some false)) else (some false)) else (some false))) else (none)) else (none)) else (none)))
def marchlandlaw09_told.T3 : Bool × List (List Nat × List Nat) := (true, [([], []), ([0], [0]), ([1], [1]), ([], []), ([3], [3]), ([4], [4]), ([], []), ([6], [6]), ([7], [7]), ([2, 5, 8], [2, 5, 8]), ([9], [9]), ([10], [10]), ([11], [11]), ([11], [11]), ([12, 10, 0, 1, 2, 3, 4, 5, 6, 7, 8, 9, 10, 11, 12], [12]), ([13, 14, 0, 1, 2, 3, 4, 5, 6, 7, 8, 9, 10, 11, 12, 13, 14], [13])])
def marchlandlaw09_told.B3 : List Nat := [0, 1, 3, 0, 8, 24, 0, 64, 192, 511, 1023, 2047, 4095, 4095, 8191, 32767]
theorem marchlandlaw09_told.tab3 : rtab .any (opsOf Try.f26 3) = marchlandlaw09_told.T3 := by kernel_rfl
theorem marchlandlaw09_told.bits3 : waitsOk marchlandlaw09_told.T3.2 marchlandlaw09_told.B3 = true := by kernel_rfl
set_option maxHeartbeats 8000000 in
set_option maxRecDepth 100000 in
theorem marchlandlaw09_told.calls  (r : Bool) (w : World) (h : marchlandlaw09_told.f  = some r) :
    Calls Try.prog 26 #[] w fun e w' => e = .returned (.bool r) ∧ Below w.heap.size w w' := by
  have hu128 := Try.underlying128
  have HB := Aside0.mk (Below.refl w.heap.size w)
  have H : ((some (([(⟨0, 3, 0, true⟩ : S128), (⟨0, 1, 0, true⟩ : S128), (⟨1, 0, 0, true⟩ : S128), (⟨1, 2, 0, true⟩ : S128)] : List (S128)) : List (S128))).bind fun y184 => ((clock_Race.f y184).bind fun bt187 => (if 0 < (y184.length : Int) then (if 1 < (y184.length : Int) then (if 3 < (y184.length : Int) then ((clock_Race.f (([(⟨(rd_T128 y184 0).f0, (rd_T128 y184 0).f1, (rd_T128 y184 0).f2, (rd_T128 y184 0).f3⟩ : S128), (⟨(rd_T128 y184 1).f0, (rd_T128 y184 1).f1, (rd_T128 y184 1).f2, (rd_T128 y184 1).f3⟩ : S128), (⟨(rd_T128 y184 3).f0, (rd_T128 y184 3).f1, (rd_T128 y184 3).f2, (rd_T128 y184 3).f3⟩ : S128)] : List (S128)))).bind fun bt195 => (if bt187.1 = (-1) then (if bt187.2 = (-1) then (if bt195.1 = 0 then (if bt195.2 = 2 then ((clock_Before.f y184 0 3).bind fun t197 => (if t197 = true then ((clock_Before.f y184 3 0).bind fun t198 => (some (!t198))) else (some false))) else (some false)) else (some false)) else (some false)) else (some false))) else (none)) else (none)) else (none)))) = some r := h
  clear h
  obtain ⟨y184, hy184⟩ : ∃ y_ : List (S128), y_ = (([(⟨0, 3, 0, true⟩ : S128), (⟨0, 1, 0, true⟩ : S128), (⟨1, 0, 0, true⟩ : S128), (⟨1, 2, 0, true⟩ : S128)] : List (S128))) := ⟨_, rfl⟩
  replace H : ((clock_Race.f y184).bind fun bt187 => (if 0 < (y184.length : Int) then (if 1 < (y184.length : Int) then (if 3 < (y184.length : Int) then ((clock_Race.f (([(⟨(rd_T128 y184 0).f0, (rd_T128 y184 0).f1, (rd_T128 y184 0).f2, (rd_T128 y184 0).f3⟩ : S128), (⟨(rd_T128 y184 1).f0, (rd_T128 y184 1).f1, (rd_T128 y184 1).f2, (rd_T128 y184 1).f3⟩ : S128), (⟨(rd_T128 y184 3).f0, (rd_T128 y184 3).f1, (rd_T128 y184 3).f2, (rd_T128 y184 3).f3⟩ : S128)] : List (S128)))).bind fun bt195 => (if bt187.1 = (-1) then (if bt187.2 = (-1) then (if bt195.1 = 0 then (if bt195.2 = 2 then ((clock_Before.f y184 0 3).bind fun t197 => (if t197 = true then ((clock_Before.f y184 3 0).bind fun t198 => (some (!t198))) else (some false))) else (some false)) else (some false)) else (some false)) else (some false))) else (none)) else (none)) else (none))) = some r := by first | (rw [hy184]; with_reducible exact H) | (have H2_ := (Option.bind_some _ _).symm.trans H; rw [hy184]; with_reducible exact H2_) | (have H2_ := (Option.bind_some _ _).symm.trans H; with_reducible exact H2_) | with_reducible exact H | (rw [hy184]; exact H) | exact H
  have Ny184 := Aside0.mk hy184
  clear hy184
  replace H := Option.bind_eq_some_iff.mp H
  obtain ⟨⟨t187, t188⟩, A10, H⟩ := H
  replace H : (if 0 < (y184.length : Int) then (if 1 < (y184.length : Int) then (if 3 < (y184.length : Int) then ((clock_Race.f (([(⟨(rd_T128 y184 0).f0, (rd_T128 y184 0).f1, (rd_T128 y184 0).f2, (rd_T128 y184 0).f3⟩ : S128), (⟨(rd_T128 y184 1).f0, (rd_T128 y184 1).f1, (rd_T128 y184 1).f2, (rd_T128 y184 1).f3⟩ : S128), (⟨(rd_T128 y184 3).f0, (rd_T128 y184 3).f1, (rd_T128 y184 3).f2, (rd_T128 y184 3).f3⟩ : S128)] : List (S128)))).bind fun bt195 => (if t187 = (-1) then (if t188 = (-1) then (if bt195.1 = 0 then (if bt195.2 = 2 then ((clock_Before.f y184 0 3).bind fun t197 => (if t197 = true then ((clock_Before.f y184 3 0).bind fun t198 => (some (!t198))) else (some false))) else (some false)) else (some false)) else (some false)) else (some false))) else (none)) else (none)) else (none)) = some r := H
  have A1 := Aside0.mk A10
  clear A10
  by_cases c2 : 0 < (y184.length : Int)
  · rw [if_pos c2] at H
    have c2b0 : decide (0 < (y184.length : Int)) = true := decide_eq_true c2
    have c2b1 : decide (0 < y184.length) = true := decide_eq_true (by omega)
    clear c2
    by_cases c3 : 1 < (y184.length : Int)
    · rw [if_pos c3] at H
      have c3b0 : decide (1 < (y184.length : Int)) = true := decide_eq_true c3
      have c3b1 : decide (1 < y184.length) = true := decide_eq_true (by omega)
      clear c3
      by_cases c4 : 3 < (y184.length : Int)
      · rw [if_pos c4] at H
        have c4b0 : decide (3 < (y184.length : Int)) = true := decide_eq_true c4
        have c4b1 : decide (3 < y184.length) = true := decide_eq_true (by omega)
        clear c4
        obtain ⟨y192, hy192⟩ : ∃ y_ : List (S128), y_ = (([(⟨(rd_T128 y184 0).f0, (rd_T128 y184 0).f1, (rd_T128 y184 0).f2, (rd_T128 y184 0).f3⟩ : S128), (⟨(rd_T128 y184 1).f0, (rd_T128 y184 1).f1, (rd_T128 y184 1).f2, (rd_T128 y184 1).f3⟩ : S128), (⟨(rd_T128 y184 3).f0, (rd_T128 y184 3).f1, (rd_T128 y184 3).f2, (rd_T128 y184 3).f3⟩ : S128)] : List (S128))) := ⟨_, rfl⟩
        replace H : ((clock_Race.f y192).bind fun bt195 => (if t187 = (-1) then (if t188 = (-1) then (if bt195.1 = 0 then (if bt195.2 = 2 then ((clock_Before.f y184 0 3).bind fun t197 => (if t197 = true then ((clock_Before.f y184 3 0).bind fun t198 => (some (!t198))) else (some false))) else (some false)) else (some false)) else (some false)) else (some false))) = some r := by first | (rw [hy192]; with_reducible exact H) | (have H2_ := (Option.bind_some _ _).symm.trans H; rw [hy192]; with_reducible exact H2_) | (have H2_ := (Option.bind_some _ _).symm.trans H; with_reducible exact H2_) | with_reducible exact H | (rw [hy192]; exact H) | exact H
        have Ny192 := Aside0.mk hy192
        clear hy192
        replace H := Option.bind_eq_some_iff.mp H
        obtain ⟨⟨t195, t196⟩, A50, H⟩ := H
        replace H : (if t187 = (-1) then (if t188 = (-1) then (if t195 = 0 then (if t196 = 2 then ((clock_Before.f y184 0 3).bind fun t197 => (if t197 = true then ((clock_Before.f y184 3 0).bind fun t198 => (some (!t198))) else (some false))) else (some false)) else (some false)) else (some false)) else (some false)) = some r := H
        have A5 := Aside0.mk A50
        clear A50
        by_cases c6 : t187 = (-1)
        · rw [if_pos c6] at H
          have c6b0 : (t187 == (-1)) = true := beq_iff_eq.mpr c6
          have c6b1 : (t187 != (-1)) = false := bne_eq_false_iff_eq.mpr c6
          clear c6
          by_cases c7 : t188 = (-1)
          · rw [if_pos c7] at H
            have c7b0 : (t188 == (-1)) = true := beq_iff_eq.mpr c7
            have c7b1 : (t188 != (-1)) = false := bne_eq_false_iff_eq.mpr c7
            clear c7
            by_cases c8 : t195 = 0
            · rw [if_pos c8] at H
              have c8b0 : (t195 == 0) = true := beq_iff_eq.mpr c8
              have c8b1 : (t195 != 0) = false := bne_eq_false_iff_eq.mpr c8
              clear c8
              by_cases c9 : t196 = 2
              · rw [if_pos c9] at H
                have c9b0 : (t196 == 2) = true := beq_iff_eq.mpr c9
                have c9b1 : (t196 != 2) = false := bne_eq_false_iff_eq.mpr c9
                clear c9
                replace H := Option.bind_eq_some_iff.mp H
                obtain ⟨t197, A100, H⟩ := H
                replace H : (if t197 = true then ((clock_Before.f y184 3 0).bind fun t198 => (some (!t198))) else (some false)) = some r := H
                have A10 := Aside0.mk A100
                clear A100
                by_cases c11 : t197 = true
                · subst c11
                  have H1 : ((clock_Before.f y184 3 0).bind fun t198 => (some (!t198))) = some r := by rw [if_pos rfl] at H; exact H
                  clear H
                  have H := H1
                  clear H1
                  replace H := Option.bind_eq_some_iff.mp H
                  obtain ⟨t198, A120, H⟩ := H
                  replace H : (some (!t198)) = some r := H
                  have A12 := Aside0.mk A120
                  clear A120
                  obtain rfl := Option.some.inj H
                  go_enter Try.func26, Try.ntmps26
                  try go_wp2_with (first | ((with_reducible refine gate_dst (N := 10) rfl ?_); refine Kd.R_lit k128 _ 128 ?hg (N := 10) ?hd (xs := ([(⟨0, 3, 0, true⟩ : S128), (⟨0, 1, 0, true⟩ : S128), (⟨1, 0, 0, true⟩ : S128), (⟨1, 2, 0, true⟩ : S128)] : List (S128))) (inner := [.int .i64 0, .int .i64 3, .int .i64 0, .bool true, .int .i64 0, .int .i64 1, .int .i64 0, .bool true, .int .i64 1, .int .i64 0, .int .i64 0, .bool true, .int .i64 1, .int .i64 2, .int .i64 0, .bool true]) (ok := fun _ => True) (okp := fun _ => True) ?hr ?hp (fun _ hk => hk) trivial (Below.refl _ _) (Nat.le_refl _) (by simp) ?_; (case hd => rfl); (case hg => rfl); (case hr => first | (go_simp; done) | (go_simp; rfl)); (case hp => exact (Reps.c4 (show Kd.M k128 _ _ _ (⟨0, 3, 0, true⟩ : S128) [.int .i64 0, .int .i64 3, .int .i64 0, .bool true] from (k128_mkM _ _ _ (⟨0, 3, 0, true⟩ : S128) )) (Reps.c4 (show Kd.M k128 _ _ _ (⟨0, 1, 0, true⟩ : S128) [.int .i64 0, .int .i64 1, .int .i64 0, .bool true] from (k128_mkM _ _ _ (⟨0, 1, 0, true⟩ : S128) )) (Reps.c4 (show Kd.M k128 _ _ _ (⟨1, 0, 0, true⟩ : S128) [.int .i64 1, .int .i64 0, .int .i64 0, .bool true] from (k128_mkM _ _ _ (⟨1, 0, 0, true⟩ : S128) )) (Reps.c4 (show Kd.M k128 _ _ _ (⟨1, 2, 0, true⟩ : S128) [.int .i64 1, .int .i64 2, .int .i64 0, .bool true] from (k128_mkM _ _ _ (⟨1, 2, 0, true⟩ : S128) )) (Reps.none _ _)))))); intro v185 w13 ho14 hb hg_ hnew_; clear hg_ hnew_; (first | rw [← Ny184.out] at ho14 | (simp only [Int.reduceToNat] at ho14; rw [← Ny184.out] at ho14)); have n0_ := Aside0.mk (Kd.R_lower ho14 (below_size (by repeat (first | (with_reducible first | exact HB.out | apply below_alloc | apply pw_below_drewN | apply below_drew1) | exact HB.out)))); have n1_ := Aside0.mk (below_step (by repeat (first | (with_reducible first | exact HB.out | apply below_alloc | apply pw_below_drewN | apply below_drew1) | exact HB.out)) hb); clear HB; have HO186 := n0_; have HB := n1_; clear n0_ n1_; clear hb ho14; obtain ⟨Ao15, co15, eo15⟩ := Kd.R_slice HO186.out; subst eo15) | ((with_reducible refine gate_callee (f := 28) rfl ?_); refine goesL_ (some 13) rfl rfl Try.func28 (by kernel_rfl) rfl #[.slice Ao15 y184.length co15] rfl (by (try simp only [List.map_toArray, List.map_cons, List.map_nil]); first | done | rfl | (simp only [List.length_drop, List.length_take]; rfl)) ?_; (with_reducible refine (clock_Race.calls _ _ y184 t187 t188 _ ?side1 ?side2 A1.out).mono ?_); (case side1 => repeat (first | exact (Kd.R_reads' HO186.out).2.2 | (with_reducible refine Kd.C_alloc ?_ _) | (with_reducible refine Kd.C_drewN ?_ _) | (with_reducible refine Kd.C_drew ?_))); (case side2 => exact (Kd.R_reads' HO186.out).2.1); rintro e w16 ⟨rfl, hb⟩; refine ⟨_, rfl, ?_⟩; have n0_ := Aside0.mk (Kd.R_below (by (with_reducible repeat (first | apply Kd.R_alloc | apply Kd.R_drewN | apply Kd.R_drew)); exact HO186.out) hb); have n1_ := Aside0.mk (below_step (by repeat (first | (with_reducible first | exact HB.out | apply below_alloc | apply pw_below_drewN | apply below_drew1) | exact HB.out)) hb); clear HO186; clear HB; have HO186 := n0_; have HB := n1_; clear n0_ n1_; (try clear hb); (try clear hb2); (try clear hk); (try clear hi)))
                  have n0_ := Aside0.mk (Kd.R_drew HO186.out)
                  have n1_ := Aside0.mk (below_drew1 HB.out)
                  clear HO186
                  clear HB
                  have HO186 := n0_
                  have HB := n1_
                  clear n0_ n1_
                  have p189 : 0 ≤ (0 : Int) := (by omega)
                  have q189 : 0 < (y184.length : Int) := of_decide_eq_true (by first | (with_reducible assumption) | assumption)
                  obtain ⟨ad189, e189, hx189_0, hx189_1, hx189_2, hx189_3⟩ := at_T128 (Kd.R_reads' HO186.out).2.2 0 p189 q189
                  cases e189
                  have qi189 : (0 < y184.length) = True := eq_true (by omega)
                  (try rw [show ((0 : Int)).toNat = 0 from rfl] at hx189_0)
                  (try rw [show 0 * 4 = 0 from rfl] at hx189_0)
                  (try rw [Addr.add_zero'] at hx189_0)
                  (try rw [show ((0 : Int)).toNat = 0 from rfl] at hx189_1)
                  (try rw [show 0 * 4 = 0 from rfl] at hx189_1)
                  (try rw [Addr.add_zero'] at hx189_1)
                  (try rw [show ((0 : Int)).toNat = 0 from rfl] at hx189_2)
                  (try rw [show 0 * 4 = 0 from rfl] at hx189_2)
                  (try rw [Addr.add_zero'] at hx189_2)
                  (try rw [show ((0 : Int)).toNat = 0 from rfl] at hx189_3)
                  (try rw [show 0 * 4 = 0 from rfl] at hx189_3)
                  (try rw [Addr.add_zero'] at hx189_3)
                  replace p189 := eq_true p189
                  replace q189 := eq_true q189
                  have p190 : 0 ≤ (1 : Int) := (by omega)
                  have q190 : 1 < (y184.length : Int) := of_decide_eq_true (by first | (with_reducible assumption) | assumption)
                  obtain ⟨ad190, e190, hx190_0, hx190_1, hx190_2, hx190_3⟩ := at_T128 (Kd.R_reads' HO186.out).2.2 1 p190 q190
                  obtain rfl : ad189 = ad190 := (by injection e190)
                  (try simp only [show (1 : Int).toNat = 1 from rfl, Nat.reduceMul, Nat.reduceEqDiff, Go.Addr.add, ↓reduceIte] at hx190_0)
                  (try simp only [show (1 : Int).toNat = 1 from rfl, Nat.reduceMul, Nat.reduceEqDiff, Go.Addr.add, ↓reduceIte] at hx190_1)
                  (try simp only [show (1 : Int).toNat = 1 from rfl, Nat.reduceMul, Nat.reduceEqDiff, Go.Addr.add, ↓reduceIte] at hx190_2)
                  (try simp only [show (1 : Int).toNat = 1 from rfl, Nat.reduceMul, Nat.reduceEqDiff, Go.Addr.add, ↓reduceIte] at hx190_3)
                  have qi190 : (1 < y184.length) = True := eq_true (by omega)
                  (try rw [show ((1 : Int)).toNat = 1 from rfl] at hx190_0)
                  (try rw [show 1 * 4 = 4 from rfl] at hx190_0)
                  (try rw [show ((1 : Int)).toNat = 1 from rfl] at hx190_1)
                  (try rw [show 1 * 4 = 4 from rfl] at hx190_1)
                  (try rw [show ((1 : Int)).toNat = 1 from rfl] at hx190_2)
                  (try rw [show 1 * 4 = 4 from rfl] at hx190_2)
                  (try rw [show ((1 : Int)).toNat = 1 from rfl] at hx190_3)
                  (try rw [show 1 * 4 = 4 from rfl] at hx190_3)
                  replace p190 := eq_true p190
                  replace q190 := eq_true q190
                  have p191 : 0 ≤ (3 : Int) := (by omega)
                  have q191 : 3 < (y184.length : Int) := of_decide_eq_true (by first | (with_reducible assumption) | assumption)
                  obtain ⟨ad191, e191, hx191_0, hx191_1, hx191_2, hx191_3⟩ := at_T128 (Kd.R_reads' HO186.out).2.2 3 p191 q191
                  obtain rfl : ad189 = ad191 := (by injection e191)
                  (try simp only [show (3 : Int).toNat = 3 from rfl, Nat.reduceMul, Nat.reduceEqDiff, Go.Addr.add, ↓reduceIte] at hx191_0)
                  (try simp only [show (3 : Int).toNat = 3 from rfl, Nat.reduceMul, Nat.reduceEqDiff, Go.Addr.add, ↓reduceIte] at hx191_1)
                  (try simp only [show (3 : Int).toNat = 3 from rfl, Nat.reduceMul, Nat.reduceEqDiff, Go.Addr.add, ↓reduceIte] at hx191_2)
                  (try simp only [show (3 : Int).toNat = 3 from rfl, Nat.reduceMul, Nat.reduceEqDiff, Go.Addr.add, ↓reduceIte] at hx191_3)
                  have qi191 : (3 < y184.length) = True := eq_true (by omega)
                  (try rw [show ((3 : Int)).toNat = 3 from rfl] at hx191_0)
                  (try rw [show 3 * 4 = 12 from rfl] at hx191_0)
                  (try rw [show ((3 : Int)).toNat = 3 from rfl] at hx191_1)
                  (try rw [show 3 * 4 = 12 from rfl] at hx191_1)
                  (try rw [show ((3 : Int)).toNat = 3 from rfl] at hx191_2)
                  (try rw [show 3 * 4 = 12 from rfl] at hx191_2)
                  (try rw [show ((3 : Int)).toNat = 3 from rfl] at hx191_3)
                  (try rw [show 3 * 4 = 12 from rfl] at hx191_3)
                  replace p191 := eq_true p191
                  replace q191 := eq_true q191
                  refine start_ (n := 16) (S := fun w' => w'.cell? ad189 = some (.int .i64 ((rd_T128 y184 0).f0)) ∧ w'.cell? ⟨ad189.block, ad189.off + 1, none⟩ = some (.int .i64 ((rd_T128 y184 0).f1)) ∧ w'.cell? ⟨ad189.block, ad189.off + 2, none⟩ = some (.int .i64 ((rd_T128 y184 0).f2)) ∧ w'.cell? ⟨ad189.block, ad189.off + 3, none⟩ = some (.bool ((rd_T128 y184 0).f3)) ∧ w'.cell? ⟨ad189.block, ad189.off + 4, none⟩ = some (.int .i64 ((rd_T128 y184 1).f0)) ∧ w'.cell? ⟨ad189.block, ad189.off + 4 + 1, none⟩ = some (.int .i64 ((rd_T128 y184 1).f1)) ∧ w'.cell? ⟨ad189.block, ad189.off + 4 + 2, none⟩ = some (.int .i64 ((rd_T128 y184 1).f2)) ∧ w'.cell? ⟨ad189.block, ad189.off + 4 + 3, none⟩ = some (.bool ((rd_T128 y184 1).f3)) ∧ w'.cell? ⟨ad189.block, ad189.off + 12, none⟩ = some (.int .i64 ((rd_T128 y184 3).f0)) ∧ w'.cell? ⟨ad189.block, ad189.off + 12 + 1, none⟩ = some (.int .i64 ((rd_T128 y184 3).f1)) ∧ w'.cell? ⟨ad189.block, ad189.off + 12 + 2, none⟩ = some (.int .i64 ((rd_T128 y184 3).f2)) ∧ w'.cell? ⟨ad189.block, ad189.off + 12 + 3, none⟩ = some (.bool ((rd_T128 y184 3).f3))) (ds := []) #[false, false, false, false, false, false, false, false, false, false, false, false, false, false, false, false] (by kernel_rfl) rfl rfl ⟨hx189_0, hx189_1, hx189_2, hx189_3, hx190_0, hx190_1, hx190_2, hx190_3, hx191_0, hx191_1, hx191_2, hx191_3⟩ (fun hHeld => ?_); refine with_tabW marchlandlaw09_told.tab3 marchlandlaw09_told.bits3 (fun HT_ HW_ => ?_)
                  generalize w16.drew = w17 at HO186 HB hx189_0 hx189_1 hx189_2 hx189_3 hx190_0 hx190_1 hx190_2 hx190_3 hx191_0 hx191_1 hx191_2 hx191_3 hHeld ⊢
                  refine pure_ (i := 0) (N := some 17) (v := ?_) (a' := ?_) #[true, false, false, false, false, false, false, false, false, false, false, false, false, false, false, false] rfl rfl (any_of HT_.out (by kernel_rfl)) (fun _ _ _ h => h) (Or.inl ⟨by rfl, ?_⟩) ?_ ?_
                  rotate_left
                  · intro w'
                    go_simp
                    with_reducible rfl
                  rotate_left
                  · simp only [Act.put, List.setIfInBounds_toArray, List.set_cons_zero, List.set_cons_succ, i64_w, i32_w]
                    rfl
                  refine pure_ (i := 1) (N := some 18) (v := ?_) (a' := ?_) #[true, true, false, false, false, false, false, false, false, false, false, false, false, false, false, false] rfl rfl (any_of HT_.out (by kernel_rfl)) (fun _ _ _ h => h) (Or.inl ⟨by rfl, ?_⟩) ?_ ?_
                  rotate_left
                  · intro w'
                    go_simp
                    with_reducible rfl
                  rotate_left
                  · simp only [Act.put, List.setIfInBounds_toArray, List.set_cons_zero, List.set_cons_succ, i64_w, i32_w]
                    rfl
                  refine pure_ (i := 3) (N := some 20) (v := ?_) (a' := ?_) #[true, true, false, true, false, false, false, false, false, false, false, false, false, false, false, false] rfl rfl (any_of HT_.out (by kernel_rfl)) (fun _ _ _ h => h) (Or.inl ⟨by rfl, ?_⟩) ?_ ?_
                  rotate_left
                  · intro w'
                    go_simp
                    with_reducible rfl
                  rotate_left
                  · simp only [Act.put, List.setIfInBounds_toArray, List.set_cons_zero, List.set_cons_succ, i64_w, i32_w]
                    rfl
                  refine pure_ (i := 4) (N := some 21) (v := ?_) (a' := ?_) #[true, true, false, true, true, false, false, false, false, false, false, false, false, false, false, false] rfl rfl (any_of HT_.out (by kernel_rfl)) (fun _ _ _ h => h) (Or.inl ⟨by rfl, ?_⟩) ?_ ?_
                  rotate_left
                  · intro w'
                    go_simp
                    with_reducible rfl
                  rotate_left
                  · simp only [Act.put, List.setIfInBounds_toArray, List.set_cons_zero, List.set_cons_succ, i64_w, i32_w]
                    rfl
                  refine pure_ (i := 6) (N := some 23) (v := ?_) (a' := ?_) #[true, true, false, true, true, false, true, false, false, false, false, false, false, false, false, false] rfl rfl (any_of HT_.out (by kernel_rfl)) (fun _ _ _ h => h) (Or.inl ⟨by rfl, ?_⟩) ?_ ?_
                  rotate_left
                  · intro w'
                    go_simp
                    with_reducible rfl
                  rotate_left
                  · simp only [Act.put, List.setIfInBounds_toArray, List.set_cons_zero, List.set_cons_succ, i64_w, i32_w]
                    rfl
                  refine pure_ (i := 7) (N := some 24) (v := ?_) (a' := ?_) #[true, true, false, true, true, false, true, true, false, false, false, false, false, false, false, false] rfl rfl (any_of HT_.out (by kernel_rfl)) (fun _ _ _ h => h) (Or.inl ⟨by rfl, ?_⟩) ?_ ?_
                  rotate_left
                  · intro w'
                    go_simp
                    with_reducible rfl
                  rotate_left
                  · simp only [Act.put, List.setIfInBounds_toArray, List.set_cons_zero, List.set_cons_succ, i64_w, i32_w]
                    rfl
                  refine take_ (i := 2) (N := some 19) (v := ?_) (a' := ?_) #[true, true, true, true, true, false, true, true, false, false, false, false, false, false, false, false] rfl rfl (take_ofW HT_.out HW_.out (by kernel_rfl)) (fun _ _ _ h => h) (Or.inl ⟨by rfl, ?_⟩) hHeld ?_ ?_
                  rotate_left
                  · rintro w' ⟨s0, s1, s2, s3, s4, s5, s6, s7, s8, s9, s10, s11⟩
                    go_simp
                    with_reducible rfl
                  rotate_left
                  · simp only [Act.put, List.setIfInBounds_toArray, List.set_cons_zero, List.set_cons_succ, i64_w, i32_w]
                    rfl
                  refine take_ (i := 5) (N := some 22) (v := ?_) (a' := ?_) #[true, true, true, true, true, true, true, true, false, false, false, false, false, false, false, false] rfl rfl (take_ofW HT_.out HW_.out (by kernel_rfl)) (fun _ _ _ h => h) (Or.inl ⟨by rfl, ?_⟩) hHeld ?_ ?_
                  rotate_left
                  · rintro w' ⟨s0, s1, s2, s3, s4, s5, s6, s7, s8, s9, s10, s11⟩
                    go_simp
                    with_reducible rfl
                  rotate_left
                  · simp only [Act.put, List.setIfInBounds_toArray, List.set_cons_zero, List.set_cons_succ, i64_w, i32_w]
                    rfl
                  refine take_ (i := 8) (N := some 25) (v := ?_) (a' := ?_) #[true, true, true, true, true, true, true, true, true, false, false, false, false, false, false, false] rfl rfl (take_ofW HT_.out HW_.out (by kernel_rfl)) (fun _ _ _ h => h) (Or.inl ⟨by rfl, ?_⟩) hHeld ?_ ?_
                  rotate_left
                  · rintro w' ⟨s0, s1, s2, s3, s4, s5, s6, s7, s8, s9, s10, s11⟩
                    go_simp
                    with_reducible rfl
                  rotate_left
                  · simp only [Act.put, List.setIfInBounds_toArray, List.set_cons_zero, List.set_cons_succ, i64_w, i32_w]
                    rfl
                  refine one_ (i := 9) (N := some 26) #[true, true, true, true, true, true, true, true, true, true, false, false, false, false, false, false] rfl rfl (one_of HT_.out (by kernel_rfl)) (by decide) (fun K hK => ?_)
                  refine Kd.R_lit_step k128 _ 128 ?hg (N := 26) ?hd (xs := ([(⟨(rd_T128 y184 0).f0, (rd_T128 y184 0).f1, (rd_T128 y184 0).f2, (rd_T128 y184 0).f3⟩ : S128), (⟨(rd_T128 y184 1).f0, (rd_T128 y184 1).f1, (rd_T128 y184 1).f2, (rd_T128 y184 1).f3⟩ : S128), (⟨(rd_T128 y184 3).f0, (rd_T128 y184 3).f1, (rd_T128 y184 3).f2, (rd_T128 y184 3).f3⟩ : S128)] : List (S128))) (inner := [.int .i64 ((rd_T128 y184 0).f0), .int .i64 ((rd_T128 y184 0).f1), .int .i64 ((rd_T128 y184 0).f2), .bool ((rd_T128 y184 0).f3), .int .i64 ((rd_T128 y184 1).f0), .int .i64 ((rd_T128 y184 1).f1), .int .i64 ((rd_T128 y184 1).f2), .bool ((rd_T128 y184 1).f3), .int .i64 ((rd_T128 y184 3).f0), .int .i64 ((rd_T128 y184 3).f1), .int .i64 ((rd_T128 y184 3).f2), .bool ((rd_T128 y184 3).f3)]) (ok := fun _ => True) (okp := fun _ => True) ?hr ?hp (fun _ hk => hk) trivial (Below.refl _ _) (Nat.le_refl _) (by simp) ?_; (case hd => rfl); (case hg => rfl); (case hr => first | (go_simp; done) | (go_simp; rfl)); (case hp => exact (Reps.c4 (show Kd.M k128 _ _ _ (⟨(rd_T128 y184 0).f0, (rd_T128 y184 0).f1, (rd_T128 y184 0).f2, (rd_T128 y184 0).f3⟩ : S128) [.int .i64 ((rd_T128 y184 0).f0), .int .i64 ((rd_T128 y184 0).f1), .int .i64 ((rd_T128 y184 0).f2), .bool ((rd_T128 y184 0).f3)] from (k128_mkM _ _ _ (⟨(rd_T128 y184 0).f0, (rd_T128 y184 0).f1, (rd_T128 y184 0).f2, (rd_T128 y184 0).f3⟩ : S128) )) (Reps.c4 (show Kd.M k128 _ _ _ (⟨(rd_T128 y184 1).f0, (rd_T128 y184 1).f1, (rd_T128 y184 1).f2, (rd_T128 y184 1).f3⟩ : S128) [.int .i64 ((rd_T128 y184 1).f0), .int .i64 ((rd_T128 y184 1).f1), .int .i64 ((rd_T128 y184 1).f2), .bool ((rd_T128 y184 1).f3)] from (k128_mkM _ _ _ (⟨(rd_T128 y184 1).f0, (rd_T128 y184 1).f1, (rd_T128 y184 1).f2, (rd_T128 y184 1).f3⟩ : S128) )) (Reps.c4 (show Kd.M k128 _ _ _ (⟨(rd_T128 y184 3).f0, (rd_T128 y184 3).f1, (rd_T128 y184 3).f2, (rd_T128 y184 3).f3⟩ : S128) [.int .i64 ((rd_T128 y184 3).f0), .int .i64 ((rd_T128 y184 3).f1), .int .i64 ((rd_T128 y184 3).f2), .bool ((rd_T128 y184 3).f3)] from (k128_mkM _ _ _ (⟨(rd_T128 y184 3).f0, (rd_T128 y184 3).f1, (rd_T128 y184 3).f2, (rd_T128 y184 3).f3⟩ : S128) )) (Reps.none _ _)))))
                  intro v193 w18 ho19 hb hg_ hnew_
                  have HS0_ := (hb.cell (World.block_lt_of_cell? _ _ (hHeld.1))).trans (hHeld.1)
                  have HS1_ := (hb.cell (World.block_lt_of_cell? _ _ (hHeld.2.1))).trans (hHeld.2.1)
                  have HS2_ := (hb.cell (World.block_lt_of_cell? _ _ (hHeld.2.2.1))).trans (hHeld.2.2.1)
                  have HS3_ := (hb.cell (World.block_lt_of_cell? _ _ (hHeld.2.2.2.1))).trans (hHeld.2.2.2.1)
                  have HS4_ := (hb.cell (World.block_lt_of_cell? _ _ (hHeld.2.2.2.2.1))).trans (hHeld.2.2.2.2.1)
                  have HS5_ := (hb.cell (World.block_lt_of_cell? _ _ (hHeld.2.2.2.2.2.1))).trans (hHeld.2.2.2.2.2.1)
                  have HS6_ := (hb.cell (World.block_lt_of_cell? _ _ (hHeld.2.2.2.2.2.2.1))).trans (hHeld.2.2.2.2.2.2.1)
                  have HS7_ := (hb.cell (World.block_lt_of_cell? _ _ (hHeld.2.2.2.2.2.2.2.1))).trans (hHeld.2.2.2.2.2.2.2.1)
                  have HS8_ := (hb.cell (World.block_lt_of_cell? _ _ (hHeld.2.2.2.2.2.2.2.2.1))).trans (hHeld.2.2.2.2.2.2.2.2.1)
                  have HS9_ := (hb.cell (World.block_lt_of_cell? _ _ (hHeld.2.2.2.2.2.2.2.2.2.1))).trans (hHeld.2.2.2.2.2.2.2.2.2.1)
                  have HS10_ := (hb.cell (World.block_lt_of_cell? _ _ (hHeld.2.2.2.2.2.2.2.2.2.2.1))).trans (hHeld.2.2.2.2.2.2.2.2.2.2.1)
                  have HS11_ := (hb.cell (World.block_lt_of_cell? _ _ (hHeld.2.2.2.2.2.2.2.2.2.2.2))).trans (hHeld.2.2.2.2.2.2.2.2.2.2.2)
                  clear hg_ hnew_
                  (first | rw [← Ny192.out] at ho19 | (simp only [Int.reduceToNat] at ho19; rw [← Ny192.out] at ho19))
                  have n0_ := Aside0.mk (Kd.R_elder' (by (with_reducible repeat (first | apply Kd.R_alloc | apply Kd.R_drewN | apply Kd.R_drew)); exact HO186.out) (Kd.R_base ho19) hb)
                  have n1_ := Aside0.mk (Kd.R_lower (Kd.R_new' ho19 (Kd.R_lt (by (with_reducible repeat (first | apply Kd.R_alloc | apply Kd.R_drewN | apply Kd.R_drew)); exact HO186.out))) (below_size (by repeat (first | (with_reducible first | exact HB.out | apply below_alloc | apply pw_below_drewN | apply below_drew1) | exact HB.out))))
                  have n2_ := Aside0.mk (below_step (by repeat (first | (with_reducible first | exact HB.out | apply below_alloc | apply pw_below_drewN | apply below_drew1) | exact HB.out)) hb)
                  clear HO186
                  clear HB
                  have HO186 := n0_
                  have HO194 := n1_
                  have HB := n2_
                  clear n0_ n1_ n2_
                  clear hb ho19
                  obtain ⟨Ao20, co20, eo20⟩ := Kd.R_slice HO194.out
                  (first | subst eo20 | (injection eo20 with f1_ f2_ f3_; have f4_ := f1_.symm; have f5_ := f3_.symm; clear f1_ f2_ f3_; subst f4_; subst f5_))
                  refine hK.out _ _ ⟨HS0_, HS1_, HS2_, HS3_, HS4_, HS5_, HS6_, HS7_, HS8_, HS9_, HS10_, HS11_⟩ (fun hHeld => ?_)
                  clear hK K
                  refine norm_ (a' := ?_) ?_ ?_
                  rotate_left
                  · show Act.put _ (some 26) _ = _
                    simp only [Act.put, List.setIfInBounds_toArray, List.set_cons_zero, List.set_cons_succ, i64_w, i32_w]
                    rfl
                  refine one_ (i := 10) (N := some 27) #[true, true, true, true, true, true, true, true, true, true, true, false, false, false, false, false] rfl rfl (one_of HT_.out (by kernel_rfl)) (by decide) (fun K hK => ?_)
                  refine goes_ Try.func28 (by kernel_rfl) rfl #[.slice Ao20 y192.length co20] (by rfl) rfl rfl (by (try simp only [List.map_toArray, List.map_cons, List.map_nil]); first | done | rfl | (simp only [List.length_drop, List.length_take]; rfl)) ?_
                  with_reducible refine (clock_Race.calls _ _ y192 t195 t196 _ ?side1 ?side2 A5.out).mono ?_
                  (case side1 => repeat (first | exact (Kd.R_reads' HO194.out).2.2 | (with_reducible refine Kd.C_alloc ?_ _) | (with_reducible refine Kd.C_drewN ?_ _) | (with_reducible refine Kd.C_drew ?_)))
                  (case side2 => exact (Kd.R_reads' HO194.out).2.1)
                  rintro e w21 ⟨rfl, hb⟩
                  have HS0_ := (hb.cell (World.block_lt_of_cell? _ _ (hHeld.1))).trans (hHeld.1)
                  have HS1_ := (hb.cell (World.block_lt_of_cell? _ _ (hHeld.2.1))).trans (hHeld.2.1)
                  have HS2_ := (hb.cell (World.block_lt_of_cell? _ _ (hHeld.2.2.1))).trans (hHeld.2.2.1)
                  have HS3_ := (hb.cell (World.block_lt_of_cell? _ _ (hHeld.2.2.2.1))).trans (hHeld.2.2.2.1)
                  have HS4_ := (hb.cell (World.block_lt_of_cell? _ _ (hHeld.2.2.2.2.1))).trans (hHeld.2.2.2.2.1)
                  have HS5_ := (hb.cell (World.block_lt_of_cell? _ _ (hHeld.2.2.2.2.2.1))).trans (hHeld.2.2.2.2.2.1)
                  have HS6_ := (hb.cell (World.block_lt_of_cell? _ _ (hHeld.2.2.2.2.2.2.1))).trans (hHeld.2.2.2.2.2.2.1)
                  have HS7_ := (hb.cell (World.block_lt_of_cell? _ _ (hHeld.2.2.2.2.2.2.2.1))).trans (hHeld.2.2.2.2.2.2.2.1)
                  have HS8_ := (hb.cell (World.block_lt_of_cell? _ _ (hHeld.2.2.2.2.2.2.2.2.1))).trans (hHeld.2.2.2.2.2.2.2.2.1)
                  have HS9_ := (hb.cell (World.block_lt_of_cell? _ _ (hHeld.2.2.2.2.2.2.2.2.2.1))).trans (hHeld.2.2.2.2.2.2.2.2.2.1)
                  have HS10_ := (hb.cell (World.block_lt_of_cell? _ _ (hHeld.2.2.2.2.2.2.2.2.2.2.1))).trans (hHeld.2.2.2.2.2.2.2.2.2.2.1)
                  have HS11_ := (hb.cell (World.block_lt_of_cell? _ _ (hHeld.2.2.2.2.2.2.2.2.2.2.2))).trans (hHeld.2.2.2.2.2.2.2.2.2.2.2)
                  refine ⟨_, rfl, ?_⟩
                  have n0_ := Aside0.mk (Kd.R_below (by (with_reducible repeat (first | apply Kd.R_alloc | apply Kd.R_drewN | apply Kd.R_drew)); exact HO186.out) hb)
                  have n1_ := Aside0.mk (Kd.R_below (by (with_reducible repeat (first | apply Kd.R_alloc | apply Kd.R_drewN | apply Kd.R_drew)); exact HO194.out) hb)
                  have n2_ := Aside0.mk (below_step (by repeat (first | (with_reducible first | exact HB.out | apply below_alloc | apply pw_below_drewN | apply below_drew1) | exact HB.out)) hb)
                  clear HO186
                  clear HO194
                  clear HB
                  have HO186 := n0_
                  have HO194 := n1_
                  have HB := n2_
                  clear n0_ n1_ n2_
                  (try clear hb)
                  (try clear hb2)
                  (try clear hk)
                  (try clear hi)
                  refine hK.out _ _ ⟨HS0_, HS1_, HS2_, HS3_, HS4_, HS5_, HS6_, HS7_, HS8_, HS9_, HS10_, HS11_⟩ (fun hHeld => ?_)
                  clear hK K
                  refine norm_ (a' := ?_) ?_ ?_
                  rotate_left
                  · show Act.put _ (some 27) _ = _
                    simp only [Act.put, List.setIfInBounds_toArray, List.set_cons_zero, List.set_cons_succ, i64_w, i32_w]
                    rfl
                  refine pure_ (i := 11) (N := some 16) (v := ?_) (a' := ?_) #[true, true, true, true, true, true, true, true, true, true, true, true, false, false, false, false] rfl rfl (any_of HT_.out (by kernel_rfl)) (fun _ _ _ h => h) (Or.inl ⟨by rfl, ?_⟩) ?_ ?_
                  rotate_left
                  · intro w'
                    go_simp
                    with_reducible rfl
                  rotate_left
                  · simp only [Act.put, List.setIfInBounds_toArray, List.set_cons_zero, List.set_cons_succ, i64_w, i32_w]
                    rfl
                  refine pure_ (i := 12) (N := some 28) (v := ?_) (a' := ?_) #[true, true, true, true, true, true, true, true, true, true, true, true, true, false, false, false] rfl rfl (any_of HT_.out (by kernel_rfl)) (fun _ _ _ h => h) (Or.inl ⟨by rfl, ?_⟩) ?_ ?_
                  rotate_left
                  · intro w'
                    go_simp
                    with_reducible rfl
                  rotate_left
                  · simp only [Act.put, List.setIfInBounds_toArray, List.set_cons_zero, List.set_cons_succ, i64_w, i32_w]
                    rfl
                  refine pure_ (i := 13) (N := some 29) (v := ?_) (a' := ?_) #[true, true, true, true, true, true, true, true, true, true, true, true, true, true, false, false] rfl rfl (any_of HT_.out (by kernel_rfl)) (fun _ _ _ h => h) (Or.inl ⟨by rfl, ?_⟩) ?_ ?_
                  rotate_left
                  · intro w'
                    go_simp
                    with_reducible rfl
                  rotate_left
                  · simp only [Act.put, List.setIfInBounds_toArray, List.set_cons_zero, List.set_cons_succ, i64_w, i32_w]
                    rfl
                  refine pure_ (i := 14) (N := some 4) (v := ?_) (a' := ?_) #[true, true, true, true, true, true, true, true, true, true, true, true, true, true, true, false] rfl rfl (any_of HT_.out (by kernel_rfl)) (fun _ _ _ h => h) (Or.inl ⟨by rfl, ?_⟩) ?_ ?_
                  rotate_left
                  · intro w'
                    go_simp
                    with_reducible rfl
                  rotate_left
                  · simp only [Act.put, List.setIfInBounds_toArray, List.set_cons_zero, List.set_cons_succ, i64_w, i32_w]
                    rfl
                  refine pure_ (i := 15) (N := some 5) (v := ?_) (a' := ?_) #[true, true, true, true, true, true, true, true, true, true, true, true, true, true, true, true] rfl rfl (any_of HT_.out (by kernel_rfl)) (fun _ _ _ h => h) (Or.inl ⟨by rfl, ?_⟩) ?_ ?_
                  rotate_left
                  · intro w'
                    go_simp
                    with_reducible rfl
                  rotate_left
                  · simp only [Act.put, List.setIfInBounds_toArray, List.set_cons_zero, List.set_cons_succ, i64_w, i32_w]
                    rfl
                  refine done_ (done_of HT_.out (by kernel_rfl)) ?_
                  try go_wp2_with (first | (go_at_call 27; (with_reducible refine (clock_Before.calls _ _ y184 0 3 true _ ?side1 ?side2 A10.out).mono ?_); (case side1 => repeat (first | exact (Kd.R_reads' HO186.out).2.2 | (with_reducible refine Kd.C_alloc ?_ _) | (with_reducible refine Kd.C_drewN ?_ _) | (with_reducible refine Kd.C_drew ?_))); (case side2 => exact (Kd.R_reads' HO186.out).2.1); rintro e w22 ⟨rfl, hb⟩; have n0_ := Aside0.mk (Kd.R_below (by (with_reducible repeat (first | apply Kd.R_alloc | apply Kd.R_drewN | apply Kd.R_drew)); exact HO186.out) hb); have n1_ := Aside0.mk (Kd.R_below (by (with_reducible repeat (first | apply Kd.R_alloc | apply Kd.R_drewN | apply Kd.R_drew)); exact HO194.out) hb); have n2_ := Aside0.mk (below_step (by repeat (first | (with_reducible first | exact HB.out | apply below_alloc | apply pw_below_drewN | apply below_drew1) | exact HB.out)) hb); clear HO186; clear HO194; clear HB; have HO186 := n0_; have HO194 := n1_; have HB := n2_; clear n0_ n1_ n2_; (try clear hb); (try clear hb2); (try clear hk); (try clear hi)) | (go_at_call 27; (with_reducible refine (clock_Before.calls _ _ y184 3 0 t198 _ ?side1 ?side2 A12.out).mono ?_); (case side1 => repeat (first | exact (Kd.R_reads' HO186.out).2.2 | (with_reducible refine Kd.C_alloc ?_ _) | (with_reducible refine Kd.C_drewN ?_ _) | (with_reducible refine Kd.C_drew ?_))); (case side2 => exact (Kd.R_reads' HO186.out).2.1); rintro e w23 ⟨rfl, hb⟩; have n0_ := Aside0.mk (Kd.R_below (by (with_reducible repeat (first | apply Kd.R_alloc | apply Kd.R_drewN | apply Kd.R_drew)); exact HO186.out) hb); have n1_ := Aside0.mk (Kd.R_below (by (with_reducible repeat (first | apply Kd.R_alloc | apply Kd.R_drewN | apply Kd.R_drew)); exact HO194.out) hb); have n2_ := Aside0.mk (below_step (by repeat (first | (with_reducible first | exact HB.out | apply below_alloc | apply pw_below_drewN | apply below_drew1) | exact HB.out)) hb); clear HO186; clear HO194; clear HB; have HO186 := n0_; have HO194 := n1_; have HB := n2_; clear n0_ n1_ n2_; (try clear hb); (try clear hb2); (try clear hk); (try clear hi)))
                  go_ret
                  exact ⟨by first | rfl | (simp [errW_none, errW_some] <;> rfl) | (simp [*, errW_none, errW_some] <;> rfl), by repeat (first | (with_reducible first | exact HB.out | apply below_alloc | apply pw_below_drewN | apply below_drew1) | exact HB.out)⟩
                · replace c11 := Bool.eq_false_iff.mpr c11
                  subst c11
                  have H1 : (some false) = some r := by rw [if_neg (show ¬ (false = true) by decide)] at H; exact H
                  clear H
                  have H := H1
                  clear H1
                  obtain rfl := Option.some.inj H
                  go_enter Try.func26, Try.ntmps26
                  try go_wp2_with (first | ((with_reducible refine gate_dst (N := 10) rfl ?_); refine Kd.R_lit k128 _ 128 ?hg (N := 10) ?hd (xs := ([(⟨0, 3, 0, true⟩ : S128), (⟨0, 1, 0, true⟩ : S128), (⟨1, 0, 0, true⟩ : S128), (⟨1, 2, 0, true⟩ : S128)] : List (S128))) (inner := [.int .i64 0, .int .i64 3, .int .i64 0, .bool true, .int .i64 0, .int .i64 1, .int .i64 0, .bool true, .int .i64 1, .int .i64 0, .int .i64 0, .bool true, .int .i64 1, .int .i64 2, .int .i64 0, .bool true]) (ok := fun _ => True) (okp := fun _ => True) ?hr ?hp (fun _ hk => hk) trivial (Below.refl _ _) (Nat.le_refl _) (by simp) ?_; (case hd => rfl); (case hg => rfl); (case hr => first | (go_simp; done) | (go_simp; rfl)); (case hp => exact (Reps.c4 (show Kd.M k128 _ _ _ (⟨0, 3, 0, true⟩ : S128) [.int .i64 0, .int .i64 3, .int .i64 0, .bool true] from (k128_mkM _ _ _ (⟨0, 3, 0, true⟩ : S128) )) (Reps.c4 (show Kd.M k128 _ _ _ (⟨0, 1, 0, true⟩ : S128) [.int .i64 0, .int .i64 1, .int .i64 0, .bool true] from (k128_mkM _ _ _ (⟨0, 1, 0, true⟩ : S128) )) (Reps.c4 (show Kd.M k128 _ _ _ (⟨1, 0, 0, true⟩ : S128) [.int .i64 1, .int .i64 0, .int .i64 0, .bool true] from (k128_mkM _ _ _ (⟨1, 0, 0, true⟩ : S128) )) (Reps.c4 (show Kd.M k128 _ _ _ (⟨1, 2, 0, true⟩ : S128) [.int .i64 1, .int .i64 2, .int .i64 0, .bool true] from (k128_mkM _ _ _ (⟨1, 2, 0, true⟩ : S128) )) (Reps.none _ _)))))); intro v185 w24 ho25 hb hg_ hnew_; clear hg_ hnew_; (first | rw [← Ny184.out] at ho25 | (simp only [Int.reduceToNat] at ho25; rw [← Ny184.out] at ho25)); have n0_ := Aside0.mk (Kd.R_lower ho25 (below_size (by repeat (first | (with_reducible first | exact HB.out | apply below_alloc | apply pw_below_drewN | apply below_drew1) | exact HB.out)))); have n1_ := Aside0.mk (below_step (by repeat (first | (with_reducible first | exact HB.out | apply below_alloc | apply pw_below_drewN | apply below_drew1) | exact HB.out)) hb); clear HB; have HO186 := n0_; have HB := n1_; clear n0_ n1_; clear hb ho25; obtain ⟨Ao26, co26, eo26⟩ := Kd.R_slice HO186.out; subst eo26) | ((with_reducible refine gate_callee (f := 28) rfl ?_); refine goesL_ (some 13) rfl rfl Try.func28 (by kernel_rfl) rfl #[.slice Ao26 y184.length co26] rfl (by (try simp only [List.map_toArray, List.map_cons, List.map_nil]); first | done | rfl | (simp only [List.length_drop, List.length_take]; rfl)) ?_; (with_reducible refine (clock_Race.calls _ _ y184 t187 t188 _ ?side1 ?side2 A1.out).mono ?_); (case side1 => repeat (first | exact (Kd.R_reads' HO186.out).2.2 | (with_reducible refine Kd.C_alloc ?_ _) | (with_reducible refine Kd.C_drewN ?_ _) | (with_reducible refine Kd.C_drew ?_))); (case side2 => exact (Kd.R_reads' HO186.out).2.1); rintro e w27 ⟨rfl, hb⟩; refine ⟨_, rfl, ?_⟩; have n0_ := Aside0.mk (Kd.R_below (by (with_reducible repeat (first | apply Kd.R_alloc | apply Kd.R_drewN | apply Kd.R_drew)); exact HO186.out) hb); have n1_ := Aside0.mk (below_step (by repeat (first | (with_reducible first | exact HB.out | apply below_alloc | apply pw_below_drewN | apply below_drew1) | exact HB.out)) hb); clear HO186; clear HB; have HO186 := n0_; have HB := n1_; clear n0_ n1_; (try clear hb); (try clear hb2); (try clear hk); (try clear hi)))
                  have n0_ := Aside0.mk (Kd.R_drew HO186.out)
                  have n1_ := Aside0.mk (below_drew1 HB.out)
                  clear HO186
                  clear HB
                  have HO186 := n0_
                  have HB := n1_
                  clear n0_ n1_
                  have p189 : 0 ≤ (0 : Int) := (by omega)
                  have q189 : 0 < (y184.length : Int) := of_decide_eq_true (by first | (with_reducible assumption) | assumption)
                  obtain ⟨ad189, e189, hx189_0, hx189_1, hx189_2, hx189_3⟩ := at_T128 (Kd.R_reads' HO186.out).2.2 0 p189 q189
                  cases e189
                  have qi189 : (0 < y184.length) = True := eq_true (by omega)
                  (try rw [show ((0 : Int)).toNat = 0 from rfl] at hx189_0)
                  (try rw [show 0 * 4 = 0 from rfl] at hx189_0)
                  (try rw [Addr.add_zero'] at hx189_0)
                  (try rw [show ((0 : Int)).toNat = 0 from rfl] at hx189_1)
                  (try rw [show 0 * 4 = 0 from rfl] at hx189_1)
                  (try rw [Addr.add_zero'] at hx189_1)
                  (try rw [show ((0 : Int)).toNat = 0 from rfl] at hx189_2)
                  (try rw [show 0 * 4 = 0 from rfl] at hx189_2)
                  (try rw [Addr.add_zero'] at hx189_2)
                  (try rw [show ((0 : Int)).toNat = 0 from rfl] at hx189_3)
                  (try rw [show 0 * 4 = 0 from rfl] at hx189_3)
                  (try rw [Addr.add_zero'] at hx189_3)
                  replace p189 := eq_true p189
                  replace q189 := eq_true q189
                  have p190 : 0 ≤ (1 : Int) := (by omega)
                  have q190 : 1 < (y184.length : Int) := of_decide_eq_true (by first | (with_reducible assumption) | assumption)
                  obtain ⟨ad190, e190, hx190_0, hx190_1, hx190_2, hx190_3⟩ := at_T128 (Kd.R_reads' HO186.out).2.2 1 p190 q190
                  obtain rfl : ad189 = ad190 := (by injection e190)
                  (try simp only [show (1 : Int).toNat = 1 from rfl, Nat.reduceMul, Nat.reduceEqDiff, Go.Addr.add, ↓reduceIte] at hx190_0)
                  (try simp only [show (1 : Int).toNat = 1 from rfl, Nat.reduceMul, Nat.reduceEqDiff, Go.Addr.add, ↓reduceIte] at hx190_1)
                  (try simp only [show (1 : Int).toNat = 1 from rfl, Nat.reduceMul, Nat.reduceEqDiff, Go.Addr.add, ↓reduceIte] at hx190_2)
                  (try simp only [show (1 : Int).toNat = 1 from rfl, Nat.reduceMul, Nat.reduceEqDiff, Go.Addr.add, ↓reduceIte] at hx190_3)
                  have qi190 : (1 < y184.length) = True := eq_true (by omega)
                  (try rw [show ((1 : Int)).toNat = 1 from rfl] at hx190_0)
                  (try rw [show 1 * 4 = 4 from rfl] at hx190_0)
                  (try rw [show ((1 : Int)).toNat = 1 from rfl] at hx190_1)
                  (try rw [show 1 * 4 = 4 from rfl] at hx190_1)
                  (try rw [show ((1 : Int)).toNat = 1 from rfl] at hx190_2)
                  (try rw [show 1 * 4 = 4 from rfl] at hx190_2)
                  (try rw [show ((1 : Int)).toNat = 1 from rfl] at hx190_3)
                  (try rw [show 1 * 4 = 4 from rfl] at hx190_3)
                  replace p190 := eq_true p190
                  replace q190 := eq_true q190
                  have p191 : 0 ≤ (3 : Int) := (by omega)
                  have q191 : 3 < (y184.length : Int) := of_decide_eq_true (by first | (with_reducible assumption) | assumption)
                  obtain ⟨ad191, e191, hx191_0, hx191_1, hx191_2, hx191_3⟩ := at_T128 (Kd.R_reads' HO186.out).2.2 3 p191 q191
                  obtain rfl : ad189 = ad191 := (by injection e191)
                  (try simp only [show (3 : Int).toNat = 3 from rfl, Nat.reduceMul, Nat.reduceEqDiff, Go.Addr.add, ↓reduceIte] at hx191_0)
                  (try simp only [show (3 : Int).toNat = 3 from rfl, Nat.reduceMul, Nat.reduceEqDiff, Go.Addr.add, ↓reduceIte] at hx191_1)
                  (try simp only [show (3 : Int).toNat = 3 from rfl, Nat.reduceMul, Nat.reduceEqDiff, Go.Addr.add, ↓reduceIte] at hx191_2)
                  (try simp only [show (3 : Int).toNat = 3 from rfl, Nat.reduceMul, Nat.reduceEqDiff, Go.Addr.add, ↓reduceIte] at hx191_3)
                  have qi191 : (3 < y184.length) = True := eq_true (by omega)
                  (try rw [show ((3 : Int)).toNat = 3 from rfl] at hx191_0)
                  (try rw [show 3 * 4 = 12 from rfl] at hx191_0)
                  (try rw [show ((3 : Int)).toNat = 3 from rfl] at hx191_1)
                  (try rw [show 3 * 4 = 12 from rfl] at hx191_1)
                  (try rw [show ((3 : Int)).toNat = 3 from rfl] at hx191_2)
                  (try rw [show 3 * 4 = 12 from rfl] at hx191_2)
                  (try rw [show ((3 : Int)).toNat = 3 from rfl] at hx191_3)
                  (try rw [show 3 * 4 = 12 from rfl] at hx191_3)
                  replace p191 := eq_true p191
                  replace q191 := eq_true q191
                  refine start_ (n := 16) (S := fun w' => w'.cell? ad189 = some (.int .i64 ((rd_T128 y184 0).f0)) ∧ w'.cell? ⟨ad189.block, ad189.off + 1, none⟩ = some (.int .i64 ((rd_T128 y184 0).f1)) ∧ w'.cell? ⟨ad189.block, ad189.off + 2, none⟩ = some (.int .i64 ((rd_T128 y184 0).f2)) ∧ w'.cell? ⟨ad189.block, ad189.off + 3, none⟩ = some (.bool ((rd_T128 y184 0).f3)) ∧ w'.cell? ⟨ad189.block, ad189.off + 4, none⟩ = some (.int .i64 ((rd_T128 y184 1).f0)) ∧ w'.cell? ⟨ad189.block, ad189.off + 4 + 1, none⟩ = some (.int .i64 ((rd_T128 y184 1).f1)) ∧ w'.cell? ⟨ad189.block, ad189.off + 4 + 2, none⟩ = some (.int .i64 ((rd_T128 y184 1).f2)) ∧ w'.cell? ⟨ad189.block, ad189.off + 4 + 3, none⟩ = some (.bool ((rd_T128 y184 1).f3)) ∧ w'.cell? ⟨ad189.block, ad189.off + 12, none⟩ = some (.int .i64 ((rd_T128 y184 3).f0)) ∧ w'.cell? ⟨ad189.block, ad189.off + 12 + 1, none⟩ = some (.int .i64 ((rd_T128 y184 3).f1)) ∧ w'.cell? ⟨ad189.block, ad189.off + 12 + 2, none⟩ = some (.int .i64 ((rd_T128 y184 3).f2)) ∧ w'.cell? ⟨ad189.block, ad189.off + 12 + 3, none⟩ = some (.bool ((rd_T128 y184 3).f3))) (ds := []) #[false, false, false, false, false, false, false, false, false, false, false, false, false, false, false, false] (by kernel_rfl) rfl rfl ⟨hx189_0, hx189_1, hx189_2, hx189_3, hx190_0, hx190_1, hx190_2, hx190_3, hx191_0, hx191_1, hx191_2, hx191_3⟩ (fun hHeld => ?_); refine with_tabW marchlandlaw09_told.tab3 marchlandlaw09_told.bits3 (fun HT_ HW_ => ?_)
                  generalize w27.drew = w28 at HO186 HB hx189_0 hx189_1 hx189_2 hx189_3 hx190_0 hx190_1 hx190_2 hx190_3 hx191_0 hx191_1 hx191_2 hx191_3 hHeld ⊢
                  refine pure_ (i := 0) (N := some 17) (v := ?_) (a' := ?_) #[true, false, false, false, false, false, false, false, false, false, false, false, false, false, false, false] rfl rfl (any_of HT_.out (by kernel_rfl)) (fun _ _ _ h => h) (Or.inl ⟨by rfl, ?_⟩) ?_ ?_
                  rotate_left
                  · intro w'
                    go_simp
                    with_reducible rfl
                  rotate_left
                  · simp only [Act.put, List.setIfInBounds_toArray, List.set_cons_zero, List.set_cons_succ, i64_w, i32_w]
                    rfl
                  refine pure_ (i := 1) (N := some 18) (v := ?_) (a' := ?_) #[true, true, false, false, false, false, false, false, false, false, false, false, false, false, false, false] rfl rfl (any_of HT_.out (by kernel_rfl)) (fun _ _ _ h => h) (Or.inl ⟨by rfl, ?_⟩) ?_ ?_
                  rotate_left
                  · intro w'
                    go_simp
                    with_reducible rfl
                  rotate_left
                  · simp only [Act.put, List.setIfInBounds_toArray, List.set_cons_zero, List.set_cons_succ, i64_w, i32_w]
                    rfl
                  refine pure_ (i := 3) (N := some 20) (v := ?_) (a' := ?_) #[true, true, false, true, false, false, false, false, false, false, false, false, false, false, false, false] rfl rfl (any_of HT_.out (by kernel_rfl)) (fun _ _ _ h => h) (Or.inl ⟨by rfl, ?_⟩) ?_ ?_
                  rotate_left
                  · intro w'
                    go_simp
                    with_reducible rfl
                  rotate_left
                  · simp only [Act.put, List.setIfInBounds_toArray, List.set_cons_zero, List.set_cons_succ, i64_w, i32_w]
                    rfl
                  refine pure_ (i := 4) (N := some 21) (v := ?_) (a' := ?_) #[true, true, false, true, true, false, false, false, false, false, false, false, false, false, false, false] rfl rfl (any_of HT_.out (by kernel_rfl)) (fun _ _ _ h => h) (Or.inl ⟨by rfl, ?_⟩) ?_ ?_
                  rotate_left
                  · intro w'
                    go_simp
                    with_reducible rfl
                  rotate_left
                  · simp only [Act.put, List.setIfInBounds_toArray, List.set_cons_zero, List.set_cons_succ, i64_w, i32_w]
                    rfl
                  refine pure_ (i := 6) (N := some 23) (v := ?_) (a' := ?_) #[true, true, false, true, true, false, true, false, false, false, false, false, false, false, false, false] rfl rfl (any_of HT_.out (by kernel_rfl)) (fun _ _ _ h => h) (Or.inl ⟨by rfl, ?_⟩) ?_ ?_
                  rotate_left
                  · intro w'
                    go_simp
                    with_reducible rfl
                  rotate_left
                  · simp only [Act.put, List.setIfInBounds_toArray, List.set_cons_zero, List.set_cons_succ, i64_w, i32_w]
                    rfl
                  refine pure_ (i := 7) (N := some 24) (v := ?_) (a' := ?_) #[true, true, false, true, true, false, true, true, false, false, false, false, false, false, false, false] rfl rfl (any_of HT_.out (by kernel_rfl)) (fun _ _ _ h => h) (Or.inl ⟨by rfl, ?_⟩) ?_ ?_
                  rotate_left
                  · intro w'
                    go_simp
                    with_reducible rfl
                  rotate_left
                  · simp only [Act.put, List.setIfInBounds_toArray, List.set_cons_zero, List.set_cons_succ, i64_w, i32_w]
                    rfl
                  refine take_ (i := 2) (N := some 19) (v := ?_) (a' := ?_) #[true, true, true, true, true, false, true, true, false, false, false, false, false, false, false, false] rfl rfl (take_ofW HT_.out HW_.out (by kernel_rfl)) (fun _ _ _ h => h) (Or.inl ⟨by rfl, ?_⟩) hHeld ?_ ?_
                  rotate_left
                  · rintro w' ⟨s0, s1, s2, s3, s4, s5, s6, s7, s8, s9, s10, s11⟩
                    go_simp
                    with_reducible rfl
                  rotate_left
                  · simp only [Act.put, List.setIfInBounds_toArray, List.set_cons_zero, List.set_cons_succ, i64_w, i32_w]
                    rfl
                  refine take_ (i := 5) (N := some 22) (v := ?_) (a' := ?_) #[true, true, true, true, true, true, true, true, false, false, false, false, false, false, false, false] rfl rfl (take_ofW HT_.out HW_.out (by kernel_rfl)) (fun _ _ _ h => h) (Or.inl ⟨by rfl, ?_⟩) hHeld ?_ ?_
                  rotate_left
                  · rintro w' ⟨s0, s1, s2, s3, s4, s5, s6, s7, s8, s9, s10, s11⟩
                    go_simp
                    with_reducible rfl
                  rotate_left
                  · simp only [Act.put, List.setIfInBounds_toArray, List.set_cons_zero, List.set_cons_succ, i64_w, i32_w]
                    rfl
                  refine take_ (i := 8) (N := some 25) (v := ?_) (a' := ?_) #[true, true, true, true, true, true, true, true, true, false, false, false, false, false, false, false] rfl rfl (take_ofW HT_.out HW_.out (by kernel_rfl)) (fun _ _ _ h => h) (Or.inl ⟨by rfl, ?_⟩) hHeld ?_ ?_
                  rotate_left
                  · rintro w' ⟨s0, s1, s2, s3, s4, s5, s6, s7, s8, s9, s10, s11⟩
                    go_simp
                    with_reducible rfl
                  rotate_left
                  · simp only [Act.put, List.setIfInBounds_toArray, List.set_cons_zero, List.set_cons_succ, i64_w, i32_w]
                    rfl
                  refine one_ (i := 9) (N := some 26) #[true, true, true, true, true, true, true, true, true, true, false, false, false, false, false, false] rfl rfl (one_of HT_.out (by kernel_rfl)) (by decide) (fun K hK => ?_)
                  refine Kd.R_lit_step k128 _ 128 ?hg (N := 26) ?hd (xs := ([(⟨(rd_T128 y184 0).f0, (rd_T128 y184 0).f1, (rd_T128 y184 0).f2, (rd_T128 y184 0).f3⟩ : S128), (⟨(rd_T128 y184 1).f0, (rd_T128 y184 1).f1, (rd_T128 y184 1).f2, (rd_T128 y184 1).f3⟩ : S128), (⟨(rd_T128 y184 3).f0, (rd_T128 y184 3).f1, (rd_T128 y184 3).f2, (rd_T128 y184 3).f3⟩ : S128)] : List (S128))) (inner := [.int .i64 ((rd_T128 y184 0).f0), .int .i64 ((rd_T128 y184 0).f1), .int .i64 ((rd_T128 y184 0).f2), .bool ((rd_T128 y184 0).f3), .int .i64 ((rd_T128 y184 1).f0), .int .i64 ((rd_T128 y184 1).f1), .int .i64 ((rd_T128 y184 1).f2), .bool ((rd_T128 y184 1).f3), .int .i64 ((rd_T128 y184 3).f0), .int .i64 ((rd_T128 y184 3).f1), .int .i64 ((rd_T128 y184 3).f2), .bool ((rd_T128 y184 3).f3)]) (ok := fun _ => True) (okp := fun _ => True) ?hr ?hp (fun _ hk => hk) trivial (Below.refl _ _) (Nat.le_refl _) (by simp) ?_; (case hd => rfl); (case hg => rfl); (case hr => first | (go_simp; done) | (go_simp; rfl)); (case hp => exact (Reps.c4 (show Kd.M k128 _ _ _ (⟨(rd_T128 y184 0).f0, (rd_T128 y184 0).f1, (rd_T128 y184 0).f2, (rd_T128 y184 0).f3⟩ : S128) [.int .i64 ((rd_T128 y184 0).f0), .int .i64 ((rd_T128 y184 0).f1), .int .i64 ((rd_T128 y184 0).f2), .bool ((rd_T128 y184 0).f3)] from (k128_mkM _ _ _ (⟨(rd_T128 y184 0).f0, (rd_T128 y184 0).f1, (rd_T128 y184 0).f2, (rd_T128 y184 0).f3⟩ : S128) )) (Reps.c4 (show Kd.M k128 _ _ _ (⟨(rd_T128 y184 1).f0, (rd_T128 y184 1).f1, (rd_T128 y184 1).f2, (rd_T128 y184 1).f3⟩ : S128) [.int .i64 ((rd_T128 y184 1).f0), .int .i64 ((rd_T128 y184 1).f1), .int .i64 ((rd_T128 y184 1).f2), .bool ((rd_T128 y184 1).f3)] from (k128_mkM _ _ _ (⟨(rd_T128 y184 1).f0, (rd_T128 y184 1).f1, (rd_T128 y184 1).f2, (rd_T128 y184 1).f3⟩ : S128) )) (Reps.c4 (show Kd.M k128 _ _ _ (⟨(rd_T128 y184 3).f0, (rd_T128 y184 3).f1, (rd_T128 y184 3).f2, (rd_T128 y184 3).f3⟩ : S128) [.int .i64 ((rd_T128 y184 3).f0), .int .i64 ((rd_T128 y184 3).f1), .int .i64 ((rd_T128 y184 3).f2), .bool ((rd_T128 y184 3).f3)] from (k128_mkM _ _ _ (⟨(rd_T128 y184 3).f0, (rd_T128 y184 3).f1, (rd_T128 y184 3).f2, (rd_T128 y184 3).f3⟩ : S128) )) (Reps.none _ _)))))
                  intro v193 w29 ho30 hb hg_ hnew_
                  have HS0_ := (hb.cell (World.block_lt_of_cell? _ _ (hHeld.1))).trans (hHeld.1)
                  have HS1_ := (hb.cell (World.block_lt_of_cell? _ _ (hHeld.2.1))).trans (hHeld.2.1)
                  have HS2_ := (hb.cell (World.block_lt_of_cell? _ _ (hHeld.2.2.1))).trans (hHeld.2.2.1)
                  have HS3_ := (hb.cell (World.block_lt_of_cell? _ _ (hHeld.2.2.2.1))).trans (hHeld.2.2.2.1)
                  have HS4_ := (hb.cell (World.block_lt_of_cell? _ _ (hHeld.2.2.2.2.1))).trans (hHeld.2.2.2.2.1)
                  have HS5_ := (hb.cell (World.block_lt_of_cell? _ _ (hHeld.2.2.2.2.2.1))).trans (hHeld.2.2.2.2.2.1)
                  have HS6_ := (hb.cell (World.block_lt_of_cell? _ _ (hHeld.2.2.2.2.2.2.1))).trans (hHeld.2.2.2.2.2.2.1)
                  have HS7_ := (hb.cell (World.block_lt_of_cell? _ _ (hHeld.2.2.2.2.2.2.2.1))).trans (hHeld.2.2.2.2.2.2.2.1)
                  have HS8_ := (hb.cell (World.block_lt_of_cell? _ _ (hHeld.2.2.2.2.2.2.2.2.1))).trans (hHeld.2.2.2.2.2.2.2.2.1)
                  have HS9_ := (hb.cell (World.block_lt_of_cell? _ _ (hHeld.2.2.2.2.2.2.2.2.2.1))).trans (hHeld.2.2.2.2.2.2.2.2.2.1)
                  have HS10_ := (hb.cell (World.block_lt_of_cell? _ _ (hHeld.2.2.2.2.2.2.2.2.2.2.1))).trans (hHeld.2.2.2.2.2.2.2.2.2.2.1)
                  have HS11_ := (hb.cell (World.block_lt_of_cell? _ _ (hHeld.2.2.2.2.2.2.2.2.2.2.2))).trans (hHeld.2.2.2.2.2.2.2.2.2.2.2)
                  clear hg_ hnew_
                  (first | rw [← Ny192.out] at ho30 | (simp only [Int.reduceToNat] at ho30; rw [← Ny192.out] at ho30))
                  have n0_ := Aside0.mk (Kd.R_elder' (by (with_reducible repeat (first | apply Kd.R_alloc | apply Kd.R_drewN | apply Kd.R_drew)); exact HO186.out) (Kd.R_base ho30) hb)
                  have n1_ := Aside0.mk (Kd.R_lower (Kd.R_new' ho30 (Kd.R_lt (by (with_reducible repeat (first | apply Kd.R_alloc | apply Kd.R_drewN | apply Kd.R_drew)); exact HO186.out))) (below_size (by repeat (first | (with_reducible first | exact HB.out | apply below_alloc | apply pw_below_drewN | apply below_drew1) | exact HB.out))))
                  have n2_ := Aside0.mk (below_step (by repeat (first | (with_reducible first | exact HB.out | apply below_alloc | apply pw_below_drewN | apply below_drew1) | exact HB.out)) hb)
                  clear HO186
                  clear HB
                  have HO186 := n0_
                  have HO194 := n1_
                  have HB := n2_
                  clear n0_ n1_ n2_
                  clear hb ho30
                  obtain ⟨Ao31, co31, eo31⟩ := Kd.R_slice HO194.out
                  (first | subst eo31 | (injection eo31 with f1_ f2_ f3_; have f4_ := f1_.symm; have f5_ := f3_.symm; clear f1_ f2_ f3_; subst f4_; subst f5_))
                  refine hK.out _ _ ⟨HS0_, HS1_, HS2_, HS3_, HS4_, HS5_, HS6_, HS7_, HS8_, HS9_, HS10_, HS11_⟩ (fun hHeld => ?_)
                  clear hK K
                  refine norm_ (a' := ?_) ?_ ?_
                  rotate_left
                  · show Act.put _ (some 26) _ = _
                    simp only [Act.put, List.setIfInBounds_toArray, List.set_cons_zero, List.set_cons_succ, i64_w, i32_w]
                    rfl
                  refine one_ (i := 10) (N := some 27) #[true, true, true, true, true, true, true, true, true, true, true, false, false, false, false, false] rfl rfl (one_of HT_.out (by kernel_rfl)) (by decide) (fun K hK => ?_)
                  refine goes_ Try.func28 (by kernel_rfl) rfl #[.slice Ao31 y192.length co31] (by rfl) rfl rfl (by (try simp only [List.map_toArray, List.map_cons, List.map_nil]); first | done | rfl | (simp only [List.length_drop, List.length_take]; rfl)) ?_
                  with_reducible refine (clock_Race.calls _ _ y192 t195 t196 _ ?side1 ?side2 A5.out).mono ?_
                  (case side1 => repeat (first | exact (Kd.R_reads' HO194.out).2.2 | (with_reducible refine Kd.C_alloc ?_ _) | (with_reducible refine Kd.C_drewN ?_ _) | (with_reducible refine Kd.C_drew ?_)))
                  (case side2 => exact (Kd.R_reads' HO194.out).2.1)
                  rintro e w32 ⟨rfl, hb⟩
                  have HS0_ := (hb.cell (World.block_lt_of_cell? _ _ (hHeld.1))).trans (hHeld.1)
                  have HS1_ := (hb.cell (World.block_lt_of_cell? _ _ (hHeld.2.1))).trans (hHeld.2.1)
                  have HS2_ := (hb.cell (World.block_lt_of_cell? _ _ (hHeld.2.2.1))).trans (hHeld.2.2.1)
                  have HS3_ := (hb.cell (World.block_lt_of_cell? _ _ (hHeld.2.2.2.1))).trans (hHeld.2.2.2.1)
                  have HS4_ := (hb.cell (World.block_lt_of_cell? _ _ (hHeld.2.2.2.2.1))).trans (hHeld.2.2.2.2.1)
                  have HS5_ := (hb.cell (World.block_lt_of_cell? _ _ (hHeld.2.2.2.2.2.1))).trans (hHeld.2.2.2.2.2.1)
                  have HS6_ := (hb.cell (World.block_lt_of_cell? _ _ (hHeld.2.2.2.2.2.2.1))).trans (hHeld.2.2.2.2.2.2.1)
                  have HS7_ := (hb.cell (World.block_lt_of_cell? _ _ (hHeld.2.2.2.2.2.2.2.1))).trans (hHeld.2.2.2.2.2.2.2.1)
                  have HS8_ := (hb.cell (World.block_lt_of_cell? _ _ (hHeld.2.2.2.2.2.2.2.2.1))).trans (hHeld.2.2.2.2.2.2.2.2.1)
                  have HS9_ := (hb.cell (World.block_lt_of_cell? _ _ (hHeld.2.2.2.2.2.2.2.2.2.1))).trans (hHeld.2.2.2.2.2.2.2.2.2.1)
                  have HS10_ := (hb.cell (World.block_lt_of_cell? _ _ (hHeld.2.2.2.2.2.2.2.2.2.2.1))).trans (hHeld.2.2.2.2.2.2.2.2.2.2.1)
                  have HS11_ := (hb.cell (World.block_lt_of_cell? _ _ (hHeld.2.2.2.2.2.2.2.2.2.2.2))).trans (hHeld.2.2.2.2.2.2.2.2.2.2.2)
                  refine ⟨_, rfl, ?_⟩
                  have n0_ := Aside0.mk (Kd.R_below (by (with_reducible repeat (first | apply Kd.R_alloc | apply Kd.R_drewN | apply Kd.R_drew)); exact HO186.out) hb)
                  have n1_ := Aside0.mk (Kd.R_below (by (with_reducible repeat (first | apply Kd.R_alloc | apply Kd.R_drewN | apply Kd.R_drew)); exact HO194.out) hb)
                  have n2_ := Aside0.mk (below_step (by repeat (first | (with_reducible first | exact HB.out | apply below_alloc | apply pw_below_drewN | apply below_drew1) | exact HB.out)) hb)
                  clear HO186
                  clear HO194
                  clear HB
                  have HO186 := n0_
                  have HO194 := n1_
                  have HB := n2_
                  clear n0_ n1_ n2_
                  (try clear hb)
                  (try clear hb2)
                  (try clear hk)
                  (try clear hi)
                  refine hK.out _ _ ⟨HS0_, HS1_, HS2_, HS3_, HS4_, HS5_, HS6_, HS7_, HS8_, HS9_, HS10_, HS11_⟩ (fun hHeld => ?_)
                  clear hK K
                  refine norm_ (a' := ?_) ?_ ?_
                  rotate_left
                  · show Act.put _ (some 27) _ = _
                    simp only [Act.put, List.setIfInBounds_toArray, List.set_cons_zero, List.set_cons_succ, i64_w, i32_w]
                    rfl
                  refine pure_ (i := 11) (N := some 16) (v := ?_) (a' := ?_) #[true, true, true, true, true, true, true, true, true, true, true, true, false, false, false, false] rfl rfl (any_of HT_.out (by kernel_rfl)) (fun _ _ _ h => h) (Or.inl ⟨by rfl, ?_⟩) ?_ ?_
                  rotate_left
                  · intro w'
                    go_simp
                    with_reducible rfl
                  rotate_left
                  · simp only [Act.put, List.setIfInBounds_toArray, List.set_cons_zero, List.set_cons_succ, i64_w, i32_w]
                    rfl
                  refine pure_ (i := 12) (N := some 28) (v := ?_) (a' := ?_) #[true, true, true, true, true, true, true, true, true, true, true, true, true, false, false, false] rfl rfl (any_of HT_.out (by kernel_rfl)) (fun _ _ _ h => h) (Or.inl ⟨by rfl, ?_⟩) ?_ ?_
                  rotate_left
                  · intro w'
                    go_simp
                    with_reducible rfl
                  rotate_left
                  · simp only [Act.put, List.setIfInBounds_toArray, List.set_cons_zero, List.set_cons_succ, i64_w, i32_w]
                    rfl
                  refine pure_ (i := 13) (N := some 29) (v := ?_) (a' := ?_) #[true, true, true, true, true, true, true, true, true, true, true, true, true, true, false, false] rfl rfl (any_of HT_.out (by kernel_rfl)) (fun _ _ _ h => h) (Or.inl ⟨by rfl, ?_⟩) ?_ ?_
                  rotate_left
                  · intro w'
                    go_simp
                    with_reducible rfl
                  rotate_left
                  · simp only [Act.put, List.setIfInBounds_toArray, List.set_cons_zero, List.set_cons_succ, i64_w, i32_w]
                    rfl
                  refine pure_ (i := 14) (N := some 4) (v := ?_) (a' := ?_) #[true, true, true, true, true, true, true, true, true, true, true, true, true, true, true, false] rfl rfl (any_of HT_.out (by kernel_rfl)) (fun _ _ _ h => h) (Or.inl ⟨by rfl, ?_⟩) ?_ ?_
                  rotate_left
                  · intro w'
                    go_simp
                    with_reducible rfl
                  rotate_left
                  · simp only [Act.put, List.setIfInBounds_toArray, List.set_cons_zero, List.set_cons_succ, i64_w, i32_w]
                    rfl
                  refine pure_ (i := 15) (N := some 5) (v := ?_) (a' := ?_) #[true, true, true, true, true, true, true, true, true, true, true, true, true, true, true, true] rfl rfl (any_of HT_.out (by kernel_rfl)) (fun _ _ _ h => h) (Or.inl ⟨by rfl, ?_⟩) ?_ ?_
                  rotate_left
                  · intro w'
                    go_simp
                    with_reducible rfl
                  rotate_left
                  · simp only [Act.put, List.setIfInBounds_toArray, List.set_cons_zero, List.set_cons_succ, i64_w, i32_w]
                    rfl
                  refine done_ (done_of HT_.out (by kernel_rfl)) ?_
                  try go_wp2_with (first | (go_at_call 27; (with_reducible refine (clock_Before.calls _ _ y184 0 3 false _ ?side1 ?side2 A10.out).mono ?_); (case side1 => repeat (first | exact (Kd.R_reads' HO186.out).2.2 | (with_reducible refine Kd.C_alloc ?_ _) | (with_reducible refine Kd.C_drewN ?_ _) | (with_reducible refine Kd.C_drew ?_))); (case side2 => exact (Kd.R_reads' HO186.out).2.1); rintro e w33 ⟨rfl, hb⟩; have n0_ := Aside0.mk (Kd.R_below (by (with_reducible repeat (first | apply Kd.R_alloc | apply Kd.R_drewN | apply Kd.R_drew)); exact HO186.out) hb); have n1_ := Aside0.mk (Kd.R_below (by (with_reducible repeat (first | apply Kd.R_alloc | apply Kd.R_drewN | apply Kd.R_drew)); exact HO194.out) hb); have n2_ := Aside0.mk (below_step (by repeat (first | (with_reducible first | exact HB.out | apply below_alloc | apply pw_below_drewN | apply below_drew1) | exact HB.out)) hb); clear HO186; clear HO194; clear HB; have HO186 := n0_; have HO194 := n1_; have HB := n2_; clear n0_ n1_ n2_; (try clear hb); (try clear hb2); (try clear hk); (try clear hi)))
                  go_ret
                  exact ⟨by first | rfl | (simp [errW_none, errW_some] <;> rfl) | (simp [*, errW_none, errW_some] <;> rfl), by repeat (first | (with_reducible first | exact HB.out | apply below_alloc | apply pw_below_drewN | apply below_drew1) | exact HB.out)⟩
              · rw [if_neg c9] at H
                have c9b0 : (t196 == 2) = false := beq_eq_false_iff_ne.mpr c9
                have c9b1 : (t196 != 2) = true := bne_iff_ne.mpr c9
                obtain rfl := Option.some.inj H
                go_enter Try.func26, Try.ntmps26
                try go_wp2_with (first | ((with_reducible refine gate_dst (N := 10) rfl ?_); refine Kd.R_lit k128 _ 128 ?hg (N := 10) ?hd (xs := ([(⟨0, 3, 0, true⟩ : S128), (⟨0, 1, 0, true⟩ : S128), (⟨1, 0, 0, true⟩ : S128), (⟨1, 2, 0, true⟩ : S128)] : List (S128))) (inner := [.int .i64 0, .int .i64 3, .int .i64 0, .bool true, .int .i64 0, .int .i64 1, .int .i64 0, .bool true, .int .i64 1, .int .i64 0, .int .i64 0, .bool true, .int .i64 1, .int .i64 2, .int .i64 0, .bool true]) (ok := fun _ => True) (okp := fun _ => True) ?hr ?hp (fun _ hk => hk) trivial (Below.refl _ _) (Nat.le_refl _) (by simp) ?_; (case hd => rfl); (case hg => rfl); (case hr => first | (go_simp; done) | (go_simp; rfl)); (case hp => exact (Reps.c4 (show Kd.M k128 _ _ _ (⟨0, 3, 0, true⟩ : S128) [.int .i64 0, .int .i64 3, .int .i64 0, .bool true] from (k128_mkM _ _ _ (⟨0, 3, 0, true⟩ : S128) )) (Reps.c4 (show Kd.M k128 _ _ _ (⟨0, 1, 0, true⟩ : S128) [.int .i64 0, .int .i64 1, .int .i64 0, .bool true] from (k128_mkM _ _ _ (⟨0, 1, 0, true⟩ : S128) )) (Reps.c4 (show Kd.M k128 _ _ _ (⟨1, 0, 0, true⟩ : S128) [.int .i64 1, .int .i64 0, .int .i64 0, .bool true] from (k128_mkM _ _ _ (⟨1, 0, 0, true⟩ : S128) )) (Reps.c4 (show Kd.M k128 _ _ _ (⟨1, 2, 0, true⟩ : S128) [.int .i64 1, .int .i64 2, .int .i64 0, .bool true] from (k128_mkM _ _ _ (⟨1, 2, 0, true⟩ : S128) )) (Reps.none _ _)))))); intro v185 w34 ho35 hb hg_ hnew_; clear hg_ hnew_; (first | rw [← Ny184.out] at ho35 | (simp only [Int.reduceToNat] at ho35; rw [← Ny184.out] at ho35)); have n0_ := Aside0.mk (Kd.R_lower ho35 (below_size (by repeat (first | (with_reducible first | exact HB.out | apply below_alloc | apply pw_below_drewN | apply below_drew1) | exact HB.out)))); have n1_ := Aside0.mk (below_step (by repeat (first | (with_reducible first | exact HB.out | apply below_alloc | apply pw_below_drewN | apply below_drew1) | exact HB.out)) hb); clear HB; have HO186 := n0_; have HB := n1_; clear n0_ n1_; clear hb ho35; obtain ⟨Ao36, co36, eo36⟩ := Kd.R_slice HO186.out; subst eo36) | ((with_reducible refine gate_callee (f := 28) rfl ?_); refine goesL_ (some 13) rfl rfl Try.func28 (by kernel_rfl) rfl #[.slice Ao36 y184.length co36] rfl (by (try simp only [List.map_toArray, List.map_cons, List.map_nil]); first | done | rfl | (simp only [List.length_drop, List.length_take]; rfl)) ?_; (with_reducible refine (clock_Race.calls _ _ y184 t187 t188 _ ?side1 ?side2 A1.out).mono ?_); (case side1 => repeat (first | exact (Kd.R_reads' HO186.out).2.2 | (with_reducible refine Kd.C_alloc ?_ _) | (with_reducible refine Kd.C_drewN ?_ _) | (with_reducible refine Kd.C_drew ?_))); (case side2 => exact (Kd.R_reads' HO186.out).2.1); rintro e w37 ⟨rfl, hb⟩; refine ⟨_, rfl, ?_⟩; have n0_ := Aside0.mk (Kd.R_below (by (with_reducible repeat (first | apply Kd.R_alloc | apply Kd.R_drewN | apply Kd.R_drew)); exact HO186.out) hb); have n1_ := Aside0.mk (below_step (by repeat (first | (with_reducible first | exact HB.out | apply below_alloc | apply pw_below_drewN | apply below_drew1) | exact HB.out)) hb); clear HO186; clear HB; have HO186 := n0_; have HB := n1_; clear n0_ n1_; (try clear hb); (try clear hb2); (try clear hk); (try clear hi)))
                have n0_ := Aside0.mk (Kd.R_drew HO186.out)
                have n1_ := Aside0.mk (below_drew1 HB.out)
                clear HO186
                clear HB
                have HO186 := n0_
                have HB := n1_
                clear n0_ n1_
                have p189 : 0 ≤ (0 : Int) := (by omega)
                have q189 : 0 < (y184.length : Int) := of_decide_eq_true (by first | (with_reducible assumption) | assumption)
                obtain ⟨ad189, e189, hx189_0, hx189_1, hx189_2, hx189_3⟩ := at_T128 (Kd.R_reads' HO186.out).2.2 0 p189 q189
                cases e189
                have qi189 : (0 < y184.length) = True := eq_true (by omega)
                (try rw [show ((0 : Int)).toNat = 0 from rfl] at hx189_0)
                (try rw [show 0 * 4 = 0 from rfl] at hx189_0)
                (try rw [Addr.add_zero'] at hx189_0)
                (try rw [show ((0 : Int)).toNat = 0 from rfl] at hx189_1)
                (try rw [show 0 * 4 = 0 from rfl] at hx189_1)
                (try rw [Addr.add_zero'] at hx189_1)
                (try rw [show ((0 : Int)).toNat = 0 from rfl] at hx189_2)
                (try rw [show 0 * 4 = 0 from rfl] at hx189_2)
                (try rw [Addr.add_zero'] at hx189_2)
                (try rw [show ((0 : Int)).toNat = 0 from rfl] at hx189_3)
                (try rw [show 0 * 4 = 0 from rfl] at hx189_3)
                (try rw [Addr.add_zero'] at hx189_3)
                replace p189 := eq_true p189
                replace q189 := eq_true q189
                have p190 : 0 ≤ (1 : Int) := (by omega)
                have q190 : 1 < (y184.length : Int) := of_decide_eq_true (by first | (with_reducible assumption) | assumption)
                obtain ⟨ad190, e190, hx190_0, hx190_1, hx190_2, hx190_3⟩ := at_T128 (Kd.R_reads' HO186.out).2.2 1 p190 q190
                obtain rfl : ad189 = ad190 := (by injection e190)
                (try simp only [show (1 : Int).toNat = 1 from rfl, Nat.reduceMul, Nat.reduceEqDiff, Go.Addr.add, ↓reduceIte] at hx190_0)
                (try simp only [show (1 : Int).toNat = 1 from rfl, Nat.reduceMul, Nat.reduceEqDiff, Go.Addr.add, ↓reduceIte] at hx190_1)
                (try simp only [show (1 : Int).toNat = 1 from rfl, Nat.reduceMul, Nat.reduceEqDiff, Go.Addr.add, ↓reduceIte] at hx190_2)
                (try simp only [show (1 : Int).toNat = 1 from rfl, Nat.reduceMul, Nat.reduceEqDiff, Go.Addr.add, ↓reduceIte] at hx190_3)
                have qi190 : (1 < y184.length) = True := eq_true (by omega)
                (try rw [show ((1 : Int)).toNat = 1 from rfl] at hx190_0)
                (try rw [show 1 * 4 = 4 from rfl] at hx190_0)
                (try rw [show ((1 : Int)).toNat = 1 from rfl] at hx190_1)
                (try rw [show 1 * 4 = 4 from rfl] at hx190_1)
                (try rw [show ((1 : Int)).toNat = 1 from rfl] at hx190_2)
                (try rw [show 1 * 4 = 4 from rfl] at hx190_2)
                (try rw [show ((1 : Int)).toNat = 1 from rfl] at hx190_3)
                (try rw [show 1 * 4 = 4 from rfl] at hx190_3)
                replace p190 := eq_true p190
                replace q190 := eq_true q190
                have p191 : 0 ≤ (3 : Int) := (by omega)
                have q191 : 3 < (y184.length : Int) := of_decide_eq_true (by first | (with_reducible assumption) | assumption)
                obtain ⟨ad191, e191, hx191_0, hx191_1, hx191_2, hx191_3⟩ := at_T128 (Kd.R_reads' HO186.out).2.2 3 p191 q191
                obtain rfl : ad189 = ad191 := (by injection e191)
                (try simp only [show (3 : Int).toNat = 3 from rfl, Nat.reduceMul, Nat.reduceEqDiff, Go.Addr.add, ↓reduceIte] at hx191_0)
                (try simp only [show (3 : Int).toNat = 3 from rfl, Nat.reduceMul, Nat.reduceEqDiff, Go.Addr.add, ↓reduceIte] at hx191_1)
                (try simp only [show (3 : Int).toNat = 3 from rfl, Nat.reduceMul, Nat.reduceEqDiff, Go.Addr.add, ↓reduceIte] at hx191_2)
                (try simp only [show (3 : Int).toNat = 3 from rfl, Nat.reduceMul, Nat.reduceEqDiff, Go.Addr.add, ↓reduceIte] at hx191_3)
                have qi191 : (3 < y184.length) = True := eq_true (by omega)
                (try rw [show ((3 : Int)).toNat = 3 from rfl] at hx191_0)
                (try rw [show 3 * 4 = 12 from rfl] at hx191_0)
                (try rw [show ((3 : Int)).toNat = 3 from rfl] at hx191_1)
                (try rw [show 3 * 4 = 12 from rfl] at hx191_1)
                (try rw [show ((3 : Int)).toNat = 3 from rfl] at hx191_2)
                (try rw [show 3 * 4 = 12 from rfl] at hx191_2)
                (try rw [show ((3 : Int)).toNat = 3 from rfl] at hx191_3)
                (try rw [show 3 * 4 = 12 from rfl] at hx191_3)
                replace p191 := eq_true p191
                replace q191 := eq_true q191
                refine start_ (n := 16) (S := fun w' => w'.cell? ad189 = some (.int .i64 ((rd_T128 y184 0).f0)) ∧ w'.cell? ⟨ad189.block, ad189.off + 1, none⟩ = some (.int .i64 ((rd_T128 y184 0).f1)) ∧ w'.cell? ⟨ad189.block, ad189.off + 2, none⟩ = some (.int .i64 ((rd_T128 y184 0).f2)) ∧ w'.cell? ⟨ad189.block, ad189.off + 3, none⟩ = some (.bool ((rd_T128 y184 0).f3)) ∧ w'.cell? ⟨ad189.block, ad189.off + 4, none⟩ = some (.int .i64 ((rd_T128 y184 1).f0)) ∧ w'.cell? ⟨ad189.block, ad189.off + 4 + 1, none⟩ = some (.int .i64 ((rd_T128 y184 1).f1)) ∧ w'.cell? ⟨ad189.block, ad189.off + 4 + 2, none⟩ = some (.int .i64 ((rd_T128 y184 1).f2)) ∧ w'.cell? ⟨ad189.block, ad189.off + 4 + 3, none⟩ = some (.bool ((rd_T128 y184 1).f3)) ∧ w'.cell? ⟨ad189.block, ad189.off + 12, none⟩ = some (.int .i64 ((rd_T128 y184 3).f0)) ∧ w'.cell? ⟨ad189.block, ad189.off + 12 + 1, none⟩ = some (.int .i64 ((rd_T128 y184 3).f1)) ∧ w'.cell? ⟨ad189.block, ad189.off + 12 + 2, none⟩ = some (.int .i64 ((rd_T128 y184 3).f2)) ∧ w'.cell? ⟨ad189.block, ad189.off + 12 + 3, none⟩ = some (.bool ((rd_T128 y184 3).f3))) (ds := []) #[false, false, false, false, false, false, false, false, false, false, false, false, false, false, false, false] (by kernel_rfl) rfl rfl ⟨hx189_0, hx189_1, hx189_2, hx189_3, hx190_0, hx190_1, hx190_2, hx190_3, hx191_0, hx191_1, hx191_2, hx191_3⟩ (fun hHeld => ?_); refine with_tabW marchlandlaw09_told.tab3 marchlandlaw09_told.bits3 (fun HT_ HW_ => ?_)
                generalize w37.drew = w38 at HO186 HB hx189_0 hx189_1 hx189_2 hx189_3 hx190_0 hx190_1 hx190_2 hx190_3 hx191_0 hx191_1 hx191_2 hx191_3 hHeld ⊢
                refine pure_ (i := 0) (N := some 17) (v := ?_) (a' := ?_) #[true, false, false, false, false, false, false, false, false, false, false, false, false, false, false, false] rfl rfl (any_of HT_.out (by kernel_rfl)) (fun _ _ _ h => h) (Or.inl ⟨by rfl, ?_⟩) ?_ ?_
                rotate_left
                · intro w'
                  go_simp
                  with_reducible rfl
                rotate_left
                · simp only [Act.put, List.setIfInBounds_toArray, List.set_cons_zero, List.set_cons_succ, i64_w, i32_w]
                  rfl
                refine pure_ (i := 1) (N := some 18) (v := ?_) (a' := ?_) #[true, true, false, false, false, false, false, false, false, false, false, false, false, false, false, false] rfl rfl (any_of HT_.out (by kernel_rfl)) (fun _ _ _ h => h) (Or.inl ⟨by rfl, ?_⟩) ?_ ?_
                rotate_left
                · intro w'
                  go_simp
                  with_reducible rfl
                rotate_left
                · simp only [Act.put, List.setIfInBounds_toArray, List.set_cons_zero, List.set_cons_succ, i64_w, i32_w]
                  rfl
                refine pure_ (i := 3) (N := some 20) (v := ?_) (a' := ?_) #[true, true, false, true, false, false, false, false, false, false, false, false, false, false, false, false] rfl rfl (any_of HT_.out (by kernel_rfl)) (fun _ _ _ h => h) (Or.inl ⟨by rfl, ?_⟩) ?_ ?_
                rotate_left
                · intro w'
                  go_simp
                  with_reducible rfl
                rotate_left
                · simp only [Act.put, List.setIfInBounds_toArray, List.set_cons_zero, List.set_cons_succ, i64_w, i32_w]
                  rfl
                refine pure_ (i := 4) (N := some 21) (v := ?_) (a' := ?_) #[true, true, false, true, true, false, false, false, false, false, false, false, false, false, false, false] rfl rfl (any_of HT_.out (by kernel_rfl)) (fun _ _ _ h => h) (Or.inl ⟨by rfl, ?_⟩) ?_ ?_
                rotate_left
                · intro w'
                  go_simp
                  with_reducible rfl
                rotate_left
                · simp only [Act.put, List.setIfInBounds_toArray, List.set_cons_zero, List.set_cons_succ, i64_w, i32_w]
                  rfl
                refine pure_ (i := 6) (N := some 23) (v := ?_) (a' := ?_) #[true, true, false, true, true, false, true, false, false, false, false, false, false, false, false, false] rfl rfl (any_of HT_.out (by kernel_rfl)) (fun _ _ _ h => h) (Or.inl ⟨by rfl, ?_⟩) ?_ ?_
                rotate_left
                · intro w'
                  go_simp
                  with_reducible rfl
                rotate_left
                · simp only [Act.put, List.setIfInBounds_toArray, List.set_cons_zero, List.set_cons_succ, i64_w, i32_w]
                  rfl
                refine pure_ (i := 7) (N := some 24) (v := ?_) (a' := ?_) #[true, true, false, true, true, false, true, true, false, false, false, false, false, false, false, false] rfl rfl (any_of HT_.out (by kernel_rfl)) (fun _ _ _ h => h) (Or.inl ⟨by rfl, ?_⟩) ?_ ?_
                rotate_left
                · intro w'
                  go_simp
                  with_reducible rfl
                rotate_left
                · simp only [Act.put, List.setIfInBounds_toArray, List.set_cons_zero, List.set_cons_succ, i64_w, i32_w]
                  rfl
                refine take_ (i := 2) (N := some 19) (v := ?_) (a' := ?_) #[true, true, true, true, true, false, true, true, false, false, false, false, false, false, false, false] rfl rfl (take_ofW HT_.out HW_.out (by kernel_rfl)) (fun _ _ _ h => h) (Or.inl ⟨by rfl, ?_⟩) hHeld ?_ ?_
                rotate_left
                · rintro w' ⟨s0, s1, s2, s3, s4, s5, s6, s7, s8, s9, s10, s11⟩
                  go_simp
                  with_reducible rfl
                rotate_left
                · simp only [Act.put, List.setIfInBounds_toArray, List.set_cons_zero, List.set_cons_succ, i64_w, i32_w]
                  rfl
                refine take_ (i := 5) (N := some 22) (v := ?_) (a' := ?_) #[true, true, true, true, true, true, true, true, false, false, false, false, false, false, false, false] rfl rfl (take_ofW HT_.out HW_.out (by kernel_rfl)) (fun _ _ _ h => h) (Or.inl ⟨by rfl, ?_⟩) hHeld ?_ ?_
                rotate_left
                · rintro w' ⟨s0, s1, s2, s3, s4, s5, s6, s7, s8, s9, s10, s11⟩
                  go_simp
                  with_reducible rfl
                rotate_left
                · simp only [Act.put, List.setIfInBounds_toArray, List.set_cons_zero, List.set_cons_succ, i64_w, i32_w]
                  rfl
                refine take_ (i := 8) (N := some 25) (v := ?_) (a' := ?_) #[true, true, true, true, true, true, true, true, true, false, false, false, false, false, false, false] rfl rfl (take_ofW HT_.out HW_.out (by kernel_rfl)) (fun _ _ _ h => h) (Or.inl ⟨by rfl, ?_⟩) hHeld ?_ ?_
                rotate_left
                · rintro w' ⟨s0, s1, s2, s3, s4, s5, s6, s7, s8, s9, s10, s11⟩
                  go_simp
                  with_reducible rfl
                rotate_left
                · simp only [Act.put, List.setIfInBounds_toArray, List.set_cons_zero, List.set_cons_succ, i64_w, i32_w]
                  rfl
                refine one_ (i := 9) (N := some 26) #[true, true, true, true, true, true, true, true, true, true, false, false, false, false, false, false] rfl rfl (one_of HT_.out (by kernel_rfl)) (by decide) (fun K hK => ?_)
                refine Kd.R_lit_step k128 _ 128 ?hg (N := 26) ?hd (xs := ([(⟨(rd_T128 y184 0).f0, (rd_T128 y184 0).f1, (rd_T128 y184 0).f2, (rd_T128 y184 0).f3⟩ : S128), (⟨(rd_T128 y184 1).f0, (rd_T128 y184 1).f1, (rd_T128 y184 1).f2, (rd_T128 y184 1).f3⟩ : S128), (⟨(rd_T128 y184 3).f0, (rd_T128 y184 3).f1, (rd_T128 y184 3).f2, (rd_T128 y184 3).f3⟩ : S128)] : List (S128))) (inner := [.int .i64 ((rd_T128 y184 0).f0), .int .i64 ((rd_T128 y184 0).f1), .int .i64 ((rd_T128 y184 0).f2), .bool ((rd_T128 y184 0).f3), .int .i64 ((rd_T128 y184 1).f0), .int .i64 ((rd_T128 y184 1).f1), .int .i64 ((rd_T128 y184 1).f2), .bool ((rd_T128 y184 1).f3), .int .i64 ((rd_T128 y184 3).f0), .int .i64 ((rd_T128 y184 3).f1), .int .i64 ((rd_T128 y184 3).f2), .bool ((rd_T128 y184 3).f3)]) (ok := fun _ => True) (okp := fun _ => True) ?hr ?hp (fun _ hk => hk) trivial (Below.refl _ _) (Nat.le_refl _) (by simp) ?_; (case hd => rfl); (case hg => rfl); (case hr => first | (go_simp; done) | (go_simp; rfl)); (case hp => exact (Reps.c4 (show Kd.M k128 _ _ _ (⟨(rd_T128 y184 0).f0, (rd_T128 y184 0).f1, (rd_T128 y184 0).f2, (rd_T128 y184 0).f3⟩ : S128) [.int .i64 ((rd_T128 y184 0).f0), .int .i64 ((rd_T128 y184 0).f1), .int .i64 ((rd_T128 y184 0).f2), .bool ((rd_T128 y184 0).f3)] from (k128_mkM _ _ _ (⟨(rd_T128 y184 0).f0, (rd_T128 y184 0).f1, (rd_T128 y184 0).f2, (rd_T128 y184 0).f3⟩ : S128) )) (Reps.c4 (show Kd.M k128 _ _ _ (⟨(rd_T128 y184 1).f0, (rd_T128 y184 1).f1, (rd_T128 y184 1).f2, (rd_T128 y184 1).f3⟩ : S128) [.int .i64 ((rd_T128 y184 1).f0), .int .i64 ((rd_T128 y184 1).f1), .int .i64 ((rd_T128 y184 1).f2), .bool ((rd_T128 y184 1).f3)] from (k128_mkM _ _ _ (⟨(rd_T128 y184 1).f0, (rd_T128 y184 1).f1, (rd_T128 y184 1).f2, (rd_T128 y184 1).f3⟩ : S128) )) (Reps.c4 (show Kd.M k128 _ _ _ (⟨(rd_T128 y184 3).f0, (rd_T128 y184 3).f1, (rd_T128 y184 3).f2, (rd_T128 y184 3).f3⟩ : S128) [.int .i64 ((rd_T128 y184 3).f0), .int .i64 ((rd_T128 y184 3).f1), .int .i64 ((rd_T128 y184 3).f2), .bool ((rd_T128 y184 3).f3)] from (k128_mkM _ _ _ (⟨(rd_T128 y184 3).f0, (rd_T128 y184 3).f1, (rd_T128 y184 3).f2, (rd_T128 y184 3).f3⟩ : S128) )) (Reps.none _ _)))))
                intro v193 w39 ho40 hb hg_ hnew_
                have HS0_ := (hb.cell (World.block_lt_of_cell? _ _ (hHeld.1))).trans (hHeld.1)
                have HS1_ := (hb.cell (World.block_lt_of_cell? _ _ (hHeld.2.1))).trans (hHeld.2.1)
                have HS2_ := (hb.cell (World.block_lt_of_cell? _ _ (hHeld.2.2.1))).trans (hHeld.2.2.1)
                have HS3_ := (hb.cell (World.block_lt_of_cell? _ _ (hHeld.2.2.2.1))).trans (hHeld.2.2.2.1)
                have HS4_ := (hb.cell (World.block_lt_of_cell? _ _ (hHeld.2.2.2.2.1))).trans (hHeld.2.2.2.2.1)
                have HS5_ := (hb.cell (World.block_lt_of_cell? _ _ (hHeld.2.2.2.2.2.1))).trans (hHeld.2.2.2.2.2.1)
                have HS6_ := (hb.cell (World.block_lt_of_cell? _ _ (hHeld.2.2.2.2.2.2.1))).trans (hHeld.2.2.2.2.2.2.1)
                have HS7_ := (hb.cell (World.block_lt_of_cell? _ _ (hHeld.2.2.2.2.2.2.2.1))).trans (hHeld.2.2.2.2.2.2.2.1)
                have HS8_ := (hb.cell (World.block_lt_of_cell? _ _ (hHeld.2.2.2.2.2.2.2.2.1))).trans (hHeld.2.2.2.2.2.2.2.2.1)
                have HS9_ := (hb.cell (World.block_lt_of_cell? _ _ (hHeld.2.2.2.2.2.2.2.2.2.1))).trans (hHeld.2.2.2.2.2.2.2.2.2.1)
                have HS10_ := (hb.cell (World.block_lt_of_cell? _ _ (hHeld.2.2.2.2.2.2.2.2.2.2.1))).trans (hHeld.2.2.2.2.2.2.2.2.2.2.1)
                have HS11_ := (hb.cell (World.block_lt_of_cell? _ _ (hHeld.2.2.2.2.2.2.2.2.2.2.2))).trans (hHeld.2.2.2.2.2.2.2.2.2.2.2)
                clear hg_ hnew_
                (first | rw [← Ny192.out] at ho40 | (simp only [Int.reduceToNat] at ho40; rw [← Ny192.out] at ho40))
                have n0_ := Aside0.mk (Kd.R_elder' (by (with_reducible repeat (first | apply Kd.R_alloc | apply Kd.R_drewN | apply Kd.R_drew)); exact HO186.out) (Kd.R_base ho40) hb)
                have n1_ := Aside0.mk (Kd.R_lower (Kd.R_new' ho40 (Kd.R_lt (by (with_reducible repeat (first | apply Kd.R_alloc | apply Kd.R_drewN | apply Kd.R_drew)); exact HO186.out))) (below_size (by repeat (first | (with_reducible first | exact HB.out | apply below_alloc | apply pw_below_drewN | apply below_drew1) | exact HB.out))))
                have n2_ := Aside0.mk (below_step (by repeat (first | (with_reducible first | exact HB.out | apply below_alloc | apply pw_below_drewN | apply below_drew1) | exact HB.out)) hb)
                clear HO186
                clear HB
                have HO186 := n0_
                have HO194 := n1_
                have HB := n2_
                clear n0_ n1_ n2_
                clear hb ho40
                obtain ⟨Ao41, co41, eo41⟩ := Kd.R_slice HO194.out
                (first | subst eo41 | (injection eo41 with f1_ f2_ f3_; have f4_ := f1_.symm; have f5_ := f3_.symm; clear f1_ f2_ f3_; subst f4_; subst f5_))
                refine hK.out _ _ ⟨HS0_, HS1_, HS2_, HS3_, HS4_, HS5_, HS6_, HS7_, HS8_, HS9_, HS10_, HS11_⟩ (fun hHeld => ?_)
                clear hK K
                refine norm_ (a' := ?_) ?_ ?_
                rotate_left
                · show Act.put _ (some 26) _ = _
                  simp only [Act.put, List.setIfInBounds_toArray, List.set_cons_zero, List.set_cons_succ, i64_w, i32_w]
                  rfl
                refine one_ (i := 10) (N := some 27) #[true, true, true, true, true, true, true, true, true, true, true, false, false, false, false, false] rfl rfl (one_of HT_.out (by kernel_rfl)) (by decide) (fun K hK => ?_)
                refine goes_ Try.func28 (by kernel_rfl) rfl #[.slice Ao41 y192.length co41] (by rfl) rfl rfl (by (try simp only [List.map_toArray, List.map_cons, List.map_nil]); first | done | rfl | (simp only [List.length_drop, List.length_take]; rfl)) ?_
                with_reducible refine (clock_Race.calls _ _ y192 t195 t196 _ ?side1 ?side2 A5.out).mono ?_
                (case side1 => repeat (first | exact (Kd.R_reads' HO194.out).2.2 | (with_reducible refine Kd.C_alloc ?_ _) | (with_reducible refine Kd.C_drewN ?_ _) | (with_reducible refine Kd.C_drew ?_)))
                (case side2 => exact (Kd.R_reads' HO194.out).2.1)
                rintro e w42 ⟨rfl, hb⟩
                have HS0_ := (hb.cell (World.block_lt_of_cell? _ _ (hHeld.1))).trans (hHeld.1)
                have HS1_ := (hb.cell (World.block_lt_of_cell? _ _ (hHeld.2.1))).trans (hHeld.2.1)
                have HS2_ := (hb.cell (World.block_lt_of_cell? _ _ (hHeld.2.2.1))).trans (hHeld.2.2.1)
                have HS3_ := (hb.cell (World.block_lt_of_cell? _ _ (hHeld.2.2.2.1))).trans (hHeld.2.2.2.1)
                have HS4_ := (hb.cell (World.block_lt_of_cell? _ _ (hHeld.2.2.2.2.1))).trans (hHeld.2.2.2.2.1)
                have HS5_ := (hb.cell (World.block_lt_of_cell? _ _ (hHeld.2.2.2.2.2.1))).trans (hHeld.2.2.2.2.2.1)
                have HS6_ := (hb.cell (World.block_lt_of_cell? _ _ (hHeld.2.2.2.2.2.2.1))).trans (hHeld.2.2.2.2.2.2.1)
                have HS7_ := (hb.cell (World.block_lt_of_cell? _ _ (hHeld.2.2.2.2.2.2.2.1))).trans (hHeld.2.2.2.2.2.2.2.1)
                have HS8_ := (hb.cell (World.block_lt_of_cell? _ _ (hHeld.2.2.2.2.2.2.2.2.1))).trans (hHeld.2.2.2.2.2.2.2.2.1)
                have HS9_ := (hb.cell (World.block_lt_of_cell? _ _ (hHeld.2.2.2.2.2.2.2.2.2.1))).trans (hHeld.2.2.2.2.2.2.2.2.2.1)
                have HS10_ := (hb.cell (World.block_lt_of_cell? _ _ (hHeld.2.2.2.2.2.2.2.2.2.2.1))).trans (hHeld.2.2.2.2.2.2.2.2.2.2.1)
                have HS11_ := (hb.cell (World.block_lt_of_cell? _ _ (hHeld.2.2.2.2.2.2.2.2.2.2.2))).trans (hHeld.2.2.2.2.2.2.2.2.2.2.2)
                refine ⟨_, rfl, ?_⟩
                have n0_ := Aside0.mk (Kd.R_below (by (with_reducible repeat (first | apply Kd.R_alloc | apply Kd.R_drewN | apply Kd.R_drew)); exact HO186.out) hb)
                have n1_ := Aside0.mk (Kd.R_below (by (with_reducible repeat (first | apply Kd.R_alloc | apply Kd.R_drewN | apply Kd.R_drew)); exact HO194.out) hb)
                have n2_ := Aside0.mk (below_step (by repeat (first | (with_reducible first | exact HB.out | apply below_alloc | apply pw_below_drewN | apply below_drew1) | exact HB.out)) hb)
                clear HO186
                clear HO194
                clear HB
                have HO186 := n0_
                have HO194 := n1_
                have HB := n2_
                clear n0_ n1_ n2_
                (try clear hb)
                (try clear hb2)
                (try clear hk)
                (try clear hi)
                refine hK.out _ _ ⟨HS0_, HS1_, HS2_, HS3_, HS4_, HS5_, HS6_, HS7_, HS8_, HS9_, HS10_, HS11_⟩ (fun hHeld => ?_)
                clear hK K
                refine norm_ (a' := ?_) ?_ ?_
                rotate_left
                · show Act.put _ (some 27) _ = _
                  simp only [Act.put, List.setIfInBounds_toArray, List.set_cons_zero, List.set_cons_succ, i64_w, i32_w]
                  rfl
                refine pure_ (i := 11) (N := some 16) (v := ?_) (a' := ?_) #[true, true, true, true, true, true, true, true, true, true, true, true, false, false, false, false] rfl rfl (any_of HT_.out (by kernel_rfl)) (fun _ _ _ h => h) (Or.inl ⟨by rfl, ?_⟩) ?_ ?_
                rotate_left
                · intro w'
                  go_simp
                  with_reducible rfl
                rotate_left
                · simp only [Act.put, List.setIfInBounds_toArray, List.set_cons_zero, List.set_cons_succ, i64_w, i32_w]
                  rfl
                refine pure_ (i := 12) (N := some 28) (v := ?_) (a' := ?_) #[true, true, true, true, true, true, true, true, true, true, true, true, true, false, false, false] rfl rfl (any_of HT_.out (by kernel_rfl)) (fun _ _ _ h => h) (Or.inl ⟨by rfl, ?_⟩) ?_ ?_
                rotate_left
                · intro w'
                  go_simp
                  with_reducible rfl
                rotate_left
                · simp only [Act.put, List.setIfInBounds_toArray, List.set_cons_zero, List.set_cons_succ, i64_w, i32_w]
                  rfl
                refine pure_ (i := 13) (N := some 29) (v := ?_) (a' := ?_) #[true, true, true, true, true, true, true, true, true, true, true, true, true, true, false, false] rfl rfl (any_of HT_.out (by kernel_rfl)) (fun _ _ _ h => h) (Or.inl ⟨by rfl, ?_⟩) ?_ ?_
                rotate_left
                · intro w'
                  go_simp
                  with_reducible rfl
                rotate_left
                · simp only [Act.put, List.setIfInBounds_toArray, List.set_cons_zero, List.set_cons_succ, i64_w, i32_w]
                  rfl
                refine pure_ (i := 14) (N := some 4) (v := ?_) (a' := ?_) #[true, true, true, true, true, true, true, true, true, true, true, true, true, true, true, false] rfl rfl (any_of HT_.out (by kernel_rfl)) (fun _ _ _ h => h) (Or.inl ⟨by rfl, ?_⟩) ?_ ?_
                rotate_left
                · intro w'
                  go_simp
                  with_reducible rfl
                rotate_left
                · simp only [Act.put, List.setIfInBounds_toArray, List.set_cons_zero, List.set_cons_succ, i64_w, i32_w]
                  rfl
                refine pure_ (i := 15) (N := some 5) (v := ?_) (a' := ?_) #[true, true, true, true, true, true, true, true, true, true, true, true, true, true, true, true] rfl rfl (any_of HT_.out (by kernel_rfl)) (fun _ _ _ h => h) (Or.inl ⟨by rfl, ?_⟩) ?_ ?_
                rotate_left
                · intro w'
                  go_simp
                  with_reducible rfl
                rotate_left
                · simp only [Act.put, List.setIfInBounds_toArray, List.set_cons_zero, List.set_cons_succ, i64_w, i32_w]
                  rfl
                refine done_ (done_of HT_.out (by kernel_rfl)) ?_
                try go_wp2
                go_ret
                exact ⟨by first | rfl | (simp [errW_none, errW_some] <;> rfl) | (simp [*, errW_none, errW_some] <;> rfl), by repeat (first | (with_reducible first | exact HB.out | apply below_alloc | apply pw_below_drewN | apply below_drew1) | exact HB.out)⟩
            · rw [if_neg c8] at H
              have c8b0 : (t195 == 0) = false := beq_eq_false_iff_ne.mpr c8
              have c8b1 : (t195 != 0) = true := bne_iff_ne.mpr c8
              obtain rfl := Option.some.inj H
              go_enter Try.func26, Try.ntmps26
              try go_wp2_with (first | ((with_reducible refine gate_dst (N := 10) rfl ?_); refine Kd.R_lit k128 _ 128 ?hg (N := 10) ?hd (xs := ([(⟨0, 3, 0, true⟩ : S128), (⟨0, 1, 0, true⟩ : S128), (⟨1, 0, 0, true⟩ : S128), (⟨1, 2, 0, true⟩ : S128)] : List (S128))) (inner := [.int .i64 0, .int .i64 3, .int .i64 0, .bool true, .int .i64 0, .int .i64 1, .int .i64 0, .bool true, .int .i64 1, .int .i64 0, .int .i64 0, .bool true, .int .i64 1, .int .i64 2, .int .i64 0, .bool true]) (ok := fun _ => True) (okp := fun _ => True) ?hr ?hp (fun _ hk => hk) trivial (Below.refl _ _) (Nat.le_refl _) (by simp) ?_; (case hd => rfl); (case hg => rfl); (case hr => first | (go_simp; done) | (go_simp; rfl)); (case hp => exact (Reps.c4 (show Kd.M k128 _ _ _ (⟨0, 3, 0, true⟩ : S128) [.int .i64 0, .int .i64 3, .int .i64 0, .bool true] from (k128_mkM _ _ _ (⟨0, 3, 0, true⟩ : S128) )) (Reps.c4 (show Kd.M k128 _ _ _ (⟨0, 1, 0, true⟩ : S128) [.int .i64 0, .int .i64 1, .int .i64 0, .bool true] from (k128_mkM _ _ _ (⟨0, 1, 0, true⟩ : S128) )) (Reps.c4 (show Kd.M k128 _ _ _ (⟨1, 0, 0, true⟩ : S128) [.int .i64 1, .int .i64 0, .int .i64 0, .bool true] from (k128_mkM _ _ _ (⟨1, 0, 0, true⟩ : S128) )) (Reps.c4 (show Kd.M k128 _ _ _ (⟨1, 2, 0, true⟩ : S128) [.int .i64 1, .int .i64 2, .int .i64 0, .bool true] from (k128_mkM _ _ _ (⟨1, 2, 0, true⟩ : S128) )) (Reps.none _ _)))))); intro v185 w43 ho44 hb hg_ hnew_; clear hg_ hnew_; (first | rw [← Ny184.out] at ho44 | (simp only [Int.reduceToNat] at ho44; rw [← Ny184.out] at ho44)); have n0_ := Aside0.mk (Kd.R_lower ho44 (below_size (by repeat (first | (with_reducible first | exact HB.out | apply below_alloc | apply pw_below_drewN | apply below_drew1) | exact HB.out)))); have n1_ := Aside0.mk (below_step (by repeat (first | (with_reducible first | exact HB.out | apply below_alloc | apply pw_below_drewN | apply below_drew1) | exact HB.out)) hb); clear HB; have HO186 := n0_; have HB := n1_; clear n0_ n1_; clear hb ho44; obtain ⟨Ao45, co45, eo45⟩ := Kd.R_slice HO186.out; subst eo45) | ((with_reducible refine gate_callee (f := 28) rfl ?_); refine goesL_ (some 13) rfl rfl Try.func28 (by kernel_rfl) rfl #[.slice Ao45 y184.length co45] rfl (by (try simp only [List.map_toArray, List.map_cons, List.map_nil]); first | done | rfl | (simp only [List.length_drop, List.length_take]; rfl)) ?_; (with_reducible refine (clock_Race.calls _ _ y184 t187 t188 _ ?side1 ?side2 A1.out).mono ?_); (case side1 => repeat (first | exact (Kd.R_reads' HO186.out).2.2 | (with_reducible refine Kd.C_alloc ?_ _) | (with_reducible refine Kd.C_drewN ?_ _) | (with_reducible refine Kd.C_drew ?_))); (case side2 => exact (Kd.R_reads' HO186.out).2.1); rintro e w46 ⟨rfl, hb⟩; refine ⟨_, rfl, ?_⟩; have n0_ := Aside0.mk (Kd.R_below (by (with_reducible repeat (first | apply Kd.R_alloc | apply Kd.R_drewN | apply Kd.R_drew)); exact HO186.out) hb); have n1_ := Aside0.mk (below_step (by repeat (first | (with_reducible first | exact HB.out | apply below_alloc | apply pw_below_drewN | apply below_drew1) | exact HB.out)) hb); clear HO186; clear HB; have HO186 := n0_; have HB := n1_; clear n0_ n1_; (try clear hb); (try clear hb2); (try clear hk); (try clear hi)))
              have n0_ := Aside0.mk (Kd.R_drew HO186.out)
              have n1_ := Aside0.mk (below_drew1 HB.out)
              clear HO186
              clear HB
              have HO186 := n0_
              have HB := n1_
              clear n0_ n1_
              have p189 : 0 ≤ (0 : Int) := (by omega)
              have q189 : 0 < (y184.length : Int) := of_decide_eq_true (by first | (with_reducible assumption) | assumption)
              obtain ⟨ad189, e189, hx189_0, hx189_1, hx189_2, hx189_3⟩ := at_T128 (Kd.R_reads' HO186.out).2.2 0 p189 q189
              cases e189
              have qi189 : (0 < y184.length) = True := eq_true (by omega)
              (try rw [show ((0 : Int)).toNat = 0 from rfl] at hx189_0)
              (try rw [show 0 * 4 = 0 from rfl] at hx189_0)
              (try rw [Addr.add_zero'] at hx189_0)
              (try rw [show ((0 : Int)).toNat = 0 from rfl] at hx189_1)
              (try rw [show 0 * 4 = 0 from rfl] at hx189_1)
              (try rw [Addr.add_zero'] at hx189_1)
              (try rw [show ((0 : Int)).toNat = 0 from rfl] at hx189_2)
              (try rw [show 0 * 4 = 0 from rfl] at hx189_2)
              (try rw [Addr.add_zero'] at hx189_2)
              (try rw [show ((0 : Int)).toNat = 0 from rfl] at hx189_3)
              (try rw [show 0 * 4 = 0 from rfl] at hx189_3)
              (try rw [Addr.add_zero'] at hx189_3)
              replace p189 := eq_true p189
              replace q189 := eq_true q189
              have p190 : 0 ≤ (1 : Int) := (by omega)
              have q190 : 1 < (y184.length : Int) := of_decide_eq_true (by first | (with_reducible assumption) | assumption)
              obtain ⟨ad190, e190, hx190_0, hx190_1, hx190_2, hx190_3⟩ := at_T128 (Kd.R_reads' HO186.out).2.2 1 p190 q190
              obtain rfl : ad189 = ad190 := (by injection e190)
              (try simp only [show (1 : Int).toNat = 1 from rfl, Nat.reduceMul, Nat.reduceEqDiff, Go.Addr.add, ↓reduceIte] at hx190_0)
              (try simp only [show (1 : Int).toNat = 1 from rfl, Nat.reduceMul, Nat.reduceEqDiff, Go.Addr.add, ↓reduceIte] at hx190_1)
              (try simp only [show (1 : Int).toNat = 1 from rfl, Nat.reduceMul, Nat.reduceEqDiff, Go.Addr.add, ↓reduceIte] at hx190_2)
              (try simp only [show (1 : Int).toNat = 1 from rfl, Nat.reduceMul, Nat.reduceEqDiff, Go.Addr.add, ↓reduceIte] at hx190_3)
              have qi190 : (1 < y184.length) = True := eq_true (by omega)
              (try rw [show ((1 : Int)).toNat = 1 from rfl] at hx190_0)
              (try rw [show 1 * 4 = 4 from rfl] at hx190_0)
              (try rw [show ((1 : Int)).toNat = 1 from rfl] at hx190_1)
              (try rw [show 1 * 4 = 4 from rfl] at hx190_1)
              (try rw [show ((1 : Int)).toNat = 1 from rfl] at hx190_2)
              (try rw [show 1 * 4 = 4 from rfl] at hx190_2)
              (try rw [show ((1 : Int)).toNat = 1 from rfl] at hx190_3)
              (try rw [show 1 * 4 = 4 from rfl] at hx190_3)
              replace p190 := eq_true p190
              replace q190 := eq_true q190
              have p191 : 0 ≤ (3 : Int) := (by omega)
              have q191 : 3 < (y184.length : Int) := of_decide_eq_true (by first | (with_reducible assumption) | assumption)
              obtain ⟨ad191, e191, hx191_0, hx191_1, hx191_2, hx191_3⟩ := at_T128 (Kd.R_reads' HO186.out).2.2 3 p191 q191
              obtain rfl : ad189 = ad191 := (by injection e191)
              (try simp only [show (3 : Int).toNat = 3 from rfl, Nat.reduceMul, Nat.reduceEqDiff, Go.Addr.add, ↓reduceIte] at hx191_0)
              (try simp only [show (3 : Int).toNat = 3 from rfl, Nat.reduceMul, Nat.reduceEqDiff, Go.Addr.add, ↓reduceIte] at hx191_1)
              (try simp only [show (3 : Int).toNat = 3 from rfl, Nat.reduceMul, Nat.reduceEqDiff, Go.Addr.add, ↓reduceIte] at hx191_2)
              (try simp only [show (3 : Int).toNat = 3 from rfl, Nat.reduceMul, Nat.reduceEqDiff, Go.Addr.add, ↓reduceIte] at hx191_3)
              have qi191 : (3 < y184.length) = True := eq_true (by omega)
              (try rw [show ((3 : Int)).toNat = 3 from rfl] at hx191_0)
              (try rw [show 3 * 4 = 12 from rfl] at hx191_0)
              (try rw [show ((3 : Int)).toNat = 3 from rfl] at hx191_1)
              (try rw [show 3 * 4 = 12 from rfl] at hx191_1)
              (try rw [show ((3 : Int)).toNat = 3 from rfl] at hx191_2)
              (try rw [show 3 * 4 = 12 from rfl] at hx191_2)
              (try rw [show ((3 : Int)).toNat = 3 from rfl] at hx191_3)
              (try rw [show 3 * 4 = 12 from rfl] at hx191_3)
              replace p191 := eq_true p191
              replace q191 := eq_true q191
              refine start_ (n := 16) (S := fun w' => w'.cell? ad189 = some (.int .i64 ((rd_T128 y184 0).f0)) ∧ w'.cell? ⟨ad189.block, ad189.off + 1, none⟩ = some (.int .i64 ((rd_T128 y184 0).f1)) ∧ w'.cell? ⟨ad189.block, ad189.off + 2, none⟩ = some (.int .i64 ((rd_T128 y184 0).f2)) ∧ w'.cell? ⟨ad189.block, ad189.off + 3, none⟩ = some (.bool ((rd_T128 y184 0).f3)) ∧ w'.cell? ⟨ad189.block, ad189.off + 4, none⟩ = some (.int .i64 ((rd_T128 y184 1).f0)) ∧ w'.cell? ⟨ad189.block, ad189.off + 4 + 1, none⟩ = some (.int .i64 ((rd_T128 y184 1).f1)) ∧ w'.cell? ⟨ad189.block, ad189.off + 4 + 2, none⟩ = some (.int .i64 ((rd_T128 y184 1).f2)) ∧ w'.cell? ⟨ad189.block, ad189.off + 4 + 3, none⟩ = some (.bool ((rd_T128 y184 1).f3)) ∧ w'.cell? ⟨ad189.block, ad189.off + 12, none⟩ = some (.int .i64 ((rd_T128 y184 3).f0)) ∧ w'.cell? ⟨ad189.block, ad189.off + 12 + 1, none⟩ = some (.int .i64 ((rd_T128 y184 3).f1)) ∧ w'.cell? ⟨ad189.block, ad189.off + 12 + 2, none⟩ = some (.int .i64 ((rd_T128 y184 3).f2)) ∧ w'.cell? ⟨ad189.block, ad189.off + 12 + 3, none⟩ = some (.bool ((rd_T128 y184 3).f3))) (ds := []) #[false, false, false, false, false, false, false, false, false, false, false, false, false, false, false, false] (by kernel_rfl) rfl rfl ⟨hx189_0, hx189_1, hx189_2, hx189_3, hx190_0, hx190_1, hx190_2, hx190_3, hx191_0, hx191_1, hx191_2, hx191_3⟩ (fun hHeld => ?_); refine with_tabW marchlandlaw09_told.tab3 marchlandlaw09_told.bits3 (fun HT_ HW_ => ?_)
              generalize w46.drew = w47 at HO186 HB hx189_0 hx189_1 hx189_2 hx189_3 hx190_0 hx190_1 hx190_2 hx190_3 hx191_0 hx191_1 hx191_2 hx191_3 hHeld ⊢
              refine pure_ (i := 0) (N := some 17) (v := ?_) (a' := ?_) #[true, false, false, false, false, false, false, false, false, false, false, false, false, false, false, false] rfl rfl (any_of HT_.out (by kernel_rfl)) (fun _ _ _ h => h) (Or.inl ⟨by rfl, ?_⟩) ?_ ?_
              rotate_left
              · intro w'
                go_simp
                with_reducible rfl
              rotate_left
              · simp only [Act.put, List.setIfInBounds_toArray, List.set_cons_zero, List.set_cons_succ, i64_w, i32_w]
                rfl
              refine pure_ (i := 1) (N := some 18) (v := ?_) (a' := ?_) #[true, true, false, false, false, false, false, false, false, false, false, false, false, false, false, false] rfl rfl (any_of HT_.out (by kernel_rfl)) (fun _ _ _ h => h) (Or.inl ⟨by rfl, ?_⟩) ?_ ?_
              rotate_left
              · intro w'
                go_simp
                with_reducible rfl
              rotate_left
              · simp only [Act.put, List.setIfInBounds_toArray, List.set_cons_zero, List.set_cons_succ, i64_w, i32_w]
                rfl
              refine pure_ (i := 3) (N := some 20) (v := ?_) (a' := ?_) #[true, true, false, true, false, false, false, false, false, false, false, false, false, false, false, false] rfl rfl (any_of HT_.out (by kernel_rfl)) (fun _ _ _ h => h) (Or.inl ⟨by rfl, ?_⟩) ?_ ?_
              rotate_left
              · intro w'
                go_simp
                with_reducible rfl
              rotate_left
              · simp only [Act.put, List.setIfInBounds_toArray, List.set_cons_zero, List.set_cons_succ, i64_w, i32_w]
                rfl
              refine pure_ (i := 4) (N := some 21) (v := ?_) (a' := ?_) #[true, true, false, true, true, false, false, false, false, false, false, false, false, false, false, false] rfl rfl (any_of HT_.out (by kernel_rfl)) (fun _ _ _ h => h) (Or.inl ⟨by rfl, ?_⟩) ?_ ?_
              rotate_left
              · intro w'
                go_simp
                with_reducible rfl
              rotate_left
              · simp only [Act.put, List.setIfInBounds_toArray, List.set_cons_zero, List.set_cons_succ, i64_w, i32_w]
                rfl
              refine pure_ (i := 6) (N := some 23) (v := ?_) (a' := ?_) #[true, true, false, true, true, false, true, false, false, false, false, false, false, false, false, false] rfl rfl (any_of HT_.out (by kernel_rfl)) (fun _ _ _ h => h) (Or.inl ⟨by rfl, ?_⟩) ?_ ?_
              rotate_left
              · intro w'
                go_simp
                with_reducible rfl
              rotate_left
              · simp only [Act.put, List.setIfInBounds_toArray, List.set_cons_zero, List.set_cons_succ, i64_w, i32_w]
                rfl
              refine pure_ (i := 7) (N := some 24) (v := ?_) (a' := ?_) #[true, true, false, true, true, false, true, true, false, false, false, false, false, false, false, false] rfl rfl (any_of HT_.out (by kernel_rfl)) (fun _ _ _ h => h) (Or.inl ⟨by rfl, ?_⟩) ?_ ?_
              rotate_left
              · intro w'
                go_simp
                with_reducible rfl
              rotate_left
              · simp only [Act.put, List.setIfInBounds_toArray, List.set_cons_zero, List.set_cons_succ, i64_w, i32_w]
                rfl
              refine take_ (i := 2) (N := some 19) (v := ?_) (a' := ?_) #[true, true, true, true, true, false, true, true, false, false, false, false, false, false, false, false] rfl rfl (take_ofW HT_.out HW_.out (by kernel_rfl)) (fun _ _ _ h => h) (Or.inl ⟨by rfl, ?_⟩) hHeld ?_ ?_
              rotate_left
              · rintro w' ⟨s0, s1, s2, s3, s4, s5, s6, s7, s8, s9, s10, s11⟩
                go_simp
                with_reducible rfl
              rotate_left
              · simp only [Act.put, List.setIfInBounds_toArray, List.set_cons_zero, List.set_cons_succ, i64_w, i32_w]
                rfl
              refine take_ (i := 5) (N := some 22) (v := ?_) (a' := ?_) #[true, true, true, true, true, true, true, true, false, false, false, false, false, false, false, false] rfl rfl (take_ofW HT_.out HW_.out (by kernel_rfl)) (fun _ _ _ h => h) (Or.inl ⟨by rfl, ?_⟩) hHeld ?_ ?_
              rotate_left
              · rintro w' ⟨s0, s1, s2, s3, s4, s5, s6, s7, s8, s9, s10, s11⟩
                go_simp
                with_reducible rfl
              rotate_left
              · simp only [Act.put, List.setIfInBounds_toArray, List.set_cons_zero, List.set_cons_succ, i64_w, i32_w]
                rfl
              refine take_ (i := 8) (N := some 25) (v := ?_) (a' := ?_) #[true, true, true, true, true, true, true, true, true, false, false, false, false, false, false, false] rfl rfl (take_ofW HT_.out HW_.out (by kernel_rfl)) (fun _ _ _ h => h) (Or.inl ⟨by rfl, ?_⟩) hHeld ?_ ?_
              rotate_left
              · rintro w' ⟨s0, s1, s2, s3, s4, s5, s6, s7, s8, s9, s10, s11⟩
                go_simp
                with_reducible rfl
              rotate_left
              · simp only [Act.put, List.setIfInBounds_toArray, List.set_cons_zero, List.set_cons_succ, i64_w, i32_w]
                rfl
              refine one_ (i := 9) (N := some 26) #[true, true, true, true, true, true, true, true, true, true, false, false, false, false, false, false] rfl rfl (one_of HT_.out (by kernel_rfl)) (by decide) (fun K hK => ?_)
              refine Kd.R_lit_step k128 _ 128 ?hg (N := 26) ?hd (xs := ([(⟨(rd_T128 y184 0).f0, (rd_T128 y184 0).f1, (rd_T128 y184 0).f2, (rd_T128 y184 0).f3⟩ : S128), (⟨(rd_T128 y184 1).f0, (rd_T128 y184 1).f1, (rd_T128 y184 1).f2, (rd_T128 y184 1).f3⟩ : S128), (⟨(rd_T128 y184 3).f0, (rd_T128 y184 3).f1, (rd_T128 y184 3).f2, (rd_T128 y184 3).f3⟩ : S128)] : List (S128))) (inner := [.int .i64 ((rd_T128 y184 0).f0), .int .i64 ((rd_T128 y184 0).f1), .int .i64 ((rd_T128 y184 0).f2), .bool ((rd_T128 y184 0).f3), .int .i64 ((rd_T128 y184 1).f0), .int .i64 ((rd_T128 y184 1).f1), .int .i64 ((rd_T128 y184 1).f2), .bool ((rd_T128 y184 1).f3), .int .i64 ((rd_T128 y184 3).f0), .int .i64 ((rd_T128 y184 3).f1), .int .i64 ((rd_T128 y184 3).f2), .bool ((rd_T128 y184 3).f3)]) (ok := fun _ => True) (okp := fun _ => True) ?hr ?hp (fun _ hk => hk) trivial (Below.refl _ _) (Nat.le_refl _) (by simp) ?_; (case hd => rfl); (case hg => rfl); (case hr => first | (go_simp; done) | (go_simp; rfl)); (case hp => exact (Reps.c4 (show Kd.M k128 _ _ _ (⟨(rd_T128 y184 0).f0, (rd_T128 y184 0).f1, (rd_T128 y184 0).f2, (rd_T128 y184 0).f3⟩ : S128) [.int .i64 ((rd_T128 y184 0).f0), .int .i64 ((rd_T128 y184 0).f1), .int .i64 ((rd_T128 y184 0).f2), .bool ((rd_T128 y184 0).f3)] from (k128_mkM _ _ _ (⟨(rd_T128 y184 0).f0, (rd_T128 y184 0).f1, (rd_T128 y184 0).f2, (rd_T128 y184 0).f3⟩ : S128) )) (Reps.c4 (show Kd.M k128 _ _ _ (⟨(rd_T128 y184 1).f0, (rd_T128 y184 1).f1, (rd_T128 y184 1).f2, (rd_T128 y184 1).f3⟩ : S128) [.int .i64 ((rd_T128 y184 1).f0), .int .i64 ((rd_T128 y184 1).f1), .int .i64 ((rd_T128 y184 1).f2), .bool ((rd_T128 y184 1).f3)] from (k128_mkM _ _ _ (⟨(rd_T128 y184 1).f0, (rd_T128 y184 1).f1, (rd_T128 y184 1).f2, (rd_T128 y184 1).f3⟩ : S128) )) (Reps.c4 (show Kd.M k128 _ _ _ (⟨(rd_T128 y184 3).f0, (rd_T128 y184 3).f1, (rd_T128 y184 3).f2, (rd_T128 y184 3).f3⟩ : S128) [.int .i64 ((rd_T128 y184 3).f0), .int .i64 ((rd_T128 y184 3).f1), .int .i64 ((rd_T128 y184 3).f2), .bool ((rd_T128 y184 3).f3)] from (k128_mkM _ _ _ (⟨(rd_T128 y184 3).f0, (rd_T128 y184 3).f1, (rd_T128 y184 3).f2, (rd_T128 y184 3).f3⟩ : S128) )) (Reps.none _ _)))))
              intro v193 w48 ho49 hb hg_ hnew_
              have HS0_ := (hb.cell (World.block_lt_of_cell? _ _ (hHeld.1))).trans (hHeld.1)
              have HS1_ := (hb.cell (World.block_lt_of_cell? _ _ (hHeld.2.1))).trans (hHeld.2.1)
              have HS2_ := (hb.cell (World.block_lt_of_cell? _ _ (hHeld.2.2.1))).trans (hHeld.2.2.1)
              have HS3_ := (hb.cell (World.block_lt_of_cell? _ _ (hHeld.2.2.2.1))).trans (hHeld.2.2.2.1)
              have HS4_ := (hb.cell (World.block_lt_of_cell? _ _ (hHeld.2.2.2.2.1))).trans (hHeld.2.2.2.2.1)
              have HS5_ := (hb.cell (World.block_lt_of_cell? _ _ (hHeld.2.2.2.2.2.1))).trans (hHeld.2.2.2.2.2.1)
              have HS6_ := (hb.cell (World.block_lt_of_cell? _ _ (hHeld.2.2.2.2.2.2.1))).trans (hHeld.2.2.2.2.2.2.1)
              have HS7_ := (hb.cell (World.block_lt_of_cell? _ _ (hHeld.2.2.2.2.2.2.2.1))).trans (hHeld.2.2.2.2.2.2.2.1)
              have HS8_ := (hb.cell (World.block_lt_of_cell? _ _ (hHeld.2.2.2.2.2.2.2.2.1))).trans (hHeld.2.2.2.2.2.2.2.2.1)
              have HS9_ := (hb.cell (World.block_lt_of_cell? _ _ (hHeld.2.2.2.2.2.2.2.2.2.1))).trans (hHeld.2.2.2.2.2.2.2.2.2.1)
              have HS10_ := (hb.cell (World.block_lt_of_cell? _ _ (hHeld.2.2.2.2.2.2.2.2.2.2.1))).trans (hHeld.2.2.2.2.2.2.2.2.2.2.1)
              have HS11_ := (hb.cell (World.block_lt_of_cell? _ _ (hHeld.2.2.2.2.2.2.2.2.2.2.2))).trans (hHeld.2.2.2.2.2.2.2.2.2.2.2)
              clear hg_ hnew_
              (first | rw [← Ny192.out] at ho49 | (simp only [Int.reduceToNat] at ho49; rw [← Ny192.out] at ho49))
              have n0_ := Aside0.mk (Kd.R_elder' (by (with_reducible repeat (first | apply Kd.R_alloc | apply Kd.R_drewN | apply Kd.R_drew)); exact HO186.out) (Kd.R_base ho49) hb)
              have n1_ := Aside0.mk (Kd.R_lower (Kd.R_new' ho49 (Kd.R_lt (by (with_reducible repeat (first | apply Kd.R_alloc | apply Kd.R_drewN | apply Kd.R_drew)); exact HO186.out))) (below_size (by repeat (first | (with_reducible first | exact HB.out | apply below_alloc | apply pw_below_drewN | apply below_drew1) | exact HB.out))))
              have n2_ := Aside0.mk (below_step (by repeat (first | (with_reducible first | exact HB.out | apply below_alloc | apply pw_below_drewN | apply below_drew1) | exact HB.out)) hb)
              clear HO186
              clear HB
              have HO186 := n0_
              have HO194 := n1_
              have HB := n2_
              clear n0_ n1_ n2_
              clear hb ho49
              obtain ⟨Ao50, co50, eo50⟩ := Kd.R_slice HO194.out
              (first | subst eo50 | (injection eo50 with f1_ f2_ f3_; have f4_ := f1_.symm; have f5_ := f3_.symm; clear f1_ f2_ f3_; subst f4_; subst f5_))
              refine hK.out _ _ ⟨HS0_, HS1_, HS2_, HS3_, HS4_, HS5_, HS6_, HS7_, HS8_, HS9_, HS10_, HS11_⟩ (fun hHeld => ?_)
              clear hK K
              refine norm_ (a' := ?_) ?_ ?_
              rotate_left
              · show Act.put _ (some 26) _ = _
                simp only [Act.put, List.setIfInBounds_toArray, List.set_cons_zero, List.set_cons_succ, i64_w, i32_w]
                rfl
              refine one_ (i := 10) (N := some 27) #[true, true, true, true, true, true, true, true, true, true, true, false, false, false, false, false] rfl rfl (one_of HT_.out (by kernel_rfl)) (by decide) (fun K hK => ?_)
              refine goes_ Try.func28 (by kernel_rfl) rfl #[.slice Ao50 y192.length co50] (by rfl) rfl rfl (by (try simp only [List.map_toArray, List.map_cons, List.map_nil]); first | done | rfl | (simp only [List.length_drop, List.length_take]; rfl)) ?_
              with_reducible refine (clock_Race.calls _ _ y192 t195 t196 _ ?side1 ?side2 A5.out).mono ?_
              (case side1 => repeat (first | exact (Kd.R_reads' HO194.out).2.2 | (with_reducible refine Kd.C_alloc ?_ _) | (with_reducible refine Kd.C_drewN ?_ _) | (with_reducible refine Kd.C_drew ?_)))
              (case side2 => exact (Kd.R_reads' HO194.out).2.1)
              rintro e w51 ⟨rfl, hb⟩
              have HS0_ := (hb.cell (World.block_lt_of_cell? _ _ (hHeld.1))).trans (hHeld.1)
              have HS1_ := (hb.cell (World.block_lt_of_cell? _ _ (hHeld.2.1))).trans (hHeld.2.1)
              have HS2_ := (hb.cell (World.block_lt_of_cell? _ _ (hHeld.2.2.1))).trans (hHeld.2.2.1)
              have HS3_ := (hb.cell (World.block_lt_of_cell? _ _ (hHeld.2.2.2.1))).trans (hHeld.2.2.2.1)
              have HS4_ := (hb.cell (World.block_lt_of_cell? _ _ (hHeld.2.2.2.2.1))).trans (hHeld.2.2.2.2.1)
              have HS5_ := (hb.cell (World.block_lt_of_cell? _ _ (hHeld.2.2.2.2.2.1))).trans (hHeld.2.2.2.2.2.1)
              have HS6_ := (hb.cell (World.block_lt_of_cell? _ _ (hHeld.2.2.2.2.2.2.1))).trans (hHeld.2.2.2.2.2.2.1)
              have HS7_ := (hb.cell (World.block_lt_of_cell? _ _ (hHeld.2.2.2.2.2.2.2.1))).trans (hHeld.2.2.2.2.2.2.2.1)
              have HS8_ := (hb.cell (World.block_lt_of_cell? _ _ (hHeld.2.2.2.2.2.2.2.2.1))).trans (hHeld.2.2.2.2.2.2.2.2.1)
              have HS9_ := (hb.cell (World.block_lt_of_cell? _ _ (hHeld.2.2.2.2.2.2.2.2.2.1))).trans (hHeld.2.2.2.2.2.2.2.2.2.1)
              have HS10_ := (hb.cell (World.block_lt_of_cell? _ _ (hHeld.2.2.2.2.2.2.2.2.2.2.1))).trans (hHeld.2.2.2.2.2.2.2.2.2.2.1)
              have HS11_ := (hb.cell (World.block_lt_of_cell? _ _ (hHeld.2.2.2.2.2.2.2.2.2.2.2))).trans (hHeld.2.2.2.2.2.2.2.2.2.2.2)
              refine ⟨_, rfl, ?_⟩
              have n0_ := Aside0.mk (Kd.R_below (by (with_reducible repeat (first | apply Kd.R_alloc | apply Kd.R_drewN | apply Kd.R_drew)); exact HO186.out) hb)
              have n1_ := Aside0.mk (Kd.R_below (by (with_reducible repeat (first | apply Kd.R_alloc | apply Kd.R_drewN | apply Kd.R_drew)); exact HO194.out) hb)
              have n2_ := Aside0.mk (below_step (by repeat (first | (with_reducible first | exact HB.out | apply below_alloc | apply pw_below_drewN | apply below_drew1) | exact HB.out)) hb)
              clear HO186
              clear HO194
              clear HB
              have HO186 := n0_
              have HO194 := n1_
              have HB := n2_
              clear n0_ n1_ n2_
              (try clear hb)
              (try clear hb2)
              (try clear hk)
              (try clear hi)
              refine hK.out _ _ ⟨HS0_, HS1_, HS2_, HS3_, HS4_, HS5_, HS6_, HS7_, HS8_, HS9_, HS10_, HS11_⟩ (fun hHeld => ?_)
              clear hK K
              refine norm_ (a' := ?_) ?_ ?_
              rotate_left
              · show Act.put _ (some 27) _ = _
                simp only [Act.put, List.setIfInBounds_toArray, List.set_cons_zero, List.set_cons_succ, i64_w, i32_w]
                rfl
              refine pure_ (i := 11) (N := some 16) (v := ?_) (a' := ?_) #[true, true, true, true, true, true, true, true, true, true, true, true, false, false, false, false] rfl rfl (any_of HT_.out (by kernel_rfl)) (fun _ _ _ h => h) (Or.inl ⟨by rfl, ?_⟩) ?_ ?_
              rotate_left
              · intro w'
                go_simp
                with_reducible rfl
              rotate_left
              · simp only [Act.put, List.setIfInBounds_toArray, List.set_cons_zero, List.set_cons_succ, i64_w, i32_w]
                rfl
              refine pure_ (i := 12) (N := some 28) (v := ?_) (a' := ?_) #[true, true, true, true, true, true, true, true, true, true, true, true, true, false, false, false] rfl rfl (any_of HT_.out (by kernel_rfl)) (fun _ _ _ h => h) (Or.inl ⟨by rfl, ?_⟩) ?_ ?_
              rotate_left
              · intro w'
                go_simp
                with_reducible rfl
              rotate_left
              · simp only [Act.put, List.setIfInBounds_toArray, List.set_cons_zero, List.set_cons_succ, i64_w, i32_w]
                rfl
              refine pure_ (i := 13) (N := some 29) (v := ?_) (a' := ?_) #[true, true, true, true, true, true, true, true, true, true, true, true, true, true, false, false] rfl rfl (any_of HT_.out (by kernel_rfl)) (fun _ _ _ h => h) (Or.inl ⟨by rfl, ?_⟩) ?_ ?_
              rotate_left
              · intro w'
                go_simp
                with_reducible rfl
              rotate_left
              · simp only [Act.put, List.setIfInBounds_toArray, List.set_cons_zero, List.set_cons_succ, i64_w, i32_w]
                rfl
              refine pure_ (i := 14) (N := some 4) (v := ?_) (a' := ?_) #[true, true, true, true, true, true, true, true, true, true, true, true, true, true, true, false] rfl rfl (any_of HT_.out (by kernel_rfl)) (fun _ _ _ h => h) (Or.inl ⟨by rfl, ?_⟩) ?_ ?_
              rotate_left
              · intro w'
                go_simp
                with_reducible rfl
              rotate_left
              · simp only [Act.put, List.setIfInBounds_toArray, List.set_cons_zero, List.set_cons_succ, i64_w, i32_w]
                rfl
              refine pure_ (i := 15) (N := some 5) (v := ?_) (a' := ?_) #[true, true, true, true, true, true, true, true, true, true, true, true, true, true, true, true] rfl rfl (any_of HT_.out (by kernel_rfl)) (fun _ _ _ h => h) (Or.inl ⟨by rfl, ?_⟩) ?_ ?_
              rotate_left
              · intro w'
                go_simp
                with_reducible rfl
              rotate_left
              · simp only [Act.put, List.setIfInBounds_toArray, List.set_cons_zero, List.set_cons_succ, i64_w, i32_w]
                rfl
              refine done_ (done_of HT_.out (by kernel_rfl)) ?_
              try go_wp2
              go_ret
              exact ⟨by first | rfl | (simp [errW_none, errW_some] <;> rfl) | (simp [*, errW_none, errW_some] <;> rfl), by repeat (first | (with_reducible first | exact HB.out | apply below_alloc | apply pw_below_drewN | apply below_drew1) | exact HB.out)⟩
          · rw [if_neg c7] at H
            have c7b0 : (t188 == (-1)) = false := beq_eq_false_iff_ne.mpr c7
            have c7b1 : (t188 != (-1)) = true := bne_iff_ne.mpr c7
            obtain rfl := Option.some.inj H
            go_enter Try.func26, Try.ntmps26
            try go_wp2_with (first | ((with_reducible refine gate_dst (N := 10) rfl ?_); refine Kd.R_lit k128 _ 128 ?hg (N := 10) ?hd (xs := ([(⟨0, 3, 0, true⟩ : S128), (⟨0, 1, 0, true⟩ : S128), (⟨1, 0, 0, true⟩ : S128), (⟨1, 2, 0, true⟩ : S128)] : List (S128))) (inner := [.int .i64 0, .int .i64 3, .int .i64 0, .bool true, .int .i64 0, .int .i64 1, .int .i64 0, .bool true, .int .i64 1, .int .i64 0, .int .i64 0, .bool true, .int .i64 1, .int .i64 2, .int .i64 0, .bool true]) (ok := fun _ => True) (okp := fun _ => True) ?hr ?hp (fun _ hk => hk) trivial (Below.refl _ _) (Nat.le_refl _) (by simp) ?_; (case hd => rfl); (case hg => rfl); (case hr => first | (go_simp; done) | (go_simp; rfl)); (case hp => exact (Reps.c4 (show Kd.M k128 _ _ _ (⟨0, 3, 0, true⟩ : S128) [.int .i64 0, .int .i64 3, .int .i64 0, .bool true] from (k128_mkM _ _ _ (⟨0, 3, 0, true⟩ : S128) )) (Reps.c4 (show Kd.M k128 _ _ _ (⟨0, 1, 0, true⟩ : S128) [.int .i64 0, .int .i64 1, .int .i64 0, .bool true] from (k128_mkM _ _ _ (⟨0, 1, 0, true⟩ : S128) )) (Reps.c4 (show Kd.M k128 _ _ _ (⟨1, 0, 0, true⟩ : S128) [.int .i64 1, .int .i64 0, .int .i64 0, .bool true] from (k128_mkM _ _ _ (⟨1, 0, 0, true⟩ : S128) )) (Reps.c4 (show Kd.M k128 _ _ _ (⟨1, 2, 0, true⟩ : S128) [.int .i64 1, .int .i64 2, .int .i64 0, .bool true] from (k128_mkM _ _ _ (⟨1, 2, 0, true⟩ : S128) )) (Reps.none _ _)))))); intro v185 w52 ho53 hb hg_ hnew_; clear hg_ hnew_; (first | rw [← Ny184.out] at ho53 | (simp only [Int.reduceToNat] at ho53; rw [← Ny184.out] at ho53)); have n0_ := Aside0.mk (Kd.R_lower ho53 (below_size (by repeat (first | (with_reducible first | exact HB.out | apply below_alloc | apply pw_below_drewN | apply below_drew1) | exact HB.out)))); have n1_ := Aside0.mk (below_step (by repeat (first | (with_reducible first | exact HB.out | apply below_alloc | apply pw_below_drewN | apply below_drew1) | exact HB.out)) hb); clear HB; have HO186 := n0_; have HB := n1_; clear n0_ n1_; clear hb ho53; obtain ⟨Ao54, co54, eo54⟩ := Kd.R_slice HO186.out; subst eo54) | ((with_reducible refine gate_callee (f := 28) rfl ?_); refine goesL_ (some 13) rfl rfl Try.func28 (by kernel_rfl) rfl #[.slice Ao54 y184.length co54] rfl (by (try simp only [List.map_toArray, List.map_cons, List.map_nil]); first | done | rfl | (simp only [List.length_drop, List.length_take]; rfl)) ?_; (with_reducible refine (clock_Race.calls _ _ y184 t187 t188 _ ?side1 ?side2 A1.out).mono ?_); (case side1 => repeat (first | exact (Kd.R_reads' HO186.out).2.2 | (with_reducible refine Kd.C_alloc ?_ _) | (with_reducible refine Kd.C_drewN ?_ _) | (with_reducible refine Kd.C_drew ?_))); (case side2 => exact (Kd.R_reads' HO186.out).2.1); rintro e w55 ⟨rfl, hb⟩; refine ⟨_, rfl, ?_⟩; have n0_ := Aside0.mk (Kd.R_below (by (with_reducible repeat (first | apply Kd.R_alloc | apply Kd.R_drewN | apply Kd.R_drew)); exact HO186.out) hb); have n1_ := Aside0.mk (below_step (by repeat (first | (with_reducible first | exact HB.out | apply below_alloc | apply pw_below_drewN | apply below_drew1) | exact HB.out)) hb); clear HO186; clear HB; have HO186 := n0_; have HB := n1_; clear n0_ n1_; (try clear hb); (try clear hb2); (try clear hk); (try clear hi)))
            have n0_ := Aside0.mk (Kd.R_drew HO186.out)
            have n1_ := Aside0.mk (below_drew1 HB.out)
            clear HO186
            clear HB
            have HO186 := n0_
            have HB := n1_
            clear n0_ n1_
            have p189 : 0 ≤ (0 : Int) := (by omega)
            have q189 : 0 < (y184.length : Int) := of_decide_eq_true (by first | (with_reducible assumption) | assumption)
            obtain ⟨ad189, e189, hx189_0, hx189_1, hx189_2, hx189_3⟩ := at_T128 (Kd.R_reads' HO186.out).2.2 0 p189 q189
            cases e189
            have qi189 : (0 < y184.length) = True := eq_true (by omega)
            (try rw [show ((0 : Int)).toNat = 0 from rfl] at hx189_0)
            (try rw [show 0 * 4 = 0 from rfl] at hx189_0)
            (try rw [Addr.add_zero'] at hx189_0)
            (try rw [show ((0 : Int)).toNat = 0 from rfl] at hx189_1)
            (try rw [show 0 * 4 = 0 from rfl] at hx189_1)
            (try rw [Addr.add_zero'] at hx189_1)
            (try rw [show ((0 : Int)).toNat = 0 from rfl] at hx189_2)
            (try rw [show 0 * 4 = 0 from rfl] at hx189_2)
            (try rw [Addr.add_zero'] at hx189_2)
            (try rw [show ((0 : Int)).toNat = 0 from rfl] at hx189_3)
            (try rw [show 0 * 4 = 0 from rfl] at hx189_3)
            (try rw [Addr.add_zero'] at hx189_3)
            replace p189 := eq_true p189
            replace q189 := eq_true q189
            have p190 : 0 ≤ (1 : Int) := (by omega)
            have q190 : 1 < (y184.length : Int) := of_decide_eq_true (by first | (with_reducible assumption) | assumption)
            obtain ⟨ad190, e190, hx190_0, hx190_1, hx190_2, hx190_3⟩ := at_T128 (Kd.R_reads' HO186.out).2.2 1 p190 q190
            obtain rfl : ad189 = ad190 := (by injection e190)
            (try simp only [show (1 : Int).toNat = 1 from rfl, Nat.reduceMul, Nat.reduceEqDiff, Go.Addr.add, ↓reduceIte] at hx190_0)
            (try simp only [show (1 : Int).toNat = 1 from rfl, Nat.reduceMul, Nat.reduceEqDiff, Go.Addr.add, ↓reduceIte] at hx190_1)
            (try simp only [show (1 : Int).toNat = 1 from rfl, Nat.reduceMul, Nat.reduceEqDiff, Go.Addr.add, ↓reduceIte] at hx190_2)
            (try simp only [show (1 : Int).toNat = 1 from rfl, Nat.reduceMul, Nat.reduceEqDiff, Go.Addr.add, ↓reduceIte] at hx190_3)
            have qi190 : (1 < y184.length) = True := eq_true (by omega)
            (try rw [show ((1 : Int)).toNat = 1 from rfl] at hx190_0)
            (try rw [show 1 * 4 = 4 from rfl] at hx190_0)
            (try rw [show ((1 : Int)).toNat = 1 from rfl] at hx190_1)
            (try rw [show 1 * 4 = 4 from rfl] at hx190_1)
            (try rw [show ((1 : Int)).toNat = 1 from rfl] at hx190_2)
            (try rw [show 1 * 4 = 4 from rfl] at hx190_2)
            (try rw [show ((1 : Int)).toNat = 1 from rfl] at hx190_3)
            (try rw [show 1 * 4 = 4 from rfl] at hx190_3)
            replace p190 := eq_true p190
            replace q190 := eq_true q190
            have p191 : 0 ≤ (3 : Int) := (by omega)
            have q191 : 3 < (y184.length : Int) := of_decide_eq_true (by first | (with_reducible assumption) | assumption)
            obtain ⟨ad191, e191, hx191_0, hx191_1, hx191_2, hx191_3⟩ := at_T128 (Kd.R_reads' HO186.out).2.2 3 p191 q191
            obtain rfl : ad189 = ad191 := (by injection e191)
            (try simp only [show (3 : Int).toNat = 3 from rfl, Nat.reduceMul, Nat.reduceEqDiff, Go.Addr.add, ↓reduceIte] at hx191_0)
            (try simp only [show (3 : Int).toNat = 3 from rfl, Nat.reduceMul, Nat.reduceEqDiff, Go.Addr.add, ↓reduceIte] at hx191_1)
            (try simp only [show (3 : Int).toNat = 3 from rfl, Nat.reduceMul, Nat.reduceEqDiff, Go.Addr.add, ↓reduceIte] at hx191_2)
            (try simp only [show (3 : Int).toNat = 3 from rfl, Nat.reduceMul, Nat.reduceEqDiff, Go.Addr.add, ↓reduceIte] at hx191_3)
            have qi191 : (3 < y184.length) = True := eq_true (by omega)
            (try rw [show ((3 : Int)).toNat = 3 from rfl] at hx191_0)
            (try rw [show 3 * 4 = 12 from rfl] at hx191_0)
            (try rw [show ((3 : Int)).toNat = 3 from rfl] at hx191_1)
            (try rw [show 3 * 4 = 12 from rfl] at hx191_1)
            (try rw [show ((3 : Int)).toNat = 3 from rfl] at hx191_2)
            (try rw [show 3 * 4 = 12 from rfl] at hx191_2)
            (try rw [show ((3 : Int)).toNat = 3 from rfl] at hx191_3)
            (try rw [show 3 * 4 = 12 from rfl] at hx191_3)
            replace p191 := eq_true p191
            replace q191 := eq_true q191
            refine start_ (n := 16) (S := fun w' => w'.cell? ad189 = some (.int .i64 ((rd_T128 y184 0).f0)) ∧ w'.cell? ⟨ad189.block, ad189.off + 1, none⟩ = some (.int .i64 ((rd_T128 y184 0).f1)) ∧ w'.cell? ⟨ad189.block, ad189.off + 2, none⟩ = some (.int .i64 ((rd_T128 y184 0).f2)) ∧ w'.cell? ⟨ad189.block, ad189.off + 3, none⟩ = some (.bool ((rd_T128 y184 0).f3)) ∧ w'.cell? ⟨ad189.block, ad189.off + 4, none⟩ = some (.int .i64 ((rd_T128 y184 1).f0)) ∧ w'.cell? ⟨ad189.block, ad189.off + 4 + 1, none⟩ = some (.int .i64 ((rd_T128 y184 1).f1)) ∧ w'.cell? ⟨ad189.block, ad189.off + 4 + 2, none⟩ = some (.int .i64 ((rd_T128 y184 1).f2)) ∧ w'.cell? ⟨ad189.block, ad189.off + 4 + 3, none⟩ = some (.bool ((rd_T128 y184 1).f3)) ∧ w'.cell? ⟨ad189.block, ad189.off + 12, none⟩ = some (.int .i64 ((rd_T128 y184 3).f0)) ∧ w'.cell? ⟨ad189.block, ad189.off + 12 + 1, none⟩ = some (.int .i64 ((rd_T128 y184 3).f1)) ∧ w'.cell? ⟨ad189.block, ad189.off + 12 + 2, none⟩ = some (.int .i64 ((rd_T128 y184 3).f2)) ∧ w'.cell? ⟨ad189.block, ad189.off + 12 + 3, none⟩ = some (.bool ((rd_T128 y184 3).f3))) (ds := []) #[false, false, false, false, false, false, false, false, false, false, false, false, false, false, false, false] (by kernel_rfl) rfl rfl ⟨hx189_0, hx189_1, hx189_2, hx189_3, hx190_0, hx190_1, hx190_2, hx190_3, hx191_0, hx191_1, hx191_2, hx191_3⟩ (fun hHeld => ?_); refine with_tabW marchlandlaw09_told.tab3 marchlandlaw09_told.bits3 (fun HT_ HW_ => ?_)
            generalize w55.drew = w56 at HO186 HB hx189_0 hx189_1 hx189_2 hx189_3 hx190_0 hx190_1 hx190_2 hx190_3 hx191_0 hx191_1 hx191_2 hx191_3 hHeld ⊢
            refine pure_ (i := 0) (N := some 17) (v := ?_) (a' := ?_) #[true, false, false, false, false, false, false, false, false, false, false, false, false, false, false, false] rfl rfl (any_of HT_.out (by kernel_rfl)) (fun _ _ _ h => h) (Or.inl ⟨by rfl, ?_⟩) ?_ ?_
            rotate_left
            · intro w'
              go_simp
              with_reducible rfl
            rotate_left
            · simp only [Act.put, List.setIfInBounds_toArray, List.set_cons_zero, List.set_cons_succ, i64_w, i32_w]
              rfl
            refine pure_ (i := 1) (N := some 18) (v := ?_) (a' := ?_) #[true, true, false, false, false, false, false, false, false, false, false, false, false, false, false, false] rfl rfl (any_of HT_.out (by kernel_rfl)) (fun _ _ _ h => h) (Or.inl ⟨by rfl, ?_⟩) ?_ ?_
            rotate_left
            · intro w'
              go_simp
              with_reducible rfl
            rotate_left
            · simp only [Act.put, List.setIfInBounds_toArray, List.set_cons_zero, List.set_cons_succ, i64_w, i32_w]
              rfl
            refine pure_ (i := 3) (N := some 20) (v := ?_) (a' := ?_) #[true, true, false, true, false, false, false, false, false, false, false, false, false, false, false, false] rfl rfl (any_of HT_.out (by kernel_rfl)) (fun _ _ _ h => h) (Or.inl ⟨by rfl, ?_⟩) ?_ ?_
            rotate_left
            · intro w'
              go_simp
              with_reducible rfl
            rotate_left
            · simp only [Act.put, List.setIfInBounds_toArray, List.set_cons_zero, List.set_cons_succ, i64_w, i32_w]
              rfl
            refine pure_ (i := 4) (N := some 21) (v := ?_) (a' := ?_) #[true, true, false, true, true, false, false, false, false, false, false, false, false, false, false, false] rfl rfl (any_of HT_.out (by kernel_rfl)) (fun _ _ _ h => h) (Or.inl ⟨by rfl, ?_⟩) ?_ ?_
            rotate_left
            · intro w'
              go_simp
              with_reducible rfl
            rotate_left
            · simp only [Act.put, List.setIfInBounds_toArray, List.set_cons_zero, List.set_cons_succ, i64_w, i32_w]
              rfl
            refine pure_ (i := 6) (N := some 23) (v := ?_) (a' := ?_) #[true, true, false, true, true, false, true, false, false, false, false, false, false, false, false, false] rfl rfl (any_of HT_.out (by kernel_rfl)) (fun _ _ _ h => h) (Or.inl ⟨by rfl, ?_⟩) ?_ ?_
            rotate_left
            · intro w'
              go_simp
              with_reducible rfl
            rotate_left
            · simp only [Act.put, List.setIfInBounds_toArray, List.set_cons_zero, List.set_cons_succ, i64_w, i32_w]
              rfl
            refine pure_ (i := 7) (N := some 24) (v := ?_) (a' := ?_) #[true, true, false, true, true, false, true, true, false, false, false, false, false, false, false, false] rfl rfl (any_of HT_.out (by kernel_rfl)) (fun _ _ _ h => h) (Or.inl ⟨by rfl, ?_⟩) ?_ ?_
            rotate_left
            · intro w'
              go_simp
              with_reducible rfl
            rotate_left
            · simp only [Act.put, List.setIfInBounds_toArray, List.set_cons_zero, List.set_cons_succ, i64_w, i32_w]
              rfl
            refine take_ (i := 2) (N := some 19) (v := ?_) (a' := ?_) #[true, true, true, true, true, false, true, true, false, false, false, false, false, false, false, false] rfl rfl (take_ofW HT_.out HW_.out (by kernel_rfl)) (fun _ _ _ h => h) (Or.inl ⟨by rfl, ?_⟩) hHeld ?_ ?_
            rotate_left
            · rintro w' ⟨s0, s1, s2, s3, s4, s5, s6, s7, s8, s9, s10, s11⟩
              go_simp
              with_reducible rfl
            rotate_left
            · simp only [Act.put, List.setIfInBounds_toArray, List.set_cons_zero, List.set_cons_succ, i64_w, i32_w]
              rfl
            refine take_ (i := 5) (N := some 22) (v := ?_) (a' := ?_) #[true, true, true, true, true, true, true, true, false, false, false, false, false, false, false, false] rfl rfl (take_ofW HT_.out HW_.out (by kernel_rfl)) (fun _ _ _ h => h) (Or.inl ⟨by rfl, ?_⟩) hHeld ?_ ?_
            rotate_left
            · rintro w' ⟨s0, s1, s2, s3, s4, s5, s6, s7, s8, s9, s10, s11⟩
              go_simp
              with_reducible rfl
            rotate_left
            · simp only [Act.put, List.setIfInBounds_toArray, List.set_cons_zero, List.set_cons_succ, i64_w, i32_w]
              rfl
            refine take_ (i := 8) (N := some 25) (v := ?_) (a' := ?_) #[true, true, true, true, true, true, true, true, true, false, false, false, false, false, false, false] rfl rfl (take_ofW HT_.out HW_.out (by kernel_rfl)) (fun _ _ _ h => h) (Or.inl ⟨by rfl, ?_⟩) hHeld ?_ ?_
            rotate_left
            · rintro w' ⟨s0, s1, s2, s3, s4, s5, s6, s7, s8, s9, s10, s11⟩
              go_simp
              with_reducible rfl
            rotate_left
            · simp only [Act.put, List.setIfInBounds_toArray, List.set_cons_zero, List.set_cons_succ, i64_w, i32_w]
              rfl
            refine one_ (i := 9) (N := some 26) #[true, true, true, true, true, true, true, true, true, true, false, false, false, false, false, false] rfl rfl (one_of HT_.out (by kernel_rfl)) (by decide) (fun K hK => ?_)
            refine Kd.R_lit_step k128 _ 128 ?hg (N := 26) ?hd (xs := ([(⟨(rd_T128 y184 0).f0, (rd_T128 y184 0).f1, (rd_T128 y184 0).f2, (rd_T128 y184 0).f3⟩ : S128), (⟨(rd_T128 y184 1).f0, (rd_T128 y184 1).f1, (rd_T128 y184 1).f2, (rd_T128 y184 1).f3⟩ : S128), (⟨(rd_T128 y184 3).f0, (rd_T128 y184 3).f1, (rd_T128 y184 3).f2, (rd_T128 y184 3).f3⟩ : S128)] : List (S128))) (inner := [.int .i64 ((rd_T128 y184 0).f0), .int .i64 ((rd_T128 y184 0).f1), .int .i64 ((rd_T128 y184 0).f2), .bool ((rd_T128 y184 0).f3), .int .i64 ((rd_T128 y184 1).f0), .int .i64 ((rd_T128 y184 1).f1), .int .i64 ((rd_T128 y184 1).f2), .bool ((rd_T128 y184 1).f3), .int .i64 ((rd_T128 y184 3).f0), .int .i64 ((rd_T128 y184 3).f1), .int .i64 ((rd_T128 y184 3).f2), .bool ((rd_T128 y184 3).f3)]) (ok := fun _ => True) (okp := fun _ => True) ?hr ?hp (fun _ hk => hk) trivial (Below.refl _ _) (Nat.le_refl _) (by simp) ?_; (case hd => rfl); (case hg => rfl); (case hr => first | (go_simp; done) | (go_simp; rfl)); (case hp => exact (Reps.c4 (show Kd.M k128 _ _ _ (⟨(rd_T128 y184 0).f0, (rd_T128 y184 0).f1, (rd_T128 y184 0).f2, (rd_T128 y184 0).f3⟩ : S128) [.int .i64 ((rd_T128 y184 0).f0), .int .i64 ((rd_T128 y184 0).f1), .int .i64 ((rd_T128 y184 0).f2), .bool ((rd_T128 y184 0).f3)] from (k128_mkM _ _ _ (⟨(rd_T128 y184 0).f0, (rd_T128 y184 0).f1, (rd_T128 y184 0).f2, (rd_T128 y184 0).f3⟩ : S128) )) (Reps.c4 (show Kd.M k128 _ _ _ (⟨(rd_T128 y184 1).f0, (rd_T128 y184 1).f1, (rd_T128 y184 1).f2, (rd_T128 y184 1).f3⟩ : S128) [.int .i64 ((rd_T128 y184 1).f0), .int .i64 ((rd_T128 y184 1).f1), .int .i64 ((rd_T128 y184 1).f2), .bool ((rd_T128 y184 1).f3)] from (k128_mkM _ _ _ (⟨(rd_T128 y184 1).f0, (rd_T128 y184 1).f1, (rd_T128 y184 1).f2, (rd_T128 y184 1).f3⟩ : S128) )) (Reps.c4 (show Kd.M k128 _ _ _ (⟨(rd_T128 y184 3).f0, (rd_T128 y184 3).f1, (rd_T128 y184 3).f2, (rd_T128 y184 3).f3⟩ : S128) [.int .i64 ((rd_T128 y184 3).f0), .int .i64 ((rd_T128 y184 3).f1), .int .i64 ((rd_T128 y184 3).f2), .bool ((rd_T128 y184 3).f3)] from (k128_mkM _ _ _ (⟨(rd_T128 y184 3).f0, (rd_T128 y184 3).f1, (rd_T128 y184 3).f2, (rd_T128 y184 3).f3⟩ : S128) )) (Reps.none _ _)))))
            intro v193 w57 ho58 hb hg_ hnew_
            have HS0_ := (hb.cell (World.block_lt_of_cell? _ _ (hHeld.1))).trans (hHeld.1)
            have HS1_ := (hb.cell (World.block_lt_of_cell? _ _ (hHeld.2.1))).trans (hHeld.2.1)
            have HS2_ := (hb.cell (World.block_lt_of_cell? _ _ (hHeld.2.2.1))).trans (hHeld.2.2.1)
            have HS3_ := (hb.cell (World.block_lt_of_cell? _ _ (hHeld.2.2.2.1))).trans (hHeld.2.2.2.1)
            have HS4_ := (hb.cell (World.block_lt_of_cell? _ _ (hHeld.2.2.2.2.1))).trans (hHeld.2.2.2.2.1)
            have HS5_ := (hb.cell (World.block_lt_of_cell? _ _ (hHeld.2.2.2.2.2.1))).trans (hHeld.2.2.2.2.2.1)
            have HS6_ := (hb.cell (World.block_lt_of_cell? _ _ (hHeld.2.2.2.2.2.2.1))).trans (hHeld.2.2.2.2.2.2.1)
            have HS7_ := (hb.cell (World.block_lt_of_cell? _ _ (hHeld.2.2.2.2.2.2.2.1))).trans (hHeld.2.2.2.2.2.2.2.1)
            have HS8_ := (hb.cell (World.block_lt_of_cell? _ _ (hHeld.2.2.2.2.2.2.2.2.1))).trans (hHeld.2.2.2.2.2.2.2.2.1)
            have HS9_ := (hb.cell (World.block_lt_of_cell? _ _ (hHeld.2.2.2.2.2.2.2.2.2.1))).trans (hHeld.2.2.2.2.2.2.2.2.2.1)
            have HS10_ := (hb.cell (World.block_lt_of_cell? _ _ (hHeld.2.2.2.2.2.2.2.2.2.2.1))).trans (hHeld.2.2.2.2.2.2.2.2.2.2.1)
            have HS11_ := (hb.cell (World.block_lt_of_cell? _ _ (hHeld.2.2.2.2.2.2.2.2.2.2.2))).trans (hHeld.2.2.2.2.2.2.2.2.2.2.2)
            clear hg_ hnew_
            (first | rw [← Ny192.out] at ho58 | (simp only [Int.reduceToNat] at ho58; rw [← Ny192.out] at ho58))
            have n0_ := Aside0.mk (Kd.R_elder' (by (with_reducible repeat (first | apply Kd.R_alloc | apply Kd.R_drewN | apply Kd.R_drew)); exact HO186.out) (Kd.R_base ho58) hb)
            have n1_ := Aside0.mk (Kd.R_lower (Kd.R_new' ho58 (Kd.R_lt (by (with_reducible repeat (first | apply Kd.R_alloc | apply Kd.R_drewN | apply Kd.R_drew)); exact HO186.out))) (below_size (by repeat (first | (with_reducible first | exact HB.out | apply below_alloc | apply pw_below_drewN | apply below_drew1) | exact HB.out))))
            have n2_ := Aside0.mk (below_step (by repeat (first | (with_reducible first | exact HB.out | apply below_alloc | apply pw_below_drewN | apply below_drew1) | exact HB.out)) hb)
            clear HO186
            clear HB
            have HO186 := n0_
            have HO194 := n1_
            have HB := n2_
            clear n0_ n1_ n2_
            clear hb ho58
            obtain ⟨Ao59, co59, eo59⟩ := Kd.R_slice HO194.out
            (first | subst eo59 | (injection eo59 with f1_ f2_ f3_; have f4_ := f1_.symm; have f5_ := f3_.symm; clear f1_ f2_ f3_; subst f4_; subst f5_))
            refine hK.out _ _ ⟨HS0_, HS1_, HS2_, HS3_, HS4_, HS5_, HS6_, HS7_, HS8_, HS9_, HS10_, HS11_⟩ (fun hHeld => ?_)
            clear hK K
            refine norm_ (a' := ?_) ?_ ?_
            rotate_left
            · show Act.put _ (some 26) _ = _
              simp only [Act.put, List.setIfInBounds_toArray, List.set_cons_zero, List.set_cons_succ, i64_w, i32_w]
              rfl
            refine one_ (i := 10) (N := some 27) #[true, true, true, true, true, true, true, true, true, true, true, false, false, false, false, false] rfl rfl (one_of HT_.out (by kernel_rfl)) (by decide) (fun K hK => ?_)
            refine goes_ Try.func28 (by kernel_rfl) rfl #[.slice Ao59 y192.length co59] (by rfl) rfl rfl (by (try simp only [List.map_toArray, List.map_cons, List.map_nil]); first | done | rfl | (simp only [List.length_drop, List.length_take]; rfl)) ?_
            with_reducible refine (clock_Race.calls _ _ y192 t195 t196 _ ?side1 ?side2 A5.out).mono ?_
            (case side1 => repeat (first | exact (Kd.R_reads' HO194.out).2.2 | (with_reducible refine Kd.C_alloc ?_ _) | (with_reducible refine Kd.C_drewN ?_ _) | (with_reducible refine Kd.C_drew ?_)))
            (case side2 => exact (Kd.R_reads' HO194.out).2.1)
            rintro e w60 ⟨rfl, hb⟩
            have HS0_ := (hb.cell (World.block_lt_of_cell? _ _ (hHeld.1))).trans (hHeld.1)
            have HS1_ := (hb.cell (World.block_lt_of_cell? _ _ (hHeld.2.1))).trans (hHeld.2.1)
            have HS2_ := (hb.cell (World.block_lt_of_cell? _ _ (hHeld.2.2.1))).trans (hHeld.2.2.1)
            have HS3_ := (hb.cell (World.block_lt_of_cell? _ _ (hHeld.2.2.2.1))).trans (hHeld.2.2.2.1)
            have HS4_ := (hb.cell (World.block_lt_of_cell? _ _ (hHeld.2.2.2.2.1))).trans (hHeld.2.2.2.2.1)
            have HS5_ := (hb.cell (World.block_lt_of_cell? _ _ (hHeld.2.2.2.2.2.1))).trans (hHeld.2.2.2.2.2.1)
            have HS6_ := (hb.cell (World.block_lt_of_cell? _ _ (hHeld.2.2.2.2.2.2.1))).trans (hHeld.2.2.2.2.2.2.1)
            have HS7_ := (hb.cell (World.block_lt_of_cell? _ _ (hHeld.2.2.2.2.2.2.2.1))).trans (hHeld.2.2.2.2.2.2.2.1)
            have HS8_ := (hb.cell (World.block_lt_of_cell? _ _ (hHeld.2.2.2.2.2.2.2.2.1))).trans (hHeld.2.2.2.2.2.2.2.2.1)
            have HS9_ := (hb.cell (World.block_lt_of_cell? _ _ (hHeld.2.2.2.2.2.2.2.2.2.1))).trans (hHeld.2.2.2.2.2.2.2.2.2.1)
            have HS10_ := (hb.cell (World.block_lt_of_cell? _ _ (hHeld.2.2.2.2.2.2.2.2.2.2.1))).trans (hHeld.2.2.2.2.2.2.2.2.2.2.1)
            have HS11_ := (hb.cell (World.block_lt_of_cell? _ _ (hHeld.2.2.2.2.2.2.2.2.2.2.2))).trans (hHeld.2.2.2.2.2.2.2.2.2.2.2)
            refine ⟨_, rfl, ?_⟩
            have n0_ := Aside0.mk (Kd.R_below (by (with_reducible repeat (first | apply Kd.R_alloc | apply Kd.R_drewN | apply Kd.R_drew)); exact HO186.out) hb)
            have n1_ := Aside0.mk (Kd.R_below (by (with_reducible repeat (first | apply Kd.R_alloc | apply Kd.R_drewN | apply Kd.R_drew)); exact HO194.out) hb)
            have n2_ := Aside0.mk (below_step (by repeat (first | (with_reducible first | exact HB.out | apply below_alloc | apply pw_below_drewN | apply below_drew1) | exact HB.out)) hb)
            clear HO186
            clear HO194
            clear HB
            have HO186 := n0_
            have HO194 := n1_
            have HB := n2_
            clear n0_ n1_ n2_
            (try clear hb)
            (try clear hb2)
            (try clear hk)
            (try clear hi)
            refine hK.out _ _ ⟨HS0_, HS1_, HS2_, HS3_, HS4_, HS5_, HS6_, HS7_, HS8_, HS9_, HS10_, HS11_⟩ (fun hHeld => ?_)
            clear hK K
            refine norm_ (a' := ?_) ?_ ?_
            rotate_left
            · show Act.put _ (some 27) _ = _
              simp only [Act.put, List.setIfInBounds_toArray, List.set_cons_zero, List.set_cons_succ, i64_w, i32_w]
              rfl
            refine pure_ (i := 11) (N := some 16) (v := ?_) (a' := ?_) #[true, true, true, true, true, true, true, true, true, true, true, true, false, false, false, false] rfl rfl (any_of HT_.out (by kernel_rfl)) (fun _ _ _ h => h) (Or.inl ⟨by rfl, ?_⟩) ?_ ?_
            rotate_left
            · intro w'
              go_simp
              with_reducible rfl
            rotate_left
            · simp only [Act.put, List.setIfInBounds_toArray, List.set_cons_zero, List.set_cons_succ, i64_w, i32_w]
              rfl
            refine pure_ (i := 12) (N := some 28) (v := ?_) (a' := ?_) #[true, true, true, true, true, true, true, true, true, true, true, true, true, false, false, false] rfl rfl (any_of HT_.out (by kernel_rfl)) (fun _ _ _ h => h) (Or.inl ⟨by rfl, ?_⟩) ?_ ?_
            rotate_left
            · intro w'
              go_simp
              with_reducible rfl
            rotate_left
            · simp only [Act.put, List.setIfInBounds_toArray, List.set_cons_zero, List.set_cons_succ, i64_w, i32_w]
              rfl
            refine pure_ (i := 13) (N := some 29) (v := ?_) (a' := ?_) #[true, true, true, true, true, true, true, true, true, true, true, true, true, true, false, false] rfl rfl (any_of HT_.out (by kernel_rfl)) (fun _ _ _ h => h) (Or.inl ⟨by rfl, ?_⟩) ?_ ?_
            rotate_left
            · intro w'
              go_simp
              with_reducible rfl
            rotate_left
            · simp only [Act.put, List.setIfInBounds_toArray, List.set_cons_zero, List.set_cons_succ, i64_w, i32_w]
              rfl
            refine pure_ (i := 14) (N := some 4) (v := ?_) (a' := ?_) #[true, true, true, true, true, true, true, true, true, true, true, true, true, true, true, false] rfl rfl (any_of HT_.out (by kernel_rfl)) (fun _ _ _ h => h) (Or.inl ⟨by rfl, ?_⟩) ?_ ?_
            rotate_left
            · intro w'
              go_simp
              with_reducible rfl
            rotate_left
            · simp only [Act.put, List.setIfInBounds_toArray, List.set_cons_zero, List.set_cons_succ, i64_w, i32_w]
              rfl
            refine pure_ (i := 15) (N := some 5) (v := ?_) (a' := ?_) #[true, true, true, true, true, true, true, true, true, true, true, true, true, true, true, true] rfl rfl (any_of HT_.out (by kernel_rfl)) (fun _ _ _ h => h) (Or.inl ⟨by rfl, ?_⟩) ?_ ?_
            rotate_left
            · intro w'
              go_simp
              with_reducible rfl
            rotate_left
            · simp only [Act.put, List.setIfInBounds_toArray, List.set_cons_zero, List.set_cons_succ, i64_w, i32_w]
              rfl
            refine done_ (done_of HT_.out (by kernel_rfl)) ?_
            try go_wp2
            go_ret
            exact ⟨by first | rfl | (simp [errW_none, errW_some] <;> rfl) | (simp [*, errW_none, errW_some] <;> rfl), by repeat (first | (with_reducible first | exact HB.out | apply below_alloc | apply pw_below_drewN | apply below_drew1) | exact HB.out)⟩
        · rw [if_neg c6] at H
          have c6b0 : (t187 == (-1)) = false := beq_eq_false_iff_ne.mpr c6
          have c6b1 : (t187 != (-1)) = true := bne_iff_ne.mpr c6
          obtain rfl := Option.some.inj H
          go_enter Try.func26, Try.ntmps26
          try go_wp2_with (first | ((with_reducible refine gate_dst (N := 10) rfl ?_); refine Kd.R_lit k128 _ 128 ?hg (N := 10) ?hd (xs := ([(⟨0, 3, 0, true⟩ : S128), (⟨0, 1, 0, true⟩ : S128), (⟨1, 0, 0, true⟩ : S128), (⟨1, 2, 0, true⟩ : S128)] : List (S128))) (inner := [.int .i64 0, .int .i64 3, .int .i64 0, .bool true, .int .i64 0, .int .i64 1, .int .i64 0, .bool true, .int .i64 1, .int .i64 0, .int .i64 0, .bool true, .int .i64 1, .int .i64 2, .int .i64 0, .bool true]) (ok := fun _ => True) (okp := fun _ => True) ?hr ?hp (fun _ hk => hk) trivial (Below.refl _ _) (Nat.le_refl _) (by simp) ?_; (case hd => rfl); (case hg => rfl); (case hr => first | (go_simp; done) | (go_simp; rfl)); (case hp => exact (Reps.c4 (show Kd.M k128 _ _ _ (⟨0, 3, 0, true⟩ : S128) [.int .i64 0, .int .i64 3, .int .i64 0, .bool true] from (k128_mkM _ _ _ (⟨0, 3, 0, true⟩ : S128) )) (Reps.c4 (show Kd.M k128 _ _ _ (⟨0, 1, 0, true⟩ : S128) [.int .i64 0, .int .i64 1, .int .i64 0, .bool true] from (k128_mkM _ _ _ (⟨0, 1, 0, true⟩ : S128) )) (Reps.c4 (show Kd.M k128 _ _ _ (⟨1, 0, 0, true⟩ : S128) [.int .i64 1, .int .i64 0, .int .i64 0, .bool true] from (k128_mkM _ _ _ (⟨1, 0, 0, true⟩ : S128) )) (Reps.c4 (show Kd.M k128 _ _ _ (⟨1, 2, 0, true⟩ : S128) [.int .i64 1, .int .i64 2, .int .i64 0, .bool true] from (k128_mkM _ _ _ (⟨1, 2, 0, true⟩ : S128) )) (Reps.none _ _)))))); intro v185 w61 ho62 hb hg_ hnew_; clear hg_ hnew_; (first | rw [← Ny184.out] at ho62 | (simp only [Int.reduceToNat] at ho62; rw [← Ny184.out] at ho62)); have n0_ := Aside0.mk (Kd.R_lower ho62 (below_size (by repeat (first | (with_reducible first | exact HB.out | apply below_alloc | apply pw_below_drewN | apply below_drew1) | exact HB.out)))); have n1_ := Aside0.mk (below_step (by repeat (first | (with_reducible first | exact HB.out | apply below_alloc | apply pw_below_drewN | apply below_drew1) | exact HB.out)) hb); clear HB; have HO186 := n0_; have HB := n1_; clear n0_ n1_; clear hb ho62; obtain ⟨Ao63, co63, eo63⟩ := Kd.R_slice HO186.out; subst eo63) | ((with_reducible refine gate_callee (f := 28) rfl ?_); refine goesL_ (some 13) rfl rfl Try.func28 (by kernel_rfl) rfl #[.slice Ao63 y184.length co63] rfl (by (try simp only [List.map_toArray, List.map_cons, List.map_nil]); first | done | rfl | (simp only [List.length_drop, List.length_take]; rfl)) ?_; (with_reducible refine (clock_Race.calls _ _ y184 t187 t188 _ ?side1 ?side2 A1.out).mono ?_); (case side1 => repeat (first | exact (Kd.R_reads' HO186.out).2.2 | (with_reducible refine Kd.C_alloc ?_ _) | (with_reducible refine Kd.C_drewN ?_ _) | (with_reducible refine Kd.C_drew ?_))); (case side2 => exact (Kd.R_reads' HO186.out).2.1); rintro e w64 ⟨rfl, hb⟩; refine ⟨_, rfl, ?_⟩; have n0_ := Aside0.mk (Kd.R_below (by (with_reducible repeat (first | apply Kd.R_alloc | apply Kd.R_drewN | apply Kd.R_drew)); exact HO186.out) hb); have n1_ := Aside0.mk (below_step (by repeat (first | (with_reducible first | exact HB.out | apply below_alloc | apply pw_below_drewN | apply below_drew1) | exact HB.out)) hb); clear HO186; clear HB; have HO186 := n0_; have HB := n1_; clear n0_ n1_; (try clear hb); (try clear hb2); (try clear hk); (try clear hi)))
          have n0_ := Aside0.mk (Kd.R_drew HO186.out)
          have n1_ := Aside0.mk (below_drew1 HB.out)
          clear HO186
          clear HB
          have HO186 := n0_
          have HB := n1_
          clear n0_ n1_
          have p189 : 0 ≤ (0 : Int) := (by omega)
          have q189 : 0 < (y184.length : Int) := of_decide_eq_true (by first | (with_reducible assumption) | assumption)
          obtain ⟨ad189, e189, hx189_0, hx189_1, hx189_2, hx189_3⟩ := at_T128 (Kd.R_reads' HO186.out).2.2 0 p189 q189
          cases e189
          have qi189 : (0 < y184.length) = True := eq_true (by omega)
          (try rw [show ((0 : Int)).toNat = 0 from rfl] at hx189_0)
          (try rw [show 0 * 4 = 0 from rfl] at hx189_0)
          (try rw [Addr.add_zero'] at hx189_0)
          (try rw [show ((0 : Int)).toNat = 0 from rfl] at hx189_1)
          (try rw [show 0 * 4 = 0 from rfl] at hx189_1)
          (try rw [Addr.add_zero'] at hx189_1)
          (try rw [show ((0 : Int)).toNat = 0 from rfl] at hx189_2)
          (try rw [show 0 * 4 = 0 from rfl] at hx189_2)
          (try rw [Addr.add_zero'] at hx189_2)
          (try rw [show ((0 : Int)).toNat = 0 from rfl] at hx189_3)
          (try rw [show 0 * 4 = 0 from rfl] at hx189_3)
          (try rw [Addr.add_zero'] at hx189_3)
          replace p189 := eq_true p189
          replace q189 := eq_true q189
          have p190 : 0 ≤ (1 : Int) := (by omega)
          have q190 : 1 < (y184.length : Int) := of_decide_eq_true (by first | (with_reducible assumption) | assumption)
          obtain ⟨ad190, e190, hx190_0, hx190_1, hx190_2, hx190_3⟩ := at_T128 (Kd.R_reads' HO186.out).2.2 1 p190 q190
          obtain rfl : ad189 = ad190 := (by injection e190)
          (try simp only [show (1 : Int).toNat = 1 from rfl, Nat.reduceMul, Nat.reduceEqDiff, Go.Addr.add, ↓reduceIte] at hx190_0)
          (try simp only [show (1 : Int).toNat = 1 from rfl, Nat.reduceMul, Nat.reduceEqDiff, Go.Addr.add, ↓reduceIte] at hx190_1)
          (try simp only [show (1 : Int).toNat = 1 from rfl, Nat.reduceMul, Nat.reduceEqDiff, Go.Addr.add, ↓reduceIte] at hx190_2)
          (try simp only [show (1 : Int).toNat = 1 from rfl, Nat.reduceMul, Nat.reduceEqDiff, Go.Addr.add, ↓reduceIte] at hx190_3)
          have qi190 : (1 < y184.length) = True := eq_true (by omega)
          (try rw [show ((1 : Int)).toNat = 1 from rfl] at hx190_0)
          (try rw [show 1 * 4 = 4 from rfl] at hx190_0)
          (try rw [show ((1 : Int)).toNat = 1 from rfl] at hx190_1)
          (try rw [show 1 * 4 = 4 from rfl] at hx190_1)
          (try rw [show ((1 : Int)).toNat = 1 from rfl] at hx190_2)
          (try rw [show 1 * 4 = 4 from rfl] at hx190_2)
          (try rw [show ((1 : Int)).toNat = 1 from rfl] at hx190_3)
          (try rw [show 1 * 4 = 4 from rfl] at hx190_3)
          replace p190 := eq_true p190
          replace q190 := eq_true q190
          have p191 : 0 ≤ (3 : Int) := (by omega)
          have q191 : 3 < (y184.length : Int) := of_decide_eq_true (by first | (with_reducible assumption) | assumption)
          obtain ⟨ad191, e191, hx191_0, hx191_1, hx191_2, hx191_3⟩ := at_T128 (Kd.R_reads' HO186.out).2.2 3 p191 q191
          obtain rfl : ad189 = ad191 := (by injection e191)
          (try simp only [show (3 : Int).toNat = 3 from rfl, Nat.reduceMul, Nat.reduceEqDiff, Go.Addr.add, ↓reduceIte] at hx191_0)
          (try simp only [show (3 : Int).toNat = 3 from rfl, Nat.reduceMul, Nat.reduceEqDiff, Go.Addr.add, ↓reduceIte] at hx191_1)
          (try simp only [show (3 : Int).toNat = 3 from rfl, Nat.reduceMul, Nat.reduceEqDiff, Go.Addr.add, ↓reduceIte] at hx191_2)
          (try simp only [show (3 : Int).toNat = 3 from rfl, Nat.reduceMul, Nat.reduceEqDiff, Go.Addr.add, ↓reduceIte] at hx191_3)
          have qi191 : (3 < y184.length) = True := eq_true (by omega)
          (try rw [show ((3 : Int)).toNat = 3 from rfl] at hx191_0)
          (try rw [show 3 * 4 = 12 from rfl] at hx191_0)
          (try rw [show ((3 : Int)).toNat = 3 from rfl] at hx191_1)
          (try rw [show 3 * 4 = 12 from rfl] at hx191_1)
          (try rw [show ((3 : Int)).toNat = 3 from rfl] at hx191_2)
          (try rw [show 3 * 4 = 12 from rfl] at hx191_2)
          (try rw [show ((3 : Int)).toNat = 3 from rfl] at hx191_3)
          (try rw [show 3 * 4 = 12 from rfl] at hx191_3)
          replace p191 := eq_true p191
          replace q191 := eq_true q191
          refine start_ (n := 16) (S := fun w' => w'.cell? ad189 = some (.int .i64 ((rd_T128 y184 0).f0)) ∧ w'.cell? ⟨ad189.block, ad189.off + 1, none⟩ = some (.int .i64 ((rd_T128 y184 0).f1)) ∧ w'.cell? ⟨ad189.block, ad189.off + 2, none⟩ = some (.int .i64 ((rd_T128 y184 0).f2)) ∧ w'.cell? ⟨ad189.block, ad189.off + 3, none⟩ = some (.bool ((rd_T128 y184 0).f3)) ∧ w'.cell? ⟨ad189.block, ad189.off + 4, none⟩ = some (.int .i64 ((rd_T128 y184 1).f0)) ∧ w'.cell? ⟨ad189.block, ad189.off + 4 + 1, none⟩ = some (.int .i64 ((rd_T128 y184 1).f1)) ∧ w'.cell? ⟨ad189.block, ad189.off + 4 + 2, none⟩ = some (.int .i64 ((rd_T128 y184 1).f2)) ∧ w'.cell? ⟨ad189.block, ad189.off + 4 + 3, none⟩ = some (.bool ((rd_T128 y184 1).f3)) ∧ w'.cell? ⟨ad189.block, ad189.off + 12, none⟩ = some (.int .i64 ((rd_T128 y184 3).f0)) ∧ w'.cell? ⟨ad189.block, ad189.off + 12 + 1, none⟩ = some (.int .i64 ((rd_T128 y184 3).f1)) ∧ w'.cell? ⟨ad189.block, ad189.off + 12 + 2, none⟩ = some (.int .i64 ((rd_T128 y184 3).f2)) ∧ w'.cell? ⟨ad189.block, ad189.off + 12 + 3, none⟩ = some (.bool ((rd_T128 y184 3).f3))) (ds := []) #[false, false, false, false, false, false, false, false, false, false, false, false, false, false, false, false] (by kernel_rfl) rfl rfl ⟨hx189_0, hx189_1, hx189_2, hx189_3, hx190_0, hx190_1, hx190_2, hx190_3, hx191_0, hx191_1, hx191_2, hx191_3⟩ (fun hHeld => ?_); refine with_tabW marchlandlaw09_told.tab3 marchlandlaw09_told.bits3 (fun HT_ HW_ => ?_)
          generalize w64.drew = w65 at HO186 HB hx189_0 hx189_1 hx189_2 hx189_3 hx190_0 hx190_1 hx190_2 hx190_3 hx191_0 hx191_1 hx191_2 hx191_3 hHeld ⊢
          refine pure_ (i := 0) (N := some 17) (v := ?_) (a' := ?_) #[true, false, false, false, false, false, false, false, false, false, false, false, false, false, false, false] rfl rfl (any_of HT_.out (by kernel_rfl)) (fun _ _ _ h => h) (Or.inl ⟨by rfl, ?_⟩) ?_ ?_
          rotate_left
          · intro w'
            go_simp
            with_reducible rfl
          rotate_left
          · simp only [Act.put, List.setIfInBounds_toArray, List.set_cons_zero, List.set_cons_succ, i64_w, i32_w]
            rfl
          refine pure_ (i := 1) (N := some 18) (v := ?_) (a' := ?_) #[true, true, false, false, false, false, false, false, false, false, false, false, false, false, false, false] rfl rfl (any_of HT_.out (by kernel_rfl)) (fun _ _ _ h => h) (Or.inl ⟨by rfl, ?_⟩) ?_ ?_
          rotate_left
          · intro w'
            go_simp
            with_reducible rfl
          rotate_left
          · simp only [Act.put, List.setIfInBounds_toArray, List.set_cons_zero, List.set_cons_succ, i64_w, i32_w]
            rfl
          refine pure_ (i := 3) (N := some 20) (v := ?_) (a' := ?_) #[true, true, false, true, false, false, false, false, false, false, false, false, false, false, false, false] rfl rfl (any_of HT_.out (by kernel_rfl)) (fun _ _ _ h => h) (Or.inl ⟨by rfl, ?_⟩) ?_ ?_
          rotate_left
          · intro w'
            go_simp
            with_reducible rfl
          rotate_left
          · simp only [Act.put, List.setIfInBounds_toArray, List.set_cons_zero, List.set_cons_succ, i64_w, i32_w]
            rfl
          refine pure_ (i := 4) (N := some 21) (v := ?_) (a' := ?_) #[true, true, false, true, true, false, false, false, false, false, false, false, false, false, false, false] rfl rfl (any_of HT_.out (by kernel_rfl)) (fun _ _ _ h => h) (Or.inl ⟨by rfl, ?_⟩) ?_ ?_
          rotate_left
          · intro w'
            go_simp
            with_reducible rfl
          rotate_left
          · simp only [Act.put, List.setIfInBounds_toArray, List.set_cons_zero, List.set_cons_succ, i64_w, i32_w]
            rfl
          refine pure_ (i := 6) (N := some 23) (v := ?_) (a' := ?_) #[true, true, false, true, true, false, true, false, false, false, false, false, false, false, false, false] rfl rfl (any_of HT_.out (by kernel_rfl)) (fun _ _ _ h => h) (Or.inl ⟨by rfl, ?_⟩) ?_ ?_
          rotate_left
          · intro w'
            go_simp
            with_reducible rfl
          rotate_left
          · simp only [Act.put, List.setIfInBounds_toArray, List.set_cons_zero, List.set_cons_succ, i64_w, i32_w]
            rfl
          refine pure_ (i := 7) (N := some 24) (v := ?_) (a' := ?_) #[true, true, false, true, true, false, true, true, false, false, false, false, false, false, false, false] rfl rfl (any_of HT_.out (by kernel_rfl)) (fun _ _ _ h => h) (Or.inl ⟨by rfl, ?_⟩) ?_ ?_
          rotate_left
          · intro w'
            go_simp
            with_reducible rfl
          rotate_left
          · simp only [Act.put, List.setIfInBounds_toArray, List.set_cons_zero, List.set_cons_succ, i64_w, i32_w]
            rfl
          refine take_ (i := 2) (N := some 19) (v := ?_) (a' := ?_) #[true, true, true, true, true, false, true, true, false, false, false, false, false, false, false, false] rfl rfl (take_ofW HT_.out HW_.out (by kernel_rfl)) (fun _ _ _ h => h) (Or.inl ⟨by rfl, ?_⟩) hHeld ?_ ?_
          rotate_left
          · rintro w' ⟨s0, s1, s2, s3, s4, s5, s6, s7, s8, s9, s10, s11⟩
            go_simp
            with_reducible rfl
          rotate_left
          · simp only [Act.put, List.setIfInBounds_toArray, List.set_cons_zero, List.set_cons_succ, i64_w, i32_w]
            rfl
          refine take_ (i := 5) (N := some 22) (v := ?_) (a' := ?_) #[true, true, true, true, true, true, true, true, false, false, false, false, false, false, false, false] rfl rfl (take_ofW HT_.out HW_.out (by kernel_rfl)) (fun _ _ _ h => h) (Or.inl ⟨by rfl, ?_⟩) hHeld ?_ ?_
          rotate_left
          · rintro w' ⟨s0, s1, s2, s3, s4, s5, s6, s7, s8, s9, s10, s11⟩
            go_simp
            with_reducible rfl
          rotate_left
          · simp only [Act.put, List.setIfInBounds_toArray, List.set_cons_zero, List.set_cons_succ, i64_w, i32_w]
            rfl
          refine take_ (i := 8) (N := some 25) (v := ?_) (a' := ?_) #[true, true, true, true, true, true, true, true, true, false, false, false, false, false, false, false] rfl rfl (take_ofW HT_.out HW_.out (by kernel_rfl)) (fun _ _ _ h => h) (Or.inl ⟨by rfl, ?_⟩) hHeld ?_ ?_
          rotate_left
          · rintro w' ⟨s0, s1, s2, s3, s4, s5, s6, s7, s8, s9, s10, s11⟩
            go_simp
            with_reducible rfl
          rotate_left
          · simp only [Act.put, List.setIfInBounds_toArray, List.set_cons_zero, List.set_cons_succ, i64_w, i32_w]
            rfl
          refine one_ (i := 9) (N := some 26) #[true, true, true, true, true, true, true, true, true, true, false, false, false, false, false, false] rfl rfl (one_of HT_.out (by kernel_rfl)) (by decide) (fun K hK => ?_)
          refine Kd.R_lit_step k128 _ 128 ?hg (N := 26) ?hd (xs := ([(⟨(rd_T128 y184 0).f0, (rd_T128 y184 0).f1, (rd_T128 y184 0).f2, (rd_T128 y184 0).f3⟩ : S128), (⟨(rd_T128 y184 1).f0, (rd_T128 y184 1).f1, (rd_T128 y184 1).f2, (rd_T128 y184 1).f3⟩ : S128), (⟨(rd_T128 y184 3).f0, (rd_T128 y184 3).f1, (rd_T128 y184 3).f2, (rd_T128 y184 3).f3⟩ : S128)] : List (S128))) (inner := [.int .i64 ((rd_T128 y184 0).f0), .int .i64 ((rd_T128 y184 0).f1), .int .i64 ((rd_T128 y184 0).f2), .bool ((rd_T128 y184 0).f3), .int .i64 ((rd_T128 y184 1).f0), .int .i64 ((rd_T128 y184 1).f1), .int .i64 ((rd_T128 y184 1).f2), .bool ((rd_T128 y184 1).f3), .int .i64 ((rd_T128 y184 3).f0), .int .i64 ((rd_T128 y184 3).f1), .int .i64 ((rd_T128 y184 3).f2), .bool ((rd_T128 y184 3).f3)]) (ok := fun _ => True) (okp := fun _ => True) ?hr ?hp (fun _ hk => hk) trivial (Below.refl _ _) (Nat.le_refl _) (by simp) ?_; (case hd => rfl); (case hg => rfl); (case hr => first | (go_simp; done) | (go_simp; rfl)); (case hp => exact (Reps.c4 (show Kd.M k128 _ _ _ (⟨(rd_T128 y184 0).f0, (rd_T128 y184 0).f1, (rd_T128 y184 0).f2, (rd_T128 y184 0).f3⟩ : S128) [.int .i64 ((rd_T128 y184 0).f0), .int .i64 ((rd_T128 y184 0).f1), .int .i64 ((rd_T128 y184 0).f2), .bool ((rd_T128 y184 0).f3)] from (k128_mkM _ _ _ (⟨(rd_T128 y184 0).f0, (rd_T128 y184 0).f1, (rd_T128 y184 0).f2, (rd_T128 y184 0).f3⟩ : S128) )) (Reps.c4 (show Kd.M k128 _ _ _ (⟨(rd_T128 y184 1).f0, (rd_T128 y184 1).f1, (rd_T128 y184 1).f2, (rd_T128 y184 1).f3⟩ : S128) [.int .i64 ((rd_T128 y184 1).f0), .int .i64 ((rd_T128 y184 1).f1), .int .i64 ((rd_T128 y184 1).f2), .bool ((rd_T128 y184 1).f3)] from (k128_mkM _ _ _ (⟨(rd_T128 y184 1).f0, (rd_T128 y184 1).f1, (rd_T128 y184 1).f2, (rd_T128 y184 1).f3⟩ : S128) )) (Reps.c4 (show Kd.M k128 _ _ _ (⟨(rd_T128 y184 3).f0, (rd_T128 y184 3).f1, (rd_T128 y184 3).f2, (rd_T128 y184 3).f3⟩ : S128) [.int .i64 ((rd_T128 y184 3).f0), .int .i64 ((rd_T128 y184 3).f1), .int .i64 ((rd_T128 y184 3).f2), .bool ((rd_T128 y184 3).f3)] from (k128_mkM _ _ _ (⟨(rd_T128 y184 3).f0, (rd_T128 y184 3).f1, (rd_T128 y184 3).f2, (rd_T128 y184 3).f3⟩ : S128) )) (Reps.none _ _)))))
          intro v193 w66 ho67 hb hg_ hnew_
          have HS0_ := (hb.cell (World.block_lt_of_cell? _ _ (hHeld.1))).trans (hHeld.1)
          have HS1_ := (hb.cell (World.block_lt_of_cell? _ _ (hHeld.2.1))).trans (hHeld.2.1)
          have HS2_ := (hb.cell (World.block_lt_of_cell? _ _ (hHeld.2.2.1))).trans (hHeld.2.2.1)
          have HS3_ := (hb.cell (World.block_lt_of_cell? _ _ (hHeld.2.2.2.1))).trans (hHeld.2.2.2.1)
          have HS4_ := (hb.cell (World.block_lt_of_cell? _ _ (hHeld.2.2.2.2.1))).trans (hHeld.2.2.2.2.1)
          have HS5_ := (hb.cell (World.block_lt_of_cell? _ _ (hHeld.2.2.2.2.2.1))).trans (hHeld.2.2.2.2.2.1)
          have HS6_ := (hb.cell (World.block_lt_of_cell? _ _ (hHeld.2.2.2.2.2.2.1))).trans (hHeld.2.2.2.2.2.2.1)
          have HS7_ := (hb.cell (World.block_lt_of_cell? _ _ (hHeld.2.2.2.2.2.2.2.1))).trans (hHeld.2.2.2.2.2.2.2.1)
          have HS8_ := (hb.cell (World.block_lt_of_cell? _ _ (hHeld.2.2.2.2.2.2.2.2.1))).trans (hHeld.2.2.2.2.2.2.2.2.1)
          have HS9_ := (hb.cell (World.block_lt_of_cell? _ _ (hHeld.2.2.2.2.2.2.2.2.2.1))).trans (hHeld.2.2.2.2.2.2.2.2.2.1)
          have HS10_ := (hb.cell (World.block_lt_of_cell? _ _ (hHeld.2.2.2.2.2.2.2.2.2.2.1))).trans (hHeld.2.2.2.2.2.2.2.2.2.2.1)
          have HS11_ := (hb.cell (World.block_lt_of_cell? _ _ (hHeld.2.2.2.2.2.2.2.2.2.2.2))).trans (hHeld.2.2.2.2.2.2.2.2.2.2.2)
          clear hg_ hnew_
          (first | rw [← Ny192.out] at ho67 | (simp only [Int.reduceToNat] at ho67; rw [← Ny192.out] at ho67))
          have n0_ := Aside0.mk (Kd.R_elder' (by (with_reducible repeat (first | apply Kd.R_alloc | apply Kd.R_drewN | apply Kd.R_drew)); exact HO186.out) (Kd.R_base ho67) hb)
          have n1_ := Aside0.mk (Kd.R_lower (Kd.R_new' ho67 (Kd.R_lt (by (with_reducible repeat (first | apply Kd.R_alloc | apply Kd.R_drewN | apply Kd.R_drew)); exact HO186.out))) (below_size (by repeat (first | (with_reducible first | exact HB.out | apply below_alloc | apply pw_below_drewN | apply below_drew1) | exact HB.out))))
          have n2_ := Aside0.mk (below_step (by repeat (first | (with_reducible first | exact HB.out | apply below_alloc | apply pw_below_drewN | apply below_drew1) | exact HB.out)) hb)
          clear HO186
          clear HB
          have HO186 := n0_
          have HO194 := n1_
          have HB := n2_
          clear n0_ n1_ n2_
          clear hb ho67
          obtain ⟨Ao68, co68, eo68⟩ := Kd.R_slice HO194.out
          (first | subst eo68 | (injection eo68 with f1_ f2_ f3_; have f4_ := f1_.symm; have f5_ := f3_.symm; clear f1_ f2_ f3_; subst f4_; subst f5_))
          refine hK.out _ _ ⟨HS0_, HS1_, HS2_, HS3_, HS4_, HS5_, HS6_, HS7_, HS8_, HS9_, HS10_, HS11_⟩ (fun hHeld => ?_)
          clear hK K
          refine norm_ (a' := ?_) ?_ ?_
          rotate_left
          · show Act.put _ (some 26) _ = _
            simp only [Act.put, List.setIfInBounds_toArray, List.set_cons_zero, List.set_cons_succ, i64_w, i32_w]
            rfl
          refine one_ (i := 10) (N := some 27) #[true, true, true, true, true, true, true, true, true, true, true, false, false, false, false, false] rfl rfl (one_of HT_.out (by kernel_rfl)) (by decide) (fun K hK => ?_)
          refine goes_ Try.func28 (by kernel_rfl) rfl #[.slice Ao68 y192.length co68] (by rfl) rfl rfl (by (try simp only [List.map_toArray, List.map_cons, List.map_nil]); first | done | rfl | (simp only [List.length_drop, List.length_take]; rfl)) ?_
          with_reducible refine (clock_Race.calls _ _ y192 t195 t196 _ ?side1 ?side2 A5.out).mono ?_
          (case side1 => repeat (first | exact (Kd.R_reads' HO194.out).2.2 | (with_reducible refine Kd.C_alloc ?_ _) | (with_reducible refine Kd.C_drewN ?_ _) | (with_reducible refine Kd.C_drew ?_)))
          (case side2 => exact (Kd.R_reads' HO194.out).2.1)
          rintro e w69 ⟨rfl, hb⟩
          have HS0_ := (hb.cell (World.block_lt_of_cell? _ _ (hHeld.1))).trans (hHeld.1)
          have HS1_ := (hb.cell (World.block_lt_of_cell? _ _ (hHeld.2.1))).trans (hHeld.2.1)
          have HS2_ := (hb.cell (World.block_lt_of_cell? _ _ (hHeld.2.2.1))).trans (hHeld.2.2.1)
          have HS3_ := (hb.cell (World.block_lt_of_cell? _ _ (hHeld.2.2.2.1))).trans (hHeld.2.2.2.1)
          have HS4_ := (hb.cell (World.block_lt_of_cell? _ _ (hHeld.2.2.2.2.1))).trans (hHeld.2.2.2.2.1)
          have HS5_ := (hb.cell (World.block_lt_of_cell? _ _ (hHeld.2.2.2.2.2.1))).trans (hHeld.2.2.2.2.2.1)
          have HS6_ := (hb.cell (World.block_lt_of_cell? _ _ (hHeld.2.2.2.2.2.2.1))).trans (hHeld.2.2.2.2.2.2.1)
          have HS7_ := (hb.cell (World.block_lt_of_cell? _ _ (hHeld.2.2.2.2.2.2.2.1))).trans (hHeld.2.2.2.2.2.2.2.1)
          have HS8_ := (hb.cell (World.block_lt_of_cell? _ _ (hHeld.2.2.2.2.2.2.2.2.1))).trans (hHeld.2.2.2.2.2.2.2.2.1)
          have HS9_ := (hb.cell (World.block_lt_of_cell? _ _ (hHeld.2.2.2.2.2.2.2.2.2.1))).trans (hHeld.2.2.2.2.2.2.2.2.2.1)
          have HS10_ := (hb.cell (World.block_lt_of_cell? _ _ (hHeld.2.2.2.2.2.2.2.2.2.2.1))).trans (hHeld.2.2.2.2.2.2.2.2.2.2.1)
          have HS11_ := (hb.cell (World.block_lt_of_cell? _ _ (hHeld.2.2.2.2.2.2.2.2.2.2.2))).trans (hHeld.2.2.2.2.2.2.2.2.2.2.2)
          refine ⟨_, rfl, ?_⟩
          have n0_ := Aside0.mk (Kd.R_below (by (with_reducible repeat (first | apply Kd.R_alloc | apply Kd.R_drewN | apply Kd.R_drew)); exact HO186.out) hb)
          have n1_ := Aside0.mk (Kd.R_below (by (with_reducible repeat (first | apply Kd.R_alloc | apply Kd.R_drewN | apply Kd.R_drew)); exact HO194.out) hb)
          have n2_ := Aside0.mk (below_step (by repeat (first | (with_reducible first | exact HB.out | apply below_alloc | apply pw_below_drewN | apply below_drew1) | exact HB.out)) hb)
          clear HO186
          clear HO194
          clear HB
          have HO186 := n0_
          have HO194 := n1_
          have HB := n2_
          clear n0_ n1_ n2_
          (try clear hb)
          (try clear hb2)
          (try clear hk)
          (try clear hi)
          refine hK.out _ _ ⟨HS0_, HS1_, HS2_, HS3_, HS4_, HS5_, HS6_, HS7_, HS8_, HS9_, HS10_, HS11_⟩ (fun hHeld => ?_)
          clear hK K
          refine norm_ (a' := ?_) ?_ ?_
          rotate_left
          · show Act.put _ (some 27) _ = _
            simp only [Act.put, List.setIfInBounds_toArray, List.set_cons_zero, List.set_cons_succ, i64_w, i32_w]
            rfl
          refine pure_ (i := 11) (N := some 16) (v := ?_) (a' := ?_) #[true, true, true, true, true, true, true, true, true, true, true, true, false, false, false, false] rfl rfl (any_of HT_.out (by kernel_rfl)) (fun _ _ _ h => h) (Or.inl ⟨by rfl, ?_⟩) ?_ ?_
          rotate_left
          · intro w'
            go_simp
            with_reducible rfl
          rotate_left
          · simp only [Act.put, List.setIfInBounds_toArray, List.set_cons_zero, List.set_cons_succ, i64_w, i32_w]
            rfl
          refine pure_ (i := 12) (N := some 28) (v := ?_) (a' := ?_) #[true, true, true, true, true, true, true, true, true, true, true, true, true, false, false, false] rfl rfl (any_of HT_.out (by kernel_rfl)) (fun _ _ _ h => h) (Or.inl ⟨by rfl, ?_⟩) ?_ ?_
          rotate_left
          · intro w'
            go_simp
            with_reducible rfl
          rotate_left
          · simp only [Act.put, List.setIfInBounds_toArray, List.set_cons_zero, List.set_cons_succ, i64_w, i32_w]
            rfl
          refine pure_ (i := 13) (N := some 29) (v := ?_) (a' := ?_) #[true, true, true, true, true, true, true, true, true, true, true, true, true, true, false, false] rfl rfl (any_of HT_.out (by kernel_rfl)) (fun _ _ _ h => h) (Or.inl ⟨by rfl, ?_⟩) ?_ ?_
          rotate_left
          · intro w'
            go_simp
            with_reducible rfl
          rotate_left
          · simp only [Act.put, List.setIfInBounds_toArray, List.set_cons_zero, List.set_cons_succ, i64_w, i32_w]
            rfl
          refine pure_ (i := 14) (N := some 4) (v := ?_) (a' := ?_) #[true, true, true, true, true, true, true, true, true, true, true, true, true, true, true, false] rfl rfl (any_of HT_.out (by kernel_rfl)) (fun _ _ _ h => h) (Or.inl ⟨by rfl, ?_⟩) ?_ ?_
          rotate_left
          · intro w'
            go_simp
            with_reducible rfl
          rotate_left
          · simp only [Act.put, List.setIfInBounds_toArray, List.set_cons_zero, List.set_cons_succ, i64_w, i32_w]
            rfl
          refine pure_ (i := 15) (N := some 5) (v := ?_) (a' := ?_) #[true, true, true, true, true, true, true, true, true, true, true, true, true, true, true, true] rfl rfl (any_of HT_.out (by kernel_rfl)) (fun _ _ _ h => h) (Or.inl ⟨by rfl, ?_⟩) ?_ ?_
          rotate_left
          · intro w'
            go_simp
            with_reducible rfl
          rotate_left
          · simp only [Act.put, List.setIfInBounds_toArray, List.set_cons_zero, List.set_cons_succ, i64_w, i32_w]
            rfl
          refine done_ (done_of HT_.out (by kernel_rfl)) ?_
          try go_wp2
          go_ret
          exact ⟨by first | rfl | (simp [errW_none, errW_some] <;> rfl) | (simp [*, errW_none, errW_some] <;> rfl), by repeat (first | (with_reducible first | exact HB.out | apply below_alloc | apply pw_below_drewN | apply below_drew1) | exact HB.out)⟩
      · rw [if_neg c4] at H
        exact absurd H (by simp)
    · rw [if_neg c3] at H
      exact absurd H (by simp)
  · rw [if_neg c2] at H
    exact absurd H (by simp)
end Go.Proofs.Ytlcnckbmolefpaa.P
end
