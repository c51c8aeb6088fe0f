/- Walks and laws of several statements of this seat, joined into one text; no condition. -/
import Derived.Test.YtlcnckbmolefpaaProg
import Derived.Below
import Derived.Deep.Draws
import Derived.Deep.AppendLies
import Derived.Maps.AppendAt
import Derived.OwnWalk
import Derived.Laws.BytesArg
import Derived.Laws.MakeOwn
import Derived.Laws.OwnMore
import Derived.Deep.OwnRows
import Derived.Tactics
import Derived.Lib.ConvBytes
import Derived.Laws.Slices
import Derived.WalkKit
import Derived.KernelRfl
import Derived.RowKit3
import Derived.Deep.LoopGhost
import Derived.Deep.QuietTactic
import Derived.BigQuiet
import Derived.WideLaws
import Derived.Deep.DeepCutAuto
import Derived.Deep.CutBlock
import Derived.Deep.RegionHeld3
import Derived.Laws.Rows
import Derived.Lib.AppendStr
import Derived.ArgAppend
import Derived.Laws.IdiomCopy
import Derived.OrdersHeld
import Derived.Laws.BitsLemmas
import Derived.RowKit
import Derived.Laws.StructEq
import Derived.Maps.RangeWalk
import Derived.Maps.Views
import Derived.IntWalk
import Derived.OpenShut
import Derived.Deep.Slices
import Derived.SizedLaws
import Derived.Lib.SmallJoins
import Derived.Test.YtlcnckbmolefpaaZa0
import Derived.Test.YtlcnckbmolefpaaZa1
section
-- Printed by the session's own turn of the print (wip/tools/print2.sh): some callees are proved by hand.
namespace Go.Proofs.Ytlcnckbmolefpaa.P
open Go.RowKit Go.Proofs.YtlcnckbmolefpaaW.PrintWords Go.Proofs.YtlcnckbmolefpaaW.PrintLast Go.Proofs.YtlcnckbmolefpaaW.PrintMore
attribute [local go_sem] max2_int min2_int max_two min_two max_three min_three max_four min_four   -- for this text's walks alone
set_option linter.unusedVariables false
set_option linter.unusedSimpArgs false

/-! ### marchlandlaw10_PickFairs: function 4 -/
mutual
def marchlandlaw10_PickFairs.j0 : Nat → List Int → Int → Int → Int → Bool → Bool → Option (Bool)
  | 0, _, _, _, _, _, _ => none
  | k + 1, x0, x2, x8, x9, x11, x48 => if x48 = true then (some false) else (if x11 = true then (if x8 > 0 then (if x8 < 1000 then ((pick_Fair.f x0 x9 (wrap64 ((mn x8 1000) + (wrap64 (Int.tmod (IntKind.u64.wrap (x2)) 20))))).bind fun t147 => (marchlandlaw10_PickFairs.j1 k x9 (!t147))) else (marchlandlaw10_PickFairs.j1 k x9 false)) else (marchlandlaw10_PickFairs.j1 k x9 false)) else (marchlandlaw10_PickFairs.j1 k x9 false))
def marchlandlaw10_PickFairs.j1 : Nat → Int → Bool → Option (Bool)
  | 0, _, _ => none
  | k + 1, x9, x71 => if x71 = true then (some false) else (if x9 < 1 then (some true) else ((pick_Turns.f k x9 40).bind fun t148 => ((pick_Fair.f t148 x9 x9).bind fun t151 => (some t151))))
end
def marchlandlaw10_PickFairs.f (k : Nat) (l0 : List Int) (a1_0 : Int) (a1_1 : Int) (a2 : Int) : Option (Bool) := if 0 ≤ (mn (l0.length : Int) 60) then (if (mn (l0.length : Int) 60) ≤ (l0.length : Int) then ((some (([] : List Int) : List Int)).bind fun y137 => (if y137.length + (l0.take ((mn (l0.length : Int) 60) : Int).toNat).length < 17592186044416 then ((some (y137 ++ (l0.take ((mn (l0.length : Int) 60) : Int).toNat) : List Int)).bind fun y140 => ((pick_Fair.f y140 (wrap64 (Int.tmod (IntKind.u64.wrap (a1_0)) 9)) a1_1).bind fun t143 => ((marchlandlaw10_told.f k).bind fun t144 => (if t144 = true then ((marchlandref10_Fair.f k (l0.take ((mn (l0.length : Int) 60) : Int).toNat) (wrap64 (Int.tmod (IntKind.u64.wrap (a1_0)) 9)) a1_1).bind fun t145 => (if (t143 != t145) = true then (marchlandlaw10_PickFairs.j0 k (l0.take ((mn (l0.length : Int) 60) : Int).toNat) a2 a1_1 (wrap64 (Int.tmod (IntKind.u64.wrap (a1_0)) 9)) t143 true) else ((marchlandlaw10_Ints.f k y140 (l0.take ((mn (l0.length : Int) 60) : Int).toNat)).bind fun t146 => (marchlandlaw10_PickFairs.j0 k (l0.take ((mn (l0.length : Int) 60) : Int).toNat) a2 a1_1 (wrap64 (Int.tmod (IntKind.u64.wrap (a1_0)) 9)) t143 (!t146))))) else (marchlandlaw10_PickFairs.j0 k (l0.take ((mn (l0.length : Int) 60) : Int).toNat) a2 a1_1 (wrap64 (Int.tmod (IntKind.u64.wrap (a1_0)) 9)) t143 true))))) else (none))) else (none)) else (none)
theorem marchlandlaw10_PickFairs.mono_l : ∀ k, (∀ y0 y1 y2 y3 y4 y5, LeO (marchlandlaw10_PickFairs.j0 k y0 y1 y2 y3 y4 y5) (marchlandlaw10_PickFairs.j0 (k + 1) y0 y1 y2 y3 y4 y5)) ∧ (∀ y0 y1, LeO (marchlandlaw10_PickFairs.j1 k y0 y1) (marchlandlaw10_PickFairs.j1 (k + 1) y0 y1))
  | 0 => ⟨fun _ _ _ _ _ _ r h => by simp [marchlandlaw10_PickFairs.j0] at h, fun _ _ r h => by simp [marchlandlaw10_PickFairs.j1] at h⟩
  | k + 1 => by
    obtain ⟨ih0, ih1⟩ := marchlandlaw10_PickFairs.mono_l k
    refine ⟨?_, ?_⟩
    · intro y0 y1 y2 y3 y4 y5
      unfold marchlandlaw10_PickFairs.j0
      repeat' first
      | (with_reducible exact ih0 _ _ _ _ _ _)
      | (with_reducible exact ih1 _ _)
      | (with_reducible exact marchlandlaw10_Ints.mono _ _ _)
      | (with_reducible exact marchlandlaw10_told.mono _)
      | (with_reducible exact marchlandref10_Fair.mono _ _ _ _)
      | (with_reducible exact pick_Turns.mono _ _ _)
      | (with_reducible exact LeO.refl _)
      | (with_reducible exact LeO.none _)
      | (with_reducible refine LeO.ite ?_ ?_)
      | (with_reducible refine LeO.bind ?_ (fun _ => ?_))
      | exact ih0 _ _ _ _ _ _
      | exact ih1 _ _
      | exact marchlandlaw10_Ints.mono _ _ _
      | exact marchlandlaw10_told.mono _
      | exact marchlandref10_Fair.mono _ _ _ _
      | exact pick_Turns.mono _ _ _
      | exact LeO.none _
      | refine LeO.ite ?_ ?_
      | refine LeO.bind ?_ (fun _ => ?_)
    · intro y0 y1
      unfold marchlandlaw10_PickFairs.j1
      repeat' first
      | (with_reducible exact ih0 _ _ _ _ _ _)
      | (with_reducible exact ih1 _ _)
      | (with_reducible exact marchlandlaw10_Ints.mono _ _ _)
      | (with_reducible exact marchlandlaw10_told.mono _)
      | (with_reducible exact marchlandref10_Fair.mono _ _ _ _)
      | (with_reducible exact pick_Turns.mono _ _ _)
      | (with_reducible exact LeO.refl _)
      | (with_reducible exact LeO.none _)
      | (with_reducible refine LeO.ite ?_ ?_)
      | (with_reducible refine LeO.bind ?_ (fun _ => ?_))
      | exact ih0 _ _ _ _ _ _
      | exact ih1 _ _
      | exact marchlandlaw10_Ints.mono _ _ _
      | exact marchlandlaw10_told.mono _
      | exact marchlandref10_Fair.mono _ _ _ _
      | exact pick_Turns.mono _ _ _
      | exact LeO.none _
      | refine LeO.ite ?_ ?_
      | refine LeO.bind ?_ (fun _ => ?_)
theorem marchlandlaw10_PickFairs.mono : ∀ a0 a1 a2 a3 k, LeO (marchlandlaw10_PickFairs.f k a0 a1 a2 a3) (marchlandlaw10_PickFairs.f (k + 1) a0 a1 a2 a3) := by
  intro a0 a1 a2 a3 k
  obtain ⟨ih0, ih1⟩ := marchlandlaw10_PickFairs.mono_l k
  unfold marchlandlaw10_PickFairs.f
  repeat' first
      | (with_reducible exact ih0 _ _ _ _ _ _)
      | (with_reducible exact ih1 _ _)
      | (with_reducible exact marchlandlaw10_Ints.mono _ _ _)
      | (with_reducible exact marchlandlaw10_told.mono _)
      | (with_reducible exact marchlandref10_Fair.mono _ _ _ _)
      | (with_reducible exact pick_Turns.mono _ _ _)
      | (with_reducible exact LeO.refl _)
      | (with_reducible exact LeO.none _)
      | (with_reducible refine LeO.ite ?_ ?_)
      | (with_reducible refine LeO.bind ?_ (fun _ => ?_))
      | exact ih0 _ _ _ _ _ _
      | exact ih1 _ _
      | exact marchlandlaw10_Ints.mono _ _ _
      | exact marchlandlaw10_told.mono _
      | exact marchlandref10_Fair.mono _ _ _ _
      | exact pick_Turns.mono _ _ _
      | exact LeO.none _
      | refine LeO.ite ?_ ?_
      | refine LeO.bind ?_ (fun _ => ?_)
set_option maxHeartbeats 8000000 in
set_option maxRecDepth 100000 in
theorem marchlandlaw10_PickFairs.calls (k : Nat) (A0 : Option Addr) (c0 : Nat) (l0 : List Int) (a1_0 : Int) (a1_1 : Int) (a2 : Int) (r : Bool) (w : World) (hr0 : Kd.C (Kd.int .i64) w A0 l0.length l0) (hc0 : l0.length ≤ c0) (h : marchlandlaw10_PickFairs.f k l0 a1_0 a1_1 a2 = some r) :
    Calls Try.prog 4 #[.slice A0 l0.length c0, .agg #[.int .i64 a1_0, .int .i64 a1_1], .int .i64 a2] w fun e w' => e = .returned (.bool r) ∧ Below w.heap.size w w' := by
  have hu28 := Try.underlying28
  have HR0 := Aside0.mk hr0
  have HC0 := Aside0.mk hc0
  clear hr0 hc0
  have HB := Aside0.mk (Below.refl w.heap.size w)
  have H : (if 0 ≤ (mn (l0.length : Int) 60) then (if (mn (l0.length : Int) 60) ≤ (l0.length : Int) then ((some (([] : List Int) : List Int)).bind fun y137 => (if y137.length + (l0.take ((mn (l0.length : Int) 60) : Int).toNat).length < 17592186044416 then ((some (y137 ++ (l0.take ((mn (l0.length : Int) 60) : Int).toNat) : List Int)).bind fun y140 => ((pick_Fair.f y140 (wrap64 (Int.tmod (IntKind.u64.wrap (a1_0)) 9)) a1_1).bind fun t143 => ((marchlandlaw10_told.f k).bind fun t144 => (if t144 = true then ((marchlandref10_Fair.f k (l0.take ((mn (l0.length : Int) 60) : Int).toNat) (wrap64 (Int.tmod (IntKind.u64.wrap (a1_0)) 9)) a1_1).bind fun t145 => (if (t143 != t145) = true then (marchlandlaw10_PickFairs.j0 k (l0.take ((mn (l0.length : Int) 60) : Int).toNat) a2 a1_1 (wrap64 (Int.tmod (IntKind.u64.wrap (a1_0)) 9)) t143 true) else ((marchlandlaw10_Ints.f k y140 (l0.take ((mn (l0.length : Int) 60) : Int).toNat)).bind fun t146 => (marchlandlaw10_PickFairs.j0 k (l0.take ((mn (l0.length : Int) 60) : Int).toNat) a2 a1_1 (wrap64 (Int.tmod (IntKind.u64.wrap (a1_0)) 9)) t143 (!t146))))) else (marchlandlaw10_PickFairs.j0 k (l0.take ((mn (l0.length : Int) 60) : Int).toNat) a2 a1_1 (wrap64 (Int.tmod (IntKind.u64.wrap (a1_0)) 9)) t143 true))))) else (none))) else (none)) else (none)) = some r := h
  clear h
  obtain ⟨ji4, hji4⟩ : ∃ j_ : Int, (mn (l0.length : Int) 60) = j_ := ⟨_, rfl⟩
  replace H : (if 0 ≤ (ji4) then (if (ji4) ≤ (l0.length : Int) then ((some (([] : List Int) : List Int)).bind fun y137 => (if y137.length + (l0.take ((ji4) : Int).toNat).length < 17592186044416 then ((some (y137 ++ (l0.take ((ji4) : Int).toNat) : List Int)).bind fun y140 => ((pick_Fair.f y140 (wrap64 (Int.tmod (IntKind.u64.wrap (a1_0)) 9)) a1_1).bind fun t143 => ((marchlandlaw10_told.f k).bind fun t144 => (if t144 = true then ((marchlandref10_Fair.f k (l0.take ((ji4) : Int).toNat) (wrap64 (Int.tmod (IntKind.u64.wrap (a1_0)) 9)) a1_1).bind fun t145 => (if (t143 != t145) = true then (marchlandlaw10_PickFairs.j0 k (l0.take ((ji4) : Int).toNat) a2 a1_1 (wrap64 (Int.tmod (IntKind.u64.wrap (a1_0)) 9)) t143 true) else ((marchlandlaw10_Ints.f k y140 (l0.take ((ji4) : Int).toNat)).bind fun t146 => (marchlandlaw10_PickFairs.j0 k (l0.take ((ji4) : Int).toNat) a2 a1_1 (wrap64 (Int.tmod (IntKind.u64.wrap (a1_0)) 9)) t143 (!t146))))) else (marchlandlaw10_PickFairs.j0 k (l0.take ((ji4) : Int).toNat) a2 a1_1 (wrap64 (Int.tmod (IntKind.u64.wrap (a1_0)) 9)) t143 true))))) else (none))) else (none)) else (none)) = some r := by first | (rw [hji4] at H; exact H) | (simp only [hji4] at H ⊢; exact H)
  (try (have hji4h : ji4 ≤ 60 := by (rw [← hji4]; unfold mn; (repeat' split) <;> omega)))
  (try (have hji4g : ji4 ≤ 64 := by omega))
  (try (have hji4l : 0 ≤ ji4 := by (rw [← hji4]; unfold mn; (repeat' split) <;> omega)))
  (try (have hji4m : 0 ≤ ji4 := by omega))
  have hji4_ : (if 60 < (l0.length : Int) then 60 else (l0.length : Int)) = ji4 := hji4
  by_cases c5 : 0 ≤ (ji4)
  · rw [if_pos c5] at H
    have c5b0 := eq_true c5
    have c5b1 : decide (0 ≤ (ji4)) = true := decide_eq_true c5
    clear c5
    by_cases c6 : (ji4) ≤ (l0.length : Int)
    · rw [if_pos c6] at H
      have c6b0 := eq_true c6
      have c6b1 : decide ((ji4) ≤ (l0.length : Int)) = true := decide_eq_true c6
      clear c6
      obtain ⟨lt6, hlt6⟩ : ∃ y_ : List Int, y_ = (l0.take ((ji4) : Int).toNat) := ⟨_, rfl⟩
      rw [← hlt6] at H
      have NL6 := Aside0.mk hlt6
      clear hlt6
      obtain ⟨y137, hy137⟩ : ∃ y_ : List Int, y_ = (([] : List Int)) := ⟨_, rfl⟩
      replace H : (if y137.length + lt6.length < 17592186044416 then ((some (y137 ++ lt6 : List Int)).bind fun y140 => ((pick_Fair.f y140 (wrap64 (Int.tmod (IntKind.u64.wrap (a1_0)) 9)) a1_1).bind fun t143 => ((marchlandlaw10_told.f k).bind fun t144 => (if t144 = true then ((marchlandref10_Fair.f k lt6 (wrap64 (Int.tmod (IntKind.u64.wrap (a1_0)) 9)) a1_1).bind fun t145 => (if (t143 != t145) = true then (marchlandlaw10_PickFairs.j0 k lt6 a2 a1_1 (wrap64 (Int.tmod (IntKind.u64.wrap (a1_0)) 9)) t143 true) else ((marchlandlaw10_Ints.f k y140 lt6).bind fun t146 => (marchlandlaw10_PickFairs.j0 k lt6 a2 a1_1 (wrap64 (Int.tmod (IntKind.u64.wrap (a1_0)) 9)) t143 (!t146))))) else (marchlandlaw10_PickFairs.j0 k lt6 a2 a1_1 (wrap64 (Int.tmod (IntKind.u64.wrap (a1_0)) 9)) t143 true))))) else (none)) = some r := by first | (rw [hy137]; with_reducible exact H) | (have H2_ := (Option.bind_some _ _).symm.trans H; rw [hy137]; with_reducible exact H2_) | (have H2_ := (Option.bind_some _ _).symm.trans H; with_reducible exact H2_) | with_reducible exact H | (rw [hy137]; exact H) | exact H
      have Ny137 := Aside0.mk hy137
      clear hy137
      by_cases c7 : y137.length + lt6.length < 17592186044416
      · rw [if_pos c7] at H
        have LMc7 := Aside0.mk c7
        clear c7
        obtain ⟨y140, hy140⟩ : ∃ y_ : List Int, y_ = (y137 ++ lt6) := ⟨_, rfl⟩
        replace H : ((pick_Fair.f y140 (wrap64 (Int.tmod (IntKind.u64.wrap (a1_0)) 9)) a1_1).bind fun t143 => ((marchlandlaw10_told.f k).bind fun t144 => (if t144 = true then ((marchlandref10_Fair.f k lt6 (wrap64 (Int.tmod (IntKind.u64.wrap (a1_0)) 9)) a1_1).bind fun t145 => (if (t143 != t145) = true then (marchlandlaw10_PickFairs.j0 k lt6 a2 a1_1 (wrap64 (Int.tmod (IntKind.u64.wrap (a1_0)) 9)) t143 true) else ((marchlandlaw10_Ints.f k y140 lt6).bind fun t146 => (marchlandlaw10_PickFairs.j0 k lt6 a2 a1_1 (wrap64 (Int.tmod (IntKind.u64.wrap (a1_0)) 9)) t143 (!t146))))) else (marchlandlaw10_PickFairs.j0 k lt6 a2 a1_1 (wrap64 (Int.tmod (IntKind.u64.wrap (a1_0)) 9)) t143 true)))) = some r := by first | (rw [hy140]; with_reducible exact H) | (have H2_ := (Option.bind_some _ _).symm.trans H; rw [hy140]; with_reducible exact H2_) | (have H2_ := (Option.bind_some _ _).symm.trans H; with_reducible exact H2_) | with_reducible exact H | (rw [hy140]; exact H) | exact H
        have Ny140 := Aside0.mk hy140
        clear hy140
        replace H := Option.bind_eq_some_iff.mp H
        obtain ⟨t143, A80, H⟩ := H
        replace H : ((marchlandlaw10_told.f k).bind fun t144 => (if t144 = true then ((marchlandref10_Fair.f k lt6 (wrap64 (Int.tmod (IntKind.u64.wrap (a1_0)) 9)) a1_1).bind fun t145 => (if (t143 != t145) = true then (marchlandlaw10_PickFairs.j0 k lt6 a2 a1_1 (wrap64 (Int.tmod (IntKind.u64.wrap (a1_0)) 9)) t143 true) else ((marchlandlaw10_Ints.f k y140 lt6).bind fun t146 => (marchlandlaw10_PickFairs.j0 k lt6 a2 a1_1 (wrap64 (Int.tmod (IntKind.u64.wrap (a1_0)) 9)) t143 (!t146))))) else (marchlandlaw10_PickFairs.j0 k lt6 a2 a1_1 (wrap64 (Int.tmod (IntKind.u64.wrap (a1_0)) 9)) t143 true))) = some r := H
        have A8 := Aside0.mk A80
        clear A80
        have HC9 := Aside0.mk H
        clear H
        go_enter Try.func4, Try.ntmps4
        go_upto_region 6 with (first | ((with_reducible refine gate_dst (N := 4) rfl ?_); refine box_event ?hg (N := 4) ?hd (cs := #[.int .i64 a1_0, .int .i64 a1_1]) (t := 28) ?hr ?_; (case hd => rfl); (case hg => rfl); (case hr => first | (go_simp; done) | (go_simp; rfl)); intro gb135 hg w10 hbox hb; have n0_ := Aside0.mk (below_step (by repeat (first | (with_reducible first | exact HB.out | apply below_alloc | apply pw_below_drewN | apply below_drew1) | exact HB.out)) hb); have n1_ := Aside0.mk (hbox); have n2_ := Aside0.mk ((by rw [hg]; exact (below_size (by repeat (first | (with_reducible first | exact HB.out | apply below_alloc | apply pw_below_drewN | apply below_drew1) | exact HB.out))) : w.heap.size ≤ gb135)); have n3_ := Aside0.mk ((by rw [hg]; exact (below_size (by repeat (first | (with_reducible first | exact HB.out | apply below_alloc | apply pw_below_drewN | apply below_drew1) | exact HB.out))) : w.heap.size ≤ gb135)); clear HB; have HB := n0_; have BK135 := n1_; have GW135 := n2_; have GE135 := n3_; clear n0_ n1_ n2_ n3_; clear hb hbox hg; have hcz11_0 : w10.cell? ⟨gb135, 0, none⟩ = some (.int .i64 a1_0) := (blk_cell BK135.out 0).trans rfl; have hcz11_1 : w10.cell? ⟨gb135, 1, none⟩ = some (.int .i64 a1_1) := (blk_cell BK135.out 1).trans rfl; have hfz11_0 := blk_frozen BK135.out 0; have hfz11_1 := blk_frozen BK135.out 1; obtain ⟨i012, hi012, _, hsz12, _⟩ := info_parts info3; obtain ⟨hcut12, hA12, hC12⟩ := print_take_of (P := Try.prog) (Value.int .i64) 0 25 3 .i64 Try.underlying25 hi012 hsz12 A0 c0 l0 (ji4) (of_decide_eq_true (by first | (with_reducible assumption) | assumption)) (of_decide_eq_true (by first | (with_reducible assumption) | assumption)) HC0.out; rw [← NL6.out] at hcut12 hA12 hC12; have HR136 := Aside0.mk (Kd.C_of_reads (h1 := fun _ => rfl) (hA12 _ (Kd.reads_of_C HR0.out))); have HC136 := Aside0.mk hC12; clear hA12 hC12 hi012 hsz12) | ((with_reducible refine gate_dst (N := 26) rfl ?_); refine Kd.R_lit (Kd.int .i64) _ 3 ?hg (N := 26) ?hd (xs := ([] : List Int)) (inner := []) (ok := fun _ => True) (okp := fun _ => True) ?hr ?hp (fun _ hk => hk) trivial (Below.refl _ _) (Nat.le_refl _) (by simp) ?_; (case hd => rfl); (case hg => rfl); (case hr => first | (go_simp; done) | (go_simp; rfl)); (case hp => exact (Reps.none _ _)); intro v138 w13 ho14 hb hg_ hnew_; clear hg_ hnew_; (first | rw [← Ny137.out] at ho14 | (simp only [Int.reduceToNat] at ho14; rw [← Ny137.out] at ho14)); have n0_ := Aside0.mk (Kd.R_lower ho14 (below_size (by repeat (first | (with_reducible first | exact HB.out | apply below_alloc | apply pw_below_drewN | apply below_drew1 | refine below_set ?_ GE135.out) | exact HB.out)))); have n1_ := Aside0.mk (blk_below (g := gb135) (o := .cells #[.int .i64 a1_0, .int .i64 a1_1] 28 (0, 0)) (by (with_reducible repeat (first | refine blk_drewN ?_ _ | refine blk_drew ?_ | refine blk_alloc ?_ _)); exact BK135.out) hb); have n2_ := Aside0.mk (below_step (by repeat (first | (with_reducible first | exact HB.out | apply below_alloc | apply pw_below_drewN | apply below_drew1 | refine below_set ?_ GE135.out) | exact HB.out)) hb); clear BK135; clear HB; have HO139 := n0_; have BK135 := n1_; have HB := n2_; clear n0_ n1_ n2_; clear hb ho14) | ((with_reducible refine gate_builtin (b := .append) (xs := #[.tmp 26, .tmp 27]) rfl ?_); at_builtin; refine Kd.R_append_rows (Kd.int .i64) (w0 := w) w.heap.size rfl (.tmp 26) (.tmp 27) 25 3 (.int .i64 0) 8 rfl Try.underlying25 info3 rfl (by decide) (by omega) v138 y137 lt6 _ _ _ (fun _ => True) (fun _ => False) rfl rfl ?aO ?aR (fun _ _ h => h) (fun _ h => h.elim) ?aF ?aB ?aS ?aL ?_; (case aR => first | (have hlx_ := (show lt6.length = (ji4).toNat from (by rw [List.length_take]; have h_ : ((ji4) : Int) ≤ (l0.length : Int) := of_decide_eq_true (by first | (with_reducible assumption) | assumption); omega)); have hR_ := Kd.C_below HR136.out HB.out; rw [hlx_] at hR_; exact hR_) | (rw [← show lt6.length = (ji4).toNat from (by rw [List.length_take]; have h_ : ((ji4) : Int) ≤ (l0.length : Int) := of_decide_eq_true (by first | (with_reducible assumption) | assumption); omega)]; repeat (first | exact (Kd.C_below HR136.out HB.out) | (with_reducible refine Kd.C_alloc ?_ _) | (with_reducible refine Kd.C_drewN ?_ _) | (with_reducible refine Kd.C_drew ?_))) | (repeat (first | exact (Kd.C_below HR136.out HB.out) | (with_reducible refine Kd.C_alloc ?_ _) | (with_reducible refine Kd.C_drewN ?_ _) | (with_reducible refine Kd.C_drew ?_)))); (case aB => exact (by repeat (first | (with_reducible first | exact HB.out | apply below_alloc | apply pw_below_drewN | apply below_drew1 | refine below_set ?_ GE135.out) | exact HB.out))); (case aF => exact (fun _ _ => trivial)); (case aO => exact (by (with_reducible repeat (first | apply Kd.R_alloc | apply Kd.R_drewN | apply Kd.R_drew)); exact HO139.out)); (case aS => exact (below_size (by repeat (first | (with_reducible first | exact HB.out | apply below_alloc | apply pw_below_drewN | apply below_drew1 | refine below_set ?_ GE135.out) | exact HB.out)))); (case aL => have := LMc7.out; omega); intro v141 w15 ho hb hg hat; rw [← Ny140.out] at ho; have n0_ := Aside0.mk (blk_grown (g := gb135) (o := .cells #[.int .i64 a1_0, .int .i64 a1_1] 28 (0, 0)) (by (with_reducible repeat (first | refine blk_drewN ?_ _ | refine blk_drew ?_ | refine blk_alloc ?_ _)); exact BK135.out) hg (Kd.R_ne HO139.out BK135.out (by decide))); have n1_ := Aside0.mk (hb); have n2_ := Aside0.mk (ho); clear BK135; clear HB; clear HO139; have BK135 := n0_; have HB := n1_; have HO142 := n2_; clear n0_ n1_ n2_; clear ho hb hg hat; obtain ⟨Ao16, co16, eo16⟩ := Kd.R_slice HO142.out; subst eo16) | (go_at_call 22; (with_reducible refine (pick_Fair.calls _ _ y140 (wrap64 (Int.tmod (IntKind.u64.wrap (a1_0)) 9)) a1_1 t143 _ ?side1 ?side2 A8.out).mono ?_); (case side1 => repeat (first | exact (Kd.R_reads' HO142.out).2.2 | (with_reducible refine Kd.C_alloc ?_ _) | (with_reducible refine Kd.C_drewN ?_ _) | (with_reducible refine Kd.C_drew ?_))); (case side2 => exact (Kd.R_reads' HO142.out).2.1); rintro e w17 ⟨rfl, hb⟩; have n0_ := Aside0.mk (Kd.R_below (by (with_reducible repeat (first | apply Kd.R_alloc | apply Kd.R_drewN | apply Kd.R_drew)); exact HO142.out) hb); have n1_ := Aside0.mk (blk_below (g := gb135) (o := .cells #[.int .i64 a1_0, .int .i64 a1_1] 28 (0, 0)) (by (with_reducible repeat (first | refine blk_drewN ?_ _ | refine blk_drew ?_ | refine blk_alloc ?_ _)); exact BK135.out) hb); have n2_ := Aside0.mk (below_step (by repeat (first | (with_reducible first | exact HB.out | apply below_alloc | apply pw_below_drewN | apply below_drew1 | refine below_set ?_ GE135.out) | exact HB.out)) hb); clear HO142; clear BK135; clear HB; have HO142 := n0_; have BK135 := n1_; have HB := n2_; clear n0_ n1_ n2_; (try clear hb); (try clear hb2); (try clear hk); (try clear hi)))
        go_quiet (fail)
        go_upto_region 6 with (first | ((with_reducible refine gate_dst (N := 4) rfl ?_); refine box_event ?hg (N := 4) ?hd (cs := #[.int .i64 a1_0, .int .i64 a1_1]) (t := 28) ?hr ?_; (case hd => rfl); (case hg => rfl); (case hr => first | (go_simp; done) | (go_simp; rfl)); intro gb135 hg w10 hbox hb; have n0_ := Aside0.mk (below_step (by repeat (first | (with_reducible first | exact HB.out | apply below_alloc | apply pw_below_drewN | apply below_drew1) | exact HB.out)) hb); have n1_ := Aside0.mk (hbox); have n2_ := Aside0.mk ((by rw [hg]; exact (below_size (by repeat (first | (with_reducible first | exact HB.out | apply below_alloc | apply pw_below_drewN | apply below_drew1) | exact HB.out))) : w.heap.size ≤ gb135)); have n3_ := Aside0.mk ((by rw [hg]; exact (below_size (by repeat (first | (with_reducible first | exact HB.out | apply below_alloc | apply pw_below_drewN | apply below_drew1) | exact HB.out))) : w.heap.size ≤ gb135)); clear HB; have HB := n0_; have BK135 := n1_; have GW135 := n2_; have GE135 := n3_; clear n0_ n1_ n2_ n3_; clear hb hbox hg; have hcz11_0 : w10.cell? ⟨gb135, 0, none⟩ = some (.int .i64 a1_0) := (blk_cell BK135.out 0).trans rfl; have hcz11_1 : w10.cell? ⟨gb135, 1, none⟩ = some (.int .i64 a1_1) := (blk_cell BK135.out 1).trans rfl; have hfz11_0 := blk_frozen BK135.out 0; have hfz11_1 := blk_frozen BK135.out 1; obtain ⟨i012, hi012, _, hsz12, _⟩ := info_parts info3; obtain ⟨hcut12, hA12, hC12⟩ := print_take_of (P := Try.prog) (Value.int .i64) 0 25 3 .i64 Try.underlying25 hi012 hsz12 A0 c0 l0 (ji4) (of_decide_eq_true (by first | (with_reducible assumption) | assumption)) (of_decide_eq_true (by first | (with_reducible assumption) | assumption)) HC0.out; rw [← NL6.out] at hcut12 hA12 hC12; have HR136 := Aside0.mk (Kd.C_of_reads (h1 := fun _ => rfl) (hA12 _ (Kd.reads_of_C HR0.out))); have HC136 := Aside0.mk hC12; clear hA12 hC12 hi012 hsz12) | ((with_reducible refine gate_dst (N := 26) rfl ?_); refine Kd.R_lit (Kd.int .i64) _ 3 ?hg (N := 26) ?hd (xs := ([] : List Int)) (inner := []) (ok := fun _ => True) (okp := fun _ => True) ?hr ?hp (fun _ hk => hk) trivial (Below.refl _ _) (Nat.le_refl _) (by simp) ?_; (case hd => rfl); (case hg => rfl); (case hr => first | (go_simp; done) | (go_simp; rfl)); (case hp => exact (Reps.none _ _)); intro v138 w13 ho14 hb hg_ hnew_; clear hg_ hnew_; (first | rw [← Ny137.out] at ho14 | (simp only [Int.reduceToNat] at ho14; rw [← Ny137.out] at ho14)); have n0_ := Aside0.mk (Kd.R_lower ho14 (below_size (by repeat (first | (with_reducible first | exact HB.out | apply below_alloc | apply pw_below_drewN | apply below_drew1 | refine below_set ?_ GE135.out) | exact HB.out)))); have n1_ := Aside0.mk (blk_below (g := gb135) (o := .cells #[.int .i64 a1_0, .int .i64 a1_1] 28 (0, 0)) (by (with_reducible repeat (first | refine blk_drewN ?_ _ | refine blk_drew ?_ | refine blk_alloc ?_ _)); exact BK135.out) hb); have n2_ := Aside0.mk (below_step (by repeat (first | (with_reducible first | exact HB.out | apply below_alloc | apply pw_below_drewN | apply below_drew1 | refine below_set ?_ GE135.out) | exact HB.out)) hb); clear BK135; clear HB; have HO139 := n0_; have BK135 := n1_; have HB := n2_; clear n0_ n1_ n2_; clear hb ho14) | ((with_reducible refine gate_builtin (b := .append) (xs := #[.tmp 26, .tmp 27]) rfl ?_); at_builtin; refine Kd.R_append_rows (Kd.int .i64) (w0 := w) w.heap.size rfl (.tmp 26) (.tmp 27) 25 3 (.int .i64 0) 8 rfl Try.underlying25 info3 rfl (by decide) (by omega) v138 y137 lt6 _ _ _ (fun _ => True) (fun _ => False) rfl rfl ?aO ?aR (fun _ _ h => h) (fun _ h => h.elim) ?aF ?aB ?aS ?aL ?_; (case aR => first | (have hlx_ := (show lt6.length = (ji4).toNat from (by rw [List.length_take]; have h_ : ((ji4) : Int) ≤ (l0.length : Int) := of_decide_eq_true (by first | (with_reducible assumption) | assumption); omega)); have hR_ := Kd.C_below HR136.out HB.out; rw [hlx_] at hR_; exact hR_) | (rw [← show lt6.length = (ji4).toNat from (by rw [List.length_take]; have h_ : ((ji4) : Int) ≤ (l0.length : Int) := of_decide_eq_true (by first | (with_reducible assumption) | assumption); omega)]; repeat (first | exact (Kd.C_below HR136.out HB.out) | (with_reducible refine Kd.C_alloc ?_ _) | (with_reducible refine Kd.C_drewN ?_ _) | (with_reducible refine Kd.C_drew ?_))) | (repeat (first | exact (Kd.C_below HR136.out HB.out) | (with_reducible refine Kd.C_alloc ?_ _) | (with_reducible refine Kd.C_drewN ?_ _) | (with_reducible refine Kd.C_drew ?_)))); (case aB => exact (by repeat (first | (with_reducible first | exact HB.out | apply below_alloc | apply pw_below_drewN | apply below_drew1 | refine below_set ?_ GE135.out) | exact HB.out))); (case aF => exact (fun _ _ => trivial)); (case aO => exact (by (with_reducible repeat (first | apply Kd.R_alloc | apply Kd.R_drewN | apply Kd.R_drew)); exact HO139.out)); (case aS => exact (below_size (by repeat (first | (with_reducible first | exact HB.out | apply below_alloc | apply pw_below_drewN | apply below_drew1 | refine below_set ?_ GE135.out) | exact HB.out)))); (case aL => have := LMc7.out; omega); intro v141 w15 ho hb hg hat; rw [← Ny140.out] at ho; have n0_ := Aside0.mk (blk_grown (g := gb135) (o := .cells #[.int .i64 a1_0, .int .i64 a1_1] 28 (0, 0)) (by (with_reducible repeat (first | refine blk_drewN ?_ _ | refine blk_drew ?_ | refine blk_alloc ?_ _)); exact BK135.out) hg (Kd.R_ne HO139.out BK135.out (by decide))); have n1_ := Aside0.mk (hb); have n2_ := Aside0.mk (ho); clear BK135; clear HB; clear HO139; have BK135 := n0_; have HB := n1_; have HO142 := n2_; clear n0_ n1_ n2_; clear ho hb hg hat; obtain ⟨Ao16, co16, eo16⟩ := Kd.R_slice HO142.out; subst eo16) | (go_at_call 22; (with_reducible refine (pick_Fair.calls _ _ y140 (wrap64 (Int.tmod (IntKind.u64.wrap (a1_0)) 9)) a1_1 t143 _ ?side1 ?side2 A8.out).mono ?_); (case side1 => repeat (first | exact (Kd.R_reads' HO142.out).2.2 | (with_reducible refine Kd.C_alloc ?_ _) | (with_reducible refine Kd.C_drewN ?_ _) | (with_reducible refine Kd.C_drew ?_))); (case side2 => exact (Kd.R_reads' HO142.out).2.1); rintro e w17 ⟨rfl, hb⟩; have n0_ := Aside0.mk (Kd.R_below (by (with_reducible repeat (first | apply Kd.R_alloc | apply Kd.R_drewN | apply Kd.R_drew)); exact HO142.out) hb); have n1_ := Aside0.mk (blk_below (g := gb135) (o := .cells #[.int .i64 a1_0, .int .i64 a1_1] 28 (0, 0)) (by (with_reducible repeat (first | refine blk_drewN ?_ _ | refine blk_drew ?_ | refine blk_alloc ?_ _)); exact BK135.out) hb); have n2_ := Aside0.mk (below_step (by repeat (first | (with_reducible first | exact HB.out | apply below_alloc | apply pw_below_drewN | apply below_drew1 | refine below_set ?_ GE135.out) | exact HB.out)) hb); clear HO142; clear BK135; clear HB; have HO142 := n0_; have BK135 := n1_; have HB := n2_; clear n0_ n1_ n2_; (try clear hb); (try clear hb2); (try clear hk); (try clear hi)))
        (try simp only [Act.put, List.setIfInBounds_toArray, List.set_cons_zero, List.set_cons_succ])
        go_cut [48] (fun v48 wc => ∃ (kq : Nat) (x48_8 : Bool), v48 = .bool x48_8 ∧ Aside0 (marchlandlaw10_PickFairs.j0 kq lt6 a2 a1_1 (wrap64 (Int.tmod (IntKind.u64.wrap (a1_0)) 9)) t143 x48_8 = some r) ∧ Aside0 (kq ≤ k) ∧ Aside0 (wc.heap[gb135]? = some (.cells #[.int .i64 a1_0, .int .i64 a1_1] 28 (0, 0))) ∧ Aside0 (Below w.heap.size w wc))
        case first =>
          have H := HC9.out
          clear HC9
          replace H := Option.bind_eq_some_iff.mp H
          obtain ⟨t144, A180, H⟩ := H
          replace H : (if t144 = true then ((marchlandref10_Fair.f k lt6 (wrap64 (Int.tmod (IntKind.u64.wrap (a1_0)) 9)) a1_1).bind fun t145 => (if (t143 != t145) = true then (marchlandlaw10_PickFairs.j0 k lt6 a2 a1_1 (wrap64 (Int.tmod (IntKind.u64.wrap (a1_0)) 9)) t143 true) else ((marchlandlaw10_Ints.f k y140 lt6).bind fun t146 => (marchlandlaw10_PickFairs.j0 k lt6 a2 a1_1 (wrap64 (Int.tmod (IntKind.u64.wrap (a1_0)) 9)) t143 (!t146))))) else (marchlandlaw10_PickFairs.j0 k lt6 a2 a1_1 (wrap64 (Int.tmod (IntKind.u64.wrap (a1_0)) 9)) t143 true)) = some r := H
          have A18 := Aside0.mk A180
          clear A180
          by_cases c19 : t144 = true
          · subst c19
            have H1 : ((marchlandref10_Fair.f k lt6 (wrap64 (Int.tmod (IntKind.u64.wrap (a1_0)) 9)) a1_1).bind fun t145 => (if (t143 != t145) = true then (marchlandlaw10_PickFairs.j0 k lt6 a2 a1_1 (wrap64 (Int.tmod (IntKind.u64.wrap (a1_0)) 9)) t143 true) else ((marchlandlaw10_Ints.f k y140 lt6).bind fun t146 => (marchlandlaw10_PickFairs.j0 k lt6 a2 a1_1 (wrap64 (Int.tmod (IntKind.u64.wrap (a1_0)) 9)) t143 (!t146))))) = some r := by rw [if_pos rfl] at H; exact H
            clear H
            have H := H1
            clear H1
            replace H := Option.bind_eq_some_iff.mp H
            obtain ⟨t145, A200, H⟩ := H
            replace H : (if (t143 != t145) = true then (marchlandlaw10_PickFairs.j0 k lt6 a2 a1_1 (wrap64 (Int.tmod (IntKind.u64.wrap (a1_0)) 9)) t143 true) else ((marchlandlaw10_Ints.f k y140 lt6).bind fun t146 => (marchlandlaw10_PickFairs.j0 k lt6 a2 a1_1 (wrap64 (Int.tmod (IntKind.u64.wrap (a1_0)) 9)) t143 (!t146)))) = some r := H
            have A20 := Aside0.mk A200
            clear A200
            by_cases c21 : (t143 != t145) = true
            · rw [if_pos c21] at H
              have c21b0 : (t143 != t145) = true := c21
              (try (have c21b1 : decide (t143 = t145) = false := by simpa using c21))
              (try (have c21b2 : (t143 == t145) = false := by simpa using c21))
              (try (have c21b3 : ¬ (t143 = t145) := by simpa using c21))
              clear c21
              (first | rw [c21b0] | (simp only [i64_w, i32_w]; rw [c21b0]) | skip)
              have H' := Aside0.mk H
              clear H
              go_wp2_with (first | (go_at_call 16; (with_reducible refine (marchlandlaw10_told.calls k  true _ A18.out).mono ?_); rintro e w22 ⟨rfl, hb⟩; have n0_ := Aside0.mk (Kd.R_below (by (with_reducible repeat (first | apply Kd.R_alloc | apply Kd.R_drewN | apply Kd.R_drew)); exact HO142.out) hb); have n1_ := Aside0.mk (blk_below (g := gb135) (o := .cells #[.int .i64 a1_0, .int .i64 a1_1] 28 (0, 0)) (by (with_reducible repeat (first | refine blk_drewN ?_ _ | refine blk_drew ?_ | refine blk_alloc ?_ _)); exact BK135.out) hb); have n2_ := Aside0.mk (below_step (by repeat (first | (with_reducible first | exact HB.out | apply below_alloc | apply pw_below_drewN | apply below_drew1 | refine below_set ?_ GE135.out) | exact HB.out)) hb); clear HO142; clear BK135; clear HB; have HO142 := n0_; have BK135 := n1_; have HB := n2_; clear n0_ n1_ n2_; (try clear hb); (try clear hb2); (try clear hk); (try clear hi)) | (go_at_call 23; (with_reducible refine (marchlandref10_Fair.calls k _ _ lt6 (wrap64 (Int.tmod (IntKind.u64.wrap (a1_0)) 9)) a1_1 t145 _ ?side1 ?side2 A20.out).mono ?_); (case side1 => repeat (first | exact (Kd.C_below HR136.out HB.out) | (with_reducible refine Kd.C_alloc ?_ _) | (with_reducible refine Kd.C_drewN ?_ _) | (with_reducible refine Kd.C_drew ?_))); (case side2 => exact HC136.out); rintro e w' ⟨rfl, ⟨nd, rfl⟩⟩; (try first | exact ⟨rfl, _, World.drewN_drewN _ _ _⟩ | exact ⟨rfl, _, Eq.trans (World.drewN_drewN _ _ _) (congrArg (World.drewN _) (Nat.add_assoc _ _ _))⟩)))
              repeat (go_quiet (first | (go_at_call 16; (with_reducible refine (marchlandlaw10_told.calls k  true _ A18.out).mono ?_); rintro e w22 ⟨rfl, hb⟩; have n0_ := Aside0.mk (Kd.R_below (by (with_reducible repeat (first | apply Kd.R_alloc | apply Kd.R_drewN | apply Kd.R_drew)); exact HO142.out) hb); have n1_ := Aside0.mk (blk_below (g := gb135) (o := .cells #[.int .i64 a1_0, .int .i64 a1_1] 28 (0, 0)) (by (with_reducible repeat (first | refine blk_drewN ?_ _ | refine blk_drew ?_ | refine blk_alloc ?_ _)); exact BK135.out) hb); have n2_ := Aside0.mk (below_step (by repeat (first | (with_reducible first | exact HB.out | apply below_alloc | apply pw_below_drewN | apply below_drew1 | refine below_set ?_ GE135.out) | exact HB.out)) hb); clear HO142; clear BK135; clear HB; have HO142 := n0_; have BK135 := n1_; have HB := n2_; clear n0_ n1_ n2_; (try clear hb); (try clear hb2); (try clear hk); (try clear hi)) | (go_at_call 23; (with_reducible refine (marchlandref10_Fair.calls k _ _ lt6 (wrap64 (Int.tmod (IntKind.u64.wrap (a1_0)) 9)) a1_1 t145 _ ?side1 ?side2 A20.out).mono ?_); (case side1 => repeat (first | exact (Kd.C_below HR136.out HB.out) | (with_reducible refine Kd.C_alloc ?_ _) | (with_reducible refine Kd.C_drewN ?_ _) | (with_reducible refine Kd.C_drew ?_))); (case side2 => exact HC136.out); rintro e w' ⟨rfl, ⟨nd, rfl⟩⟩; (try first | exact ⟨rfl, _, World.drewN_drewN _ _ _⟩ | exact ⟨rfl, _, Eq.trans (World.drewN_drewN _ _ _) (congrArg (World.drewN _) (Nat.add_assoc _ _ _))⟩))); try go_wp2_with (first | (go_at_call 16; (with_reducible refine (marchlandlaw10_told.calls k  true _ A18.out).mono ?_); rintro e w22 ⟨rfl, hb⟩; have n0_ := Aside0.mk (Kd.R_below (by (with_reducible repeat (first | apply Kd.R_alloc | apply Kd.R_drewN | apply Kd.R_drew)); exact HO142.out) hb); have n1_ := Aside0.mk (blk_below (g := gb135) (o := .cells #[.int .i64 a1_0, .int .i64 a1_1] 28 (0, 0)) (by (with_reducible repeat (first | refine blk_drewN ?_ _ | refine blk_drew ?_ | refine blk_alloc ?_ _)); exact BK135.out) hb); have n2_ := Aside0.mk (below_step (by repeat (first | (with_reducible first | exact HB.out | apply below_alloc | apply pw_below_drewN | apply below_drew1 | refine below_set ?_ GE135.out) | exact HB.out)) hb); clear HO142; clear BK135; clear HB; have HO142 := n0_; have BK135 := n1_; have HB := n2_; clear n0_ n1_ n2_; (try clear hb); (try clear hb2); (try clear hk); (try clear hi)) | (go_at_call 23; (with_reducible refine (marchlandref10_Fair.calls k _ _ lt6 (wrap64 (Int.tmod (IntKind.u64.wrap (a1_0)) 9)) a1_1 t145 _ ?side1 ?side2 A20.out).mono ?_); (case side1 => repeat (first | exact (Kd.C_below HR136.out HB.out) | (with_reducible refine Kd.C_alloc ?_ _) | (with_reducible refine Kd.C_drewN ?_ _) | (with_reducible refine Kd.C_drew ?_))); (case side2 => exact HC136.out); rintro e w' ⟨rfl, ⟨nd, rfl⟩⟩; (try first | exact ⟨rfl, _, World.drewN_drewN _ _ _⟩ | exact ⟨rfl, _, Eq.trans (World.drewN_drewN _ _ _) (congrArg (World.drewN _) (Nat.add_assoc _ _ _))⟩))))
              go_meet
              case rel => exact ⟨_, (true), (by first | rfl | (simp; done) | (simp [*]; done)), H', ⟨by first | omega | exact Nat.le_refl _⟩, ⟨by (with_reducible repeat (first | refine blk_drewN ?_ _ | refine blk_drew ?_ | refine blk_alloc ?_ _)); exact BK135.out⟩, ⟨by repeat (first | (with_reducible first | exact HB.out | apply below_alloc | apply pw_below_drewN | apply below_drew1 | refine below_set ?_ GE135.out) | exact HB.out)⟩⟩
            · rw [if_neg c21] at H
              have c21b0 : (t143 != t145) = false := by simpa using c21
              (try (have c21b1 : decide (t143 = t145) = true := by simpa using c21))
              (try (have c21b2 : (t143 == t145) = true := by simpa using c21))
              clear c21
              (first | rw [c21b0] | (simp only [i64_w, i32_w]; rw [c21b0]) | skip)
              replace H := Option.bind_eq_some_iff.mp H
              obtain ⟨t146, A230, H⟩ := H
              replace H : (marchlandlaw10_PickFairs.j0 k lt6 a2 a1_1 (wrap64 (Int.tmod (IntKind.u64.wrap (a1_0)) 9)) t143 (!t146)) = some r := H
              have A23 := Aside0.mk A230
              clear A230
              have H' := Aside0.mk H
              clear H
              go_wp2_with (first | (go_at_call 16; (with_reducible refine (marchlandlaw10_told.calls k  true _ A18.out).mono ?_); rintro e w24 ⟨rfl, hb⟩; have n0_ := Aside0.mk (Kd.R_below (by (with_reducible repeat (first | apply Kd.R_alloc | apply Kd.R_drewN | apply Kd.R_drew)); exact HO142.out) hb); have n1_ := Aside0.mk (blk_below (g := gb135) (o := .cells #[.int .i64 a1_0, .int .i64 a1_1] 28 (0, 0)) (by (with_reducible repeat (first | refine blk_drewN ?_ _ | refine blk_drew ?_ | refine blk_alloc ?_ _)); exact BK135.out) hb); have n2_ := Aside0.mk (below_step (by repeat (first | (with_reducible first | exact HB.out | apply below_alloc | apply pw_below_drewN | apply below_drew1 | refine below_set ?_ GE135.out) | exact HB.out)) hb); clear HO142; clear BK135; clear HB; have HO142 := n0_; have BK135 := n1_; have HB := n2_; clear n0_ n1_ n2_; (try clear hb); (try clear hb2); (try clear hk); (try clear hi)) | (go_at_call 23; (with_reducible refine (marchlandref10_Fair.calls k _ _ lt6 (wrap64 (Int.tmod (IntKind.u64.wrap (a1_0)) 9)) a1_1 t145 _ ?side1 ?side2 A20.out).mono ?_); (case side1 => repeat (first | exact (Kd.C_below HR136.out HB.out) | (with_reducible refine Kd.C_alloc ?_ _) | (with_reducible refine Kd.C_drewN ?_ _) | (with_reducible refine Kd.C_drew ?_))); (case side2 => exact HC136.out); rintro e w' ⟨rfl, ⟨nd, rfl⟩⟩; (try first | exact ⟨rfl, _, World.drewN_drewN _ _ _⟩ | exact ⟨rfl, _, Eq.trans (World.drewN_drewN _ _ _) (congrArg (World.drewN _) (Nat.add_assoc _ _ _))⟩)) | (go_at_call 19; (with_reducible refine (marchlandlaw10_Ints.calls k _ _ y140 _ _ lt6 t146 _ ?side1 ?side2 ?side3 ?side4 A23.out).mono ?_); (case side1 => repeat (first | exact (Kd.R_reads' HO142.out).2.2 | (with_reducible refine Kd.C_alloc ?_ _) | (with_reducible refine Kd.C_drewN ?_ _) | (with_reducible refine Kd.C_drew ?_))); (case side2 => exact (Kd.R_reads' HO142.out).2.1); (case side3 => repeat (first | exact (Kd.C_below HR136.out (by repeat (first | (with_reducible first | exact HB.out | apply below_alloc | apply pw_below_drewN | apply below_drew1 | refine below_set ?_ GE135.out) | exact HB.out))) | (with_reducible refine Kd.C_alloc ?_ _) | (with_reducible refine Kd.C_drewN ?_ _) | (with_reducible refine Kd.C_drew ?_))); (case side4 => exact HC136.out); rintro e w' ⟨rfl, ⟨nd, rfl⟩⟩; (try first | exact ⟨rfl, _, World.drewN_drewN _ _ _⟩ | exact ⟨rfl, _, Eq.trans (World.drewN_drewN _ _ _) (congrArg (World.drewN _) (Nat.add_assoc _ _ _))⟩)))
              repeat (go_quiet (first | (go_at_call 16; (with_reducible refine (marchlandlaw10_told.calls k  true _ A18.out).mono ?_); rintro e w24 ⟨rfl, hb⟩; have n0_ := Aside0.mk (Kd.R_below (by (with_reducible repeat (first | apply Kd.R_alloc | apply Kd.R_drewN | apply Kd.R_drew)); exact HO142.out) hb); have n1_ := Aside0.mk (blk_below (g := gb135) (o := .cells #[.int .i64 a1_0, .int .i64 a1_1] 28 (0, 0)) (by (with_reducible repeat (first | refine blk_drewN ?_ _ | refine blk_drew ?_ | refine blk_alloc ?_ _)); exact BK135.out) hb); have n2_ := Aside0.mk (below_step (by repeat (first | (with_reducible first | exact HB.out | apply below_alloc | apply pw_below_drewN | apply below_drew1 | refine below_set ?_ GE135.out) | exact HB.out)) hb); clear HO142; clear BK135; clear HB; have HO142 := n0_; have BK135 := n1_; have HB := n2_; clear n0_ n1_ n2_; (try clear hb); (try clear hb2); (try clear hk); (try clear hi)) | (go_at_call 23; (with_reducible refine (marchlandref10_Fair.calls k _ _ lt6 (wrap64 (Int.tmod (IntKind.u64.wrap (a1_0)) 9)) a1_1 t145 _ ?side1 ?side2 A20.out).mono ?_); (case side1 => repeat (first | exact (Kd.C_below HR136.out HB.out) | (with_reducible refine Kd.C_alloc ?_ _) | (with_reducible refine Kd.C_drewN ?_ _) | (with_reducible refine Kd.C_drew ?_))); (case side2 => exact HC136.out); rintro e w' ⟨rfl, ⟨nd, rfl⟩⟩; (try first | exact ⟨rfl, _, World.drewN_drewN _ _ _⟩ | exact ⟨rfl, _, Eq.trans (World.drewN_drewN _ _ _) (congrArg (World.drewN _) (Nat.add_assoc _ _ _))⟩)) | (go_at_call 19; (with_reducible refine (marchlandlaw10_Ints.calls k _ _ y140 _ _ lt6 t146 _ ?side1 ?side2 ?side3 ?side4 A23.out).mono ?_); (case side1 => repeat (first | exact (Kd.R_reads' HO142.out).2.2 | (with_reducible refine Kd.C_alloc ?_ _) | (with_reducible refine Kd.C_drewN ?_ _) | (with_reducible refine Kd.C_drew ?_))); (case side2 => exact (Kd.R_reads' HO142.out).2.1); (case side3 => repeat (first | exact (Kd.C_below HR136.out (by repeat (first | (with_reducible first | exact HB.out | apply below_alloc | apply pw_below_drewN | apply below_drew1 | refine below_set ?_ GE135.out) | exact HB.out))) | (with_reducible refine Kd.C_alloc ?_ _) | (with_reducible refine Kd.C_drewN ?_ _) | (with_reducible refine Kd.C_drew ?_))); (case side4 => exact HC136.out); rintro e w' ⟨rfl, ⟨nd, rfl⟩⟩; (try first | exact ⟨rfl, _, World.drewN_drewN _ _ _⟩ | exact ⟨rfl, _, Eq.trans (World.drewN_drewN _ _ _) (congrArg (World.drewN _) (Nat.add_assoc _ _ _))⟩))); try go_wp2_with (first | (go_at_call 16; (with_reducible refine (marchlandlaw10_told.calls k  true _ A18.out).mono ?_); rintro e w24 ⟨rfl, hb⟩; have n0_ := Aside0.mk (Kd.R_below (by (with_reducible repeat (first | apply Kd.R_alloc | apply Kd.R_drewN | apply Kd.R_drew)); exact HO142.out) hb); have n1_ := Aside0.mk (blk_below (g := gb135) (o := .cells #[.int .i64 a1_0, .int .i64 a1_1] 28 (0, 0)) (by (with_reducible repeat (first | refine blk_drewN ?_ _ | refine blk_drew ?_ | refine blk_alloc ?_ _)); exact BK135.out) hb); have n2_ := Aside0.mk (below_step (by repeat (first | (with_reducible first | exact HB.out | apply below_alloc | apply pw_below_drewN | apply below_drew1 | refine below_set ?_ GE135.out) | exact HB.out)) hb); clear HO142; clear BK135; clear HB; have HO142 := n0_; have BK135 := n1_; have HB := n2_; clear n0_ n1_ n2_; (try clear hb); (try clear hb2); (try clear hk); (try clear hi)) | (go_at_call 23; (with_reducible refine (marchlandref10_Fair.calls k _ _ lt6 (wrap64 (Int.tmod (IntKind.u64.wrap (a1_0)) 9)) a1_1 t145 _ ?side1 ?side2 A20.out).mono ?_); (case side1 => repeat (first | exact (Kd.C_below HR136.out HB.out) | (with_reducible refine Kd.C_alloc ?_ _) | (with_reducible refine Kd.C_drewN ?_ _) | (with_reducible refine Kd.C_drew ?_))); (case side2 => exact HC136.out); rintro e w' ⟨rfl, ⟨nd, rfl⟩⟩; (try first | exact ⟨rfl, _, World.drewN_drewN _ _ _⟩ | exact ⟨rfl, _, Eq.trans (World.drewN_drewN _ _ _) (congrArg (World.drewN _) (Nat.add_assoc _ _ _))⟩)) | (go_at_call 19; (with_reducible refine (marchlandlaw10_Ints.calls k _ _ y140 _ _ lt6 t146 _ ?side1 ?side2 ?side3 ?side4 A23.out).mono ?_); (case side1 => repeat (first | exact (Kd.R_reads' HO142.out).2.2 | (with_reducible refine Kd.C_alloc ?_ _) | (with_reducible refine Kd.C_drewN ?_ _) | (with_reducible refine Kd.C_drew ?_))); (case side2 => exact (Kd.R_reads' HO142.out).2.1); (case side3 => repeat (first | exact (Kd.C_below HR136.out (by repeat (first | (with_reducible first | exact HB.out | apply below_alloc | apply pw_below_drewN | apply below_drew1 | refine below_set ?_ GE135.out) | exact HB.out))) | (with_reducible refine Kd.C_alloc ?_ _) | (with_reducible refine Kd.C_drewN ?_ _) | (with_reducible refine Kd.C_drew ?_))); (case side4 => exact HC136.out); rintro e w' ⟨rfl, ⟨nd, rfl⟩⟩; (try first | exact ⟨rfl, _, World.drewN_drewN _ _ _⟩ | exact ⟨rfl, _, Eq.trans (World.drewN_drewN _ _ _) (congrArg (World.drewN _) (Nat.add_assoc _ _ _))⟩))))
              go_meet
              case rel => exact ⟨_, (!t146), (by first | rfl | (simp; done) | (simp [*]; done)), H', ⟨by first | omega | exact Nat.le_refl _⟩, ⟨by (with_reducible repeat (first | refine blk_drewN ?_ _ | refine blk_drew ?_ | refine blk_alloc ?_ _)); exact BK135.out⟩, ⟨by repeat (first | (with_reducible first | exact HB.out | apply below_alloc | apply pw_below_drewN | apply below_drew1 | refine below_set ?_ GE135.out) | exact HB.out)⟩⟩
          · replace c19 := Bool.eq_false_iff.mpr c19
            subst c19
            have H1 : (marchlandlaw10_PickFairs.j0 k lt6 a2 a1_1 (wrap64 (Int.tmod (IntKind.u64.wrap (a1_0)) 9)) t143 true) = some r := by rw [if_neg (show ¬ (false = true) by decide)] at H; exact H
            clear H
            have H := H1
            clear H1
            have H' := Aside0.mk H
            clear H
            go_wp2_with (first | (go_at_call 16; (with_reducible refine (marchlandlaw10_told.calls k  false _ A18.out).mono ?_); rintro e w25 ⟨rfl, hb⟩; have n0_ := Aside0.mk (Kd.R_below (by (with_reducible repeat (first | apply Kd.R_alloc | apply Kd.R_drewN | apply Kd.R_drew)); exact HO142.out) hb); have n1_ := Aside0.mk (blk_below (g := gb135) (o := .cells #[.int .i64 a1_0, .int .i64 a1_1] 28 (0, 0)) (by (with_reducible repeat (first | refine blk_drewN ?_ _ | refine blk_drew ?_ | refine blk_alloc ?_ _)); exact BK135.out) hb); have n2_ := Aside0.mk (below_step (by repeat (first | (with_reducible first | exact HB.out | apply below_alloc | apply pw_below_drewN | apply below_drew1 | refine below_set ?_ GE135.out) | exact HB.out)) hb); clear HO142; clear BK135; clear HB; have HO142 := n0_; have BK135 := n1_; have HB := n2_; clear n0_ n1_ n2_; (try clear hb); (try clear hb2); (try clear hk); (try clear hi)))
            repeat (go_quiet (first | (go_at_call 16; (with_reducible refine (marchlandlaw10_told.calls k  false _ A18.out).mono ?_); rintro e w25 ⟨rfl, hb⟩; have n0_ := Aside0.mk (Kd.R_below (by (with_reducible repeat (first | apply Kd.R_alloc | apply Kd.R_drewN | apply Kd.R_drew)); exact HO142.out) hb); have n1_ := Aside0.mk (blk_below (g := gb135) (o := .cells #[.int .i64 a1_0, .int .i64 a1_1] 28 (0, 0)) (by (with_reducible repeat (first | refine blk_drewN ?_ _ | refine blk_drew ?_ | refine blk_alloc ?_ _)); exact BK135.out) hb); have n2_ := Aside0.mk (below_step (by repeat (first | (with_reducible first | exact HB.out | apply below_alloc | apply pw_below_drewN | apply below_drew1 | refine below_set ?_ GE135.out) | exact HB.out)) hb); clear HO142; clear BK135; clear HB; have HO142 := n0_; have BK135 := n1_; have HB := n2_; clear n0_ n1_ n2_; (try clear hb); (try clear hb2); (try clear hk); (try clear hi))); try go_wp2_with (first | (go_at_call 16; (with_reducible refine (marchlandlaw10_told.calls k  false _ A18.out).mono ?_); rintro e w25 ⟨rfl, hb⟩; have n0_ := Aside0.mk (Kd.R_below (by (with_reducible repeat (first | apply Kd.R_alloc | apply Kd.R_drewN | apply Kd.R_drew)); exact HO142.out) hb); have n1_ := Aside0.mk (blk_below (g := gb135) (o := .cells #[.int .i64 a1_0, .int .i64 a1_1] 28 (0, 0)) (by (with_reducible repeat (first | refine blk_drewN ?_ _ | refine blk_drew ?_ | refine blk_alloc ?_ _)); exact BK135.out) hb); have n2_ := Aside0.mk (below_step (by repeat (first | (with_reducible first | exact HB.out | apply below_alloc | apply pw_below_drewN | apply below_drew1 | refine below_set ?_ GE135.out) | exact HB.out)) hb); clear HO142; clear BK135; clear HB; have HO142 := n0_; have BK135 := n1_; have HB := n2_; clear n0_ n1_ n2_; (try clear hb); (try clear hb2); (try clear hk); (try clear hi))))
            go_meet
            case rel => exact ⟨_, (true), (by first | rfl | (simp; done) | (simp [*]; done)), H', ⟨by first | omega | exact Nat.le_refl _⟩, ⟨by (with_reducible repeat (first | refine blk_drewN ?_ _ | refine blk_drew ?_ | refine blk_alloc ?_ _)); exact BK135.out⟩, ⟨by repeat (first | (with_reducible first | exact HB.out | apply below_alloc | apply pw_below_drewN | apply below_drew1 | refine below_set ?_ GE135.out) | exact HB.out)⟩⟩
        case rest =>
          clear HC9
          try clear c1
          try clear c2
          try clear p2
          try clear c4
          try clear c5
          try clear c5b0
          try clear c5b1
          try clear c6
          try clear c6b0
          try clear c6b1
          try clear p6
          try clear c7
          try clear c19
          try clear c21
          try clear c21b0
          try clear c21b1
          try clear c21b2
          try clear hcz11_0
          try clear hcz11_1
          try clear hfz11_0
          try clear hfz11_1
          obtain ⟨kq, x48_8, rfl, HA, HJ8, BK135, HB⟩ := hcut
          cases kq with
          | zero => exact absurd HA.out (by simp [marchlandlaw10_PickFairs.j0])
          | succ kj8 =>
            have H := HA.out
            clear HA
            simp only [marchlandlaw10_PickFairs.j0] at H
            by_cases c26 : x48_8 = true
            · subst c26
              have H1 : (some false) = some r := by rw [if_pos rfl] at H; exact H
              clear H
              have H := H1
              clear H1
              obtain rfl := Option.some.inj H
              go_wp2
              repeat (go_quiet (fail); try go_wp2)
              go_ret
              exact ⟨by first | rfl | (simp [errW_none, errW_some] <;> rfl) | (simp only [← hji4]; first | rfl | (simp [errW_none, errW_some] <;> rfl)) | (simp [*, errW_none, errW_some] <;> rfl), by repeat (first | (with_reducible first | exact HB.out | apply below_alloc | apply pw_below_drewN | apply below_drew1 | refine below_set ?_ GE135.out) | exact HB.out)⟩
            · replace c26 := Bool.eq_false_iff.mpr c26
              subst c26
              have H1 : (if t143 = true then (if a1_1 > 0 then (if a1_1 < 1000 then ((pick_Fair.f lt6 (wrap64 (Int.tmod (IntKind.u64.wrap (a1_0)) 9)) (wrap64 ((mn a1_1 1000) + (wrap64 (Int.tmod (IntKind.u64.wrap (a2)) 20))))).bind fun t147 => (marchlandlaw10_PickFairs.j1 kj8 (wrap64 (Int.tmod (IntKind.u64.wrap (a1_0)) 9)) (!t147))) else (marchlandlaw10_PickFairs.j1 kj8 (wrap64 (Int.tmod (IntKind.u64.wrap (a1_0)) 9)) false)) else (marchlandlaw10_PickFairs.j1 kj8 (wrap64 (Int.tmod (IntKind.u64.wrap (a1_0)) 9)) false)) else (marchlandlaw10_PickFairs.j1 kj8 (wrap64 (Int.tmod (IntKind.u64.wrap (a1_0)) 9)) false)) = some r := by rw [if_neg (show ¬ (false = true) by decide)] at H; exact H
              clear H
              have H := H1
              clear H1
              obtain ⟨ji27, hji27⟩ : ∃ j_ : Int, (mn a1_1 1000) = j_ := ⟨_, rfl⟩
              replace H : (if t143 = true then (if a1_1 > 0 then (if a1_1 < 1000 then ((pick_Fair.f lt6 (wrap64 (Int.tmod (IntKind.u64.wrap (a1_0)) 9)) (wrap64 ((ji27) + (wrap64 (Int.tmod (IntKind.u64.wrap (a2)) 20))))).bind fun t147 => (marchlandlaw10_PickFairs.j1 kj8 (wrap64 (Int.tmod (IntKind.u64.wrap (a1_0)) 9)) (!t147))) else (marchlandlaw10_PickFairs.j1 kj8 (wrap64 (Int.tmod (IntKind.u64.wrap (a1_0)) 9)) false)) else (marchlandlaw10_PickFairs.j1 kj8 (wrap64 (Int.tmod (IntKind.u64.wrap (a1_0)) 9)) false)) else (marchlandlaw10_PickFairs.j1 kj8 (wrap64 (Int.tmod (IntKind.u64.wrap (a1_0)) 9)) false)) = some r := by first | (rw [hji27] at H; exact H) | (simp only [hji27] at H ⊢; exact H)
              have hji27_ : (if 1000 < a1_1 then 1000 else a1_1) = ji27 := hji27
              have HC28 := Aside0.mk H
              clear H
              go_upto_region 9 with (fail)
              repeat (go_quiet (fail); go_upto_region 9 with (fail))
              go_cut [71] (fun v71 wc => ∃ (kq : Nat) (x71_27 : Bool), v71 = .bool x71_27 ∧ Aside0 (marchlandlaw10_PickFairs.j1 kq (wrap64 (Int.tmod (IntKind.u64.wrap (a1_0)) 9)) x71_27 = some r) ∧ Aside0 (kq ≤ kj8) ∧ Aside0 (wc.heap[gb135]? = some (.cells #[.int .i64 a1_0, .int .i64 a1_1] 28 (0, 0))) ∧ Aside0 (Below w.heap.size w wc))
              case first =>
                have H := HC28.out
                clear HC28
                by_cases c29 : t143 = true
                · subst c29
                  have H1 : (if a1_1 > 0 then (if a1_1 < 1000 then ((pick_Fair.f lt6 (wrap64 (Int.tmod (IntKind.u64.wrap (a1_0)) 9)) (wrap64 ((ji27) + (wrap64 (Int.tmod (IntKind.u64.wrap (a2)) 20))))).bind fun t147 => (marchlandlaw10_PickFairs.j1 kj8 (wrap64 (Int.tmod (IntKind.u64.wrap (a1_0)) 9)) (!t147))) else (marchlandlaw10_PickFairs.j1 kj8 (wrap64 (Int.tmod (IntKind.u64.wrap (a1_0)) 9)) false)) else (marchlandlaw10_PickFairs.j1 kj8 (wrap64 (Int.tmod (IntKind.u64.wrap (a1_0)) 9)) false)) = some r := by rw [if_pos rfl] at H; exact H
                  clear H
                  have H := H1
                  clear H1
                  by_cases c30 : a1_1 > 0
                  · rw [if_pos c30] at H
                    have c30b0 : decide (0 < a1_1) = true := decide_eq_true c30
                    clear c30
                    (first | rw [c30b0] | (simp only [i64_w, i32_w]; rw [c30b0]) | skip)
                    by_cases c31 : a1_1 < 1000
                    · rw [if_pos c31] at H
                      have c31b0 : decide (a1_1 < 1000) = true := decide_eq_true c31
                      clear c31
                      replace H := Option.bind_eq_some_iff.mp H
                      obtain ⟨t147, A320, H⟩ := H
                      replace H : (marchlandlaw10_PickFairs.j1 kj8 (wrap64 (Int.tmod (IntKind.u64.wrap (a1_0)) 9)) (!t147)) = some r := H
                      have A32 := Aside0.mk A320
                      clear A320
                      have H' := Aside0.mk H
                      clear H
                      go_wp2_with (first | (go_at_call 22; (with_reducible refine (pick_Fair.calls _ _ lt6 (wrap64 (Int.tmod (IntKind.u64.wrap (a1_0)) 9)) (wrap64 ((ji27) + (wrap64 (Int.tmod (IntKind.u64.wrap (a2)) 20)))) t147 _ ?side1 ?side2 A32.out).mono ?_); (case side1 => repeat (first | exact (Kd.C_below HR136.out HB.out) | (with_reducible refine Kd.C_alloc ?_ _) | (with_reducible refine Kd.C_drewN ?_ _) | (with_reducible refine Kd.C_drew ?_))); (case side2 => exact HC136.out); rintro e w33 ⟨rfl, hb⟩; have n0_ := Aside0.mk (blk_below (g := gb135) (o := .cells #[.int .i64 a1_0, .int .i64 a1_1] 28 (0, 0)) (by (with_reducible repeat (first | refine blk_drewN ?_ _ | refine blk_drew ?_ | refine blk_alloc ?_ _)); exact BK135.out) hb); have n1_ := Aside0.mk (below_step (by repeat (first | (with_reducible first | exact HB.out | apply below_alloc | apply pw_below_drewN | apply below_drew1 | refine below_set ?_ GE135.out) | exact HB.out)) hb); clear BK135; clear HB; have BK135 := n0_; have HB := n1_; clear n0_ n1_; (try clear hb); (try clear hb2); (try clear hk); (try clear hi)))
                      repeat (go_quiet (first | (go_at_call 22; (with_reducible refine (pick_Fair.calls _ _ lt6 (wrap64 (Int.tmod (IntKind.u64.wrap (a1_0)) 9)) (wrap64 ((ji27) + (wrap64 (Int.tmod (IntKind.u64.wrap (a2)) 20)))) t147 _ ?side1 ?side2 A32.out).mono ?_); (case side1 => repeat (first | exact (Kd.C_below HR136.out HB.out) | (with_reducible refine Kd.C_alloc ?_ _) | (with_reducible refine Kd.C_drewN ?_ _) | (with_reducible refine Kd.C_drew ?_))); (case side2 => exact HC136.out); rintro e w33 ⟨rfl, hb⟩; have n0_ := Aside0.mk (blk_below (g := gb135) (o := .cells #[.int .i64 a1_0, .int .i64 a1_1] 28 (0, 0)) (by (with_reducible repeat (first | refine blk_drewN ?_ _ | refine blk_drew ?_ | refine blk_alloc ?_ _)); exact BK135.out) hb); have n1_ := Aside0.mk (below_step (by repeat (first | (with_reducible first | exact HB.out | apply below_alloc | apply pw_below_drewN | apply below_drew1 | refine below_set ?_ GE135.out) | exact HB.out)) hb); clear BK135; clear HB; have BK135 := n0_; have HB := n1_; clear n0_ n1_; (try clear hb); (try clear hb2); (try clear hk); (try clear hi))); try go_wp2_with (first | (go_at_call 22; (with_reducible refine (pick_Fair.calls _ _ lt6 (wrap64 (Int.tmod (IntKind.u64.wrap (a1_0)) 9)) (wrap64 ((ji27) + (wrap64 (Int.tmod (IntKind.u64.wrap (a2)) 20)))) t147 _ ?side1 ?side2 A32.out).mono ?_); (case side1 => repeat (first | exact (Kd.C_below HR136.out HB.out) | (with_reducible refine Kd.C_alloc ?_ _) | (with_reducible refine Kd.C_drewN ?_ _) | (with_reducible refine Kd.C_drew ?_))); (case side2 => exact HC136.out); rintro e w33 ⟨rfl, hb⟩; have n0_ := Aside0.mk (blk_below (g := gb135) (o := .cells #[.int .i64 a1_0, .int .i64 a1_1] 28 (0, 0)) (by (with_reducible repeat (first | refine blk_drewN ?_ _ | refine blk_drew ?_ | refine blk_alloc ?_ _)); exact BK135.out) hb); have n1_ := Aside0.mk (below_step (by repeat (first | (with_reducible first | exact HB.out | apply below_alloc | apply pw_below_drewN | apply below_drew1 | refine below_set ?_ GE135.out) | exact HB.out)) hb); clear BK135; clear HB; have BK135 := n0_; have HB := n1_; clear n0_ n1_; (try clear hb); (try clear hb2); (try clear hk); (try clear hi))))
                      go_meet
                      case rel => exact ⟨_, (!t147), (by first | rfl | (simp; done) | (simp [*]; done)), H', ⟨by have := HJ8.out; first | omega | exact Nat.le_refl _⟩, ⟨by (with_reducible repeat (first | refine blk_drewN ?_ _ | refine blk_drew ?_ | refine blk_alloc ?_ _)); exact BK135.out⟩, ⟨by repeat (first | (with_reducible first | exact HB.out | apply below_alloc | apply pw_below_drewN | apply below_drew1 | refine below_set ?_ GE135.out) | exact HB.out)⟩⟩
                    · rw [if_neg c31] at H
                      have c31b0 : decide (a1_1 < 1000) = false := decide_eq_false c31
                      clear c31
                      have H' := Aside0.mk H
                      clear H
                      go_wp2
                      repeat (go_quiet (fail); try go_wp2)
                      go_meet
                      case rel => exact ⟨_, (false), (by first | rfl | (simp; done) | (simp [*]; done)), H', ⟨by have := HJ8.out; first | omega | exact Nat.le_refl _⟩, ⟨by (with_reducible repeat (first | refine blk_drewN ?_ _ | refine blk_drew ?_ | refine blk_alloc ?_ _)); exact BK135.out⟩, ⟨by repeat (first | (with_reducible first | exact HB.out | apply below_alloc | apply pw_below_drewN | apply below_drew1 | refine below_set ?_ GE135.out) | exact HB.out)⟩⟩
                  · rw [if_neg c30] at H
                    have c30b0 : decide (0 < a1_1) = false := decide_eq_false c30
                    clear c30
                    (first | rw [c30b0] | (simp only [i64_w, i32_w]; rw [c30b0]) | skip)
                    have H' := Aside0.mk H
                    clear H
                    go_wp2
                    repeat (go_quiet (fail); try go_wp2)
                    go_meet
                    case rel => exact ⟨_, (false), (by first | rfl | (simp; done) | (simp [*]; done)), H', ⟨by have := HJ8.out; first | omega | exact Nat.le_refl _⟩, ⟨by (with_reducible repeat (first | refine blk_drewN ?_ _ | refine blk_drew ?_ | refine blk_alloc ?_ _)); exact BK135.out⟩, ⟨by repeat (first | (with_reducible first | exact HB.out | apply below_alloc | apply pw_below_drewN | apply below_drew1 | refine below_set ?_ GE135.out) | exact HB.out)⟩⟩
                · replace c29 := Bool.eq_false_iff.mpr c29
                  subst c29
                  have H1 : (marchlandlaw10_PickFairs.j1 kj8 (wrap64 (Int.tmod (IntKind.u64.wrap (a1_0)) 9)) false) = some r := by rw [if_neg (show ¬ (false = true) by decide)] at H; exact H
                  clear H
                  have H := H1
                  clear H1
                  have H' := Aside0.mk H
                  clear H
                  go_wp2
                  repeat (go_quiet (fail); try go_wp2)
                  go_meet
                  case rel => exact ⟨_, (false), (by first | rfl | (simp; done) | (simp [*]; done)), H', ⟨by have := HJ8.out; first | omega | exact Nat.le_refl _⟩, ⟨by (with_reducible repeat (first | refine blk_drewN ?_ _ | refine blk_drew ?_ | refine blk_alloc ?_ _)); exact BK135.out⟩, ⟨by repeat (first | (with_reducible first | exact HB.out | apply below_alloc | apply pw_below_drewN | apply below_drew1 | refine below_set ?_ GE135.out) | exact HB.out)⟩⟩
              case rest =>
                clear HC28
                try clear c1
                try clear c2
                try clear p2
                try clear c3
                try clear c4
                try clear c5
                try clear c5b0
                try clear c5b1
                try clear c6
                try clear c6b0
                try clear c6b1
                try clear p6
                try clear c7
                try clear c19
                try clear c21
                try clear c21b0
                try clear c21b1
                try clear c21b2
                try clear c26
                try clear c29
                try clear c30
                try clear c30b0
                try clear c31
                try clear c31b0
                try clear hcz11_0
                try clear hcz11_1
                try clear hfz11_0
                try clear hfz11_1
                try clear p2
                try clear p6
                obtain ⟨kq, x71_27, rfl, HA, HJ27, BK135, HB⟩ := hcut
                cases kq with
                | zero => exact absurd HA.out (by simp [marchlandlaw10_PickFairs.j1])
                | succ kj27 =>
                  have H := HA.out
                  clear HA
                  simp only [marchlandlaw10_PickFairs.j1] at H
                  by_cases c34 : x71_27 = true
                  · subst c34
                    have H1 : (some false) = some r := by rw [if_pos rfl] at H; exact H
                    clear H
                    have H := H1
                    clear H1
                    obtain rfl := Option.some.inj H
                    go_wp2
                    repeat (go_quiet (fail); try go_wp2)
                    go_ret
                    exact ⟨by first | rfl | (simp [errW_none, errW_some] <;> rfl) | (simp only [← hji4, ← hji27]; first | rfl | (simp [errW_none, errW_some] <;> rfl)) | (simp [*, errW_none, errW_some] <;> rfl), by repeat (first | (with_reducible first | exact HB.out | apply below_alloc | apply pw_below_drewN | apply below_drew1 | refine below_set ?_ GE135.out) | exact HB.out)⟩
                  · replace c34 := Bool.eq_false_iff.mpr c34
                    subst c34
                    have H1 : (if (wrap64 (Int.tmod (IntKind.u64.wrap (a1_0)) 9)) < 1 then (some true) else ((pick_Turns.f kj27 (wrap64 (Int.tmod (IntKind.u64.wrap (a1_0)) 9)) 40).bind fun t148 => ((pick_Fair.f t148 (wrap64 (Int.tmod (IntKind.u64.wrap (a1_0)) 9)) (wrap64 (Int.tmod (IntKind.u64.wrap (a1_0)) 9))).bind fun t151 => (some t151)))) = some r := by rw [if_neg (show ¬ (false = true) by decide)] at H; exact H
                    clear H
                    have H := H1
                    clear H1
                    by_cases c35 : (wrap64 (Int.tmod (IntKind.u64.wrap (a1_0)) 9)) < 1
                    · rw [if_pos c35] at H
                      have c35b0 : decide ((wrap64 (Int.tmod (IntKind.u64.wrap (a1_0)) 9)) < 1) = true := decide_eq_true c35
                      clear c35
                      obtain rfl := Option.some.inj H
                      go_wp2
                      repeat (go_quiet (fail); try go_wp2)
                      go_ret
                      exact ⟨by first | rfl | (simp [errW_none, errW_some] <;> rfl) | (simp only [← hji4, ← hji27]; first | rfl | (simp [errW_none, errW_some] <;> rfl)) | (simp [*, errW_none, errW_some] <;> rfl), by repeat (first | (with_reducible first | exact HB.out | apply below_alloc | apply pw_below_drewN | apply below_drew1 | refine below_set ?_ GE135.out) | exact HB.out)⟩
                    · rw [if_neg c35] at H
                      have c35b0 : decide ((wrap64 (Int.tmod (IntKind.u64.wrap (a1_0)) 9)) < 1) = false := decide_eq_false c35
                      clear c35
                      replace H := Option.bind_eq_some_iff.mp H
                      obtain ⟨t148, A360, H⟩ := H
                      replace H : ((pick_Fair.f t148 (wrap64 (Int.tmod (IntKind.u64.wrap (a1_0)) 9)) (wrap64 (Int.tmod (IntKind.u64.wrap (a1_0)) 9))).bind fun t151 => (some t151)) = some r := H
                      have A36 := Aside0.mk A360
                      clear A360
                      replace H := Option.bind_eq_some_iff.mp H
                      obtain ⟨t151, A370, H⟩ := H
                      replace H : (some t151) = some r := H
                      have A37 := Aside0.mk A370
                      clear A370
                      obtain rfl := Option.some.inj H
                      go_wp2_with (first | (go_at_call 20; (with_reducible refine (pick_Turns.calls kj27 (wrap64 (Int.tmod (IntKind.u64.wrap (a1_0)) 9)) 40 t148 _ A36.out).mono ?_); rintro e w38 ⟨v149, rfl, ho0, hb⟩; have n0_ := Aside0.mk (Kd.R_lower ho0 (below_size (by repeat (first | (with_reducible first | exact HB.out | apply below_alloc | apply pw_below_drewN | apply below_drew1 | refine below_set ?_ GE135.out) | exact HB.out)))); have n1_ := Aside0.mk (blk_below (g := gb135) (o := .cells #[.int .i64 a1_0, .int .i64 a1_1] 28 (0, 0)) (by (with_reducible repeat (first | refine blk_drewN ?_ _ | refine blk_drew ?_ | refine blk_alloc ?_ _)); exact BK135.out) hb); have n2_ := Aside0.mk (below_step (by repeat (first | (with_reducible first | exact HB.out | apply below_alloc | apply pw_below_drewN | apply below_drew1 | refine below_set ?_ GE135.out) | exact HB.out)) hb); clear BK135; clear HB; have HO150 := n0_; have BK135 := n1_; have HB := n2_; clear n0_ n1_ n2_; (try clear hb); (try clear hb2); (try clear hk); (try clear hi); (try clear ho0); obtain ⟨Ao39, co39, eo39⟩ := Kd.R_slice HO150.out; subst eo39) | (go_at_call 22; (with_reducible refine (pick_Fair.calls _ _ t148 (wrap64 (Int.tmod (IntKind.u64.wrap (a1_0)) 9)) (wrap64 (Int.tmod (IntKind.u64.wrap (a1_0)) 9)) t151 _ ?side1 ?side2 A37.out).mono ?_); (case side1 => repeat (first | exact (Kd.R_reads' HO150.out).2.2 | (with_reducible refine Kd.C_alloc ?_ _) | (with_reducible refine Kd.C_drewN ?_ _) | (with_reducible refine Kd.C_drew ?_))); (case side2 => exact (Kd.R_reads' HO150.out).2.1); rintro e w40 ⟨rfl, hb⟩; have n0_ := Aside0.mk (Kd.R_below (by (with_reducible repeat (first | apply Kd.R_alloc | apply Kd.R_drewN | apply Kd.R_drew)); exact HO150.out) hb); have n1_ := Aside0.mk (blk_below (g := gb135) (o := .cells #[.int .i64 a1_0, .int .i64 a1_1] 28 (0, 0)) (by (with_reducible repeat (first | refine blk_drewN ?_ _ | refine blk_drew ?_ | refine blk_alloc ?_ _)); exact BK135.out) hb); have n2_ := Aside0.mk (below_step (by repeat (first | (with_reducible first | exact HB.out | apply below_alloc | apply pw_below_drewN | apply below_drew1 | refine below_set ?_ GE135.out) | exact HB.out)) hb); clear HO150; clear BK135; clear HB; have HO150 := n0_; have BK135 := n1_; have HB := n2_; clear n0_ n1_ n2_; (try clear hb); (try clear hb2); (try clear hk); (try clear hi)))
                      repeat (go_quiet (first | (go_at_call 20; (with_reducible refine (pick_Turns.calls kj27 (wrap64 (Int.tmod (IntKind.u64.wrap (a1_0)) 9)) 40 t148 _ A36.out).mono ?_); rintro e w38 ⟨v149, rfl, ho0, hb⟩; have n0_ := Aside0.mk (Kd.R_lower ho0 (below_size (by repeat (first | (with_reducible first | exact HB.out | apply below_alloc | apply pw_below_drewN | apply below_drew1 | refine below_set ?_ GE135.out) | exact HB.out)))); have n1_ := Aside0.mk (blk_below (g := gb135) (o := .cells #[.int .i64 a1_0, .int .i64 a1_1] 28 (0, 0)) (by (with_reducible repeat (first | refine blk_drewN ?_ _ | refine blk_drew ?_ | refine blk_alloc ?_ _)); exact BK135.out) hb); have n2_ := Aside0.mk (below_step (by repeat (first | (with_reducible first | exact HB.out | apply below_alloc | apply pw_below_drewN | apply below_drew1 | refine below_set ?_ GE135.out) | exact HB.out)) hb); clear BK135; clear HB; have HO150 := n0_; have BK135 := n1_; have HB := n2_; clear n0_ n1_ n2_; (try clear hb); (try clear hb2); (try clear hk); (try clear hi); (try clear ho0); obtain ⟨Ao39, co39, eo39⟩ := Kd.R_slice HO150.out; subst eo39) | (go_at_call 22; (with_reducible refine (pick_Fair.calls _ _ t148 (wrap64 (Int.tmod (IntKind.u64.wrap (a1_0)) 9)) (wrap64 (Int.tmod (IntKind.u64.wrap (a1_0)) 9)) t151 _ ?side1 ?side2 A37.out).mono ?_); (case side1 => repeat (first | exact (Kd.R_reads' HO150.out).2.2 | (with_reducible refine Kd.C_alloc ?_ _) | (with_reducible refine Kd.C_drewN ?_ _) | (with_reducible refine Kd.C_drew ?_))); (case side2 => exact (Kd.R_reads' HO150.out).2.1); rintro e w40 ⟨rfl, hb⟩; have n0_ := Aside0.mk (Kd.R_below (by (with_reducible repeat (first | apply Kd.R_alloc | apply Kd.R_drewN | apply Kd.R_drew)); exact HO150.out) hb); have n1_ := Aside0.mk (blk_below (g := gb135) (o := .cells #[.int .i64 a1_0, .int .i64 a1_1] 28 (0, 0)) (by (with_reducible repeat (first | refine blk_drewN ?_ _ | refine blk_drew ?_ | refine blk_alloc ?_ _)); exact BK135.out) hb); have n2_ := Aside0.mk (below_step (by repeat (first | (with_reducible first | exact HB.out | apply below_alloc | apply pw_below_drewN | apply below_drew1 | refine below_set ?_ GE135.out) | exact HB.out)) hb); clear HO150; clear BK135; clear HB; have HO150 := n0_; have BK135 := n1_; have HB := n2_; clear n0_ n1_ n2_; (try clear hb); (try clear hb2); (try clear hk); (try clear hi))); try go_wp2_with (first | (go_at_call 20; (with_reducible refine (pick_Turns.calls kj27 (wrap64 (Int.tmod (IntKind.u64.wrap (a1_0)) 9)) 40 t148 _ A36.out).mono ?_); rintro e w38 ⟨v149, rfl, ho0, hb⟩; have n0_ := Aside0.mk (Kd.R_lower ho0 (below_size (by repeat (first | (with_reducible first | exact HB.out | apply below_alloc | apply pw_below_drewN | apply below_drew1 | refine below_set ?_ GE135.out) | exact HB.out)))); have n1_ := Aside0.mk (blk_below (g := gb135) (o := .cells #[.int .i64 a1_0, .int .i64 a1_1] 28 (0, 0)) (by (with_reducible repeat (first | refine blk_drewN ?_ _ | refine blk_drew ?_ | refine blk_alloc ?_ _)); exact BK135.out) hb); have n2_ := Aside0.mk (below_step (by repeat (first | (with_reducible first | exact HB.out | apply below_alloc | apply pw_below_drewN | apply below_drew1 | refine below_set ?_ GE135.out) | exact HB.out)) hb); clear BK135; clear HB; have HO150 := n0_; have BK135 := n1_; have HB := n2_; clear n0_ n1_ n2_; (try clear hb); (try clear hb2); (try clear hk); (try clear hi); (try clear ho0); obtain ⟨Ao39, co39, eo39⟩ := Kd.R_slice HO150.out; subst eo39) | (go_at_call 22; (with_reducible refine (pick_Fair.calls _ _ t148 (wrap64 (Int.tmod (IntKind.u64.wrap (a1_0)) 9)) (wrap64 (Int.tmod (IntKind.u64.wrap (a1_0)) 9)) t151 _ ?side1 ?side2 A37.out).mono ?_); (case side1 => repeat (first | exact (Kd.R_reads' HO150.out).2.2 | (with_reducible refine Kd.C_alloc ?_ _) | (with_reducible refine Kd.C_drewN ?_ _) | (with_reducible refine Kd.C_drew ?_))); (case side2 => exact (Kd.R_reads' HO150.out).2.1); rintro e w40 ⟨rfl, hb⟩; have n0_ := Aside0.mk (Kd.R_below (by (with_reducible repeat (first | apply Kd.R_alloc | apply Kd.R_drewN | apply Kd.R_drew)); exact HO150.out) hb); have n1_ := Aside0.mk (blk_below (g := gb135) (o := .cells #[.int .i64 a1_0, .int .i64 a1_1] 28 (0, 0)) (by (with_reducible repeat (first | refine blk_drewN ?_ _ | refine blk_drew ?_ | refine blk_alloc ?_ _)); exact BK135.out) hb); have n2_ := Aside0.mk (below_step (by repeat (first | (with_reducible first | exact HB.out | apply below_alloc | apply pw_below_drewN | apply below_drew1 | refine below_set ?_ GE135.out) | exact HB.out)) hb); clear HO150; clear BK135; clear HB; have HO150 := n0_; have BK135 := n1_; have HB := n2_; clear n0_ n1_ n2_; (try clear hb); (try clear hb2); (try clear hk); (try clear hi))))
                      go_ret
                      exact ⟨by first | rfl | (simp [errW_none, errW_some] <;> rfl) | (simp only [← hji4, ← hji27]; first | rfl | (simp [errW_none, errW_some] <;> rfl)) | (simp [*, errW_none, errW_some] <;> rfl), by repeat (first | (with_reducible first | exact HB.out | apply below_alloc | apply pw_below_drewN | apply below_drew1 | refine below_set ?_ GE135.out) | exact HB.out)⟩
      · rw [if_neg c7] at H
        exact absurd H (by simp)
    · rw [if_neg c6] at H
      exact absurd H (by simp)
  · rw [if_neg c5] at H
    exact absurd H (by simp)

end Go.Proofs.Ytlcnckbmolefpaa.P
end
section
-- Printed by the session's own turn of the print (wip/tools/print2.sh): some callees are proved by hand.
namespace Go.Proofs.Ytlcnckbmolefpaa.P
open Go.RowKit Go.Proofs.YtlcnckbmolefpaaW.PrintWords Go.Proofs.YtlcnckbmolefpaaW.PrintLast Go.Proofs.YtlcnckbmolefpaaW.PrintMore
attribute [local go_sem] max2_int min2_int max_two min_two max_three min_three max_four min_four   -- for this text's walks alone
set_option linter.unusedVariables false
set_option linter.unusedSimpArgs false

/-! ### marchlandref10_Turns: function 21 -/
def marchlandref10_Turns.l0 : Nat → Int → Int → List Int → Int → Option (List Int)
  | 0, _, _, _, _ => none
  | k + 1, x0, x1, x5, x6 => if x6 < x1 then (if x0 > 0 then (if x0 = 0 then (none) else (if x5.length < 17592186044416 then (marchlandref10_Turns.l0 k x0 x1 (x5 ++ [Int.tmod x6 x0]) (wrap64 (x6 + 1))) else (none))) else (some x5)) else (some x5)
def marchlandref10_Turns.f (k : Nat) (a0 : Int) (a1 : Int) : Option (List Int) := marchlandref10_Turns.l0 k a0 a1 ([] : List Int) 0
theorem marchlandref10_Turns.mono_l : ∀ k, (∀ y0 y1 y2 y3, LeO (marchlandref10_Turns.l0 k y0 y1 y2 y3) (marchlandref10_Turns.l0 (k + 1) y0 y1 y2 y3))
  | 0 => fun _ _ _ _ r h => by simp [marchlandref10_Turns.l0] at h
  | k + 1 => by
    have ih0 := marchlandref10_Turns.mono_l k
    · intro y0 y1 y2 y3
      unfold marchlandref10_Turns.l0
      repeat' first
      | (with_reducible exact ih0 _ _ _ _)
      | (with_reducible exact LeO.refl _)
      | (with_reducible exact LeO.none _)
      | (with_reducible refine LeO.ite ?_ ?_)
      | (with_reducible refine LeO.bind ?_ (fun _ => ?_))
      | exact ih0 _ _ _ _
      | exact LeO.none _
      | refine LeO.ite ?_ ?_
      | refine LeO.bind ?_ (fun _ => ?_)
theorem marchlandref10_Turns.mono : ∀ a0 a1 k, LeO (marchlandref10_Turns.f k a0 a1) (marchlandref10_Turns.f (k + 1) a0 a1) := by
  intro a0 a1 k
  have ih0 := marchlandref10_Turns.mono_l k
  unfold marchlandref10_Turns.f
  repeat' first
      | (with_reducible exact ih0 _ _ _ _)
      | (with_reducible exact LeO.refl _)
      | (with_reducible exact LeO.none _)
      | (with_reducible refine LeO.ite ?_ ?_)
      | (with_reducible refine LeO.bind ?_ (fun _ => ?_))
      | exact ih0 _ _ _ _
      | exact LeO.none _
      | refine LeO.ite ?_ ?_
      | refine LeO.bind ?_ (fun _ => ?_)
set_option maxHeartbeats 8000000 in
set_option maxRecDepth 100000 in
theorem marchlandref10_Turns.calls (k : Nat) (a0 : Int) (a1 : Int) (r : List Int) (w : World) (h : marchlandref10_Turns.f k a0 a1 = some r) :
    Calls Try.prog 21 #[.int .i64 a0, .int .i64 a1] w fun e w' => ∃ v0_ : Value, e = .returned (v0_) ∧ Kd.R (Kd.int .i64) 3 w' w.heap.size (fun _ => True) v0_ r ∧ Below w.heap.size w w' := by
  have HB := Aside0.mk (Below.refl w.heap.size w)
  have H : (marchlandref10_Turns.l0 k a0 a1 ([] : List Int) 0) = some r := h
  clear h
  have H' := Aside0.mk H
  clear H
  go_enter Try.func21, Try.ntmps21
  go_wp2
  go_loopg [5, 6] k (fun kq v5 v6 w' => ∃ (x5_1 : List Int) (x6_1 : Int), v6 = .int .i64 x6_1 ∧ Aside0 (marchlandref10_Turns.l0 kq a0 a1 x5_1 x6_1 = some r) ∧ Aside0 (kq ≤ k) ∧ Aside0 (Kd.R (Kd.int .i64) 3 w' w.heap.size (fun _ => True) v5 x5_1) ∧ Aside0 (Below w.heap.size w w'))
  case atStart => exact ⟨(([] : List Int)), (0), (by first | rfl | (simp; done) | (simp [*]; done)), H', ⟨Nat.le_refl _⟩, ⟨by first | exact Kd.R_nil _ _ _ _ _ | exact Kd.N_nil _ _ _ _ _ | exact Kd.V_nil _ _ _ _ _ | exact Kd.Q_nil _ _ _ _ _ | exact Kd.S_nil _ _ _ _ _⟩, ⟨by repeat (first | (with_reducible first | exact HB.out | apply below_alloc | apply pw_below_drewN | apply below_drew1) | exact HB.out)⟩⟩
  case round =>
    clear H'
    try clear c2
    try clear p2
    obtain ⟨x5_1, x6_1, rfl, HA, HK1, HO_5, HB⟩ := hrel
    cases gk with
    | zero => exact absurd HA.out (by simp [marchlandref10_Turns.l0])
    | succ k1 =>
      have H := HA.out
      clear HA
      simp only [marchlandref10_Turns.l0] at H
      by_cases c3 : x6_1 < a1
      · rw [if_pos c3] at H
        have c3b0 : decide (x6_1 < a1) = true := decide_eq_true c3
        clear c3
        by_cases c4 : a0 > 0
        · rw [if_pos c4] at H
          have c4b0 : decide (0 < a0) = true := decide_eq_true c4
          clear c4
          by_cases c5 : a0 = 0
          · rw [if_pos c5] at H
            exact absurd H (by simp)
          · rw [if_neg c5] at H
            have c5b0 : (a0 == 0) = false := beq_eq_false_iff_ne.mpr c5
            have c5b1 : (a0 != 0) = true := bne_iff_ne.mpr c5
            by_cases c6 : x5_1.length < 17592186044416
            · rw [if_pos c6] at H
              have LMc6 := Aside0.mk c6
              clear c6
              obtain ⟨y120, hy120⟩ : ∃ y_ : List Int, y_ = (x5_1 ++ [Int.tmod x6_1 a0]) := ⟨_, rfl⟩
              replace H : (marchlandref10_Turns.l0 k1 a0 a1 y120 (wrap64 (x6_1 + 1))) = some r := by first | (rw [hy120]; with_reducible exact H) | (have H2_ := (Option.bind_some _ _).symm.trans H; rw [hy120]; with_reducible exact H2_) | (have H2_ := (Option.bind_some _ _).symm.trans H; with_reducible exact H2_) | with_reducible exact H | (rw [hy120]; exact H) | exact H
              have Ny120 := Aside0.mk hy120
              clear hy120
              have H' := Aside0.mk H
              clear H
              go_wp2_with (first | ((with_reducible refine gate_builtin (b := .append) (xs := #[.tmp 16, .tmp 20]) rfl ?_); at_builtin; refine Kd.R_append (Kd.int .i64) (w0 := w) w.heap.size rfl (.tmp 16) (.tmp 20) 25 3 (.int .i64 0) 8 rfl Try.underlying25 info3 rfl (by decide) (by omega) u5 x5_1 (Int.tmod x6_1 a0) [.int .i64 (Int.tmod x6_1 a0)] (fun _ => True) (fun _ => False) rfl rfl ?aP (fun _ hk => hk.elim) ?aF ?aO ?aB ?aS ?aL ?_; (case aP => exact rfl); (case aB => exact (by repeat (first | (with_reducible first | exact HB.out | apply below_alloc | apply pw_below_drewN | apply below_drew1) | exact HB.out))); (case aF => exact (fun _ _ => trivial)); (case aO => exact (by (with_reducible repeat (first | apply Kd.R_alloc | apply Kd.R_drewN | apply Kd.R_drew)); exact HO_5.out)); (case aS => exact (below_size (by repeat (first | (with_reducible first | exact HB.out | apply below_alloc | apply pw_below_drewN | apply below_drew1) | exact HB.out)))); (case aL => have := LMc6.out; omega); intro v121 w7 ho hb hg hat; rw [← Ny120.out] at ho; have n0_ := Aside0.mk (hb); have n1_ := Aside0.mk (ho); clear HB; clear HO_5; have HB := n0_; have HO122 := n1_; clear n0_ n1_; clear ho hb hg hat))
              go_roundg k1
              case measure => have := HK1.out; omega
              case rel => exact ⟨(y120), (wrap64 (x6_1 + 1)), (by first | rfl | (simp; done) | (simp [*]; done)), H', ⟨by have := HK1.out; omega⟩, ⟨by (with_reducible repeat (first | apply Kd.R_alloc | apply Kd.R_drewN | apply Kd.R_drew)); exact HO122.out⟩, ⟨by repeat (first | (with_reducible first | exact HB.out | apply below_alloc | apply pw_below_drewN | apply below_drew1) | exact HB.out)⟩⟩
            · rw [if_neg c6] at H
              exact absurd H (by simp)
        · rw [if_neg c4] at H
          have c4b0 : decide (0 < a0) = false := decide_eq_false c4
          clear c4
          obtain rfl := Option.some.inj H
          go_wp2
          go_ret
          exact ⟨_, by first | rfl | (simp [errW_none, errW_some] <;> rfl) | (simp [*, errW_none, errW_some] <;> rfl), by (with_reducible repeat (first | apply Kd.R_alloc | apply Kd.R_drewN | apply Kd.R_drew)); exact HO_5.out, by repeat (first | (with_reducible first | exact HB.out | apply below_alloc | apply pw_below_drewN | apply below_drew1) | exact HB.out)⟩
      · rw [if_neg c3] at H
        have c3b0 : decide (x6_1 < a1) = false := decide_eq_false c3
        clear c3
        obtain rfl := Option.some.inj H
        go_wp2
        go_ret
        exact ⟨_, by first | rfl | (simp [errW_none, errW_some] <;> rfl) | (simp [*, errW_none, errW_some] <;> rfl), by (with_reducible repeat (first | apply Kd.R_alloc | apply Kd.R_drewN | apply Kd.R_drew)); exact HO_5.out, by repeat (first | (with_reducible first | exact HB.out | apply below_alloc | apply pw_below_drewN | apply below_drew1) | exact HB.out)⟩

end Go.Proofs.Ytlcnckbmolefpaa.P
end
section
-- Printed by the session's own turn of the print (wip/tools/print2.sh): some callees are proved by hand.
namespace Go.Proofs.Ytlcnckbmolefpaa.P
open Go.RowKit Go.Proofs.YtlcnckbmolefpaaW.PrintWords Go.Proofs.YtlcnckbmolefpaaW.PrintLast Go.Proofs.YtlcnckbmolefpaaW.PrintMore
attribute [local go_sem] max2_int min2_int max_two min_two max_three min_three max_four min_four   -- for this text's walks alone
set_option linter.unusedVariables false
set_option linter.unusedSimpArgs false

/-! ### marchlandlaw10_PickWhos: function 3 -/
def marchlandlaw10_PickWhos.j0 : Nat → Int → Int → Int → Option (Bool)
  | 0, _, _, _ => none
  | k + 1, x0, x1, x7 => (marchlandlaw10_told.f k).bind fun t123 => (if t123 = true then ((pick_Who.f x0 x1).bind fun t124 => ((marchlandref10_Who.f x0 x1).bind fun t125 => (if t124 = t125 then ((pick_Turns.f k x1 x7).bind fun t126 => ((marchlandref10_Turns.f k x1 x7).bind fun t129 => ((marchlandlaw10_Ints.f k t126 t129).bind fun t132 => (some t132)))) else (some false)))) else (some false))
def marchlandlaw10_PickWhos.f (k : Nat) (a0 : Int) (a1 : Int) (a2 : Int) : Option (Bool) := if a2 > 500 then (marchlandlaw10_PickWhos.j0 k a0 a1 (Int.tmod a2 500)) else (marchlandlaw10_PickWhos.j0 k a0 a1 a2)
theorem marchlandlaw10_PickWhos.mono_l : ∀ k, (∀ y0 y1 y2, LeO (marchlandlaw10_PickWhos.j0 k y0 y1 y2) (marchlandlaw10_PickWhos.j0 (k + 1) y0 y1 y2))
  | 0 => fun _ _ _ r h => by simp [marchlandlaw10_PickWhos.j0] at h
  | k + 1 => by
    have ih0 := marchlandlaw10_PickWhos.mono_l k
    · intro y0 y1 y2
      unfold marchlandlaw10_PickWhos.j0
      repeat' first
      | (with_reducible exact ih0 _ _ _)
      | (with_reducible exact marchlandlaw10_Ints.mono _ _ _)
      | (with_reducible exact marchlandlaw10_told.mono _)
      | (with_reducible exact marchlandref10_Turns.mono _ _ _)
      | (with_reducible exact pick_Turns.mono _ _ _)
      | (with_reducible exact LeO.refl _)
      | (with_reducible exact LeO.none _)
      | (with_reducible refine LeO.ite ?_ ?_)
      | (with_reducible refine LeO.bind ?_ (fun _ => ?_))
      | exact ih0 _ _ _
      | exact marchlandlaw10_Ints.mono _ _ _
      | exact marchlandlaw10_told.mono _
      | exact marchlandref10_Turns.mono _ _ _
      | exact pick_Turns.mono _ _ _
      | exact LeO.none _
      | refine LeO.ite ?_ ?_
      | refine LeO.bind ?_ (fun _ => ?_)
theorem marchlandlaw10_PickWhos.mono : ∀ a0 a1 a2 k, LeO (marchlandlaw10_PickWhos.f k a0 a1 a2) (marchlandlaw10_PickWhos.f (k + 1) a0 a1 a2) := by
  intro a0 a1 a2 k
  have ih0 := marchlandlaw10_PickWhos.mono_l k
  unfold marchlandlaw10_PickWhos.f
  repeat' first
      | (with_reducible exact ih0 _ _ _)
      | (with_reducible exact marchlandlaw10_Ints.mono _ _ _)
      | (with_reducible exact marchlandlaw10_told.mono _)
      | (with_reducible exact marchlandref10_Turns.mono _ _ _)
      | (with_reducible exact pick_Turns.mono _ _ _)
      | (with_reducible exact LeO.refl _)
      | (with_reducible exact LeO.none _)
      | (with_reducible refine LeO.ite ?_ ?_)
      | (with_reducible refine LeO.bind ?_ (fun _ => ?_))
      | exact ih0 _ _ _
      | exact marchlandlaw10_Ints.mono _ _ _
      | exact marchlandlaw10_told.mono _
      | exact marchlandref10_Turns.mono _ _ _
      | exact pick_Turns.mono _ _ _
      | exact LeO.none _
      | refine LeO.ite ?_ ?_
      | refine LeO.bind ?_ (fun _ => ?_)
set_option maxHeartbeats 8000000 in
set_option maxRecDepth 100000 in
theorem marchlandlaw10_PickWhos.calls (k : Nat) (a0 : Int) (a1 : Int) (a2 : Int) (r : Bool) (w : World) (h : marchlandlaw10_PickWhos.f k a0 a1 a2 = some r) :
    Calls Try.prog 3 #[.int .i64 a0, .int .i64 a1, .int .i64 a2] w fun e w' => e = .returned (.bool r) ∧ Below w.heap.size w w' := by
  have HB := Aside0.mk (Below.refl w.heap.size w)
  have H : (if a2 > 500 then (marchlandlaw10_PickWhos.j0 k a0 a1 (Int.tmod a2 500)) else (marchlandlaw10_PickWhos.j0 k a0 a1 a2)) = some r := h
  clear h
  have HC4 := Aside0.mk H
  clear H
  go_enter Try.func3, Try.ntmps3
  go_upto_if 10 with (fail)
  go_cut [7] (fun v7 wc => ∃ (kq : Nat) (x7_3 : Int), v7 = .int .i64 x7_3 ∧ Aside0 (marchlandlaw10_PickWhos.j0 kq a0 a1 x7_3 = some r) ∧ Aside0 (kq ≤ k) ∧ Aside0 (Below w.heap.size w wc))
  case first =>
    have H := HC4.out
    clear HC4
    by_cases c5 : a2 > 500
    · rw [if_pos c5] at H
      have c5b0 : decide (500 < a2) = true := decide_eq_true c5
      clear c5
      (first | rw [c5b0] | (simp only [i64_w, i32_w]; rw [c5b0]) | skip)
      have H' := Aside0.mk H
      clear H
      go_wp2
      go_meet
      case rel => exact ⟨_, (Int.tmod a2 500), (by first | rfl | (simp; done) | (simp [*]; done)), H', ⟨by first | omega | exact Nat.le_refl _⟩, ⟨by repeat (first | (with_reducible first | exact HB.out | apply below_alloc | apply pw_below_drewN | apply below_drew1) | exact HB.out)⟩⟩
    · rw [if_neg c5] at H
      have c5b0 : decide (500 < a2) = false := decide_eq_false c5
      clear c5
      (first | rw [c5b0] | (simp only [i64_w, i32_w]; rw [c5b0]) | skip)
      have H' := Aside0.mk H
      clear H
      go_wp2
      go_meet
      case rel => exact ⟨_, (a2), (by first | rfl | (simp; done) | (simp [*]; done)), H', ⟨by first | omega | exact Nat.le_refl _⟩, ⟨by repeat (first | (with_reducible first | exact HB.out | apply below_alloc | apply pw_below_drewN | apply below_drew1) | exact HB.out)⟩⟩
  case rest =>
    clear HC4
    try clear p2
    try clear c3
    try clear c5
    try clear c5b0
    obtain ⟨kq, x7_3, rfl, HA, HJ3, HB⟩ := hcut
    cases kq with
    | zero => exact absurd HA.out (by simp [marchlandlaw10_PickWhos.j0])
    | succ kj3 =>
      have H := HA.out
      clear HA
      simp only [marchlandlaw10_PickWhos.j0] at H
      replace H := Option.bind_eq_some_iff.mp H
      obtain ⟨t123, A60, H⟩ := H
      replace H : (if t123 = true then ((pick_Who.f a0 a1).bind fun t124 => ((marchlandref10_Who.f a0 a1).bind fun t125 => (if t124 = t125 then ((pick_Turns.f kj3 a1 x7_3).bind fun t126 => ((marchlandref10_Turns.f kj3 a1 x7_3).bind fun t129 => ((marchlandlaw10_Ints.f kj3 t126 t129).bind fun t132 => (some t132)))) else (some false)))) else (some false)) = some r := H
      have A6 := Aside0.mk A60
      clear A60
      by_cases c7 : t123 = true
      · subst c7
        have H1 : ((pick_Who.f a0 a1).bind fun t124 => ((marchlandref10_Who.f a0 a1).bind fun t125 => (if t124 = t125 then ((pick_Turns.f kj3 a1 x7_3).bind fun t126 => ((marchlandref10_Turns.f kj3 a1 x7_3).bind fun t129 => ((marchlandlaw10_Ints.f kj3 t126 t129).bind fun t132 => (some t132)))) else (some false)))) = some r := by rw [if_pos rfl] at H; exact H
        clear H
        have H := H1
        clear H1
        replace H := Option.bind_eq_some_iff.mp H
        obtain ⟨t124, A80, H⟩ := H
        replace H : ((marchlandref10_Who.f a0 a1).bind fun t125 => (if t124 = t125 then ((pick_Turns.f kj3 a1 x7_3).bind fun t126 => ((marchlandref10_Turns.f kj3 a1 x7_3).bind fun t129 => ((marchlandlaw10_Ints.f kj3 t126 t129).bind fun t132 => (some t132)))) else (some false))) = some r := H
        have A8 := Aside0.mk A80
        clear A80
        replace H := Option.bind_eq_some_iff.mp H
        obtain ⟨t125, A90, H⟩ := H
        replace H : (if t124 = t125 then ((pick_Turns.f kj3 a1 x7_3).bind fun t126 => ((marchlandref10_Turns.f kj3 a1 x7_3).bind fun t129 => ((marchlandlaw10_Ints.f kj3 t126 t129).bind fun t132 => (some t132)))) else (some false)) = some r := H
        have A9 := Aside0.mk A90
        clear A90
        by_cases c10 : t124 = t125
        · rw [if_pos c10] at H
          have c10b0 : (t124 == t125) = true := beq_iff_eq.mpr c10
          have c10b1 : (t124 != t125) = false := bne_eq_false_iff_eq.mpr c10
          clear c10
          replace H := Option.bind_eq_some_iff.mp H
          obtain ⟨t126, A110, H⟩ := H
          replace H : ((marchlandref10_Turns.f kj3 a1 x7_3).bind fun t129 => ((marchlandlaw10_Ints.f kj3 t126 t129).bind fun t132 => (some t132))) = some r := H
          have A11 := Aside0.mk A110
          clear A110
          replace H := Option.bind_eq_some_iff.mp H
          obtain ⟨t129, A120, H⟩ := H
          replace H : ((marchlandlaw10_Ints.f kj3 t126 t129).bind fun t132 => (some t132)) = some r := H
          have A12 := Aside0.mk A120
          clear A120
          replace H := Option.bind_eq_some_iff.mp H
          obtain ⟨t132, A130, H⟩ := H
          replace H : (some t132) = some r := H
          have A13 := Aside0.mk A130
          clear A130
          obtain rfl := Option.some.inj H
          go_wp2_with (first | ((with_reducible refine gate_callee (f := 16) rfl ?_); refine goesL_ (some 13) rfl rfl Try.func16 (by kernel_rfl) rfl #[] rfl (by (try simp only [List.map_toArray, List.map_cons, List.map_nil]); first | done | rfl | (simp only [List.length_drop, List.length_take]; rfl)) ?_; (with_reducible refine (marchlandlaw10_told.calls kj3  true _ A6.out).mono ?_); rintro e w14 ⟨rfl, hb⟩; refine ⟨_, rfl, ?_⟩; have n0_ := Aside0.mk (below_step (by repeat (first | (with_reducible first | exact HB.out | apply below_alloc | apply pw_below_drewN | apply below_drew1) | exact HB.out)) hb); clear HB; have HB := n0_; clear n0_; (try clear hb); (try clear hb2); (try clear hk); (try clear hi)) | (go_at_call 17; (with_reducible refine (pick_Who.calls a0 a1 t124 _ A8.out).mono ?_); rintro e w' ⟨rfl, ⟨nd, rfl⟩⟩) | (go_at_call 18; (with_reducible refine (marchlandref10_Who.calls a0 a1 t125 _ A9.out).mono ?_); rintro e w' ⟨rfl, ⟨nd, rfl⟩⟩) | (go_at_call 20; (with_reducible refine (pick_Turns.calls kj3 a1 x7_3 t126 _ A11.out).mono ?_); rintro e w15 ⟨v127, rfl, ho0, hb⟩; have n0_ := Aside0.mk (Kd.R_lower ho0 (below_size (by repeat (first | (with_reducible first | exact HB.out | apply below_alloc | apply pw_below_drewN | apply below_drew1) | exact HB.out)))); have n1_ := Aside0.mk (below_step (by repeat (first | (with_reducible first | exact HB.out | apply below_alloc | apply pw_below_drewN | apply below_drew1) | exact HB.out)) hb); clear HB; have HO128 := n0_; have HB := n1_; clear n0_ n1_; (try clear hb); (try clear hb2); (try clear hk); (try clear hi); (try clear ho0)) | (go_at_call 21; (with_reducible refine (marchlandref10_Turns.calls kj3 a1 x7_3 t129 _ A12.out).mono ?_); rintro e w16 ⟨v130, rfl, ho0, hb⟩; have n0_ := Aside0.mk (Kd.R_elder' (by (with_reducible repeat (first | apply Kd.R_alloc | apply Kd.R_drewN | apply Kd.R_drew)); exact HO128.out) (Kd.R_base ho0) hb); have n1_ := Aside0.mk (Kd.R_lower (Kd.R_new' ho0 (Kd.R_lt (by (with_reducible repeat (first | apply Kd.R_alloc | apply Kd.R_drewN | apply Kd.R_drew)); exact HO128.out))) (below_size (by repeat (first | (with_reducible first | exact HB.out | apply below_alloc | apply pw_below_drewN | apply below_drew1) | exact HB.out)))); have n2_ := Aside0.mk (below_step (by repeat (first | (with_reducible first | exact HB.out | apply below_alloc | apply pw_below_drewN | apply below_drew1) | exact HB.out)) hb); clear HO128; clear HB; have HO128 := n0_; have HO131 := n1_; have HB := n2_; clear n0_ n1_ n2_; (try clear hb); (try clear hb2); (try clear hk); (try clear hi); (try clear ho0); obtain ⟨Ao17, co17, eo17⟩ := Kd.R_slice HO128.out; subst eo17; obtain ⟨Ao18, co18, eo18⟩ := Kd.R_slice HO131.out; subst eo18) | (go_at_call 19; (with_reducible refine (marchlandlaw10_Ints.calls kj3 _ _ t126 _ _ t129 t132 _ ?side1 ?side2 ?side3 ?side4 A13.out).mono ?_); (case side1 => repeat (first | exact (Kd.R_reads' HO128.out).2.2 | (with_reducible refine Kd.C_alloc ?_ _) | (with_reducible refine Kd.C_drewN ?_ _) | (with_reducible refine Kd.C_drew ?_))); (case side2 => exact (Kd.R_reads' HO128.out).2.1); (case side3 => repeat (first | exact (Kd.R_reads' HO131.out).2.2 | (with_reducible refine Kd.C_alloc ?_ _) | (with_reducible refine Kd.C_drewN ?_ _) | (with_reducible refine Kd.C_drew ?_))); (case side4 => exact (Kd.R_reads' HO131.out).2.1); rintro e w' ⟨rfl, ⟨nd, rfl⟩⟩))
          go_ret
          exact ⟨by first | rfl | (simp [errW_none, errW_some] <;> rfl) | (simp [*, errW_none, errW_some] <;> rfl), by repeat (first | (with_reducible first | exact HB.out | apply below_alloc | apply pw_below_drewN | apply below_drew1) | exact HB.out)⟩
        · rw [if_neg c10] at H
          have c10b0 : (t124 == t125) = false := beq_eq_false_iff_ne.mpr c10
          have c10b1 : (t124 != t125) = true := bne_iff_ne.mpr c10
          obtain rfl := Option.some.inj H
          go_wp2_with (first | ((with_reducible refine gate_callee (f := 16) rfl ?_); refine goesL_ (some 13) rfl rfl Try.func16 (by kernel_rfl) rfl #[] rfl (by (try simp only [List.map_toArray, List.map_cons, List.map_nil]); first | done | rfl | (simp only [List.length_drop, List.length_take]; rfl)) ?_; (with_reducible refine (marchlandlaw10_told.calls kj3  true _ A6.out).mono ?_); rintro e w19 ⟨rfl, hb⟩; refine ⟨_, rfl, ?_⟩; have n0_ := Aside0.mk (below_step (by repeat (first | (with_reducible first | exact HB.out | apply below_alloc | apply pw_below_drewN | apply below_drew1) | exact HB.out)) hb); clear HB; have HB := n0_; clear n0_; (try clear hb); (try clear hb2); (try clear hk); (try clear hi)) | (go_at_call 17; (with_reducible refine (pick_Who.calls a0 a1 t124 _ A8.out).mono ?_); rintro e w' ⟨rfl, ⟨nd, rfl⟩⟩) | (go_at_call 18; (with_reducible refine (marchlandref10_Who.calls a0 a1 t125 _ A9.out).mono ?_); rintro e w' ⟨rfl, ⟨nd, rfl⟩⟩))
          go_ret
          exact ⟨by first | rfl | (simp [errW_none, errW_some] <;> rfl) | (simp [*, errW_none, errW_some] <;> rfl), by repeat (first | (with_reducible first | exact HB.out | apply below_alloc | apply pw_below_drewN | apply below_drew1) | exact HB.out)⟩
      · replace c7 := Bool.eq_false_iff.mpr c7
        subst c7
        have H1 : (some false) = some r := by rw [if_neg (show ¬ (false = true) by decide)] at H; exact H
        clear H
        have H := H1
        clear H1
        obtain rfl := Option.some.inj H
        go_wp2_with (first | ((with_reducible refine gate_callee (f := 16) rfl ?_); refine goesL_ (some 13) rfl rfl Try.func16 (by kernel_rfl) rfl #[] rfl (by (try simp only [List.map_toArray, List.map_cons, List.map_nil]); first | done | rfl | (simp only [List.length_drop, List.length_take]; rfl)) ?_; (with_reducible refine (marchlandlaw10_told.calls kj3  false _ A6.out).mono ?_); rintro e w20 ⟨rfl, hb⟩; refine ⟨_, rfl, ?_⟩; have n0_ := Aside0.mk (below_step (by repeat (first | (with_reducible first | exact HB.out | apply below_alloc | apply pw_below_drewN | apply below_drew1) | exact HB.out)) hb); clear HB; have HB := n0_; clear n0_; (try clear hb); (try clear hb2); (try clear hk); (try clear hi)))
        go_ret
        exact ⟨by first | rfl | (simp [errW_none, errW_some] <;> rfl) | (simp [*, errW_none, errW_some] <;> rfl), by repeat (first | (with_reducible first | exact HB.out | apply below_alloc | apply pw_below_drewN | apply below_drew1) | exact HB.out)⟩

/-- THE ONE PURE STATEMENT of marchlandlaw10_PickWhos: yours. -/
def marchlandlaw10_PickWhos.Pure : Prop := ∀ (a0 : Int) (a1 : Int) (a2 : Int), (Lit.int .i64 a0).wf = true → (Lit.int .i64 a1).wf = true → (Lit.int .i64 a2).wf = true → ∃ k, marchlandlaw10_PickWhos.f k a0 a1 a2 = some true
theorem marchlandlaw10_PickWhos.walk (P : marchlandlaw10_PickWhos.Pure) (a0 : Int) (a1 : Int) (a2 : Int) (w : World) (w0 : (Lit.int .i64 a0).wf = true) (w1 : (Lit.int .i64 a1).wf = true) (w2 : (Lit.int .i64 a2).wf = true) :
    Calls Try.prog 3 #[.int .i64 a0, .int .i64 a1, .int .i64 a2] w fun e w' => e = .returned (.bool true) ∧ Below w.heap.size w w' := by
  obtain ⟨k, h⟩ := P a0 a1 a2 w0 w1 w2
  refine (marchlandlaw10_PickWhos.calls k a0 a1 a2 true w h).mono ?_
  rintro e w' ⟨rfl, hd⟩
  exact ⟨rfl, hd⟩

end Go.Proofs.Ytlcnckbmolefpaa.P
end
section
/- PickWhos: what the printed functions come to answers true. No condition. -/
namespace Go.Proofs.Ytlcnckbmolefpaa.Pure
open Go.RowKit Go.Proofs.Ytlcnckbmolefpaa.P Go.Proofs.YtlcnckbmolefpaaW.PrintWords Go.Proofs.YtlcnckbmolefpaaW.PrintLast
set_option linter.unusedVariables false
theorem told10 : Ev (fun k => marchlandlaw10_told.f k) true := ⟨10, fun k hk => at_rounds (fun k => marchlandlaw10_told.mono k) hk (by decide +kernel)⟩
theorem w64i {i : Int} (h0 : -1 ≤ i) (h1 : i ≤ 9000000000000000000) : wrap64 (i + 1) = i + 1 := by unfold wrap64; omega
/-- Who comes in turn: both tell the same. -/
theorem turns_same (m c : Int) (hc : c ≤ 1000000) : ∀ (d : Nat) (i : Int) (L : List Int), 0 ≤ i → L.length = i.toNat → c - i ≤ d →
    ∃ R : List Int, R.length ≤ max L.length c.toNat ∧ Ev (fun k => pick_Turns.l0 k m c L i) R ∧ Ev (fun k => marchlandref10_Turns.l0 k m c L i) R := by
  intro d
  induction d with
  | zero =>
    intro i L hi hL hd
    refine ⟨L, by omega, ⟨1, fun k hk => ?_⟩, ⟨1, fun k hk => ?_⟩⟩
    · obtain ⟨k, rfl⟩ : ∃ m, k = m + 1 := ⟨k - 1, by omega⟩
      show pick_Turns.l0 (k + 1) m c L i = _
      rw [pick_Turns.l0]
      by_cases h : m > 0
      · rw [if_pos h, if_neg (by omega)]
      · rw [if_neg h]
    · obtain ⟨k, rfl⟩ : ∃ m, k = m + 1 := ⟨k - 1, by omega⟩
      show marchlandref10_Turns.l0 (k + 1) m c L i = _
      rw [marchlandref10_Turns.l0, if_neg (by omega)]
  | succ d ih =>
    intro i L hi hL hd
    by_cases h : m > 0 ∧ i < c
    · obtain ⟨R, hR, ⟨K1, h1⟩, ⟨K2, h2⟩⟩ := ih (i + 1) (L ++ [Int.tmod i m]) (by omega) (by simp; omega) (by omega)
      refine ⟨R, by simp at hR; omega, ⟨K1 + 1, fun k hk => ?_⟩, ⟨K2 + 1, fun k hk => ?_⟩⟩
      · obtain ⟨k, rfl⟩ : ∃ m, k = m + 1 := ⟨k - 1, by omega⟩
        have h1 := h1 k (by omega); dsimp only at h1
        show pick_Turns.l0 (k + 1) m c L i = _
        rw [pick_Turns.l0, if_pos h.1, if_pos h.2, if_neg (by omega), if_pos (by omega), w64i (by omega) (by omega), h1]
      · obtain ⟨k, rfl⟩ : ∃ m, k = m + 1 := ⟨k - 1, by omega⟩
        have h2 := h2 k (by omega); dsimp only at h2
        show marchlandref10_Turns.l0 (k + 1) m c L i = _
        rw [marchlandref10_Turns.l0, if_pos h.2, if_pos h.1, if_neg (by omega), if_pos (by omega), w64i (by omega) (by omega), h2]
    · refine ⟨L, by omega, ⟨1, fun k hk => ?_⟩, ⟨1, fun k hk => ?_⟩⟩
      · obtain ⟨k, rfl⟩ : ∃ m, k = m + 1 := ⟨k - 1, by omega⟩
        show pick_Turns.l0 (k + 1) m c L i = _
        rw [pick_Turns.l0]
        by_cases h' : m > 0
        · rw [if_pos h', if_neg (fun c => h ⟨h', c⟩)]
        · rw [if_neg h']
      · obtain ⟨k, rfl⟩ : ∃ m, k = m + 1 := ⟨k - 1, by omega⟩
        show marchlandref10_Turns.l0 (k + 1) m c L i = _
        rw [marchlandref10_Turns.l0]
        by_cases h' : i < c
        · rw [if_pos h', if_neg (fun c => h ⟨c, h'⟩)]
        · rw [if_neg h']
theorem ints_same (L : List Int) (hL : L.length ≤ 9000000000000000000) : ∀ (d : Nat) (i : Int), 0 ≤ i → (L.length : Int) - i ≤ d → Ev (fun k => marchlandlaw10_Ints.l0 k L L i) true := by
  intro d
  induction d with
  | zero =>
    intro i hi hd
    refine ⟨1, fun k hk => ?_⟩
    obtain ⟨k, rfl⟩ : ∃ m, k = m + 1 := ⟨k - 1, by omega⟩
    show marchlandlaw10_Ints.l0 (k + 1) L L i = _
    rw [marchlandlaw10_Ints.l0, if_neg (by omega)]
  | succ d ih =>
    intro i hi hd
    by_cases h : i < (L.length : Int)
    · obtain ⟨K, h1⟩ := ih (i + 1) (by omega) (by omega)
      refine ⟨K + 1, fun k hk => ?_⟩
      obtain ⟨k, rfl⟩ : ∃ m, k = m + 1 := ⟨k - 1, by omega⟩
      have h1 := h1 k (by omega); dsimp only at h1
      show marchlandlaw10_Ints.l0 (k + 1) L L i = _
      rw [marchlandlaw10_Ints.l0, if_pos h, if_pos hi, if_pos h, if_pos rfl, w64i (by omega) (by omega), h1]
    · refine ⟨1, fun k hk => ?_⟩
      obtain ⟨k, rfl⟩ : ∃ m, k = m + 1 := ⟨k - 1, by omega⟩
      show marchlandlaw10_Ints.l0 (k + 1) L L i = _
      rw [marchlandlaw10_Ints.l0, if_neg h]
theorem who_some (p m : Int) (hm : m ≤ 9223372036854775807) : ∃ r, pick_Who.f p m = some r ∧ marchlandref10_Who.f p m = some r := by
  unfold pick_Who.f marchlandref10_Who.f
  by_cases h : m < 1
  · exact ⟨-1, by rw [if_pos h], by rw [if_pos h]⟩
  · have e : IntKind.u64.wrap m = m := by simp [IntKind.wrap, IntKind.bits, IntKind.signed]; omega
    exact ⟨_, by rw [if_neg h, e, if_neg (by omega)], by rw [if_neg h, e, if_neg (by omega)]⟩
theorem j0 (n m c : Int) (hm : m ≤ 9223372036854775807) (hc : c ≤ 1000000) : Ev (fun k => marchlandlaw10_PickWhos.j0 k n m c) true := by
  obtain ⟨K0, h0⟩ := told10
  obtain ⟨r, e1, e2⟩ := who_some n m hm
  obtain ⟨R, hR, ⟨K1, h1⟩, ⟨K2, h2⟩⟩ := turns_same m c hc c.toNat 0 [] (by omega) rfl (by omega)
  obtain ⟨K3, h3⟩ := ints_same R (by simp at hR; omega) R.length 0 (by omega) (by omega)
  refine ⟨K0 + K1 + K2 + K3 + 1, fun k hk => ?_⟩
  obtain ⟨k, rfl⟩ : ∃ m, k = m + 1 := ⟨k - 1, by omega⟩
  have h0 := h0 k (by omega); have h1 := h1 k (by omega); have h2 := h2 k (by omega); have h3 := h3 k (by omega); dsimp only at h0 h1 h2 h3
  show marchlandlaw10_PickWhos.j0 (k + 1) n m c = _
  rw [marchlandlaw10_PickWhos.j0, h0, Option.bind_some, if_pos rfl, e1, Option.bind_some, e2, Option.bind_some, if_pos rfl]
  unfold pick_Turns.f marchlandref10_Turns.f marchlandlaw10_Ints.f
  rw [h1, Option.bind_some, h2, Option.bind_some, if_pos rfl, h3]
  rfl
end Go.Proofs.Ytlcnckbmolefpaa.Pure
end
section
/- PickFairs: what the printed functions come to answers true. No condition but the sizes of what is handed in. -/
namespace Go.Proofs.Ytlcnckbmolefpaa.Pure
open Go.RowKit Go.Proofs.Ytlcnckbmolefpaa.P Go.Proofs.YtlcnckbmolefpaaW.PrintWords Go.Proofs.YtlcnckbmolefpaaW.PrintLast
set_option linter.unusedVariables false
theorem rwho_eq (p : Int) {m : Int} (h : 1 ≤ m) (h2 : m ≤ 1000000) : marchlandref10_Who.f p m = some (whoV p m) := who_eq p h h2
theorem lastv_gt (L : List Int) (m x c : Int) (hc : -1 ≤ c) : ∀ n : Nat, lastv L m x n > c ↔ ∃ p : Nat, p < n ∧ (p : Int) > c ∧ whoV (rd L p) m = x := by
  intro n
  induction n with
  | zero => simp [lastv]; omega
  | succ n ih =>
    unfold lastv
    by_cases h : whoV (rd L n) m = x
    · rw [if_pos h]
      constructor
      · intro k; exact ⟨n, by omega, k, h⟩
      · rintro ⟨p, h1, h2, h3⟩; omega
    · rw [if_neg h, ih]
      constructor
      · rintro ⟨p, h1, h2, h3⟩; exact ⟨p, by omega, h2, h3⟩
      · rintro ⟨p, h1, h2, h3⟩
        by_cases e : p = n
        · subst e; exact absurd h3 h
        · exact ⟨p, by omega, h2, h3⟩
/-- one stands in a window -/
abbrev Occ (L : List Int) (m a b x : Int) : Prop := ∃ p : Int, a ≤ p ∧ p < b ∧ whoV (rd L p) m = x
abbrev Good (L : List Int) (m win a : Int) : Prop := ∀ x, 0 ≤ x → x < m → Occ L m a (a + win) x
theorem fair_iff (L : List Int) (m win : Int) (hw : 1 ≤ win) : fairB L m win = true ↔ ∀ a : Int, 0 ≤ a → a + win ≤ L.length → Good L m win a := by
  unfold fairB
  rw [decide_eq_true hw, Bool.true_and, List.all_eq_true]
  constructor
  · intro h a h0 h1 x hx0 hx1
    have := h (a + win - 1).toNat (List.mem_range.2 (by omega))
    unfold fairAt at this
    have e : (((a + win - 1).toNat : Nat) : Int) = a + win - 1 := by omega
    rw [e, Bool.or_eq_true] at this
    rcases this with this | this
    · have := of_decide_eq_true this; omega
    · have := of_decide_eq_true (List.all_eq_true.1 this x.toNat (List.mem_range.2 (by omega)))
      rw [show ((x.toNat : Nat) : Int) = x by omega] at this
      obtain ⟨p, h3, h4, h5⟩ := (lastv_gt L m x _ (by omega) _).1 this
      exact ⟨p, by omega, by omega, h5⟩
  · intro h i hi
    have hi := List.mem_range.1 hi
    by_cases c : (i : Int) + 1 < win
    · exact fairAt_short c
    · refine fairAt_all fun x h0 h1 => (lastv_gt L m x _ (by omega) _).2 ?_
      obtain ⟨p, h3, h4, h5⟩ := h ((i : Int) + 1 - win) (by omega) (by omega) x h0 h1
      exact ⟨p.toNat, by omega, by omega, by rw [show ((p.toNat : Nat) : Int) = p by omega]; exact h5⟩
section
variable {L : List Int} {m win : Int}
theorem f2_ (hm : 1 ≤ m) (hm2 : m ≤ 1000000) (hL : L.length ≤ 1000000) (hw : 1 ≤ win) {a x : Int} (ha : 0 ≤ a) (hal : a + win ≤ L.length) : ∀ (d : Nat) (q : Int) (b : Bool), a ≤ q → a + win - q ≤ d → q ≤ a + win →
    ((b = true ∨ Occ L m q (a + win) x) → ∀ r, Ev (fun k => marchlandref10_Fair.l1 k L m win a (wrap64 (x + 1))) r → Ev (fun k => marchlandref10_Fair.l2 k L m win a x b q) r) ∧
    (b = false → ¬ Occ L m q (a + win) x → Ev (fun k => marchlandref10_Fair.l2 k L m win a x b q) false) := by
  have wa : wrap64 (a + win) = a + win := by unfold wrap64; omega
  intro d
  induction d with
  | zero =>
    intro q b h1 h2 h3
    refine ⟨fun hb r hr => ?_, fun hb ho => ⟨1, fun k hk => ?_⟩⟩
    · have hb : b = true := hb.elim id (fun ⟨p, h4, h5, _⟩ => by omega)
      subst hb
      refine Ev.step (fun k => ?_) hr
      show marchlandref10_Fair.l2 (k + 1) _ _ _ _ _ _ _ = _
      rw [marchlandref10_Fair.l2, wa, if_neg (by omega), if_pos rfl]
    · obtain ⟨k, rfl⟩ : ∃ m, k = m + 1 := ⟨k - 1, by omega⟩
      subst hb
      show marchlandref10_Fair.l2 (k + 1) _ _ _ _ _ _ _ = _
      rw [marchlandref10_Fair.l2, wa, if_neg (by omega), if_neg (by decide)]
  | succ d ih =>
    intro q b h1 h2 h3
    by_cases hq : q < a + win
    · have wq : wrap64 (q + 1) = q + 1 := w64i (by omega) (by omega)
      have wh := rwho_eq (rd L q) hm hm2
      cases b with
      | true =>
        obtain ⟨i1, _⟩ := ih (q + 1) true (by omega) (by omega) (by omega)
        refine ⟨fun _ r hr => ?_, fun h => by cases h⟩
        refine Ev.step (fun k => ?_) (i1 (.inl rfl) r hr)
        show marchlandref10_Fair.l2 (k + 1) _ _ _ _ _ _ _ = _
        rw [marchlandref10_Fair.l2, wa, if_pos hq, if_pos rfl, wq]
      | false =>
        obtain ⟨i1, i2⟩ := ih (q + 1) (whoV (rd L q) m == x) (by omega) (by omega) (by omega)
        have st : ∀ k, marchlandref10_Fair.l2 (k + 1) L m win a x false q = marchlandref10_Fair.l2 k L m win a x (whoV (rd L q) m == x) (q + 1) := fun k => by
          rw [marchlandref10_Fair.l2, wa, if_pos hq, if_neg (by decide), if_pos (by omega), if_pos (by omega), wh, Option.bind_some, wq]
        refine ⟨fun hb r hr => Ev.step st (i1 ?_ r hr), fun _ ho => Ev.step st (i2 ?_ ?_)⟩
        · obtain ⟨p, h4, h5, h6⟩ := hb.resolve_left (by decide)
          by_cases e : p = q
          · subst e; exact .inl (by simpa using h6)
          · exact .inr ⟨p, by omega, h5, h6⟩
        · rw [beq_eq_false_iff_ne]; exact fun e => ho ⟨q, by omega, hq, e⟩
        · rintro ⟨p, h4, h5, h6⟩; exact ho ⟨p, by omega, h5, h6⟩
    · have e : q = a + win := by omega
      refine ⟨fun hb r hr => ?_, fun hb ho => ⟨1, fun k hk => ?_⟩⟩
      · have hb : b = true := hb.elim id (fun ⟨p, h4, h5, _⟩ => by omega)
        subst hb
        refine Ev.step (fun k => ?_) hr
        show marchlandref10_Fair.l2 (k + 1) _ _ _ _ _ _ _ = _
        rw [marchlandref10_Fair.l2, wa, if_neg (by omega), if_pos rfl]
      · obtain ⟨k, rfl⟩ : ∃ m, k = m + 1 := ⟨k - 1, by omega⟩
        subst hb
        show marchlandref10_Fair.l2 (k + 1) _ _ _ _ _ _ _ = _
        rw [marchlandref10_Fair.l2, wa, if_neg (by omega), if_neg (by decide)]
theorem f1_ (hm2 : m ≤ 1000000) (hL : L.length ≤ 1000000) (hw : 1 ≤ win) {a : Int} (ha : 0 ≤ a) (hal : a + win ≤ L.length) : ∀ (d : Nat) (x : Int), 0 ≤ x → m - x ≤ d →
    ((∀ y, x ≤ y → y < m → Occ L m a (a + win) y) → ∀ r, Ev (fun k => marchlandref10_Fair.l0 k L m win (wrap64 (a + 1))) r → Ev (fun k => marchlandref10_Fair.l1 k L m win a x) r) ∧
    ((∃ y, x ≤ y ∧ y < m ∧ ¬ Occ L m a (a + win) y) → Ev (fun k => marchlandref10_Fair.l1 k L m win a x) false) := by
  intro d
  induction d with
  | zero =>
    intro x h0 h1
    refine ⟨fun _ r hr => Ev.step (fun k => ?_) hr, fun ⟨y, h2, h3, _⟩ => by omega⟩
    show marchlandref10_Fair.l1 (k + 1) _ _ _ _ _ = _
    rw [marchlandref10_Fair.l1, if_neg (by omega)]
  | succ d ih =>
    intro x h0 h1
    by_cases hx : x < m
    · have wx : wrap64 (x + 1) = x + 1 := w64i (by omega) (by omega)
      obtain ⟨i1, i2⟩ := ih (x + 1) (by omega) (by omega)
      obtain ⟨g1, g2⟩ := f2_ (L := L) (m := m) (win := win) (x := x) (by omega) hm2 hL hw ha hal win.toNat a false (by omega) (by omega) (by omega)
      have st : ∀ k, marchlandref10_Fair.l1 (k + 1) L m win a x = marchlandref10_Fair.l2 k L m win a x false a := fun k => by rw [marchlandref10_Fair.l1, if_pos hx]
      refine ⟨fun h r hr => Ev.step st (g1 (.inr (h x (by omega) hx)) r ?_), fun ⟨y, h2, h3, h4⟩ => Ev.step st ?_⟩
      · rw [wx]; exact i1 (fun y h2 h3 => h y (by omega) h3) r hr
      · by_cases ho : Occ L m a (a + win) x
        · refine g1 (.inr ho) false ?_
          rw [wx]
          refine i2 ⟨y, ?_, h3, h4⟩
          by_cases e : y = x
          · subst e; exact absurd ho h4
          · omega
        · exact g2 rfl ho
    · refine ⟨fun _ r hr => Ev.step (fun k => ?_) hr, fun ⟨y, h2, h3, _⟩ => by omega⟩
      show marchlandref10_Fair.l1 (k + 1) _ _ _ _ _ = _
      rw [marchlandref10_Fair.l1, if_neg hx]
theorem f0_ (hm2 : m ≤ 1000000) (hL : L.length ≤ 1000000) (hw : 1 ≤ win) (hwl : win ≤ L.length) : ∀ (d : Nat) (a : Int), 0 ≤ a → a ≤ L.length → (L.length : Int) - a ≤ d →
    ((∀ b, a ≤ b → b + win ≤ L.length → Good L m win b) → Ev (fun k => marchlandref10_Fair.l0 k L m win a) true) ∧ ((∃ b, a ≤ b ∧ b + win ≤ L.length ∧ ¬ Good L m win b) → Ev (fun k => marchlandref10_Fair.l0 k L m win a) false) := by
  intro d
  induction d with
  | zero =>
    intro a h0 h1 h2
    refine ⟨fun _ => ⟨1, fun k hk => ?_⟩, fun ⟨b, h3, h4, _⟩ => by omega⟩
    obtain ⟨k, rfl⟩ : ∃ m, k = m + 1 := ⟨k - 1, by omega⟩
    show marchlandref10_Fair.l0 (k + 1) _ _ _ _ = _
    rw [marchlandref10_Fair.l0, if_neg (by unfold wrap64; omega)]
  | succ d ih =>
    intro a h0 h1 h2
    have wa : wrap64 (a + win) = a + win := by unfold wrap64; omega
    by_cases hx : a + win ≤ L.length
    · have w1 : wrap64 (a + 1) = a + 1 := w64i (by omega) (by omega)
      obtain ⟨i1, i2⟩ := ih (a + 1) (by omega) (by omega) (by omega)
      obtain ⟨g1, g2⟩ := f1_ (L := L) (m := m) (win := win) hm2 hL hw h0 hx m.toNat 0 (by omega) (by omega)
      have st : ∀ k, marchlandref10_Fair.l0 (k + 1) L m win a = marchlandref10_Fair.l1 k L m win a 0 := fun k => by rw [marchlandref10_Fair.l0, wa, if_pos hx]
      refine ⟨fun h => Ev.step st (g1 (fun y h3 h4 => h a (by omega) hx y h3 h4) true ?_), fun ⟨b, h3, h4, h5⟩ => Ev.step st ?_⟩
      · rw [w1]; exact i1 (fun b h3 h4 => h b (by omega) h4)
      · by_cases hg : Good L m win a
        · refine g1 (fun y h6 h7 => hg y h6 h7) false ?_
          rw [w1]
          refine i2 ⟨b, ?_, h4, h5⟩
          by_cases e : b = a
          · subst e; exact absurd hg h5
          · omega
        · refine g2 (Classical.byContradiction fun hn => hg fun x hx0 hx1 => Classical.byContradiction fun ho => hn ⟨x, hx0, hx1, ho⟩)
    · refine ⟨fun _ => ⟨1, fun k hk => ?_⟩, fun ⟨b, h3, h4, _⟩ => by omega⟩
      obtain ⟨k, rfl⟩ : ∃ m, k = m + 1 := ⟨k - 1, by omega⟩
      show marchlandref10_Fair.l0 (k + 1) _ _ _ _ = _
      rw [marchlandref10_Fair.l0, wa, if_neg hx]
theorem ref_fair (hm2 : m ≤ 1000000) (hL : L.length ≤ 1000000) : Ev (fun k => marchlandref10_Fair.f k L m win) (fairB L m win) := by
  by_cases h1 : win < 1
  · refine ⟨0, fun k _ => ?_⟩
    show marchlandref10_Fair.f k L m win = _
    unfold marchlandref10_Fair.f fairB
    rw [if_pos h1, decide_eq_false (by omega)]; rfl
  · by_cases h2 : win > (L.length : Int)
    · refine ⟨0, fun k _ => ?_⟩
      show marchlandref10_Fair.f k L m win = _
      rw [(fair_iff L m win (by omega)).2 (fun a _ _ => by omega)]
      unfold marchlandref10_Fair.f
      rw [if_neg h1, if_pos h2]
    · have e : ∀ k, marchlandref10_Fair.f k L m win = marchlandref10_Fair.l0 k L m win 0 := fun k => by unfold marchlandref10_Fair.f; rw [if_neg h1, if_neg h2]
      refine Ev.congr e ?_
      obtain ⟨g1, g2⟩ := f0_ (L := L) (m := m) (win := win) hm2 hL (by omega) (by omega) L.length 0 (by omega) (by omega) (by omega)
      cases hf : fairB L m win with
      | true => exact g1 (fun b h3 h4 => (fair_iff L m win (by omega)).1 hf b h3 h4)
      | false =>
        refine g2 (Classical.byContradiction fun hn => ?_)
        have : fairB L m win = true := (fair_iff L m win (by omega)).2 (fun b h3 h4 => Classical.byContradiction fun hg => hn ⟨b, h3, h4, hg⟩)
        rw [hf] at this; cases this
end
theorem fair_more {L : List Int} {m win w : Int} (h : fairB L m win = true) (h1 : 1 ≤ win) (h2 : win ≤ w) : fairB L m w = true :=
  (fair_iff L m w (by omega)).2 fun a h3 h4 x h5 h6 => by
    obtain ⟨p, h7, h8, h9⟩ := (fair_iff L m win h1).1 h a h3 (by omega) x h5 h6
    exact ⟨p, h7, by omega, h9⟩
def turnsOk (m : Int) : Bool := match pick_Turns.f 50 m 40 with | some R => decide (R.length ≤ 1000000) && fairB R m m | none => false
theorem turns_ok (m : Int) (h0 : 1 ≤ m) (h1 : m ≤ 8) : turnsOk m = true := by
  have : m = 1 ∨ m = 2 ∨ m = 3 ∨ m = 4 ∨ m = 5 ∨ m = 6 ∨ m = 7 ∨ m = 8 := by omega
  rcases this with rfl | rfl | rfl | rfl | rfl | rfl | rfl | rfl <;> decide +kernel
theorem turns_fair (m : Int) (h0 : 1 ≤ m) (h1 : m ≤ 8) : ∃ R : List Int, R.length ≤ 1000000 ∧ fairB R m m = true ∧ Ev (fun k => pick_Turns.f k m 40) R := by
  have h := turns_ok m h0 h1
  unfold turnsOk at h
  cases e : pick_Turns.f 50 m 40 with
  | none => rw [e] at h; cases h
  | some R =>
    rw [e] at h
    have h := (Bool.and_eq_true _ _).mp h
    exact ⟨R, of_decide_eq_true h.1, h.2, 50, fun k hk => at_rounds (fun k => pick_Turns.mono _ _ k) hk e⟩
theorem j1_true (m : Int) (h0 : 0 ≤ m) (h1 : m ≤ 8) : Ev (fun k => marchlandlaw10_PickFairs.j1 k m false) true := by
  by_cases h : m < 1
  · refine ⟨1, fun k hk => ?_⟩
    obtain ⟨k, rfl⟩ : ∃ m, k = m + 1 := ⟨k - 1, by omega⟩
    show marchlandlaw10_PickFairs.j1 (k + 1) _ _ = _
    rw [marchlandlaw10_PickFairs.j1, if_neg (by decide), if_pos h]
  · obtain ⟨R, r1, r2, K, hk⟩ := turns_fair m (by omega) h1
    refine ⟨K + 1, fun k hk' => ?_⟩
    obtain ⟨k, rfl⟩ : ∃ m, k = m + 1 := ⟨k - 1, by omega⟩
    have hk := hk k (by omega); dsimp only at hk
    show marchlandlaw10_PickFairs.j1 (k + 1) _ _ = _
    rw [marchlandlaw10_PickFairs.j1, if_neg (by decide), if_neg h, hk, Option.bind_some]
    unfold pick_Fair.f
    rw [if_pos ⟨h0, r1⟩, if_pos (by omega), r2]; rfl
theorem mn_eq (a b : Int) : mn a b = min a b := by unfold mn; omega
theorem j0_true (L : List Int) (hL : L.length ≤ 1000000) (more win m : Int) (hw : win ≤ 9223372036854775807) (h0 : 0 ≤ m) (h1 : m ≤ 8) : Ev (fun k => marchlandlaw10_PickFairs.j0 k L more win m (fairB L m win) false) true := by
  obtain ⟨K, hj⟩ := j1_true m h0 h1
  refine ⟨K + 1, fun k hk => ?_⟩
  obtain ⟨k, rfl⟩ : ∃ m, k = m + 1 := ⟨k - 1, by omega⟩
  have hj := hj k (by omega); dsimp only at hj
  show marchlandlaw10_PickFairs.j0 (k + 1) _ _ _ _ _ _ = _
  rw [marchlandlaw10_PickFairs.j0, if_neg (by decide)]
  by_cases hf : fairB L m win = true
  · rw [if_pos hf]
    by_cases c1 : win > 0
    · rw [if_pos c1]
      by_cases c2 : win < 1000
      · rw [if_pos c2]
        have e1 : (0:Int) ≤ Int.tmod (IntKind.u64.wrap more) 20 := Int.tmod_nonneg _ (u64_pos more)
        have e2 : Int.tmod (IntKind.u64.wrap more) 20 < 20 := Int.tmod_lt_of_pos _ (by omega)
        generalize Int.tmod (IntKind.u64.wrap more) 20 = z at e1 e2
        have e3 : wrap64 (mn win 1000 + wrap64 z) = win + z := by rw [mn_eq]; unfold wrap64; omega
        rw [e3]
        have e4 := fair_more hf (by omega) (show win ≤ win + z by omega)
        unfold pick_Fair.f
        rw [if_pos ⟨h0, hL⟩, if_pos (by omega), e4]
        exact hj
      · rw [if_neg c2]; exact hj
    · rw [if_neg c1]; exact hj
  · rw [if_neg hf]; exact hj
theorem PickFairs_ : ∀ l0 : List Int, l0.length * 8 ≤ 140737488351232 → (∀ y ∈ l0, -9223372036854775808 ≤ y ∧ y ≤ 9223372036854775807) → ∀ a b c : Int, (-9223372036854775808 ≤ a ∧ a ≤ 9223372036854775807) → (-9223372036854775808 ≤ b ∧ b ≤ 9223372036854775807) → (-9223372036854775808 ≤ c ∧ c ≤ 9223372036854775807) →
    ∃ k, marchlandlaw10_PickFairs.f k l0 a b c = some true := by
  intro l0 hl _ a b c ha hb hc
  have em : mn (l0.length : Int) 60 = min (l0.length : Int) 60 := mn_eq _ _
  have L60 : (l0.take (mn (l0.length : Int) 60).toNat).length ≤ 60 := by rw [List.length_take, em]; omega
  have m0 : (0:Int) ≤ Int.tmod (IntKind.u64.wrap a) 9 := Int.tmod_nonneg _ (u64_pos a)
  have m1 : Int.tmod (IntKind.u64.wrap a) 9 < 9 := Int.tmod_lt_of_pos _ (by omega)
  have wm : wrap64 (Int.tmod (IntKind.u64.wrap a) 9) = Int.tmod (IntKind.u64.wrap a) 9 := by unfold wrap64; omega
  unfold marchlandlaw10_PickFairs.f
  rw [wm]
  generalize Int.tmod (IntKind.u64.wrap a) 9 = m at m0 m1
  generalize l0.take (mn (l0.length : Int) 60).toNat = L at L60
  obtain ⟨K0, h0⟩ := told10
  obtain ⟨K1, h1⟩ := ref_fair (L := L) (m := m) (win := b) (by omega) (by omega)
  obtain ⟨K2, h2⟩ := ints_same L (by omega) L.length 0 (by omega) (by omega)
  obtain ⟨K3, h3⟩ := j0_true L (by omega) c b m hb.2 m0 (by omega)
  refine ⟨K0 + K1 + K2 + K3, ?_⟩
  have h0 := h0 (K0 + K1 + K2 + K3) (by omega); have h1 := h1 (K0 + K1 + K2 + K3) (by omega); have h2 := h2 (K0 + K1 + K2 + K3) (by omega); have h3 := h3 (K0 + K1 + K2 + K3) (by omega); dsimp only at h0 h1 h2 h3
  rw [if_pos (by rw [em]; omega), if_pos (by rw [em]; omega), Option.bind_some, if_pos (by simp; omega), Option.bind_some]
  simp only [List.nil_append]
  have hf : pick_Fair.f L m b = some (fairB L m b) := by unfold pick_Fair.f; rw [if_pos ⟨m0, by omega⟩, if_pos (by omega)]
  have hi : marchlandlaw10_Ints.f (K0 + K1 + K2 + K3) L L = some true := by unfold marchlandlaw10_Ints.f; rw [if_pos rfl, h2]
  rw [hf, Option.bind_some, h0, Option.bind_some, if_pos rfl, h1, Option.bind_some, if_neg (by simp), hi, Option.bind_some]
  exact h3
theorem PickFairs (l0 : List Int) (hl : l0.length * 8 ≤ 140737488351232) (hq : ∀ y ∈ l0, -9223372036854775808 ≤ y ∧ y ≤ 9223372036854775807) (a b : Int) (ha : -9223372036854775808 ≤ a ∧ a ≤ 9223372036854775807) (hb : -9223372036854775808 ≤ b ∧ b ≤ 9223372036854775807) (c : Int) (hc : -9223372036854775808 ≤ c ∧ c ≤ 9223372036854775807) :
    ∃ k, marchlandlaw10_PickFairs.f k l0 a b c = some true := PickFairs_ l0 hl hq a b c ha hb hc
end Go.Proofs.Ytlcnckbmolefpaa.Pure
end
section
namespace Go.Proofs.Ytlcnckbmolefpaa.P
open Go.RowKit Go.Proofs.YtlcnckbmolefpaaW.PrintWords Go.Proofs.YtlcnckbmolefpaaW.PrintLast Go.Proofs.YtlcnckbmolefpaaW.PrintMore
set_option linter.unusedVariables false
set_option linter.unusedSimpArgs false
open Go.ChangeShapes Go.WideShapes Go.Deep
/-- Whatever reads at type t is told by the kind d, and is so as q says. -/
def Opens (P : Program) (t : TypeId) {α : Type} (d : Kd α) (q : α → Prop) : Prop :=
  ∀ (H : Type) (enc : TypeId × Value → H) (w : World) (base : Nat) (spare : Nat → Bool) (held : Bool) (fuel : Nat) (cs : List Value) (x : DataW H × List MemPlace),
    DataW.trod enc P w base spare held fuel t cs = some x → ∃ y : α, d.K w y cs ∧ q y
theorem Opens.int {P : Program} {t : TypeId} {k : IntKind} (hu : P.underlying t = some (.int k)) : Opens P t (Kd.int k) (fun n => (Lit.int k n).wf = true) := by
  intro H enc w base spare held fuel cs x h
  obtain ⟨n, rfl, _, hw⟩ := DataW.trod_int hu h
  exact ⟨n, rfl, hw⟩
theorem Opens.bool {P : Program} {t : TypeId} (hu : P.underlying t = some .bool) : Opens P t Kd.bool (fun _ => True) := by
  intro H enc w base spare held fuel cs x h
  obtain ⟨b, rfl, _⟩ := DataW.trod_bool hu h
  exact ⟨b, rfl, trivial⟩
theorem Opens.imp {P : Program} {t : TypeId} {α : Type} {d : Kd α} {q q' : α → Prop} (h : Opens P t d q) (hq : ∀ y, q y → q' y) : Opens P t d q' := by
  intro H enc w base spare held fuel cs x hx
  obtain ⟨y, h1, h2⟩ := h H enc w base spare held fuel cs x hx
  exact ⟨y, h1, hq y h2⟩
theorem Opens.slice {P : Program} {t e : TypeId} {α : Type} [Inhabited α] {d : Kd α} {q : α → Prop} (hu : P.underlying t = some (.slice e)) (hc : P.cellsOf e = d.sz) (h : Opens P e d q) : Opens P t (Kd.slice e d) (fun l => l.length ≤ maxLen ∧ ∀ y ∈ l, q y) := by
  intro H enc w base spare held fuel cs x hx
  rcases open_slice hu hx with ⟨rfl, _⟩ | ⟨a, len, cap, m, n, D, Pl, rfl, hb, hl, hm, hmm, _, hel⟩
  · exact ⟨[], ⟨none, 0, rfl, Nat.le_refl _, rfl, Nat.zero_le _, fun h => absurd h (by simp)⟩, Nat.zero_le _, fun y hy => by simp at hy⟩
  · have hlm : len ≤ m := by rw [hmm]; split <;> omega
    obtain ⟨Y, hY⟩ := choose_lt (α := α) (n := len) (p := fun i y => ∃ cs', w.cells? base (a.add (i * P.cellsOf e)) (P.cellsOf e) = some cs' ∧ d.K w y cs' ∧ q y) (fun i hi => by
      obtain ⟨cs', h1, h2⟩ := hel i (by omega)
      obtain ⟨y, h3, h4⟩ := h H enc w base spare held n cs' _ h2
      exact ⟨y, cs', h1, h3, h4⟩)
    have hlen : ((List.range len).map Y).length = len := by simp
    refine ⟨(List.range len).map Y, ⟨some a, cap, by rw [hlen], by rw [hlen]; exact hl, rfl, ?_, fun _ => ⟨a, rfl, fun j p hj => ?_⟩⟩, ?_, fun y hy => ?_⟩
    · rw [hlen]; unfold maxLen at hm; omega
    · obtain ⟨hjl, hje⟩ := List.getElem?_eq_some_iff.1 hj
      rw [hlen] at hjl
      have hpj : p = Y j := by rw [← hje]; simp
      obtain ⟨cs', h1, h3, _⟩ := hY j hjl
      obtain ⟨_, hcl, hcc⟩ := World.cells?_some h1
      refine ⟨cs', d.K_len h3, by rw [hpj]; exact h3, fun i u hu2 => ?_⟩
      have hi := (List.getElem?_eq_some_iff.1 hu2).1
      rw [d.K_len h3] at hi
      have h5 := hcc i (by rw [hc]; exact hi)
      rw [hc, Go.Deep.add_add] at h5
      rw [h5, ← hu2]
    · rw [hlen]; omega
    · obtain ⟨j, hj, rfl⟩ := List.mem_map.1 hy
      obtain ⟨_, _, _, h4⟩ := hY j (List.mem_range.1 hj)
      exact h4
/-- Fields, one behind the other, from a place on. -/
def OpensSeg (P : Program) (fs : List Field) (off : Nat) {α : Type} (d : Kd α) (q : α → Prop) : Prop :=
  ∀ (H : Type) (enc : TypeId × Value → H) (w : World) (base : Nat) (spare : Nat → Bool) (held : Bool) (fuel : Nat) (cs : List Value), cs.length = d.sz →
    (∀ f ∈ fs, ∃ x : DataW H × List MemPlace, DataW.trod enc P w base spare held fuel f.type ((cs.drop (f.offset - off)).take (P.cellsOf f.type)) = some x) → ∃ y : α, d.K w y cs ∧ q y
theorem OpensSeg.one {P : Program} {f : Field} {off : Nat} {α : Type} {d : Kd α} {q : α → Prop} (ho : f.offset = off) (hc : P.cellsOf f.type = d.sz) (h : Opens P f.type d q) : OpensSeg P [f] off d q := by
  intro H enc w base spare held fuel cs hl hf
  obtain ⟨x, hx⟩ := hf f List.mem_cons_self
  rw [ho, Nat.sub_self, List.drop_zero, hc, ← hl, List.take_length] at hx
  exact h H enc w base spare held fuel cs x hx
theorem OpensSeg.cons {P : Program} {f : Field} {fs : List Field} {off : Nat} {α β : Type} {d : Kd α} {d2 : Kd β} {q : α → Prop} {q2 : β → Prop} (ho : f.offset = off) (hc : P.cellsOf f.type = d.sz) (hm : ∀ g ∈ fs, off + d.sz ≤ g.offset) (h : Opens P f.type d q) (h2 : OpensSeg P fs (off + d.sz) d2 q2) :
    OpensSeg P (f :: fs) off (Kd.pair d d2) (fun y => q y.1 ∧ q2 y.2) := by
  intro H enc w base spare held fuel cs hl hf
  have hl' : cs.length = d.sz + d2.sz := hl
  obtain ⟨x, hx⟩ := hf f List.mem_cons_self
  rw [ho, Nat.sub_self, List.drop_zero, hc] at hx
  obtain ⟨y, h3, h4⟩ := h H enc w base spare held fuel _ x hx
  obtain ⟨y2, h5, h6⟩ := h2 H enc w base spare held fuel (cs.drop d.sz) (by rw [List.length_drop]; omega) (fun g hg => by
    obtain ⟨x2, hx2⟩ := hf g (List.mem_cons_of_mem _ hg)
    refine ⟨x2, ?_⟩
    have := hm g hg
    rw [List.drop_drop, show d.sz + (g.offset - (off + d.sz)) = g.offset - off by omega]
    exact hx2)
  exact ⟨(y, y2), ⟨cs.take d.sz, cs.drop d.sz, (List.take_append_drop _ _).symm, h3, h5⟩, h4, h6⟩
theorem Opens.struct {P : Program} {t : TypeId} {fs : Array Field} {α : Type} {d : Kd α} {q : α → Prop} (hu : P.underlying t = some (.struct fs)) (hc : P.cellsOf t = d.sz) (h : OpensSeg P fs.toList 0 d q) : Opens P t d q := by
  intro H enc w base spare held fuel cs x hx
  obtain ⟨xs, n, rfl, _, hl, hxs, hf⟩ := DataW.trod_struct hu hx
  refine h H enc w base spare held n cs (by rw [hl, hc]) (fun f hf2 => ?_)
  obtain ⟨i, hi, rfl⟩ := List.getElem_of_mem hf2
  have h1 := hf i fs.toList[i] (by rw [Array.getElem?_eq_getElem (by simpa using hi)]; simp)
  have hi2 : i < fs.size := by simpa using hi
  rw [List.getElem?_eq_getElem (by omega)] at h1
  exact ⟨_, by rw [Nat.sub_zero]; exact h1⟩
/-- An argument that is a slice: its value, its list, how long it may be. -/
theorem Opens.arg {P : Program} {t e : TypeId} {α : Type} {d : Kd α} {q : List α → Prop} (ho : Opens P t (Kd.slice e d) q) {H : Type} {enc : TypeId × Value → H} {w : World} {base : Nat} {spare : Nat → Bool} {held : Bool} {a : Option Addr} {len cap : Nat} {D : DataW H} {ps : List MemPlace} (h : DataW.Trod enc P w base spare held t (.slice a len cap) D ps) :
    ∃ l : List α, len = l.length ∧ Kd.C d w a l.length l ∧ l.length ≤ cap ∧ q l := by
  obtain ⟨fuel, hf⟩ := h
  obtain ⟨l, ⟨A, c, he, hlc, hC⟩, hq⟩ := ho H enc w base spare held fuel _ _ hf
  simp [Value.cells] at he
  obtain ⟨rfl, rfl, rfl⟩ := he
  exact ⟨l, rfl, hC, hlc, hq⟩
theorem sized_slice_any {H : Type} {enc : TypeId × Value → H} {P : Program} {W : World} {base : Nat} {spare : Nat → Bool} {held : Bool} {t e : TypeId} {a : Option Addr} {len cap : Nat} {d : DataW H} {ps : List MemPlace} {ts : List TypeId} {ds : List (DataW H)} {j : Nat}
    (hsz : (DataW.weightsEach P ts ds).all (· ≤ reachBytes) = true) (ht : ts[j]? = some t) (hd : ds[j]? = some d) (hu : P.underlying t = some (.slice e)) {B : Nat} (hB : P.bytesOf e = B)
    (h : DataW.Trod enc P W base spare held t (.slice a len cap) d ps) : len * B ≤ 140737488351232 := by
  obtain ⟨fuel, hf⟩ := h
  rcases open_slice hu hf with ⟨hcs, _⟩ | ⟨x, l, c, m, n, D, Pl, hcs, _, hl, _, hm, hx, _⟩
  · simp [Value.cells] at hcs
    obtain ⟨rfl, rfl, rfl⟩ := hcs
    simp
  · simp [Value.cells] at hcs
    obtain ⟨rfl, rfl, rfl⟩ := hcs
    obtain ⟨hx, _⟩ := Prod.mk.inj hx
    subst hx
    have z := sized_slice hsz ht hd hu
    rw [hB] at z
    have h1 : len ≤ ((List.range len).map D).length + ((List.range (m - len)).map fun j => D (len + j)).length := by simp
    exact Nat.le_trans (Nat.mul_le_mul_right _ h1) z
end Go.Proofs.Ytlcnckbmolefpaa.P
end
section
namespace Go.Proofs.Ytlcnckbmolefpaa.P
open Go.RowKit Go.Proofs.YtlcnckbmolefpaaW.PrintWords Go.Proofs.YtlcnckbmolefpaaW.PrintLast Go.Proofs.YtlcnckbmolefpaaW.PrintMore
set_option linter.unusedVariables false
set_option linter.unusedSimpArgs false
theorem opens_i64 {P : Program} {t : TypeId} (hu : P.underlying t = some (.int .i64)) : Opens P t (Kd.int .i64) (fun n => -9223372036854775808 ≤ n ∧ n ≤ 9223372036854775807) := (Opens.int hu).imp fun _ h => bounds_i64 h
theorem opens25 : Opens Try.prog 25 (Kd.slice 3 (Kd.int .i64)) (fun l => l.length ≤ maxLen ∧ ∀ y ∈ l, -9223372036854775808 ≤ y ∧ y ≤ 9223372036854775807) := Opens.slice Try.underlying25 (by kernel_rfl) (opens_i64 Try.underlying3)
theorem open_arr2 {H : Type} {enc : TypeId × Value → H} {P : Program} {w : World} {base : Nat} {spare : Nat → Bool} {held : Bool} {t e : TypeId} {q : IntKind} (hu : P.underlying t = some (.array 2 e)) (he : P.underlying e = some (.int q)) (hce : P.cellsOf e = 1) (hct : P.cellsOf t = 2)
    {r : Reach} {b0 : Nat} {v : Value} {d : DataW H} {p : List MemPlace} (hv : Value.okWide P w r b0 t v) (h : DataW.Trod enc P w base spare held t v d p) : ∃ x y : Int, v = .agg #[.int q x, .int q y] ∧ (Lit.int q x).wf = true ∧ (Lit.int q y).wf = true ∧ p = [] := by
  obtain ⟨cs, rfl, hs, _⟩ : ∃ cs : Array Value, v = .agg cs ∧ cs.size = P.cellsOf t ∧ True := by
    simp only [Value.okWide, hu] at hv
    obtain ⟨cs, h1, h2, _⟩ := hv
    exact ⟨cs, h1, h2, trivial⟩
  obtain ⟨c0, c1, rfl⟩ := Joins.array2 (hs.trans hct)
  obtain ⟨fuel, hf⟩ := h
  obtain ⟨xs, m, _, hx, _, hn, hd⟩ := DataW.trod_array hu hf
  obtain ⟨y0, y1, rfl⟩ : ∃ y0 y1, xs = [y0, y1] := by
    cases xs with
    | nil => simp at hn
    | cons a xs => cases xs with
      | nil => simp at hn
      | cons b xs => cases xs with
        | nil => exact ⟨a, b, rfl⟩
        | cons c xs => simp at hn
  have h0 := hd 0 (by omega)
  have h1 := hd 1 (by omega)
  simp [Value.cells, hce] at h0 h1
  obtain ⟨a, ea, e0, wa⟩ := DataW.trod_int he h0
  obtain ⟨b, eb, e1, wb⟩ := DataW.trod_int he h1
  simp at ea eb
  subst ea eb e0 e1
  exact ⟨a, b, rfl, wa, wb, by simpa using (Prod.mk.inj hx).2⟩
end Go.Proofs.Ytlcnckbmolefpaa.P
end
