/- Walks and laws of several statements of this seat, joined into one text; no condition. -/
import Derived.Test.YtlcnckbmolefpaaProg
import Derived.Below
import Derived.Deep.Draws
import Derived.Deep.AppendLies
import Derived.Maps.AppendAt
import Derived.OwnWalk
import Derived.Laws.BytesArg
import Derived.Laws.MakeOwn
import Derived.Laws.OwnMore
import Derived.Deep.OwnRows
import Derived.Tactics
import Derived.Lib.ConvBytes
import Derived.Laws.Slices
import Derived.WalkKit
import Derived.KernelRfl
import Derived.RowKit3
import Derived.Deep.LoopGhost
import Derived.Deep.QuietTactic
import Derived.BigQuiet
import Derived.WideLaws
import Derived.Deep.DeepCutAuto
import Derived.Deep.CutBlock
import Derived.Deep.RegionHeld3
import Derived.Laws.Rows
import Derived.Lib.AppendStr
import Derived.ArgAppend
import Derived.Laws.IdiomCopy
import Derived.OrdersHeld
import Derived.Laws.BitsLemmas
import Derived.RowKit
import Derived.Laws.StructEq
import Derived.Maps.RangeWalk
import Derived.Maps.OwnRows
import Derived.Maps.Views
import Derived.Maps.OwnSet
import Derived.IntWalk
import Derived.Shelf.SlMaps.Clone
import Derived.Deep.RegionHeldLaw
import Derived.Maps.GroupsBeside
import Derived.Test.YtlcnckbmolefpaaCBa0
import Derived.Test.YtlcnckbmolefpaaCBa1
import Derived.Test.YtlcnckbmolefpaaCBa3
import Derived.Test.YtlcnckbmolefpaaCBa4
import Derived.Test.YtlcnckbmolefpaaCBa5
section
-- Printed by the session's own turn of the print (wip/tools/print2.sh): some callees are proved by hand.
namespace Go.Proofs.Ytlcnckbmolefpaa.P
open Go.RowKit Go.Proofs.YtlcnckbmolefpaaW.PrintWords Go.Proofs.YtlcnckbmolefpaaW.PrintLast Go.Proofs.YtlcnckbmolefpaaW.PrintMore
attribute [local go_sem] max2_int min2_int max_two min_two max_three min_three max_four min_four   -- for this text's walks alone
set_option linter.unusedVariables false
set_option linter.unusedSimpArgs false
/-! ### marchlandlaw09_ClockBefores: function 5 -/
mutual
def marchlandlaw09_ClockBefores.j0 : Nat → List (S127) → List (S128) → List (List Bool) → Bool → Option (Bool)
  | 0, _, _, _, _ => none
  | k + 1, x0, x7, x8, x51 => if x51 = true then (some false) else (marchlandlaw09_ClockBefores.l0 k x0 x7 x8 0)
def marchlandlaw09_ClockBefores.l0 : Nat → List (S127) → List (S128) → List (List Bool) → Int → Option (Bool)
  | 0, _, _, _, _ => none
  | k + 1, x0, x7, x8, x9 => if x9 < (x0.length : Int) then (marchlandlaw09_ClockBefores.j2 k x0 x7 x8 x9 (decide (x9 < 14))) else (marchlandlaw09_ClockBefores.j2 k x0 x7 x8 x9 false)
def marchlandlaw09_ClockBefores.j2 : Nat → List (S127) → List (S128) → List (List Bool) → Int → Bool → Option (Bool)
  | 0, _, _, _, _, _ => none
  | k + 1, x0, x7, x8, x9, x59 => if x59 = true then (marchlandlaw09_ClockBefores.l1 k x0 x7 x8 x9 (wrap64 (x9 + 1))) else (some true)
def marchlandlaw09_ClockBefores.l1 : Nat → List (S127) → List (S128) → List (List Bool) → Int → Int → Option (Bool)
  | 0, _, _, _, _, _ => none
  | k + 1, x0, x7, x8, x9, x10 => if x10 < (x0.length : Int) then (marchlandlaw09_ClockBefores.j4 k x0 x7 x8 x9 x10 (decide (x10 < 14))) else (marchlandlaw09_ClockBefores.j4 k x0 x7 x8 x9 x10 false)
def marchlandlaw09_ClockBefores.j4 : Nat → List (S127) → List (S128) → List (List Bool) → Int → Int → Bool → Option (Bool)
  | 0, _, _, _, _, _, _ => none
  | k + 1, x0, x7, x8, x9, x10, x71 => if x71 = true then ((clock_Before.f x7 x9 x10).bind fun t213 => (if 0 ≤ x10 then (if x10 < (x8.length : Int) then (if 0 ≤ x9 then (if x9 < ((rd_L5 x8 x10).length : Int) then (if (t213 != (rdOf false (rd_L5 x8 x10) x9)) = true then (some false) else (marchlandlaw09_ClockBefores.l2 k x0 x7 x8 x9 x10 (wrap64 (x10 + 1)))) else (none)) else (none)) else (none)) else (none))) else (marchlandlaw09_ClockBefores.l0 k x0 x7 x8 (wrap64 (x9 + 1)))
def marchlandlaw09_ClockBefores.l2 : Nat → List (S127) → List (S128) → List (List Bool) → Int → Int → Int → Option (Bool)
  | 0, _, _, _, _, _, _ => none
  | k + 1, x0, x7, x8, x9, x10, x11 => if x11 < (x0.length : Int) then (marchlandlaw09_ClockBefores.j6 k x0 x7 x8 x9 x10 x11 (decide (x11 < 14))) else (marchlandlaw09_ClockBefores.j6 k x0 x7 x8 x9 x10 x11 false)
def marchlandlaw09_ClockBefores.j6 : Nat → List (S127) → List (S128) → List (List Bool) → Int → Int → Int → Bool → Option (Bool)
  | 0, _, _, _, _, _, _, _ => none
  | k + 1, x0, x7, x8, x9, x10, x11, x95 => if x95 = true then (if 0 ≤ x10 then (if x10 < (x8.length : Int) then (if 0 ≤ x9 then (if x9 < ((rd_L5 x8 x10).length : Int) then (if rdOf false (rd_L5 x8 x10) x9 = true then (if 0 ≤ x11 then (if x11 < (x8.length : Int) then (if x10 < ((rd_L5 x8 x11).length : Int) then (if rdOf false (rd_L5 x8 x11) x10 = true then ((clock_Before.f x7 x9 x11).bind fun t220 => (if t220 = true then (marchlandlaw09_ClockBefores.l2 k x0 x7 x8 x9 x10 (wrap64 (x11 + 1))) else (some false))) else (marchlandlaw09_ClockBefores.l2 k x0 x7 x8 x9 x10 (wrap64 (x11 + 1)))) else (none)) else (none)) else (none)) else (marchlandlaw09_ClockBefores.l2 k x0 x7 x8 x9 x10 (wrap64 (x11 + 1)))) else (none)) else (none)) else (none)) else (none)) else (marchlandlaw09_ClockBefores.l1 k x0 x7 x8 x9 (wrap64 (x10 + 1)))
end
def marchlandlaw09_ClockBefores.f (k : Nat) (l0 : List (S127)) (a1 : Int) (a2 : Int) : Option (Bool) := if 0 ≤ (mn (l0.length : Int) 50) then (if (mn (l0.length : Int) 50) ≤ (l0.length : Int) then ((some (l0.take ((mn (l0.length : Int) 50) : Int).toNat : List (S127))).bind fun y199 => ((marchlandlaw09_To.f k y199).bind fun t203 => ((marchlandref09_Ahead.f k y199).bind fun t206 => ((marchlandlaw09_told.f).bind fun t209 => (if t209 = true then ((clock_Before.f t203 a1 a2).bind fun t210 => (if a1 ≥ 0 then (if a2 < (y199.length : Int) then (if a1 < a2 then (if 0 ≤ a2 then (if a2 < (t206.length : Int) then (if 0 ≤ a1 then (if a1 < ((rd_L5 t206 a2).length : Int) then (marchlandlaw09_ClockBefores.j0 k y199 t203 t206 (t210 != (rdOf false (rd_L5 t206 a2) a1))) else (none)) else (none)) else (none)) else (none)) else (marchlandlaw09_ClockBefores.j0 k y199 t203 t206 (t210 != false))) else (marchlandlaw09_ClockBefores.j0 k y199 t203 t206 (t210 != false))) else (marchlandlaw09_ClockBefores.j0 k y199 t203 t206 (t210 != false)))) else (marchlandlaw09_ClockBefores.j0 k y199 t203 t206 true)))))) else (none)) else (none)
def marchlandlaw09_ClockBefores.T12 : Bool × List (List Nat × List Nat) := (true, [([], []), ([], []), ([], []), ([0, 1, 2], [0, 1, 2]), ([], []), ([], []), ([4, 5], [4, 5]), ([6], [6]), ([], []), ([7, 8], [7, 8]), ([9], [9]), ([3, 10], [3, 10])])
def marchlandlaw09_ClockBefores.B12 : List Nat := [0, 0, 0, 7, 0, 0, 48, 112, 0, 496, 1008, 2047]
theorem marchlandlaw09_ClockBefores.tab12 : rtab .any (opsOf Try.f5 12) = marchlandlaw09_ClockBefores.T12 := by kernel_rfl
theorem marchlandlaw09_ClockBefores.bits12 : waitsOk marchlandlaw09_ClockBefores.T12.2 marchlandlaw09_ClockBefores.B12 = true := by kernel_rfl
set_option maxHeartbeats 8000000 in
set_option maxRecDepth 100000 in
theorem marchlandlaw09_ClockBefores.calls (k : Nat) (A0 : Option Addr) (c0 : Nat) (l0 : List (S127)) (a1 : Int) (a2 : Int) (r : Bool) (w : World) (hr0 : Kd.C k127 w A0 l0.length l0) (hc0 : l0.length ≤ c0) (h : marchlandlaw09_ClockBefores.f k l0 a1 a2 = some r) :
    Calls Try.prog 5 #[.slice A0 l0.length c0, .int .i64 a1, .int .i64 a2] w fun e w' => e = .returned (.bool r) ∧ Below w.heap.size w w' := by
  have HR0 := Aside0.mk hr0
  have HC0 := Aside0.mk hc0
  clear hr0 hc0
  have HB := Aside0.mk (Below.refl w.heap.size w)
  have H : (if 0 ≤ (mn (l0.length : Int) 50) then (if (mn (l0.length : Int) 50) ≤ (l0.length : Int) then ((some (l0.take ((mn (l0.length : Int) 50) : Int).toNat : List (S127))).bind fun y199 => ((marchlandlaw09_To.f k y199).bind fun t203 => ((marchlandref09_Ahead.f k y199).bind fun t206 => ((marchlandlaw09_told.f).bind fun t209 => (if t209 = true then ((clock_Before.f t203 a1 a2).bind fun t210 => (if a1 ≥ 0 then (if a2 < (y199.length : Int) then (if a1 < a2 then (if 0 ≤ a2 then (if a2 < (t206.length : Int) then (if 0 ≤ a1 then (if a1 < ((rd_L5 t206 a2).length : Int) then (marchlandlaw09_ClockBefores.j0 k y199 t203 t206 (t210 != (rdOf false (rd_L5 t206 a2) a1))) else (none)) else (none)) else (none)) else (none)) else (marchlandlaw09_ClockBefores.j0 k y199 t203 t206 (t210 != false))) else (marchlandlaw09_ClockBefores.j0 k y199 t203 t206 (t210 != false))) else (marchlandlaw09_ClockBefores.j0 k y199 t203 t206 (t210 != false)))) else (marchlandlaw09_ClockBefores.j0 k y199 t203 t206 true)))))) else (none)) else (none)) = some r := h
  clear h
  obtain ⟨ji4, hji4⟩ : ∃ j_ : Int, (mn (l0.length : Int) 50) = j_ := ⟨_, rfl⟩
  replace H : (if 0 ≤ (ji4) then (if (ji4) ≤ (l0.length : Int) then ((some (l0.take ((ji4) : Int).toNat : List (S127))).bind fun y199 => ((marchlandlaw09_To.f k y199).bind fun t203 => ((marchlandref09_Ahead.f k y199).bind fun t206 => ((marchlandlaw09_told.f).bind fun t209 => (if t209 = true then ((clock_Before.f t203 a1 a2).bind fun t210 => (if a1 ≥ 0 then (if a2 < (y199.length : Int) then (if a1 < a2 then (if 0 ≤ a2 then (if a2 < (t206.length : Int) then (if 0 ≤ a1 then (if a1 < ((rd_L5 t206 a2).length : Int) then (marchlandlaw09_ClockBefores.j0 k y199 t203 t206 (t210 != (rdOf false (rd_L5 t206 a2) a1))) else (none)) else (none)) else (none)) else (none)) else (marchlandlaw09_ClockBefores.j0 k y199 t203 t206 (t210 != false))) else (marchlandlaw09_ClockBefores.j0 k y199 t203 t206 (t210 != false))) else (marchlandlaw09_ClockBefores.j0 k y199 t203 t206 (t210 != false)))) else (marchlandlaw09_ClockBefores.j0 k y199 t203 t206 true)))))) else (none)) else (none)) = some r := by first | (rw [hji4] at H; exact H) | (simp only [hji4] at H ⊢; exact H)
  (try (have hji4h : ji4 ≤ 50 := by (rw [← hji4]; unfold mn; (repeat' split) <;> omega)))
  (try (have hji4g : ji4 ≤ 64 := by omega))
  (try (have hji4l : 0 ≤ ji4 := by (rw [← hji4]; unfold mn; (repeat' split) <;> omega)))
  (try (have hji4m : 0 ≤ ji4 := by omega))
  have hji4_ : (if 50 < (l0.length : Int) then 50 else (l0.length : Int)) = ji4 := hji4
  by_cases c5 : 0 ≤ (ji4)
  · rw [if_pos c5] at H
    have c5b0 := eq_true c5
    have c5b1 : decide (0 ≤ (ji4)) = true := decide_eq_true c5
    clear c5
    by_cases c6 : (ji4) ≤ (l0.length : Int)
    · rw [if_pos c6] at H
      have c6b0 := eq_true c6
      have c6b1 : decide ((ji4) ≤ (l0.length : Int)) = true := decide_eq_true c6
      clear c6
      obtain ⟨y199, hy199⟩ : ∃ y_ : List (S127), y_ = (l0.take ((ji4) : Int).toNat) := ⟨_, rfl⟩
      replace H : ((marchlandlaw09_To.f k y199).bind fun t203 => ((marchlandref09_Ahead.f k y199).bind fun t206 => ((marchlandlaw09_told.f).bind fun t209 => (if t209 = true then ((clock_Before.f t203 a1 a2).bind fun t210 => (if a1 ≥ 0 then (if a2 < (y199.length : Int) then (if a1 < a2 then (if 0 ≤ a2 then (if a2 < (t206.length : Int) then (if 0 ≤ a1 then (if a1 < ((rd_L5 t206 a2).length : Int) then (marchlandlaw09_ClockBefores.j0 k y199 t203 t206 (t210 != (rdOf false (rd_L5 t206 a2) a1))) else (none)) else (none)) else (none)) else (none)) else (marchlandlaw09_ClockBefores.j0 k y199 t203 t206 (t210 != false))) else (marchlandlaw09_ClockBefores.j0 k y199 t203 t206 (t210 != false))) else (marchlandlaw09_ClockBefores.j0 k y199 t203 t206 (t210 != false)))) else (marchlandlaw09_ClockBefores.j0 k y199 t203 t206 true))))) = some r := by first | (rw [hy199]; with_reducible exact H) | (have H2_ := (Option.bind_some _ _).symm.trans H; rw [hy199]; with_reducible exact H2_) | (have H2_ := (Option.bind_some _ _).symm.trans H; with_reducible exact H2_) | with_reducible exact H | (rw [hy199]; exact H) | exact H
      have Ny199 := Aside0.mk hy199
      clear hy199
      replace H := Option.bind_eq_some_iff.mp H
      obtain ⟨t203, A70, H⟩ := H
      replace H : ((marchlandref09_Ahead.f k y199).bind fun t206 => ((marchlandlaw09_told.f).bind fun t209 => (if t209 = true then ((clock_Before.f t203 a1 a2).bind fun t210 => (if a1 ≥ 0 then (if a2 < (y199.length : Int) then (if a1 < a2 then (if 0 ≤ a2 then (if a2 < (t206.length : Int) then (if 0 ≤ a1 then (if a1 < ((rd_L5 t206 a2).length : Int) then (marchlandlaw09_ClockBefores.j0 k y199 t203 t206 (t210 != (rdOf false (rd_L5 t206 a2) a1))) else (none)) else (none)) else (none)) else (none)) else (marchlandlaw09_ClockBefores.j0 k y199 t203 t206 (t210 != false))) else (marchlandlaw09_ClockBefores.j0 k y199 t203 t206 (t210 != false))) else (marchlandlaw09_ClockBefores.j0 k y199 t203 t206 (t210 != false)))) else (marchlandlaw09_ClockBefores.j0 k y199 t203 t206 true)))) = some r := H
      have A7 := Aside0.mk A70
      clear A70
      replace H := Option.bind_eq_some_iff.mp H
      obtain ⟨t206, A80, H⟩ := H
      replace H : ((marchlandlaw09_told.f).bind fun t209 => (if t209 = true then ((clock_Before.f t203 a1 a2).bind fun t210 => (if a1 ≥ 0 then (if a2 < (y199.length : Int) then (if a1 < a2 then (if 0 ≤ a2 then (if a2 < (t206.length : Int) then (if 0 ≤ a1 then (if a1 < ((rd_L5 t206 a2).length : Int) then (marchlandlaw09_ClockBefores.j0 k y199 t203 t206 (t210 != (rdOf false (rd_L5 t206 a2) a1))) else (none)) else (none)) else (none)) else (none)) else (marchlandlaw09_ClockBefores.j0 k y199 t203 t206 (t210 != false))) else (marchlandlaw09_ClockBefores.j0 k y199 t203 t206 (t210 != false))) else (marchlandlaw09_ClockBefores.j0 k y199 t203 t206 (t210 != false)))) else (marchlandlaw09_ClockBefores.j0 k y199 t203 t206 true))) = some r := H
      have A8 := Aside0.mk A80
      clear A80
      have HC9 := Aside0.mk H
      clear H
      have q10 : ((ji4) : Int) ≤ ((l0.length : Int) : Int) := of_decide_eq_true (by first | (with_reducible assumption) | assumption)
      obtain ⟨i010, hi010, _, hsz10, _⟩ := info_parts info127
      have hroom10 : l0.length ≤ c0 := HC0.out
      have hC10 : Kd.C k127 _ A0 l0.length l0 := HR0.out
      have hcut10 := cut_to (P := Try.prog) 32 127 .i64 Try.underlying32 hi010 A0 l0.length c0 (ji4) (of_decide_eq_true (by first | (with_reducible assumption) | assumption)) q10 hroom10
      have hr10 := Kd.C_take (m := ((ji4) : Int).toNat) hC10 (by omega)
      have hy10 : y199.length = ((ji4) : Int).toNat := (by rw [Ny199.out, List.length_take]; omega)
      rw [← Ny199.out] at hr10
      rw [← hy10] at hcut10
      have HR202 := Aside0.mk hr10
      have HC202 := Aside0.mk (show y199.length ≤ c0 from by omega)
      clear hr10 hC10 hroom10 hi010 hsz10
      have KY10 := Aside0.mk hy10
      clear hy10
      replace q10 := eq_true q10
      go_enter Try.func5, Try.ntmps5
      go_upto_region 4 with (first | ((with_reducible refine gate_callee (f := 24) rfl ?_); refine goesL_ (some 18) rfl rfl Try.func24 (by kernel_rfl) rfl #[.slice A0 y199.length c0] rfl (by (try simp only [List.map_toArray, List.map_cons, List.map_nil]); first | done | rfl | (simp only [List.length_drop, List.length_take]; rfl)) ?_; (with_reducible refine (marchlandlaw09_To.calls k _ _ y199 t203 _ ?side1 ?side2 A7.out).mono ?_); (case side1 => repeat (first | exact HR202.out | (with_reducible refine Kd.C_alloc ?_ _) | (with_reducible refine Kd.C_drewN ?_ _) | (with_reducible refine Kd.C_drew ?_))); (case side2 => exact HC202.out); rintro e w11 ⟨v204, rfl, ho0, hb⟩; refine ⟨_, rfl, ?_⟩; have n0_ := Aside0.mk (Kd.R_lower ho0 (below_size (by repeat (first | (with_reducible first | exact HB.out | apply below_alloc | apply pw_below_drewN | apply below_drew1) | exact HB.out)))); have n1_ := Aside0.mk (below_step (by repeat (first | (with_reducible first | exact HB.out | apply below_alloc | apply pw_below_drewN | apply below_drew1) | exact HB.out)) hb); clear HB; have HO205 := n0_; have HB := n1_; clear n0_ n1_; (try clear hb); (try clear hb2); (try clear hk); (try clear hi); (try clear ho0)) | ((with_reducible refine gate_callee (f := 25) rfl ?_); refine goesL_ (some 20) rfl rfl Try.func25 (by kernel_rfl) rfl #[.slice A0 y199.length c0] rfl (by (try simp only [List.map_toArray, List.map_cons, List.map_nil]); first | done | rfl | (simp only [List.length_drop, List.length_take]; rfl)) ?_; (with_reducible refine (marchlandref09_Ahead.calls k _ _ y199 t206 _ ?side1 ?side2 A8.out).mono ?_); (case side1 => repeat (first | exact (Kd.C_below HR202.out HB.out) | (with_reducible refine Kd.C_alloc ?_ _) | (with_reducible refine Kd.C_drewN ?_ _) | (with_reducible refine Kd.C_drew ?_))); (case side2 => exact HC202.out); rintro e w12 ⟨v207, rfl, ho0, hb⟩; refine ⟨_, rfl, ?_⟩; have n0_ := Aside0.mk (Kd.R_below (by (with_reducible repeat (first | apply Kd.R_alloc | apply Kd.R_drewN | apply Kd.R_drew)); exact HO205.out) hb); have n1_ := Aside0.mk (Kd.S_lower ho0 (below_size (by repeat (first | (with_reducible first | exact HB.out | apply below_alloc | apply pw_below_drewN | apply below_drew1) | exact HB.out)))); have n2_ := Aside0.mk (below_step (by repeat (first | (with_reducible first | exact HB.out | apply below_alloc | apply pw_below_drewN | apply below_drew1) | exact HB.out)) hb); clear HO205; clear HB; have HO205 := n0_; have HO208 := n1_; have HB := n2_; clear n0_ n1_ n2_; (try clear hb); (try clear hb2); (try clear hk); (try clear hi); (try clear ho0)))
      (try simp only [Act.put, List.setIfInBounds_toArray, List.set_cons_zero, List.set_cons_succ])
      go_cut [51] (fun v51 wc => ∃ (kq : Nat) (x51_8 : Bool), v51 = .bool x51_8 ∧ Aside0 (marchlandlaw09_ClockBefores.j0 kq y199 t203 t206 x51_8 = some r) ∧ Aside0 (kq ≤ k) ∧ Aside0 (Kd.R k128 128 wc w.heap.size (fun _ => True) v204 t203) ∧ Aside0 (Kd.S (Kd.slice 4 Kd.bool) 38 wc w.heap.size (fun _ => True) v207 t206) ∧ Aside0 (Below w.heap.size w wc))
      case first =>
        have H := HC9.out
        clear HC9
        replace H := Option.bind_eq_some_iff.mp H
        obtain ⟨t209, A130, H⟩ := H
        replace H : (if t209 = true then ((clock_Before.f t203 a1 a2).bind fun t210 => (if a1 ≥ 0 then (if a2 < (y199.length : Int) then (if a1 < a2 then (if 0 ≤ a2 then (if a2 < (t206.length : Int) then (if 0 ≤ a1 then (if a1 < ((rd_L5 t206 a2).length : Int) then (marchlandlaw09_ClockBefores.j0 k y199 t203 t206 (t210 != (rdOf false (rd_L5 t206 a2) a1))) else (none)) else (none)) else (none)) else (none)) else (marchlandlaw09_ClockBefores.j0 k y199 t203 t206 (t210 != false))) else (marchlandlaw09_ClockBefores.j0 k y199 t203 t206 (t210 != false))) else (marchlandlaw09_ClockBefores.j0 k y199 t203 t206 (t210 != false)))) else (marchlandlaw09_ClockBefores.j0 k y199 t203 t206 true)) = some r := H
        have A13 := Aside0.mk A130
        clear A130
        by_cases c14 : t209 = true
        · subst c14
          have H1 : ((clock_Before.f t203 a1 a2).bind fun t210 => (if a1 ≥ 0 then (if a2 < (y199.length : Int) then (if a1 < a2 then (if 0 ≤ a2 then (if a2 < (t206.length : Int) then (if 0 ≤ a1 then (if a1 < ((rd_L5 t206 a2).length : Int) then (marchlandlaw09_ClockBefores.j0 k y199 t203 t206 (t210 != (rdOf false (rd_L5 t206 a2) a1))) else (none)) else (none)) else (none)) else (none)) else (marchlandlaw09_ClockBefores.j0 k y199 t203 t206 (t210 != false))) else (marchlandlaw09_ClockBefores.j0 k y199 t203 t206 (t210 != false))) else (marchlandlaw09_ClockBefores.j0 k y199 t203 t206 (t210 != false)))) = some r := by rw [if_pos rfl] at H; exact H
          clear H
          have H := H1
          clear H1
          replace H := Option.bind_eq_some_iff.mp H
          obtain ⟨t210, A150, H⟩ := H
          replace H : (if a1 ≥ 0 then (if a2 < (y199.length : Int) then (if a1 < a2 then (if 0 ≤ a2 then (if a2 < (t206.length : Int) then (if 0 ≤ a1 then (if a1 < ((rd_L5 t206 a2).length : Int) then (marchlandlaw09_ClockBefores.j0 k y199 t203 t206 (t210 != (rdOf false (rd_L5 t206 a2) a1))) else (none)) else (none)) else (none)) else (none)) else (marchlandlaw09_ClockBefores.j0 k y199 t203 t206 (t210 != false))) else (marchlandlaw09_ClockBefores.j0 k y199 t203 t206 (t210 != false))) else (marchlandlaw09_ClockBefores.j0 k y199 t203 t206 (t210 != false))) = some r := H
          have A15 := Aside0.mk A150
          clear A150
          by_cases c16 : a1 ≥ 0
          · rw [if_pos c16] at H
            have c16b0 : decide (0 ≤ a1) = true := decide_eq_true c16
            clear c16
            (first | rw [c16b0] | (simp only [i64_w, i32_w]; rw [c16b0]) | skip)
            by_cases c17 : a2 < (y199.length : Int)
            · rw [if_pos c17] at H
              have c17b0 : decide (a2 < (y199.length : Int)) = true := decide_eq_true c17
              clear c17
              by_cases c18 : a1 < a2
              · rw [if_pos c18] at H
                have c18b0 : decide (a1 < a2) = true := decide_eq_true c18
                clear c18
                by_cases c19 : 0 ≤ a2
                · rw [if_pos c19] at H
                  have c19b0 : decide (0 ≤ a2) = true := decide_eq_true c19
                  clear c19
                  by_cases c20 : a2 < (t206.length : Int)
                  · rw [if_pos c20] at H
                    have c20b0 : decide (a2 < (t206.length : Int)) = true := decide_eq_true c20
                    clear c20
                    by_cases c21 : 0 ≤ a1
                    · rw [if_pos c21] at H
                      have c21b0 : decide (0 ≤ a1) = true := decide_eq_true c21
                      clear c21
                      by_cases c22 : a1 < ((rd_L5 t206 a2).length : Int)
                      · rw [if_pos c22] at H
                        have c22b0 : decide (a1 < ((rd_L5 t206 a2).length : Int)) = true := decide_eq_true c22
                        clear c22
                        have H' := Aside0.mk H
                        clear H
                        go_wp2_with (first | ((with_reducible refine gate_callee (f := 26) rfl ?_); refine goesL_ (some 21) rfl rfl Try.func26 (by kernel_rfl) rfl #[] rfl (by (try simp only [List.map_toArray, List.map_cons, List.map_nil]); first | done | rfl | (simp only [List.length_drop, List.length_take]; rfl)) ?_; (with_reducible refine (marchlandlaw09_told.calls  true _ A13.out).mono ?_); rintro e w23 ⟨rfl, hb⟩; refine ⟨_, rfl, ?_⟩; have n0_ := Aside0.mk (Kd.R_below (by (with_reducible repeat (first | apply Kd.R_alloc | apply Kd.R_drewN | apply Kd.R_drew)); exact HO205.out) hb); have n1_ := Aside0.mk (Kd.S_below (by (with_reducible repeat (first | apply Kd.S_alloc | apply Kd.S_drewN | apply Kd.S_drew)); exact HO208.out) hb); have n2_ := Aside0.mk (below_step (by repeat (first | (with_reducible first | exact HB.out | apply below_alloc | apply pw_below_drewN | apply below_drew1) | exact HB.out)) hb); clear HO205; clear HO208; clear HB; have HO205 := n0_; have HO208 := n1_; have HB := n2_; clear n0_ n1_ n2_; (try clear hb); (try clear hb2); (try clear hk); (try clear hi); obtain ⟨Ao24, co24, eo24⟩ := Kd.R_slice HO205.out; subst eo24) | (go_at_call 27; (with_reducible refine (clock_Before.calls _ _ t203 a1 a2 t210 _ ?side1 ?side2 A15.out).mono ?_); (case side1 => repeat (first | exact (Kd.R_reads' HO205.out).2.2 | (with_reducible refine Kd.C_alloc ?_ _) | (with_reducible refine Kd.C_drewN ?_ _) | (with_reducible refine Kd.C_drew ?_))); (case side2 => exact (Kd.R_reads' HO205.out).2.1); rintro e w25 ⟨rfl, hb⟩; have n0_ := Aside0.mk (Kd.R_below (by (with_reducible repeat (first | apply Kd.R_alloc | apply Kd.R_drewN | apply Kd.R_drew)); exact HO205.out) hb); have n1_ := Aside0.mk (Kd.S_below (by (with_reducible repeat (first | apply Kd.S_alloc | apply Kd.S_drewN | apply Kd.S_drew)); exact HO208.out) hb); have n2_ := Aside0.mk (below_step (by repeat (first | (with_reducible first | exact HB.out | apply below_alloc | apply pw_below_drewN | apply below_drew1) | exact HB.out)) hb); clear HO205; clear HO208; clear HB; have HO205 := n0_; have HO208 := n1_; have HB := n2_; clear n0_ n1_ n2_; (try clear hb); (try clear hb2); (try clear hk); (try clear hi); obtain ⟨Ao26, co26, eo26⟩ := Kd.S_slice HO208.out; subst eo26; have p211 : 0 ≤ (a2 : Int) := of_decide_eq_true (by first | (with_reducible assumption) | assumption); have q211 : a2 < (t206.length : Int) := of_decide_eq_true (by first | (with_reducible assumption) | assumption); obtain ⟨ad211, A211_0, c211_0, e211, hx211_0, hl211_0, hi211_0⟩ := at_L5 (Kd.S_reads' HO208.out).2.2 a2 p211 q211; cases e211; obtain ⟨ce211, hce211, hMe211, hcc211⟩ := Kd.S_get HO208.out [] a2 p211 (by first | exact q211 | exact of_decide_eq_true (by first | (with_reducible assumption) | assumption) | (have e_ := (Kd.S_reads' HO208.out).1; omega)); obtain ⟨ve211_0, rfl, ge211_0⟩ := hMe211; have hv211_0 := hcc211 0 _ rfl; rw [Nat.add_zero, show ((Kd.slice 4 Kd.bool)).sz = 1 from rfl, Nat.mul_one] at hv211_0; replace hv211_0 := Option.some.inj (hv211_0.symm.trans hx211_0); rw [hv211_0] at ge211_0; have HL211_0 := Aside0.mk (show Kd.R Kd.bool 4 _ _ _ _ (rd_L5 t206 a2) from ge211_0); clear hv211_0 ge211_0; clear hcc211 hce211; have HR211_0 := Aside0.mk hi211_0; have HC211_0 := Aside0.mk hl211_0; clear hi211_0 hl211_0; replace p211 := eq_true p211; replace q211 := eq_true q211; have p212 : 0 ≤ (a1 : Int) := of_decide_eq_true (by first | (with_reducible assumption) | assumption); have q212 : a1 < ((rd_L5 t206 a2).length : Int) := of_decide_eq_true (by first | (with_reducible assumption) | assumption); obtain ⟨ad212, e212, hx212_0⟩ := Kd.at_bool (by repeat (first | (with_reducible exact HR211_0.out) | (with_reducible refine Kd.C_alloc ?_ _) | (with_reducible refine Kd.C_drewN ?_ _) | (with_reducible refine Kd.C_drew ?_) | exact HR211_0.out)) a1 p212 q212; cases e212; replace p212 := eq_true p212; replace q212 := eq_true q212))
                        go_meet
                        case rel => exact ⟨_, ((t210 != (rdOf false (rd_L5 t206 a2) a1))), (by first | rfl | (simp; done) | (simp [*]; done)), H', ⟨by first | omega | exact Nat.le_refl _⟩, ⟨by (with_reducible repeat (first | apply Kd.R_alloc | apply Kd.R_drewN | apply Kd.R_drew)); exact HO205.out⟩, ⟨by (with_reducible repeat (first | apply Kd.S_alloc | apply Kd.S_drewN | apply Kd.S_drew)); exact HO208.out⟩, ⟨by repeat (first | (with_reducible first | exact HB.out | apply below_alloc | apply pw_below_drewN | apply below_drew1) | exact HB.out)⟩⟩
                      · rw [if_neg c22] at H
                        exact absurd H (by simp)
                    · rw [if_neg c21] at H
                      exact absurd H (by simp)
                  · rw [if_neg c20] at H
                    exact absurd H (by simp)
                · rw [if_neg c19] at H
                  exact absurd H (by simp)
              · rw [if_neg c18] at H
                have c18b0 : decide (a1 < a2) = false := decide_eq_false c18
                clear c18
                have H' := Aside0.mk H
                clear H
                go_wp2_with (first | ((with_reducible refine gate_callee (f := 26) rfl ?_); refine goesL_ (some 21) rfl rfl Try.func26 (by kernel_rfl) rfl #[] rfl (by (try simp only [List.map_toArray, List.map_cons, List.map_nil]); first | done | rfl | (simp only [List.length_drop, List.length_take]; rfl)) ?_; (with_reducible refine (marchlandlaw09_told.calls  true _ A13.out).mono ?_); rintro e w27 ⟨rfl, hb⟩; refine ⟨_, rfl, ?_⟩; have n0_ := Aside0.mk (Kd.R_below (by (with_reducible repeat (first | apply Kd.R_alloc | apply Kd.R_drewN | apply Kd.R_drew)); exact HO205.out) hb); have n1_ := Aside0.mk (Kd.S_below (by (with_reducible repeat (first | apply Kd.S_alloc | apply Kd.S_drewN | apply Kd.S_drew)); exact HO208.out) hb); have n2_ := Aside0.mk (below_step (by repeat (first | (with_reducible first | exact HB.out | apply below_alloc | apply pw_below_drewN | apply below_drew1) | exact HB.out)) hb); clear HO205; clear HO208; clear HB; have HO205 := n0_; have HO208 := n1_; have HB := n2_; clear n0_ n1_ n2_; (try clear hb); (try clear hb2); (try clear hk); (try clear hi); obtain ⟨Ao28, co28, eo28⟩ := Kd.R_slice HO205.out; subst eo28) | (go_at_call 27; (with_reducible refine (clock_Before.calls _ _ t203 a1 a2 t210 _ ?side1 ?side2 A15.out).mono ?_); (case side1 => repeat (first | exact (Kd.R_reads' HO205.out).2.2 | (with_reducible refine Kd.C_alloc ?_ _) | (with_reducible refine Kd.C_drewN ?_ _) | (with_reducible refine Kd.C_drew ?_))); (case side2 => exact (Kd.R_reads' HO205.out).2.1); rintro e w29 ⟨rfl, hb⟩; have n0_ := Aside0.mk (Kd.R_below (by (with_reducible repeat (first | apply Kd.R_alloc | apply Kd.R_drewN | apply Kd.R_drew)); exact HO205.out) hb); have n1_ := Aside0.mk (Kd.S_below (by (with_reducible repeat (first | apply Kd.S_alloc | apply Kd.S_drewN | apply Kd.S_drew)); exact HO208.out) hb); have n2_ := Aside0.mk (below_step (by repeat (first | (with_reducible first | exact HB.out | apply below_alloc | apply pw_below_drewN | apply below_drew1) | exact HB.out)) hb); clear HO205; clear HO208; clear HB; have HO205 := n0_; have HO208 := n1_; have HB := n2_; clear n0_ n1_ n2_; (try clear hb); (try clear hb2); (try clear hk); (try clear hi)))
                go_meet
                case rel => exact ⟨_, ((t210 != false)), (by first | rfl | (simp; done) | (simp [*]; done)), H', ⟨by first | omega | exact Nat.le_refl _⟩, ⟨by (with_reducible repeat (first | apply Kd.R_alloc | apply Kd.R_drewN | apply Kd.R_drew)); exact HO205.out⟩, ⟨by (with_reducible repeat (first | apply Kd.S_alloc | apply Kd.S_drewN | apply Kd.S_drew)); exact HO208.out⟩, ⟨by repeat (first | (with_reducible first | exact HB.out | apply below_alloc | apply pw_below_drewN | apply below_drew1) | exact HB.out)⟩⟩
            · rw [if_neg c17] at H
              have c17b0 : decide (a2 < (y199.length : Int)) = false := decide_eq_false c17
              clear c17
              have H' := Aside0.mk H
              clear H
              go_wp2_with (first | ((with_reducible refine gate_callee (f := 26) rfl ?_); refine goesL_ (some 21) rfl rfl Try.func26 (by kernel_rfl) rfl #[] rfl (by (try simp only [List.map_toArray, List.map_cons, List.map_nil]); first | done | rfl | (simp only [List.length_drop, List.length_take]; rfl)) ?_; (with_reducible refine (marchlandlaw09_told.calls  true _ A13.out).mono ?_); rintro e w30 ⟨rfl, hb⟩; refine ⟨_, rfl, ?_⟩; have n0_ := Aside0.mk (Kd.R_below (by (with_reducible repeat (first | apply Kd.R_alloc | apply Kd.R_drewN | apply Kd.R_drew)); exact HO205.out) hb); have n1_ := Aside0.mk (Kd.S_below (by (with_reducible repeat (first | apply Kd.S_alloc | apply Kd.S_drewN | apply Kd.S_drew)); exact HO208.out) hb); have n2_ := Aside0.mk (below_step (by repeat (first | (with_reducible first | exact HB.out | apply below_alloc | apply pw_below_drewN | apply below_drew1) | exact HB.out)) hb); clear HO205; clear HO208; clear HB; have HO205 := n0_; have HO208 := n1_; have HB := n2_; clear n0_ n1_ n2_; (try clear hb); (try clear hb2); (try clear hk); (try clear hi); obtain ⟨Ao31, co31, eo31⟩ := Kd.R_slice HO205.out; subst eo31) | (go_at_call 27; (with_reducible refine (clock_Before.calls _ _ t203 a1 a2 t210 _ ?side1 ?side2 A15.out).mono ?_); (case side1 => repeat (first | exact (Kd.R_reads' HO205.out).2.2 | (with_reducible refine Kd.C_alloc ?_ _) | (with_reducible refine Kd.C_drewN ?_ _) | (with_reducible refine Kd.C_drew ?_))); (case side2 => exact (Kd.R_reads' HO205.out).2.1); rintro e w32 ⟨rfl, hb⟩; have n0_ := Aside0.mk (Kd.R_below (by (with_reducible repeat (first | apply Kd.R_alloc | apply Kd.R_drewN | apply Kd.R_drew)); exact HO205.out) hb); have n1_ := Aside0.mk (Kd.S_below (by (with_reducible repeat (first | apply Kd.S_alloc | apply Kd.S_drewN | apply Kd.S_drew)); exact HO208.out) hb); have n2_ := Aside0.mk (below_step (by repeat (first | (with_reducible first | exact HB.out | apply below_alloc | apply pw_below_drewN | apply below_drew1) | exact HB.out)) hb); clear HO205; clear HO208; clear HB; have HO205 := n0_; have HO208 := n1_; have HB := n2_; clear n0_ n1_ n2_; (try clear hb); (try clear hb2); (try clear hk); (try clear hi)))
              go_meet
              case rel => exact ⟨_, ((t210 != false)), (by first | rfl | (simp; done) | (simp [*]; done)), H', ⟨by first | omega | exact Nat.le_refl _⟩, ⟨by (with_reducible repeat (first | apply Kd.R_alloc | apply Kd.R_drewN | apply Kd.R_drew)); exact HO205.out⟩, ⟨by (with_reducible repeat (first | apply Kd.S_alloc | apply Kd.S_drewN | apply Kd.S_drew)); exact HO208.out⟩, ⟨by repeat (first | (with_reducible first | exact HB.out | apply below_alloc | apply pw_below_drewN | apply below_drew1) | exact HB.out)⟩⟩
          · rw [if_neg c16] at H
            have c16b0 : decide (0 ≤ a1) = false := decide_eq_false c16
            clear c16
            (first | rw [c16b0] | (simp only [i64_w, i32_w]; rw [c16b0]) | skip)
            have H' := Aside0.mk H
            clear H
            go_wp2_with (first | ((with_reducible refine gate_callee (f := 26) rfl ?_); refine goesL_ (some 21) rfl rfl Try.func26 (by kernel_rfl) rfl #[] rfl (by (try simp only [List.map_toArray, List.map_cons, List.map_nil]); first | done | rfl | (simp only [List.length_drop, List.length_take]; rfl)) ?_; (with_reducible refine (marchlandlaw09_told.calls  true _ A13.out).mono ?_); rintro e w33 ⟨rfl, hb⟩; refine ⟨_, rfl, ?_⟩; have n0_ := Aside0.mk (Kd.R_below (by (with_reducible repeat (first | apply Kd.R_alloc | apply Kd.R_drewN | apply Kd.R_drew)); exact HO205.out) hb); have n1_ := Aside0.mk (Kd.S_below (by (with_reducible repeat (first | apply Kd.S_alloc | apply Kd.S_drewN | apply Kd.S_drew)); exact HO208.out) hb); have n2_ := Aside0.mk (below_step (by repeat (first | (with_reducible first | exact HB.out | apply below_alloc | apply pw_below_drewN | apply below_drew1) | exact HB.out)) hb); clear HO205; clear HO208; clear HB; have HO205 := n0_; have HO208 := n1_; have HB := n2_; clear n0_ n1_ n2_; (try clear hb); (try clear hb2); (try clear hk); (try clear hi); obtain ⟨Ao34, co34, eo34⟩ := Kd.R_slice HO205.out; subst eo34) | (go_at_call 27; (with_reducible refine (clock_Before.calls _ _ t203 a1 a2 t210 _ ?side1 ?side2 A15.out).mono ?_); (case side1 => repeat (first | exact (Kd.R_reads' HO205.out).2.2 | (with_reducible refine Kd.C_alloc ?_ _) | (with_reducible refine Kd.C_drewN ?_ _) | (with_reducible refine Kd.C_drew ?_))); (case side2 => exact (Kd.R_reads' HO205.out).2.1); rintro e w35 ⟨rfl, hb⟩; have n0_ := Aside0.mk (Kd.R_below (by (with_reducible repeat (first | apply Kd.R_alloc | apply Kd.R_drewN | apply Kd.R_drew)); exact HO205.out) hb); have n1_ := Aside0.mk (Kd.S_below (by (with_reducible repeat (first | apply Kd.S_alloc | apply Kd.S_drewN | apply Kd.S_drew)); exact HO208.out) hb); have n2_ := Aside0.mk (below_step (by repeat (first | (with_reducible first | exact HB.out | apply below_alloc | apply pw_below_drewN | apply below_drew1) | exact HB.out)) hb); clear HO205; clear HO208; clear HB; have HO205 := n0_; have HO208 := n1_; have HB := n2_; clear n0_ n1_ n2_; (try clear hb); (try clear hb2); (try clear hk); (try clear hi)))
            go_meet
            case rel => exact ⟨_, ((t210 != false)), (by first | rfl | (simp; done) | (simp [*]; done)), H', ⟨by first | omega | exact Nat.le_refl _⟩, ⟨by (with_reducible repeat (first | apply Kd.R_alloc | apply Kd.R_drewN | apply Kd.R_drew)); exact HO205.out⟩, ⟨by (with_reducible repeat (first | apply Kd.S_alloc | apply Kd.S_drewN | apply Kd.S_drew)); exact HO208.out⟩, ⟨by repeat (first | (with_reducible first | exact HB.out | apply below_alloc | apply pw_below_drewN | apply below_drew1) | exact HB.out)⟩⟩
        · replace c14 := Bool.eq_false_iff.mpr c14
          subst c14
          have H1 : (marchlandlaw09_ClockBefores.j0 k y199 t203 t206 true) = some r := by rw [if_neg (show ¬ (false = true) by decide)] at H; exact H
          clear H
          have H := H1
          clear H1
          have H' := Aside0.mk H
          clear H
          go_wp2_with (first | ((with_reducible refine gate_callee (f := 26) rfl ?_); refine goesL_ (some 21) rfl rfl Try.func26 (by kernel_rfl) rfl #[] rfl (by (try simp only [List.map_toArray, List.map_cons, List.map_nil]); first | done | rfl | (simp only [List.length_drop, List.length_take]; rfl)) ?_; (with_reducible refine (marchlandlaw09_told.calls  false _ A13.out).mono ?_); rintro e w36 ⟨rfl, hb⟩; refine ⟨_, rfl, ?_⟩; have n0_ := Aside0.mk (Kd.R_below (by (with_reducible repeat (first | apply Kd.R_alloc | apply Kd.R_drewN | apply Kd.R_drew)); exact HO205.out) hb); have n1_ := Aside0.mk (Kd.S_below (by (with_reducible repeat (first | apply Kd.S_alloc | apply Kd.S_drewN | apply Kd.S_drew)); exact HO208.out) hb); have n2_ := Aside0.mk (below_step (by repeat (first | (with_reducible first | exact HB.out | apply below_alloc | apply pw_below_drewN | apply below_drew1) | exact HB.out)) hb); clear HO205; clear HO208; clear HB; have HO205 := n0_; have HO208 := n1_; have HB := n2_; clear n0_ n1_ n2_; (try clear hb); (try clear hb2); (try clear hk); (try clear hi)))
          go_meet
          case rel => exact ⟨_, (true), (by first | rfl | (simp; done) | (simp [*]; done)), H', ⟨by first | omega | exact Nat.le_refl _⟩, ⟨by (with_reducible repeat (first | apply Kd.R_alloc | apply Kd.R_drewN | apply Kd.R_drew)); exact HO205.out⟩, ⟨by (with_reducible repeat (first | apply Kd.S_alloc | apply Kd.S_drewN | apply Kd.S_drew)); exact HO208.out⟩, ⟨by repeat (first | (with_reducible first | exact HB.out | apply below_alloc | apply pw_below_drewN | apply below_drew1) | exact HB.out)⟩⟩
      case rest =>
        clear HC9
        try clear c1
        try clear q1
        try clear c2
        try clear p2
        try clear q2
        try clear hx2
        try clear c5
        try clear c5b0
        try clear c5b1
        try clear c6
        try clear c6b0
        try clear c6b1
        try clear q10
        try clear c14
        try clear c16
        try clear c16b0
        try clear c17
        try clear c17b0
        try clear c18
        try clear c18b0
        try clear c19
        try clear c19b0
        try clear c20
        try clear c20b0
        try clear c21
        try clear c21b0
        try clear p21
        try clear q21
        try clear hx21
        try clear c22
        try clear c22b0
        try clear c24
        try clear c25
        try clear c26
        try clear hx211_0
        try clear hx212_0
        try clear p211
        try clear p212
        try clear q10
        try clear q211
        try clear q212
        obtain ⟨kq, x51_8, rfl, HA, HJ8, HO_7, HO_8, HB⟩ := hcut
        cases kq with
        | zero => exact absurd HA.out (by simp [marchlandlaw09_ClockBefores.j0])
        | succ kj8 =>
          have H := HA.out
          clear HA
          simp only [marchlandlaw09_ClockBefores.j0] at H
          by_cases c37 : x51_8 = true
          · subst c37
            have H1 : (some false) = some r := by rw [if_pos rfl] at H; exact H
            clear H
            have H := H1
            clear H1
            obtain rfl := Option.some.inj H
            go_wp2
            go_ret
            exact ⟨by first | rfl | (simp [errW_none, errW_some] <;> rfl) | (simp only [← hji4]; first | rfl | (simp [errW_none, errW_some] <;> rfl)) | (simp [*, errW_none, errW_some] <;> rfl), by repeat (first | (with_reducible first | exact HB.out | apply below_alloc | apply pw_below_drewN | apply below_drew1) | exact HB.out)⟩
          · replace c37 := Bool.eq_false_iff.mpr c37
            subst c37
            have H1 : (marchlandlaw09_ClockBefores.l0 kj8 y199 t203 t206 0) = some r := by rw [if_neg (show ¬ (false = true) by decide)] at H; exact H
            clear H
            have H := H1
            clear H1
            have H' := Aside0.mk H
            clear H
            go_wp2
            go_loopg [9] kj8 (fun kq v9 w' => ∃ (x9_2 : Int), v9 = .int .i64 x9_2 ∧ Aside0 (marchlandlaw09_ClockBefores.l0 kq y199 t203 t206 x9_2 = some r) ∧ Aside0 (kq ≤ kj8) ∧ Aside0 (Kd.R k128 128 w' w.heap.size (fun _ => True) v204 t203) ∧ Aside0 (Kd.S (Kd.slice 4 Kd.bool) 38 w' w.heap.size (fun _ => True) v207 t206) ∧ Aside0 (Below w.heap.size w w'))
            case atStart => exact ⟨(0), (by first | rfl | (simp; done) | (simp [*]; done)), H', ⟨Nat.le_refl _⟩, ⟨by (with_reducible repeat (first | apply Kd.R_alloc | apply Kd.R_drewN | apply Kd.R_drew)); exact HO_7.out⟩, ⟨by (with_reducible repeat (first | apply Kd.S_alloc | apply Kd.S_drewN | apply Kd.S_drew)); exact HO_8.out⟩, ⟨by repeat (first | (with_reducible first | exact HB.out | apply below_alloc | apply pw_below_drewN | apply below_drew1) | exact HB.out)⟩⟩
            case round =>
              clear H'
              try clear c1
              try clear q1
              try clear c2
              try clear p2
              try clear q2
              try clear hx2
              try clear c3
              try clear c5
              try clear c5b0
              try clear c5b1
              try clear c6
              try clear c6b0
              try clear c6b1
              try clear q10
              try clear c14
              try clear c16
              try clear c16b0
              try clear c17
              try clear c17b0
              try clear c18
              try clear c18b0
              try clear c19
              try clear c19b0
              try clear c20
              try clear c20b0
              try clear c21
              try clear c21b0
              try clear p21
              try clear q21
              try clear hx21
              try clear c22
              try clear c22b0
              try clear c24
              try clear c25
              try clear c26
              try clear c37
              try clear hx211_0
              try clear hx212_0
              try clear p2
              try clear p21
              try clear p211
              try clear p212
              try clear q1
              try clear q10
              try clear q2
              try clear q21
              try clear q211
              try clear q212
              obtain ⟨x9_2, rfl, HA, HK2, HO_7, HO_8, HB⟩ := hrel
              cases gk with
              | zero => exact absurd HA.out (by simp [marchlandlaw09_ClockBefores.l0])
              | succ k2 =>
                have H := HA.out
                clear HA
                simp only [marchlandlaw09_ClockBefores.l0] at H
                have HC38 := Aside0.mk H
                clear H
                go_upto_region 7 with (fail)
                go_cut [59] (fun v59 wc => ∃ (kq : Nat) (x59_37 : Bool), v59 = .bool x59_37 ∧ Aside0 (marchlandlaw09_ClockBefores.j2 kq y199 t203 t206 x9_2 x59_37 = some r) ∧ Aside0 (kq ≤ k2) ∧ Aside0 (Kd.R k128 128 wc w.heap.size (fun _ => True) v204 t203) ∧ Aside0 (Kd.S (Kd.slice 4 Kd.bool) 38 wc w.heap.size (fun _ => True) v207 t206) ∧ Aside0 (Below w.heap.size w wc))
                case first =>
                  have H := HC38.out
                  clear HC38
                  by_cases c39 : x9_2 < (y199.length : Int)
                  · rw [if_pos c39] at H
                    have c39b0 : decide (x9_2 < (y199.length : Int)) = true := decide_eq_true c39
                    clear c39
                    (first | rw [c39b0] | (simp only [i64_w, i32_w]; rw [c39b0]) | skip)
                    have H' := Aside0.mk H
                    clear H
                    go_wp2
                    go_meet
                    case rel => exact ⟨_, (decide (x9_2 < 14)), (by first | rfl | (simp; done) | (simp [*]; done)), H', ⟨by have := HJ8.out; have := HK2.out; first | omega | exact Nat.le_refl _⟩, ⟨by (with_reducible repeat (first | apply Kd.R_alloc | apply Kd.R_drewN | apply Kd.R_drew)); exact HO_7.out⟩, ⟨by (with_reducible repeat (first | apply Kd.S_alloc | apply Kd.S_drewN | apply Kd.S_drew)); exact HO_8.out⟩, ⟨by repeat (first | (with_reducible first | exact HB.out | apply below_alloc | apply pw_below_drewN | apply below_drew1) | exact HB.out)⟩⟩
                  · rw [if_neg c39] at H
                    have c39b0 : decide (x9_2 < (y199.length : Int)) = false := decide_eq_false c39
                    clear c39
                    (first | rw [c39b0] | (simp only [i64_w, i32_w]; rw [c39b0]) | skip)
                    have H' := Aside0.mk H
                    clear H
                    go_wp2
                    go_meet
                    case rel => exact ⟨_, (false), (by first | rfl | (simp; done) | (simp [*]; done)), H', ⟨by have := HJ8.out; have := HK2.out; first | omega | exact Nat.le_refl _⟩, ⟨by (with_reducible repeat (first | apply Kd.R_alloc | apply Kd.R_drewN | apply Kd.R_drew)); exact HO_7.out⟩, ⟨by (with_reducible repeat (first | apply Kd.S_alloc | apply Kd.S_drewN | apply Kd.S_drew)); exact HO_8.out⟩, ⟨by repeat (first | (with_reducible first | exact HB.out | apply below_alloc | apply pw_below_drewN | apply below_drew1) | exact HB.out)⟩⟩
                case rest =>
                  clear HC38
                  try clear c1
                  try clear q1
                  try clear c2
                  try clear p2
                  try clear q2
                  try clear hx2
                  try clear c3
                  try clear c5
                  try clear c5b0
                  try clear c5b1
                  try clear c6
                  try clear c6b0
                  try clear c6b1
                  try clear q10
                  try clear c14
                  try clear c16
                  try clear c16b0
                  try clear c17
                  try clear c17b0
                  try clear c18
                  try clear c18b0
                  try clear c19
                  try clear c19b0
                  try clear c20
                  try clear c20b0
                  try clear c21
                  try clear c21b0
                  try clear p21
                  try clear q21
                  try clear hx21
                  try clear c22
                  try clear c22b0
                  try clear c24
                  try clear c25
                  try clear c26
                  try clear c37
                  try clear c39
                  try clear c39b0
                  try clear hx211_0
                  try clear hx212_0
                  try clear p2
                  try clear p21
                  try clear p211
                  try clear p212
                  try clear q1
                  try clear q10
                  try clear q2
                  try clear q21
                  try clear q211
                  try clear q212
                  obtain ⟨kq, x59_37, rfl, HA, HJ37, HO_7, HO_8, HB⟩ := hcut
                  cases kq with
                  | zero => exact absurd HA.out (by simp [marchlandlaw09_ClockBefores.j2])
                  | succ kj37 =>
                    have H := HA.out
                    clear HA
                    simp only [marchlandlaw09_ClockBefores.j2] at H
                    by_cases c40 : x59_37 = true
                    · subst c40
                      have H1 : (marchlandlaw09_ClockBefores.l1 kj37 y199 t203 t206 x9_2 (wrap64 (x9_2 + 1))) = some r := by rw [if_pos rfl] at H; exact H
                      clear H
                      have H := H1
                      clear H1
                      have H' := Aside0.mk H
                      clear H
                      go_wp2
                      go_loopg [10] kj37 (fun kq v10 w' => ∃ (x10_4 : Int), v10 = .int .i64 x10_4 ∧ Aside0 (marchlandlaw09_ClockBefores.l1 kq y199 t203 t206 x9_2 x10_4 = some r) ∧ Aside0 (kq ≤ kj37) ∧ Aside0 (Kd.R k128 128 w' w.heap.size (fun _ => True) v204 t203) ∧ Aside0 (Kd.S (Kd.slice 4 Kd.bool) 38 w' w.heap.size (fun _ => True) v207 t206) ∧ Aside0 (Below w.heap.size w w'))
                      case atStart => exact ⟨(wrap64 (x9_2 + 1)), (by first | rfl | (simp; done) | (simp [*]; done)), H', ⟨Nat.le_refl _⟩, ⟨by (with_reducible repeat (first | apply Kd.R_alloc | apply Kd.R_drewN | apply Kd.R_drew)); exact HO_7.out⟩, ⟨by (with_reducible repeat (first | apply Kd.S_alloc | apply Kd.S_drewN | apply Kd.S_drew)); exact HO_8.out⟩, ⟨by repeat (first | (with_reducible first | exact HB.out | apply below_alloc | apply pw_below_drewN | apply below_drew1) | exact HB.out)⟩⟩
                      case round =>
                        clear H'
                        try clear c1
                        try clear q1
                        try clear c2
                        try clear p2
                        try clear q2
                        try clear hx2
                        try clear c3
                        try clear c4
                        try clear c5
                        try clear c5b0
                        try clear c5b1
                        try clear c6
                        try clear c6b0
                        try clear c6b1
                        try clear p6
                        try clear q10
                        try clear c14
                        try clear c16
                        try clear c16b0
                        try clear c17
                        try clear c17b0
                        try clear c18
                        try clear c18b0
                        try clear c19
                        try clear c19b0
                        try clear c20
                        try clear c20b0
                        try clear c21
                        try clear c21b0
                        try clear p21
                        try clear q21
                        try clear hx21
                        try clear c22
                        try clear c22b0
                        try clear c24
                        try clear c25
                        try clear c26
                        try clear c37
                        try clear c39
                        try clear c39b0
                        try clear c40
                        try clear hx211_0
                        try clear hx212_0
                        try clear p2
                        try clear p21
                        try clear p211
                        try clear p212
                        try clear q1
                        try clear q10
                        try clear q2
                        try clear q21
                        try clear q211
                        try clear q212
                        obtain ⟨x10_4, rfl, HA, HK4, HO_7, HO_8, HB⟩ := hrel
                        cases gk with
                        | zero => exact absurd HA.out (by simp [marchlandlaw09_ClockBefores.l1])
                        | succ k4 =>
                          have H := HA.out
                          clear HA
                          simp only [marchlandlaw09_ClockBefores.l1] at H
                          have HC41 := Aside0.mk H
                          clear H
                          go_upto_region 10 with (fail)
                          go_cut [71] (fun v71 wc => ∃ (kq : Nat) (x71_40 : Bool), v71 = .bool x71_40 ∧ Aside0 (marchlandlaw09_ClockBefores.j4 kq y199 t203 t206 x9_2 x10_4 x71_40 = some r) ∧ Aside0 (kq ≤ k4) ∧ Aside0 (Kd.R k128 128 wc w.heap.size (fun _ => True) v204 t203) ∧ Aside0 (Kd.S (Kd.slice 4 Kd.bool) 38 wc w.heap.size (fun _ => True) v207 t206) ∧ Aside0 (Below w.heap.size w wc))
                          case first =>
                            have H := HC41.out
                            clear HC41
                            by_cases c42 : x10_4 < (y199.length : Int)
                            · rw [if_pos c42] at H
                              have c42b0 : decide (x10_4 < (y199.length : Int)) = true := decide_eq_true c42
                              clear c42
                              (first | rw [c42b0] | (simp only [i64_w, i32_w]; rw [c42b0]) | skip)
                              have H' := Aside0.mk H
                              clear H
                              go_wp2
                              go_meet
                              case rel => exact ⟨_, (decide (x10_4 < 14)), (by first | rfl | (simp; done) | (simp [*]; done)), H', ⟨by have := HJ8.out; have := HK2.out; have := HJ37.out; have := HK4.out; first | omega | exact Nat.le_refl _⟩, ⟨by (with_reducible repeat (first | apply Kd.R_alloc | apply Kd.R_drewN | apply Kd.R_drew)); exact HO_7.out⟩, ⟨by (with_reducible repeat (first | apply Kd.S_alloc | apply Kd.S_drewN | apply Kd.S_drew)); exact HO_8.out⟩, ⟨by repeat (first | (with_reducible first | exact HB.out | apply below_alloc | apply pw_below_drewN | apply below_drew1) | exact HB.out)⟩⟩
                            · rw [if_neg c42] at H
                              have c42b0 : decide (x10_4 < (y199.length : Int)) = false := decide_eq_false c42
                              clear c42
                              (first | rw [c42b0] | (simp only [i64_w, i32_w]; rw [c42b0]) | skip)
                              have H' := Aside0.mk H
                              clear H
                              go_wp2
                              go_meet
                              case rel => exact ⟨_, (false), (by first | rfl | (simp; done) | (simp [*]; done)), H', ⟨by have := HJ8.out; have := HK2.out; have := HJ37.out; have := HK4.out; first | omega | exact Nat.le_refl _⟩, ⟨by (with_reducible repeat (first | apply Kd.R_alloc | apply Kd.R_drewN | apply Kd.R_drew)); exact HO_7.out⟩, ⟨by (with_reducible repeat (first | apply Kd.S_alloc | apply Kd.S_drewN | apply Kd.S_drew)); exact HO_8.out⟩, ⟨by repeat (first | (with_reducible first | exact HB.out | apply below_alloc | apply pw_below_drewN | apply below_drew1) | exact HB.out)⟩⟩
                          case rest =>
                            clear HC41
                            try clear c1
                            try clear q1
                            try clear c2
                            try clear p2
                            try clear q2
                            try clear hx2
                            try clear c3
                            try clear c4
                            try clear c5
                            try clear c5b0
                            try clear c5b1
                            try clear c6
                            try clear c6b0
                            try clear c6b1
                            try clear p6
                            try clear q10
                            try clear c14
                            try clear c16
                            try clear c16b0
                            try clear c17
                            try clear c17b0
                            try clear c18
                            try clear c18b0
                            try clear c19
                            try clear c19b0
                            try clear c20
                            try clear c20b0
                            try clear c21
                            try clear c21b0
                            try clear p21
                            try clear q21
                            try clear hx21
                            try clear c22
                            try clear c22b0
                            try clear c24
                            try clear c25
                            try clear c26
                            try clear c37
                            try clear c39
                            try clear c39b0
                            try clear c40
                            try clear c42
                            try clear c42b0
                            try clear hx211_0
                            try clear hx212_0
                            try clear p2
                            try clear p21
                            try clear p211
                            try clear p212
                            try clear p6
                            try clear q1
                            try clear q10
                            try clear q2
                            try clear q21
                            try clear q211
                            try clear q212
                            obtain ⟨kq, x71_40, rfl, HA, HJ40, HO_7, HO_8, HB⟩ := hcut
                            cases kq with
                            | zero => exact absurd HA.out (by simp [marchlandlaw09_ClockBefores.j4])
                            | succ kj40 =>
                              have H := HA.out
                              clear HA
                              simp only [marchlandlaw09_ClockBefores.j4] at H
                              by_cases c43 : x71_40 = true
                              · subst c43
                                have H1 : ((clock_Before.f t203 x9_2 x10_4).bind fun t213 => (if 0 ≤ x10_4 then (if x10_4 < (t206.length : Int) then (if 0 ≤ x9_2 then (if x9_2 < ((rd_L5 t206 x10_4).length : Int) then (if (t213 != (rdOf false (rd_L5 t206 x10_4) x9_2)) = true then (some false) else (marchlandlaw09_ClockBefores.l2 kj40 y199 t203 t206 x9_2 x10_4 (wrap64 (x10_4 + 1)))) else (none)) else (none)) else (none)) else (none))) = some r := by rw [if_pos rfl] at H; exact H
                                clear H
                                have H := H1
                                clear H1
                                replace H := Option.bind_eq_some_iff.mp H
                                obtain ⟨t213, A440, H⟩ := H
                                replace H : (if 0 ≤ x10_4 then (if x10_4 < (t206.length : Int) then (if 0 ≤ x9_2 then (if x9_2 < ((rd_L5 t206 x10_4).length : Int) then (if (t213 != (rdOf false (rd_L5 t206 x10_4) x9_2)) = true then (some false) else (marchlandlaw09_ClockBefores.l2 kj40 y199 t203 t206 x9_2 x10_4 (wrap64 (x10_4 + 1)))) else (none)) else (none)) else (none)) else (none)) = some r := H
                                have A44 := Aside0.mk A440
                                clear A440
                                by_cases c45 : 0 ≤ x10_4
                                · rw [if_pos c45] at H
                                  have c45b0 : decide (0 ≤ x10_4) = true := decide_eq_true c45
                                  clear c45
                                  by_cases c46 : x10_4 < (t206.length : Int)
                                  · rw [if_pos c46] at H
                                    have c46b0 : decide (x10_4 < (t206.length : Int)) = true := decide_eq_true c46
                                    clear c46
                                    by_cases c47 : 0 ≤ x9_2
                                    · rw [if_pos c47] at H
                                      have c47b0 : decide (0 ≤ x9_2) = true := decide_eq_true c47
                                      clear c47
                                      by_cases c48 : x9_2 < ((rd_L5 t206 x10_4).length : Int)
                                      · rw [if_pos c48] at H
                                        have c48b0 : decide (x9_2 < ((rd_L5 t206 x10_4).length : Int)) = true := decide_eq_true c48
                                        clear c48
                                        by_cases c49 : (t213 != (rdOf false (rd_L5 t206 x10_4) x9_2)) = true
                                        · rw [if_pos c49] at H
                                          have c49b0 : (t213 != (rdOf false (rd_L5 t206 x10_4) x9_2)) = true := c49
                                          (try (have c49b1 : decide (t213 = (rdOf false (rd_L5 t206 x10_4) x9_2)) = false := by simpa using c49))
                                          (try (have c49b2 : (t213 == (rdOf false (rd_L5 t206 x10_4) x9_2)) = false := by simpa using c49))
                                          (try (have c49b3 : ¬ (t213 = (rdOf false (rd_L5 t206 x10_4) x9_2)) := by simpa using c49))
                                          clear c49
                                          obtain rfl := Option.some.inj H
                                          try go_wp2
                                          have n0_ := Aside0.mk (Kd.R_drew HO_7.out)
                                          have n1_ := Aside0.mk (Kd.S_drew HO_8.out)
                                          have n2_ := Aside0.mk (below_drew1 HB.out)
                                          clear HO_7
                                          clear HO_8
                                          clear HB
                                          have HO_7 := n0_
                                          have HO_8 := n1_
                                          have HB := n2_
                                          clear n0_ n1_ n2_
                                          obtain ⟨Ao51, co51, eo51⟩ := Kd.S_slice HO_8.out
                                          (first | subst eo51 | (injection eo51 with f1_ f2_ f3_; have f4_ := f1_.symm; have f5_ := f3_.symm; clear f1_ f2_ f3_; subst f4_; subst f5_))
                                          have p214 : 0 ≤ (x10_4 : Int) := of_decide_eq_true (by first | (with_reducible assumption) | assumption)
                                          have q214 : x10_4 < (t206.length : Int) := of_decide_eq_true (by first | (with_reducible assumption) | assumption)
                                          obtain ⟨ad214, A214_0, c214_0, e214, hx214_0, hl214_0, hi214_0⟩ := at_L5 (Kd.S_reads' HO_8.out).2.2 x10_4 p214 q214
                                          cases e214
                                          obtain ⟨ce214, hce214, hMe214, hcc214⟩ := Kd.S_get HO_8.out [] x10_4 p214 (by first | exact q214 | exact of_decide_eq_true (by first | (with_reducible assumption) | assumption) | (have e_ := (Kd.S_reads' HO_8.out).1; omega))
                                          obtain ⟨ve214_0, rfl, ge214_0⟩ := hMe214
                                          have hv214_0 := hcc214 0 _ rfl
                                          rw [Nat.add_zero, show ((Kd.slice 4 Kd.bool)).sz = 1 from rfl, Nat.mul_one] at hv214_0
                                          replace hv214_0 := Option.some.inj (hv214_0.symm.trans hx214_0)
                                          rw [hv214_0] at ge214_0
                                          have HL214_0 := Aside0.mk (show Kd.R Kd.bool 4 _ _ _ _ (rd_L5 t206 x10_4) from ge214_0)
                                          clear hv214_0 ge214_0
                                          clear hcc214 hce214
                                          have HR214_0 := Aside0.mk hi214_0
                                          have HC214_0 := Aside0.mk hl214_0
                                          clear hi214_0 hl214_0
                                          replace p214 := eq_true p214
                                          replace q214 := eq_true q214
                                          have p215 : 0 ≤ (x9_2 : Int) := of_decide_eq_true (by first | (with_reducible assumption) | assumption)
                                          have q215 : x9_2 < ((rd_L5 t206 x10_4).length : Int) := of_decide_eq_true (by first | (with_reducible assumption) | assumption)
                                          obtain ⟨ad215, e215, hx215_0⟩ := Kd.at_bool (by repeat (first | (with_reducible exact HR214_0.out) | (with_reducible refine Kd.C_alloc ?_ _) | (with_reducible refine Kd.C_drewN ?_ _) | (with_reducible refine Kd.C_drew ?_) | exact HR214_0.out)) x9_2 p215 q215
                                          cases e215
                                          replace p215 := eq_true p215
                                          replace q215 := eq_true q215
                                          obtain ⟨Ao52, co52, eo52⟩ := Kd.R_slice HO_7.out
                                          (first | subst eo52 | (injection eo52 with f1_ f2_ f3_; have f4_ := f1_.symm; have f5_ := f3_.symm; clear f1_ f2_ f3_; subst f4_; subst f5_))
                                          refine start_ (n := 12) (S := fun w' => w'.cell? (ad214.add (x10_4).toNat) = some (.slice (some ad215) (rd_L5 t206 x10_4).length c214_0) ∧ w'.cell? (ad215.add (x9_2).toNat) = some (.bool (rdOf false (rd_L5 t206 x10_4) x9_2))) (ds := []) #[false, false, false, false, false, false, false, false, false, false, false, false] (by kernel_rfl) rfl rfl ⟨hx214_0, hx215_0⟩ (fun hHeld => ?_); refine with_tabW marchlandlaw09_ClockBefores.tab12 marchlandlaw09_ClockBefores.bits12 (fun HT_ HW_ => ?_)
                                          generalize wc.drew = w50 at HO_7 HO_8 HB HL214_0 HR214_0 hx214_0 hx215_0 hHeld ⊢
                                          refine pure_ (i := 0) (N := some 74) (v := ?_) (a' := ?_) #[true, false, false, false, false, false, false, false, false, false, false, false] rfl rfl (any_of HT_.out (by kernel_rfl)) (fun _ _ _ h => h) (Or.inl ⟨by rfl, ?_⟩) ?_ ?_
                                          rotate_left
                                          · intro w'
                                            go_simp
                                            with_reducible rfl
                                          rotate_left
                                          · simp only [Act.put, List.setIfInBounds_toArray, List.set_cons_zero, List.set_cons_succ, i64_w, i32_w]
                                            rfl
                                          refine pure_ (i := 1) (N := some 75) (v := ?_) (a' := ?_) #[true, true, false, false, false, false, false, false, false, false, false, false] rfl rfl (any_of HT_.out (by kernel_rfl)) (fun _ _ _ h => h) (Or.inl ⟨by rfl, ?_⟩) ?_ ?_
                                          rotate_left
                                          · intro w'
                                            go_simp
                                            with_reducible rfl
                                          rotate_left
                                          · simp only [Act.put, List.setIfInBounds_toArray, List.set_cons_zero, List.set_cons_succ, i64_w, i32_w]
                                            rfl
                                          refine pure_ (i := 2) (N := some 76) (v := ?_) (a' := ?_) #[true, true, true, false, false, false, false, false, false, false, false, false] rfl rfl (any_of HT_.out (by kernel_rfl)) (fun _ _ _ h => h) (Or.inl ⟨by rfl, ?_⟩) ?_ ?_
                                          rotate_left
                                          · intro w'
                                            go_simp
                                            with_reducible rfl
                                          rotate_left
                                          · simp only [Act.put, List.setIfInBounds_toArray, List.set_cons_zero, List.set_cons_succ, i64_w, i32_w]
                                            rfl
                                          refine pure_ (i := 4) (N := some 78) (v := ?_) (a' := ?_) #[true, true, true, false, true, false, false, false, false, false, false, false] rfl rfl (any_of HT_.out (by kernel_rfl)) (fun _ _ _ h => h) (Or.inl ⟨by rfl, ?_⟩) ?_ ?_
                                          rotate_left
                                          · intro w'
                                            go_simp
                                            with_reducible rfl
                                          rotate_left
                                          · simp only [Act.put, List.setIfInBounds_toArray, List.set_cons_zero, List.set_cons_succ, i64_w, i32_w]
                                            rfl
                                          refine pure_ (i := 5) (N := some 79) (v := ?_) (a' := ?_) #[true, true, true, false, true, true, false, false, false, false, false, false] rfl rfl (any_of HT_.out (by kernel_rfl)) (fun _ _ _ h => h) (Or.inl ⟨by rfl, ?_⟩) ?_ ?_
                                          rotate_left
                                          · intro w'
                                            go_simp
                                            with_reducible rfl
                                          rotate_left
                                          · simp only [Act.put, List.setIfInBounds_toArray, List.set_cons_zero, List.set_cons_succ, i64_w, i32_w]
                                            rfl
                                          refine pure_ (i := 6) (N := some 80) (v := ?_) (a' := ?_) #[true, true, true, false, true, true, true, false, false, false, false, false] rfl rfl (any_of HT_.out (by kernel_rfl)) (fun _ _ _ h => h) (Or.inl ⟨by rfl, ?_⟩) ?_ ?_
                                          rotate_left
                                          · intro w'
                                            go_simp
                                            with_reducible rfl
                                          rotate_left
                                          · simp only [Act.put, List.setIfInBounds_toArray, List.set_cons_zero, List.set_cons_succ, i64_w, i32_w]
                                            rfl
                                          refine pure_ (i := 8) (N := some 82) (v := ?_) (a' := ?_) #[true, true, true, false, true, true, true, false, true, false, false, false] rfl rfl (any_of HT_.out (by kernel_rfl)) (fun _ _ _ h => h) (Or.inl ⟨by rfl, ?_⟩) ?_ ?_
                                          rotate_left
                                          · intro w'
                                            go_simp
                                            with_reducible rfl
                                          rotate_left
                                          · simp only [Act.put, List.setIfInBounds_toArray, List.set_cons_zero, List.set_cons_succ, i64_w, i32_w]
                                            rfl
                                          refine take_ (i := 7) (N := some 81) (v := ?_) (a' := ?_) #[true, true, true, false, true, true, true, true, true, false, false, false] rfl rfl (take_ofW HT_.out HW_.out (by kernel_rfl)) (fun _ _ _ h => h) (Or.inl ⟨by rfl, ?_⟩) hHeld ?_ ?_
                                          rotate_left
                                          · rintro w' ⟨s0, s1⟩
                                            go_simp
                                            with_reducible rfl
                                          rotate_left
                                          · simp only [Act.put, List.setIfInBounds_toArray, List.set_cons_zero, List.set_cons_succ, i64_w, i32_w]
                                            rfl
                                          refine pure_ (i := 9) (N := some 83) (v := ?_) (a' := ?_) #[true, true, true, false, true, true, true, true, true, true, false, false] rfl rfl (any_of HT_.out (by kernel_rfl)) (fun _ _ _ h => h) (Or.inl ⟨by rfl, ?_⟩) ?_ ?_
                                          rotate_left
                                          · intro w'
                                            go_simp
                                            with_reducible rfl
                                          rotate_left
                                          · simp only [Act.put, List.setIfInBounds_toArray, List.set_cons_zero, List.set_cons_succ, i64_w, i32_w]
                                            rfl
                                          refine take_ (i := 10) (N := some 84) (v := ?_) (a' := ?_) #[true, true, true, false, true, true, true, true, true, true, true, false] rfl rfl (take_ofW HT_.out HW_.out (by kernel_rfl)) (fun _ _ _ h => h) (Or.inl ⟨by rfl, ?_⟩) hHeld ?_ ?_
                                          rotate_left
                                          · rintro w' ⟨s0, s1⟩
                                            go_simp
                                            with_reducible rfl
                                          rotate_left
                                          · simp only [Act.put, List.setIfInBounds_toArray, List.set_cons_zero, List.set_cons_succ, i64_w, i32_w]
                                            rfl
                                          refine one_ (i := 3) (N := some 77) #[true, true, true, true, true, true, true, true, true, true, true, false] rfl rfl (one_of HT_.out (by kernel_rfl)) (by decide) (fun K hK => ?_)
                                          refine goes_ Try.func27 (by kernel_rfl) rfl #[.slice Ao52 t203.length co52, .int .i64 x9_2, .int .i64 x10_4] (by rfl) rfl rfl (by (try simp only [List.map_toArray, List.map_cons, List.map_nil]); first | done | rfl | (simp only [List.length_drop, List.length_take]; rfl)) ?_
                                          with_reducible refine (clock_Before.calls _ _ t203 x9_2 x10_4 t213 _ ?side1 ?side2 A44.out).mono ?_
                                          (case side1 => repeat (first | exact (Kd.R_reads' HO_7.out).2.2 | (with_reducible refine Kd.C_alloc ?_ _) | (with_reducible refine Kd.C_drewN ?_ _) | (with_reducible refine Kd.C_drew ?_)))
                                          (case side2 => exact (Kd.R_reads' HO_7.out).2.1)
                                          rintro e w53 ⟨rfl, hb⟩
                                          have HS0_ := (hb.cell (World.block_lt_of_cell? _ _ (hHeld.1))).trans (hHeld.1)
                                          have HS1_ := (hb.cell (World.block_lt_of_cell? _ _ (hHeld.2))).trans (hHeld.2)
                                          refine ⟨_, rfl, ?_⟩
                                          have n0_ := Aside0.mk (Kd.R_below (by (with_reducible repeat (first | apply Kd.R_alloc | apply Kd.R_drewN | apply Kd.R_drew)); exact HO_7.out) hb)
                                          have n1_ := Aside0.mk (Kd.S_below (by (with_reducible repeat (first | apply Kd.S_alloc | apply Kd.S_drewN | apply Kd.S_drew)); exact HO_8.out) hb)
                                          have n2_ := Aside0.mk (Kd.R_below (by (with_reducible repeat (first | apply Kd.R_alloc | apply Kd.R_drewN | apply Kd.R_drew)); exact HL214_0.out) hb)
                                          have n3_ := Aside0.mk (Kd.C_below (by repeat (first | (with_reducible exact HR214_0.out) | (with_reducible refine Kd.C_alloc ?_ _) | (with_reducible refine Kd.C_drewN ?_ _) | (with_reducible refine Kd.C_drew ?_) | exact HR214_0.out)) hb)
                                          have n4_ := Aside0.mk (below_step (by repeat (first | (with_reducible first | exact HB.out | apply below_alloc | apply pw_below_drewN | apply below_drew1) | exact HB.out)) hb)
                                          clear HO_7
                                          clear HO_8
                                          clear HL214_0
                                          clear HR214_0
                                          clear HB
                                          have HO_7 := n0_
                                          have HO_8 := n1_
                                          have HL214_0 := n2_
                                          have HR214_0 := n3_
                                          have HB := n4_
                                          clear n0_ n1_ n2_ n3_ n4_
                                          (try clear hb)
                                          (try clear hb2)
                                          (try clear hk)
                                          (try clear hi)
                                          refine hK.out _ _ ⟨HS0_, HS1_⟩ (fun hHeld => ?_)
                                          clear hK K
                                          refine norm_ (a' := ?_) ?_ ?_
                                          rotate_left
                                          · show Act.put _ (some 77) _ = _
                                            simp only [Act.put, List.setIfInBounds_toArray, List.set_cons_zero, List.set_cons_succ, i64_w, i32_w]
                                            rfl
                                          refine pure_ (i := 11) (N := some 85) (v := ?_) (a' := ?_) #[true, true, true, true, true, true, true, true, true, true, true, true] rfl rfl (any_of HT_.out (by kernel_rfl)) (fun _ _ _ h => h) (Or.inl ⟨by rfl, ?_⟩) ?_ ?_
                                          rotate_left
                                          · intro w'
                                            go_simp
                                            with_reducible rfl
                                          rotate_left
                                          · simp only [Act.put, List.setIfInBounds_toArray, List.set_cons_zero, List.set_cons_succ, i64_w, i32_w]
                                            rfl
                                          refine done_ (done_of HT_.out (by kernel_rfl)) ?_
                                          try go_wp2
                                          go_ret
                                          exact ⟨by first | rfl | (simp [errW_none, errW_some] <;> rfl) | (simp only [← hji4]; first | rfl | (simp [errW_none, errW_some] <;> rfl)) | (simp [*, errW_none, errW_some] <;> rfl), by repeat (first | (with_reducible first | exact HB.out | apply below_alloc | apply pw_below_drewN | apply below_drew1) | exact HB.out)⟩
                                        · rw [if_neg c49] at H
                                          have c49b0 : (t213 != (rdOf false (rd_L5 t206 x10_4) x9_2)) = false := by simpa using c49
                                          (try (have c49b1 : decide (t213 = (rdOf false (rd_L5 t206 x10_4) x9_2)) = true := by simpa using c49))
                                          (try (have c49b2 : (t213 == (rdOf false (rd_L5 t206 x10_4) x9_2)) = true := by simpa using c49))
                                          clear c49
                                          have H' := Aside0.mk H
                                          clear H
                                          try go_wp2
                                          have n0_ := Aside0.mk (Kd.R_drew HO_7.out)
                                          have n1_ := Aside0.mk (Kd.S_drew HO_8.out)
                                          have n2_ := Aside0.mk (below_drew1 HB.out)
                                          clear HO_7
                                          clear HO_8
                                          clear HB
                                          have HO_7 := n0_
                                          have HO_8 := n1_
                                          have HB := n2_
                                          clear n0_ n1_ n2_
                                          obtain ⟨Ao55, co55, eo55⟩ := Kd.S_slice HO_8.out
                                          (first | subst eo55 | (injection eo55 with f1_ f2_ f3_; have f4_ := f1_.symm; have f5_ := f3_.symm; clear f1_ f2_ f3_; subst f4_; subst f5_))
                                          have p214 : 0 ≤ (x10_4 : Int) := of_decide_eq_true (by first | (with_reducible assumption) | assumption)
                                          have q214 : x10_4 < (t206.length : Int) := of_decide_eq_true (by first | (with_reducible assumption) | assumption)
                                          obtain ⟨ad214, A214_0, c214_0, e214, hx214_0, hl214_0, hi214_0⟩ := at_L5 (Kd.S_reads' HO_8.out).2.2 x10_4 p214 q214
                                          cases e214
                                          obtain ⟨ce214, hce214, hMe214, hcc214⟩ := Kd.S_get HO_8.out [] x10_4 p214 (by first | exact q214 | exact of_decide_eq_true (by first | (with_reducible assumption) | assumption) | (have e_ := (Kd.S_reads' HO_8.out).1; omega))
                                          obtain ⟨ve214_0, rfl, ge214_0⟩ := hMe214
                                          have hv214_0 := hcc214 0 _ rfl
                                          rw [Nat.add_zero, show ((Kd.slice 4 Kd.bool)).sz = 1 from rfl, Nat.mul_one] at hv214_0
                                          replace hv214_0 := Option.some.inj (hv214_0.symm.trans hx214_0)
                                          rw [hv214_0] at ge214_0
                                          have HL214_0 := Aside0.mk (show Kd.R Kd.bool 4 _ _ _ _ (rd_L5 t206 x10_4) from ge214_0)
                                          clear hv214_0 ge214_0
                                          clear hcc214 hce214
                                          have HR214_0 := Aside0.mk hi214_0
                                          have HC214_0 := Aside0.mk hl214_0
                                          clear hi214_0 hl214_0
                                          replace p214 := eq_true p214
                                          replace q214 := eq_true q214
                                          have p215 : 0 ≤ (x9_2 : Int) := of_decide_eq_true (by first | (with_reducible assumption) | assumption)
                                          have q215 : x9_2 < ((rd_L5 t206 x10_4).length : Int) := of_decide_eq_true (by first | (with_reducible assumption) | assumption)
                                          obtain ⟨ad215, e215, hx215_0⟩ := Kd.at_bool (by repeat (first | (with_reducible exact HR214_0.out) | (with_reducible refine Kd.C_alloc ?_ _) | (with_reducible refine Kd.C_drewN ?_ _) | (with_reducible refine Kd.C_drew ?_) | exact HR214_0.out)) x9_2 p215 q215
                                          cases e215
                                          replace p215 := eq_true p215
                                          replace q215 := eq_true q215
                                          obtain ⟨Ao56, co56, eo56⟩ := Kd.R_slice HO_7.out
                                          (first | subst eo56 | (injection eo56 with f1_ f2_ f3_; have f4_ := f1_.symm; have f5_ := f3_.symm; clear f1_ f2_ f3_; subst f4_; subst f5_))
                                          refine start_ (n := 12) (S := fun w' => w'.cell? (ad214.add (x10_4).toNat) = some (.slice (some ad215) (rd_L5 t206 x10_4).length c214_0) ∧ w'.cell? (ad215.add (x9_2).toNat) = some (.bool (rdOf false (rd_L5 t206 x10_4) x9_2))) (ds := []) #[false, false, false, false, false, false, false, false, false, false, false, false] (by kernel_rfl) rfl rfl ⟨hx214_0, hx215_0⟩ (fun hHeld => ?_); refine with_tabW marchlandlaw09_ClockBefores.tab12 marchlandlaw09_ClockBefores.bits12 (fun HT_ HW_ => ?_)
                                          generalize wc.drew = w54 at HO_7 HO_8 HB HL214_0 HR214_0 hx214_0 hx215_0 hHeld ⊢
                                          refine pure_ (i := 0) (N := some 74) (v := ?_) (a' := ?_) #[true, false, false, false, false, false, false, false, false, false, false, false] rfl rfl (any_of HT_.out (by kernel_rfl)) (fun _ _ _ h => h) (Or.inl ⟨by rfl, ?_⟩) ?_ ?_
                                          rotate_left
                                          · intro w'
                                            go_simp
                                            with_reducible rfl
                                          rotate_left
                                          · simp only [Act.put, List.setIfInBounds_toArray, List.set_cons_zero, List.set_cons_succ, i64_w, i32_w]
                                            rfl
                                          refine pure_ (i := 1) (N := some 75) (v := ?_) (a' := ?_) #[true, true, false, false, false, false, false, false, false, false, false, false] rfl rfl (any_of HT_.out (by kernel_rfl)) (fun _ _ _ h => h) (Or.inl ⟨by rfl, ?_⟩) ?_ ?_
                                          rotate_left
                                          · intro w'
                                            go_simp
                                            with_reducible rfl
                                          rotate_left
                                          · simp only [Act.put, List.setIfInBounds_toArray, List.set_cons_zero, List.set_cons_succ, i64_w, i32_w]
                                            rfl
                                          refine pure_ (i := 2) (N := some 76) (v := ?_) (a' := ?_) #[true, true, true, false, false, false, false, false, false, false, false, false] rfl rfl (any_of HT_.out (by kernel_rfl)) (fun _ _ _ h => h) (Or.inl ⟨by rfl, ?_⟩) ?_ ?_
                                          rotate_left
                                          · intro w'
                                            go_simp
                                            with_reducible rfl
                                          rotate_left
                                          · simp only [Act.put, List.setIfInBounds_toArray, List.set_cons_zero, List.set_cons_succ, i64_w, i32_w]
                                            rfl
                                          refine pure_ (i := 4) (N := some 78) (v := ?_) (a' := ?_) #[true, true, true, false, true, false, false, false, false, false, false, false] rfl rfl (any_of HT_.out (by kernel_rfl)) (fun _ _ _ h => h) (Or.inl ⟨by rfl, ?_⟩) ?_ ?_
                                          rotate_left
                                          · intro w'
                                            go_simp
                                            with_reducible rfl
                                          rotate_left
                                          · simp only [Act.put, List.setIfInBounds_toArray, List.set_cons_zero, List.set_cons_succ, i64_w, i32_w]
                                            rfl
                                          refine pure_ (i := 5) (N := some 79) (v := ?_) (a' := ?_) #[true, true, true, false, true, true, false, false, false, false, false, false] rfl rfl (any_of HT_.out (by kernel_rfl)) (fun _ _ _ h => h) (Or.inl ⟨by rfl, ?_⟩) ?_ ?_
                                          rotate_left
                                          · intro w'
                                            go_simp
                                            with_reducible rfl
                                          rotate_left
                                          · simp only [Act.put, List.setIfInBounds_toArray, List.set_cons_zero, List.set_cons_succ, i64_w, i32_w]
                                            rfl
                                          refine pure_ (i := 6) (N := some 80) (v := ?_) (a' := ?_) #[true, true, true, false, true, true, true, false, false, false, false, false] rfl rfl (any_of HT_.out (by kernel_rfl)) (fun _ _ _ h => h) (Or.inl ⟨by rfl, ?_⟩) ?_ ?_
                                          rotate_left
                                          · intro w'
                                            go_simp
                                            with_reducible rfl
                                          rotate_left
                                          · simp only [Act.put, List.setIfInBounds_toArray, List.set_cons_zero, List.set_cons_succ, i64_w, i32_w]
                                            rfl
                                          refine pure_ (i := 8) (N := some 82) (v := ?_) (a' := ?_) #[true, true, true, false, true, true, true, false, true, false, false, false] rfl rfl (any_of HT_.out (by kernel_rfl)) (fun _ _ _ h => h) (Or.inl ⟨by rfl, ?_⟩) ?_ ?_
                                          rotate_left
                                          · intro w'
                                            go_simp
                                            with_reducible rfl
                                          rotate_left
                                          · simp only [Act.put, List.setIfInBounds_toArray, List.set_cons_zero, List.set_cons_succ, i64_w, i32_w]
                                            rfl
                                          refine take_ (i := 7) (N := some 81) (v := ?_) (a' := ?_) #[true, true, true, false, true, true, true, true, true, false, false, false] rfl rfl (take_ofW HT_.out HW_.out (by kernel_rfl)) (fun _ _ _ h => h) (Or.inl ⟨by rfl, ?_⟩) hHeld ?_ ?_
                                          rotate_left
                                          · rintro w' ⟨s0, s1⟩
                                            go_simp
                                            with_reducible rfl
                                          rotate_left
                                          · simp only [Act.put, List.setIfInBounds_toArray, List.set_cons_zero, List.set_cons_succ, i64_w, i32_w]
                                            rfl
                                          refine pure_ (i := 9) (N := some 83) (v := ?_) (a' := ?_) #[true, true, true, false, true, true, true, true, true, true, false, false] rfl rfl (any_of HT_.out (by kernel_rfl)) (fun _ _ _ h => h) (Or.inl ⟨by rfl, ?_⟩) ?_ ?_
                                          rotate_left
                                          · intro w'
                                            go_simp
                                            with_reducible rfl
                                          rotate_left
                                          · simp only [Act.put, List.setIfInBounds_toArray, List.set_cons_zero, List.set_cons_succ, i64_w, i32_w]
                                            rfl
                                          refine take_ (i := 10) (N := some 84) (v := ?_) (a' := ?_) #[true, true, true, false, true, true, true, true, true, true, true, false] rfl rfl (take_ofW HT_.out HW_.out (by kernel_rfl)) (fun _ _ _ h => h) (Or.inl ⟨by rfl, ?_⟩) hHeld ?_ ?_
                                          rotate_left
                                          · rintro w' ⟨s0, s1⟩
                                            go_simp
                                            with_reducible rfl
                                          rotate_left
                                          · simp only [Act.put, List.setIfInBounds_toArray, List.set_cons_zero, List.set_cons_succ, i64_w, i32_w]
                                            rfl
                                          refine one_ (i := 3) (N := some 77) #[true, true, true, true, true, true, true, true, true, true, true, false] rfl rfl (one_of HT_.out (by kernel_rfl)) (by decide) (fun K hK => ?_)
                                          refine goes_ Try.func27 (by kernel_rfl) rfl #[.slice Ao56 t203.length co56, .int .i64 x9_2, .int .i64 x10_4] (by rfl) rfl rfl (by (try simp only [List.map_toArray, List.map_cons, List.map_nil]); first | done | rfl | (simp only [List.length_drop, List.length_take]; rfl)) ?_
                                          with_reducible refine (clock_Before.calls _ _ t203 x9_2 x10_4 t213 _ ?side1 ?side2 A44.out).mono ?_
                                          (case side1 => repeat (first | exact (Kd.R_reads' HO_7.out).2.2 | (with_reducible refine Kd.C_alloc ?_ _) | (with_reducible refine Kd.C_drewN ?_ _) | (with_reducible refine Kd.C_drew ?_)))
                                          (case side2 => exact (Kd.R_reads' HO_7.out).2.1)
                                          rintro e w57 ⟨rfl, hb⟩
                                          have HS0_ := (hb.cell (World.block_lt_of_cell? _ _ (hHeld.1))).trans (hHeld.1)
                                          have HS1_ := (hb.cell (World.block_lt_of_cell? _ _ (hHeld.2))).trans (hHeld.2)
                                          refine ⟨_, rfl, ?_⟩
                                          have n0_ := Aside0.mk (Kd.R_below (by (with_reducible repeat (first | apply Kd.R_alloc | apply Kd.R_drewN | apply Kd.R_drew)); exact HO_7.out) hb)
                                          have n1_ := Aside0.mk (Kd.S_below (by (with_reducible repeat (first | apply Kd.S_alloc | apply Kd.S_drewN | apply Kd.S_drew)); exact HO_8.out) hb)
                                          have n2_ := Aside0.mk (Kd.R_below (by (with_reducible repeat (first | apply Kd.R_alloc | apply Kd.R_drewN | apply Kd.R_drew)); exact HL214_0.out) hb)
                                          have n3_ := Aside0.mk (Kd.C_below (by repeat (first | (with_reducible exact HR214_0.out) | (with_reducible refine Kd.C_alloc ?_ _) | (with_reducible refine Kd.C_drewN ?_ _) | (with_reducible refine Kd.C_drew ?_) | exact HR214_0.out)) hb)
                                          have n4_ := Aside0.mk (below_step (by repeat (first | (with_reducible first | exact HB.out | apply below_alloc | apply pw_below_drewN | apply below_drew1) | exact HB.out)) hb)
                                          clear HO_7
                                          clear HO_8
                                          clear HL214_0
                                          clear HR214_0
                                          clear HB
                                          have HO_7 := n0_
                                          have HO_8 := n1_
                                          have HL214_0 := n2_
                                          have HR214_0 := n3_
                                          have HB := n4_
                                          clear n0_ n1_ n2_ n3_ n4_
                                          (try clear hb)
                                          (try clear hb2)
                                          (try clear hk)
                                          (try clear hi)
                                          refine hK.out _ _ ⟨HS0_, HS1_⟩ (fun hHeld => ?_)
                                          clear hK K
                                          refine norm_ (a' := ?_) ?_ ?_
                                          rotate_left
                                          · show Act.put _ (some 77) _ = _
                                            simp only [Act.put, List.setIfInBounds_toArray, List.set_cons_zero, List.set_cons_succ, i64_w, i32_w]
                                            rfl
                                          refine pure_ (i := 11) (N := some 85) (v := ?_) (a' := ?_) #[true, true, true, true, true, true, true, true, true, true, true, true] rfl rfl (any_of HT_.out (by kernel_rfl)) (fun _ _ _ h => h) (Or.inl ⟨by rfl, ?_⟩) ?_ ?_
                                          rotate_left
                                          · intro w'
                                            go_simp
                                            with_reducible rfl
                                          rotate_left
                                          · simp only [Act.put, List.setIfInBounds_toArray, List.set_cons_zero, List.set_cons_succ, i64_w, i32_w]
                                            rfl
                                          refine done_ (done_of HT_.out (by kernel_rfl)) ?_
                                          try go_wp2
                                          go_loopg [11] kj40 (fun kq v11 w' => ∃ (x11_6 : Int), v11 = .int .i64 x11_6 ∧ Aside0 (marchlandlaw09_ClockBefores.l2 kq y199 t203 t206 x9_2 x10_4 x11_6 = some r) ∧ Aside0 (kq ≤ kj40) ∧ Aside0 (Kd.R k128 128 w' w.heap.size (fun _ => True) (.slice Ao56 t203.length co56) t203) ∧ Aside0 (Kd.S (Kd.slice 4 Kd.bool) 38 w' w.heap.size (fun _ => True) (.slice (some ad214) t206.length co55) t206) ∧ Aside0 (Kd.C Kd.bool w' (some ad215) (rd_L5 t206 x10_4).length (rd_L5 t206 x10_4)) ∧ Aside0 (Below w.heap.size w w'))
                                          case atStart => exact ⟨(wrap64 (x10_4 + 1)), (by first | rfl | (simp; done) | (simp [*]; done)), H', ⟨Nat.le_refl _⟩, ⟨by (with_reducible repeat (first | apply Kd.R_alloc | apply Kd.R_drewN | apply Kd.R_drew)); exact HO_7.out⟩, ⟨by (with_reducible repeat (first | apply Kd.S_alloc | apply Kd.S_drewN | apply Kd.S_drew)); exact HO_8.out⟩, ⟨by repeat (first | (with_reducible exact HR214_0.out) | (with_reducible refine Kd.C_alloc ?_ _) | (with_reducible refine Kd.C_drewN ?_ _) | (with_reducible refine Kd.C_drew ?_) | exact HR214_0.out)⟩, ⟨by repeat (first | (with_reducible first | exact HB.out | apply below_alloc | apply pw_below_drewN | apply below_drew1) | exact HB.out)⟩⟩
                                          case round =>
                                            clear H'
                                            try clear c1
                                            try clear q1
                                            try clear c2
                                            try clear p2
                                            try clear q2
                                            try clear hx2
                                            try clear c3
                                            try clear c4
                                            try clear c5
                                            try clear c5b0
                                            try clear c5b1
                                            try clear c6
                                            try clear c6b0
                                            try clear c6b1
                                            try clear p6
                                            try clear q10
                                            try clear c14
                                            try clear c16
                                            try clear c16b0
                                            try clear c17
                                            try clear c17b0
                                            try clear c18
                                            try clear c18b0
                                            try clear c19
                                            try clear c19b0
                                            try clear c20
                                            try clear c20b0
                                            try clear c21
                                            try clear c21b0
                                            try clear p21
                                            try clear q21
                                            try clear hx21
                                            try clear c22
                                            try clear c22b0
                                            try clear c24
                                            try clear c25
                                            try clear c26
                                            try clear c27
                                            try clear c37
                                            try clear c39
                                            try clear c39b0
                                            try clear c40
                                            try clear c42
                                            try clear c42b0
                                            try clear c43
                                            try clear c45
                                            try clear c45b0
                                            try clear c46
                                            try clear c46b0
                                            try clear c47
                                            try clear c47b0
                                            try clear c48
                                            try clear c48b0
                                            try clear c49
                                            try clear c49b0
                                            try clear c49b1
                                            try clear c49b2
                                            try clear hx211_0
                                            try clear hx212_0
                                            try clear hx214_0
                                            try clear hx215_0
                                            try clear p2
                                            try clear p21
                                            try clear p211
                                            try clear p212
                                            try clear p214
                                            try clear p215
                                            try clear p6
                                            try clear q1
                                            try clear q10
                                            try clear q2
                                            try clear q21
                                            try clear q211
                                            try clear q212
                                            try clear q214
                                            try clear q215
                                            obtain ⟨x11_6, rfl, HA, HK6, HO_7, HO_8, HR214_0, HB⟩ := hrel
                                            cases gk with
                                            | zero => exact absurd HA.out (by simp [marchlandlaw09_ClockBefores.l2])
                                            | succ k6 =>
                                              have H := HA.out
                                              clear HA
                                              simp only [marchlandlaw09_ClockBefores.l2] at H
                                              have HC58 := Aside0.mk H
                                              clear H
                                              go_upto_region 15 with (fail)
                                              go_cut [95] (fun v95 wc => ∃ (kq : Nat) (x95_57 : Bool), v95 = .bool x95_57 ∧ Aside0 (marchlandlaw09_ClockBefores.j6 kq y199 t203 t206 x9_2 x10_4 x11_6 x95_57 = some r) ∧ Aside0 (kq ≤ k6) ∧ Aside0 (Kd.R k128 128 wc w.heap.size (fun _ => True) (.slice Ao56 t203.length co56) t203) ∧ Aside0 (Kd.S (Kd.slice 4 Kd.bool) 38 wc w.heap.size (fun _ => True) (.slice (some ad214) t206.length co55) t206) ∧ Aside0 (Kd.C Kd.bool wc (some ad215) (rd_L5 t206 x10_4).length (rd_L5 t206 x10_4)) ∧ Aside0 (Below w.heap.size w wc))
                                              case first =>
                                                have H := HC58.out
                                                clear HC58
                                                by_cases c59 : x11_6 < (y199.length : Int)
                                                · rw [if_pos c59] at H
                                                  have c59b0 : decide (x11_6 < (y199.length : Int)) = true := decide_eq_true c59
                                                  clear c59
                                                  (first | rw [c59b0] | (simp only [i64_w, i32_w]; rw [c59b0]) | skip)
                                                  have H' := Aside0.mk H
                                                  clear H
                                                  go_wp2
                                                  go_meet
                                                  case rel => exact ⟨_, (decide (x11_6 < 14)), (by first | rfl | (simp; done) | (simp [*]; done)), H', ⟨by have := HJ8.out; have := HK2.out; have := HJ37.out; have := HK4.out; have := HJ40.out; have := HK6.out; first | omega | exact Nat.le_refl _⟩, ⟨by (with_reducible repeat (first | apply Kd.R_alloc | apply Kd.R_drewN | apply Kd.R_drew)); exact HO_7.out⟩, ⟨by (with_reducible repeat (first | apply Kd.S_alloc | apply Kd.S_drewN | apply Kd.S_drew)); exact HO_8.out⟩, ⟨by repeat (first | (with_reducible exact HR214_0.out) | (with_reducible refine Kd.C_alloc ?_ _) | (with_reducible refine Kd.C_drewN ?_ _) | (with_reducible refine Kd.C_drew ?_) | exact HR214_0.out)⟩, ⟨by repeat (first | (with_reducible first | exact HB.out | apply below_alloc | apply pw_below_drewN | apply below_drew1) | exact HB.out)⟩⟩
                                                · rw [if_neg c59] at H
                                                  have c59b0 : decide (x11_6 < (y199.length : Int)) = false := decide_eq_false c59
                                                  clear c59
                                                  (first | rw [c59b0] | (simp only [i64_w, i32_w]; rw [c59b0]) | skip)
                                                  have H' := Aside0.mk H
                                                  clear H
                                                  go_wp2
                                                  go_meet
                                                  case rel => exact ⟨_, (false), (by first | rfl | (simp; done) | (simp [*]; done)), H', ⟨by have := HJ8.out; have := HK2.out; have := HJ37.out; have := HK4.out; have := HJ40.out; have := HK6.out; first | omega | exact Nat.le_refl _⟩, ⟨by (with_reducible repeat (first | apply Kd.R_alloc | apply Kd.R_drewN | apply Kd.R_drew)); exact HO_7.out⟩, ⟨by (with_reducible repeat (first | apply Kd.S_alloc | apply Kd.S_drewN | apply Kd.S_drew)); exact HO_8.out⟩, ⟨by repeat (first | (with_reducible exact HR214_0.out) | (with_reducible refine Kd.C_alloc ?_ _) | (with_reducible refine Kd.C_drewN ?_ _) | (with_reducible refine Kd.C_drew ?_) | exact HR214_0.out)⟩, ⟨by repeat (first | (with_reducible first | exact HB.out | apply below_alloc | apply pw_below_drewN | apply below_drew1) | exact HB.out)⟩⟩
                                              case rest =>
                                                clear HC58
                                                try clear c1
                                                try clear q1
                                                try clear c2
                                                try clear p2
                                                try clear q2
                                                try clear hx2
                                                try clear c3
                                                try clear c4
                                                try clear c5
                                                try clear c5b0
                                                try clear c5b1
                                                try clear c6
                                                try clear c6b0
                                                try clear c6b1
                                                try clear p6
                                                try clear q10
                                                try clear c14
                                                try clear c16
                                                try clear c16b0
                                                try clear c17
                                                try clear c17b0
                                                try clear c18
                                                try clear c18b0
                                                try clear c19
                                                try clear c19b0
                                                try clear c20
                                                try clear c20b0
                                                try clear c21
                                                try clear c21b0
                                                try clear p21
                                                try clear q21
                                                try clear hx21
                                                try clear c22
                                                try clear c22b0
                                                try clear c24
                                                try clear c25
                                                try clear c26
                                                try clear c27
                                                try clear c37
                                                try clear c39
                                                try clear c39b0
                                                try clear c40
                                                try clear c42
                                                try clear c42b0
                                                try clear c43
                                                try clear c45
                                                try clear c45b0
                                                try clear c46
                                                try clear c46b0
                                                try clear c47
                                                try clear c47b0
                                                try clear c48
                                                try clear c48b0
                                                try clear c49
                                                try clear c49b0
                                                try clear c49b1
                                                try clear c49b2
                                                try clear c59
                                                try clear c59b0
                                                try clear hx211_0
                                                try clear hx212_0
                                                try clear hx214_0
                                                try clear hx215_0
                                                try clear p2
                                                try clear p21
                                                try clear p211
                                                try clear p212
                                                try clear p214
                                                try clear p215
                                                try clear p6
                                                try clear q1
                                                try clear q10
                                                try clear q2
                                                try clear q21
                                                try clear q211
                                                try clear q212
                                                try clear q214
                                                try clear q215
                                                obtain ⟨kq, x95_57, rfl, HA, HJ57, HO_7, HO_8, HR214_0, HB⟩ := hcut
                                                cases kq with
                                                | zero => exact absurd HA.out (by simp [marchlandlaw09_ClockBefores.j6])
                                                | succ kj57 =>
                                                  have H := HA.out
                                                  clear HA
                                                  simp only [marchlandlaw09_ClockBefores.j6] at H
                                                  by_cases c60 : x95_57 = true
                                                  · subst c60
                                                    have H1 : (if 0 ≤ x10_4 then (if x10_4 < (t206.length : Int) then (if 0 ≤ x9_2 then (if x9_2 < ((rd_L5 t206 x10_4).length : Int) then (if rdOf false (rd_L5 t206 x10_4) x9_2 = true then (if 0 ≤ x11_6 then (if x11_6 < (t206.length : Int) then (if x10_4 < ((rd_L5 t206 x11_6).length : Int) then (if rdOf false (rd_L5 t206 x11_6) x10_4 = true then ((clock_Before.f t203 x9_2 x11_6).bind fun t220 => (if t220 = true then (marchlandlaw09_ClockBefores.l2 kj57 y199 t203 t206 x9_2 x10_4 (wrap64 (x11_6 + 1))) else (some false))) else (marchlandlaw09_ClockBefores.l2 kj57 y199 t203 t206 x9_2 x10_4 (wrap64 (x11_6 + 1)))) else (none)) else (none)) else (none)) else (marchlandlaw09_ClockBefores.l2 kj57 y199 t203 t206 x9_2 x10_4 (wrap64 (x11_6 + 1)))) else (none)) else (none)) else (none)) else (none)) = some r := by rw [if_pos rfl] at H; exact H
                                                    clear H
                                                    have H := H1
                                                    clear H1
                                                    by_cases c61 : 0 ≤ x10_4
                                                    · rw [if_pos c61] at H
                                                      have c61b0 : decide (0 ≤ x10_4) = true := decide_eq_true c61
                                                      clear c61
                                                      by_cases c62 : x10_4 < (t206.length : Int)
                                                      · rw [if_pos c62] at H
                                                        have c62b0 : decide (x10_4 < (t206.length : Int)) = true := decide_eq_true c62
                                                        clear c62
                                                        by_cases c63 : 0 ≤ x9_2
                                                        · rw [if_pos c63] at H
                                                          have c63b0 : decide (0 ≤ x9_2) = true := decide_eq_true c63
                                                          clear c63
                                                          by_cases c64 : x9_2 < ((rd_L5 t206 x10_4).length : Int)
                                                          · rw [if_pos c64] at H
                                                            have c64b0 : decide (x9_2 < ((rd_L5 t206 x10_4).length : Int)) = true := decide_eq_true c64
                                                            clear c64
                                                            obtain ⟨bq65, hbq65⟩ : ∃ b_ : Bool, b_ = (rdOf false (rd_L5 t206 x10_4) x9_2) := ⟨_, rfl⟩
                                                            replace H : (if bq65 = true then (if 0 ≤ x11_6 then (if x11_6 < (t206.length : Int) then (if x10_4 < ((rd_L5 t206 x11_6).length : Int) then (if rdOf false (rd_L5 t206 x11_6) x10_4 = true then ((clock_Before.f t203 x9_2 x11_6).bind fun t220 => (if t220 = true then (marchlandlaw09_ClockBefores.l2 kj57 y199 t203 t206 x9_2 x10_4 (wrap64 (x11_6 + 1))) else (some false))) else (marchlandlaw09_ClockBefores.l2 kj57 y199 t203 t206 x9_2 x10_4 (wrap64 (x11_6 + 1)))) else (none)) else (none)) else (none)) else (marchlandlaw09_ClockBefores.l2 kj57 y199 t203 t206 x9_2 x10_4 (wrap64 (x11_6 + 1)))) = some r := by rw [← hbq65] at H; exact H
                                                            have Nbq65 := Aside0.mk hbq65
                                                            clear hbq65
                                                            by_cases c66 : bq65 = true
                                                            · subst c66
                                                              have H1 : (if 0 ≤ x11_6 then (if x11_6 < (t206.length : Int) then (if x10_4 < ((rd_L5 t206 x11_6).length : Int) then (if rdOf false (rd_L5 t206 x11_6) x10_4 = true then ((clock_Before.f t203 x9_2 x11_6).bind fun t220 => (if t220 = true then (marchlandlaw09_ClockBefores.l2 kj57 y199 t203 t206 x9_2 x10_4 (wrap64 (x11_6 + 1))) else (some false))) else (marchlandlaw09_ClockBefores.l2 kj57 y199 t203 t206 x9_2 x10_4 (wrap64 (x11_6 + 1)))) else (none)) else (none)) else (none)) = some r := by rw [if_pos rfl] at H; exact H
                                                              clear H
                                                              have H := H1
                                                              clear H1
                                                              by_cases c67 : 0 ≤ x11_6
                                                              · rw [if_pos c67] at H
                                                                have c67b0 : decide (0 ≤ x11_6) = true := decide_eq_true c67
                                                                clear c67
                                                                by_cases c68 : x11_6 < (t206.length : Int)
                                                                · rw [if_pos c68] at H
                                                                  have c68b0 : decide (x11_6 < (t206.length : Int)) = true := decide_eq_true c68
                                                                  clear c68
                                                                  by_cases c69 : x10_4 < ((rd_L5 t206 x11_6).length : Int)
                                                                  · rw [if_pos c69] at H
                                                                    have c69b0 : decide (x10_4 < ((rd_L5 t206 x11_6).length : Int)) = true := decide_eq_true c69
                                                                    clear c69
                                                                    obtain ⟨bq70, hbq70⟩ : ∃ b_ : Bool, b_ = (rdOf false (rd_L5 t206 x11_6) x10_4) := ⟨_, rfl⟩
                                                                    replace H : (if bq70 = true then ((clock_Before.f t203 x9_2 x11_6).bind fun t220 => (if t220 = true then (marchlandlaw09_ClockBefores.l2 kj57 y199 t203 t206 x9_2 x10_4 (wrap64 (x11_6 + 1))) else (some false))) else (marchlandlaw09_ClockBefores.l2 kj57 y199 t203 t206 x9_2 x10_4 (wrap64 (x11_6 + 1)))) = some r := by rw [← hbq70] at H; exact H
                                                                    have Nbq70 := Aside0.mk hbq70
                                                                    clear hbq70
                                                                    by_cases c71 : bq70 = true
                                                                    · subst c71
                                                                      have H1 : ((clock_Before.f t203 x9_2 x11_6).bind fun t220 => (if t220 = true then (marchlandlaw09_ClockBefores.l2 kj57 y199 t203 t206 x9_2 x10_4 (wrap64 (x11_6 + 1))) else (some false))) = some r := by rw [if_pos rfl] at H; exact H
                                                                      clear H
                                                                      have H := H1
                                                                      clear H1
                                                                      replace H := Option.bind_eq_some_iff.mp H
                                                                      obtain ⟨t220, A720, H⟩ := H
                                                                      replace H : (if t220 = true then (marchlandlaw09_ClockBefores.l2 kj57 y199 t203 t206 x9_2 x10_4 (wrap64 (x11_6 + 1))) else (some false)) = some r := H
                                                                      have A72 := Aside0.mk A720
                                                                      clear A720
                                                                      by_cases c73 : t220 = true
                                                                      · subst c73
                                                                        have H1 : (marchlandlaw09_ClockBefores.l2 kj57 y199 t203 t206 x9_2 x10_4 (wrap64 (x11_6 + 1))) = some r := by rw [if_pos rfl] at H; exact H
                                                                        clear H
                                                                        have H := H1
                                                                        clear H1
                                                                        have H' := Aside0.mk H
                                                                        clear H
                                                                        have p216 : 0 ≤ (x10_4 : Int) := of_decide_eq_true (by first | (with_reducible assumption) | assumption)
                                                                        have q216 : x10_4 < (t206.length : Int) := of_decide_eq_true (by first | (with_reducible assumption) | assumption)
                                                                        obtain ⟨ad216, A216_0, c216_0, e216, hx216_0, hl216_0, hi216_0⟩ := at_L5 (Kd.S_reads' HO_8.out).2.2 x10_4 p216 q216
                                                                        obtain rfl : ad214 = ad216 := (by injection e216)
                                                                        obtain ⟨ce216, hce216, hMe216, hcc216⟩ := Kd.S_get HO_8.out [] x10_4 p216 (by first | exact q216 | exact of_decide_eq_true (by first | (with_reducible assumption) | assumption) | (have e_ := (Kd.S_reads' HO_8.out).1; omega))
                                                                        obtain ⟨ve216_0, rfl, ge216_0⟩ := hMe216
                                                                        have hv216_0 := hcc216 0 _ rfl
                                                                        rw [Nat.add_zero, show ((Kd.slice 4 Kd.bool)).sz = 1 from rfl, Nat.mul_one] at hv216_0
                                                                        replace hv216_0 := Option.some.inj (hv216_0.symm.trans hx216_0)
                                                                        rw [hv216_0] at ge216_0
                                                                        have HL216_0 := Aside0.mk (show Kd.R Kd.bool 4 _ _ _ _ (rd_L5 t206 x10_4) from ge216_0)
                                                                        clear hv216_0 ge216_0
                                                                        clear hcc216 hce216
                                                                        have HR216_0 := Aside0.mk hi216_0
                                                                        have HC216_0 := Aside0.mk hl216_0
                                                                        clear hi216_0 hl216_0
                                                                        replace p216 := eq_true p216
                                                                        replace q216 := eq_true q216
                                                                        have p217 : 0 ≤ (x9_2 : Int) := of_decide_eq_true (by first | (with_reducible assumption) | assumption)
                                                                        have q217 : x9_2 < ((rd_L5 t206 x10_4).length : Int) := of_decide_eq_true (by first | (with_reducible assumption) | assumption)
                                                                        obtain ⟨ad217, e217, hx217_0⟩ := Kd.at_bool (by repeat (first | (with_reducible exact HR216_0.out) | (with_reducible refine Kd.C_alloc ?_ _) | (with_reducible refine Kd.C_drewN ?_ _) | (with_reducible refine Kd.C_drew ?_) | exact HR216_0.out)) x9_2 p217 q217
                                                                        (try rw [← Nbq65.out] at hx217_0)
                                                                        (try rw [← Nbq70.out] at hx217_0)
                                                                        cases e217
                                                                        replace p217 := eq_true p217
                                                                        replace q217 := eq_true q217
                                                                        have p218 : 0 ≤ (x11_6 : Int) := of_decide_eq_true (by first | (with_reducible assumption) | assumption)
                                                                        have q218 : x11_6 < (t206.length : Int) := of_decide_eq_true (by first | (with_reducible assumption) | assumption)
                                                                        obtain ⟨ad218, A218_0, c218_0, e218, hx218_0, hl218_0, hi218_0⟩ := at_L5 (Kd.S_reads' HO_8.out).2.2 x11_6 p218 q218
                                                                        obtain rfl : ad214 = ad218 := (by injection e218)
                                                                        obtain ⟨ce218, hce218, hMe218, hcc218⟩ := Kd.S_get HO_8.out [] x11_6 p218 (by first | exact q218 | exact of_decide_eq_true (by first | (with_reducible assumption) | assumption) | (have e_ := (Kd.S_reads' HO_8.out).1; omega))
                                                                        obtain ⟨ve218_0, rfl, ge218_0⟩ := hMe218
                                                                        have hv218_0 := hcc218 0 _ rfl
                                                                        rw [Nat.add_zero, show ((Kd.slice 4 Kd.bool)).sz = 1 from rfl, Nat.mul_one] at hv218_0
                                                                        replace hv218_0 := Option.some.inj (hv218_0.symm.trans hx218_0)
                                                                        rw [hv218_0] at ge218_0
                                                                        have HL218_0 := Aside0.mk (show Kd.R Kd.bool 4 _ _ _ _ (rd_L5 t206 x11_6) from ge218_0)
                                                                        clear hv218_0 ge218_0
                                                                        clear hcc218 hce218
                                                                        have HR218_0 := Aside0.mk hi218_0
                                                                        have HC218_0 := Aside0.mk hl218_0
                                                                        clear hi218_0 hl218_0
                                                                        replace p218 := eq_true p218
                                                                        replace q218 := eq_true q218
                                                                        have p219 : 0 ≤ (x10_4 : Int) := of_decide_eq_true (by first | (with_reducible assumption) | assumption)
                                                                        have q219 : x10_4 < ((rd_L5 t206 x11_6).length : Int) := of_decide_eq_true (by first | (with_reducible assumption) | assumption)
                                                                        obtain ⟨ad219, e219, hx219_0⟩ := Kd.at_bool (by repeat (first | (with_reducible exact HR218_0.out) | (with_reducible refine Kd.C_alloc ?_ _) | (with_reducible refine Kd.C_drewN ?_ _) | (with_reducible refine Kd.C_drew ?_) | exact HR218_0.out)) x10_4 p219 q219
                                                                        (try rw [← Nbq65.out] at hx219_0)
                                                                        (try rw [← Nbq70.out] at hx219_0)
                                                                        cases e219
                                                                        replace p219 := eq_true p219
                                                                        replace q219 := eq_true q219
                                                                        go_wp2_with (first | (go_at_call 27; (with_reducible refine (clock_Before.calls _ _ t203 x9_2 x11_6 true _ ?side1 ?side2 A72.out).mono ?_); (case side1 => repeat (first | exact (Kd.R_reads' HO_7.out).2.2 | (with_reducible refine Kd.C_alloc ?_ _) | (with_reducible refine Kd.C_drewN ?_ _) | (with_reducible refine Kd.C_drew ?_))); (case side2 => exact (Kd.R_reads' HO_7.out).2.1); rintro e w74 ⟨rfl, hb⟩; have n0_ := Aside0.mk (Kd.R_below (by (with_reducible repeat (first | apply Kd.R_alloc | apply Kd.R_drewN | apply Kd.R_drew)); exact HO_7.out) hb); have n1_ := Aside0.mk (Kd.S_below (by (with_reducible repeat (first | apply Kd.S_alloc | apply Kd.S_drewN | apply Kd.S_drew)); exact HO_8.out) hb); have n2_ := Aside0.mk (Kd.R_below (by (with_reducible repeat (first | apply Kd.R_alloc | apply Kd.R_drewN | apply Kd.R_drew)); exact HL216_0.out) hb); have n3_ := Aside0.mk (Kd.R_below (by (with_reducible repeat (first | apply Kd.R_alloc | apply Kd.R_drewN | apply Kd.R_drew)); exact HL218_0.out) hb); have n4_ := Aside0.mk (Kd.C_below (by repeat (first | (with_reducible exact HR214_0.out) | (with_reducible refine Kd.C_alloc ?_ _) | (with_reducible refine Kd.C_drewN ?_ _) | (with_reducible refine Kd.C_drew ?_) | exact HR214_0.out)) hb); have n5_ := Aside0.mk (Kd.C_below (by repeat (first | (with_reducible exact HR216_0.out) | (with_reducible refine Kd.C_alloc ?_ _) | (with_reducible refine Kd.C_drewN ?_ _) | (with_reducible refine Kd.C_drew ?_) | exact HR216_0.out)) hb); have n6_ := Aside0.mk (Kd.C_below (by repeat (first | (with_reducible exact HR218_0.out) | (with_reducible refine Kd.C_alloc ?_ _) | (with_reducible refine Kd.C_drewN ?_ _) | (with_reducible refine Kd.C_drew ?_) | exact HR218_0.out)) hb); have n7_ := Aside0.mk (below_step (by repeat (first | (with_reducible first | exact HB.out | apply below_alloc | apply pw_below_drewN | apply below_drew1) | exact HB.out)) hb); clear HO_7; clear HO_8; clear HL216_0; clear HL218_0; clear HR214_0; clear HR216_0; clear HR218_0; clear HB; have HO_7 := n0_; have HO_8 := n1_; have HL216_0 := n2_; have HL218_0 := n3_; have HR214_0 := n4_; have HR216_0 := n5_; have HR218_0 := n6_; have HB := n7_; clear n0_ n1_ n2_ n3_ n4_ n5_ n6_ n7_; (try clear hb); (try clear hb2); (try clear hk); (try clear hi)))
                                                                        go_roundg kj57
                                                                        case measure => have := HJ8.out; have := HK2.out; have := HJ37.out; have := HK4.out; have := HJ40.out; have := HK6.out; have := HJ57.out; omega
                                                                        case rel => exact ⟨(wrap64 (x11_6 + 1)), (by first | rfl | (simp; done) | (simp [*]; done)), H', ⟨by have := HJ8.out; have := HK2.out; have := HJ37.out; have := HK4.out; have := HJ40.out; have := HK6.out; have := HJ57.out; omega⟩, ⟨by (with_reducible repeat (first | apply Kd.R_alloc | apply Kd.R_drewN | apply Kd.R_drew)); exact HO_7.out⟩, ⟨by (with_reducible repeat (first | apply Kd.S_alloc | apply Kd.S_drewN | apply Kd.S_drew)); exact HO_8.out⟩, ⟨by repeat (first | (with_reducible exact HR214_0.out) | (with_reducible refine Kd.C_alloc ?_ _) | (with_reducible refine Kd.C_drewN ?_ _) | (with_reducible refine Kd.C_drew ?_) | exact HR214_0.out)⟩, ⟨by repeat (first | (with_reducible first | exact HB.out | apply below_alloc | apply pw_below_drewN | apply below_drew1) | exact HB.out)⟩⟩
                                                                      · replace c73 := Bool.eq_false_iff.mpr c73
                                                                        subst c73
                                                                        have H1 : (some false) = some r := by rw [if_neg (show ¬ (false = true) by decide)] at H; exact H
                                                                        clear H
                                                                        have H := H1
                                                                        clear H1
                                                                        obtain rfl := Option.some.inj H
                                                                        have p216 : 0 ≤ (x10_4 : Int) := of_decide_eq_true (by first | (with_reducible assumption) | assumption)
                                                                        have q216 : x10_4 < (t206.length : Int) := of_decide_eq_true (by first | (with_reducible assumption) | assumption)
                                                                        obtain ⟨ad216, A216_0, c216_0, e216, hx216_0, hl216_0, hi216_0⟩ := at_L5 (Kd.S_reads' HO_8.out).2.2 x10_4 p216 q216
                                                                        obtain rfl : ad214 = ad216 := (by injection e216)
                                                                        obtain ⟨ce216, hce216, hMe216, hcc216⟩ := Kd.S_get HO_8.out [] x10_4 p216 (by first | exact q216 | exact of_decide_eq_true (by first | (with_reducible assumption) | assumption) | (have e_ := (Kd.S_reads' HO_8.out).1; omega))
                                                                        obtain ⟨ve216_0, rfl, ge216_0⟩ := hMe216
                                                                        have hv216_0 := hcc216 0 _ rfl
                                                                        rw [Nat.add_zero, show ((Kd.slice 4 Kd.bool)).sz = 1 from rfl, Nat.mul_one] at hv216_0
                                                                        replace hv216_0 := Option.some.inj (hv216_0.symm.trans hx216_0)
                                                                        rw [hv216_0] at ge216_0
                                                                        have HL216_0 := Aside0.mk (show Kd.R Kd.bool 4 _ _ _ _ (rd_L5 t206 x10_4) from ge216_0)
                                                                        clear hv216_0 ge216_0
                                                                        clear hcc216 hce216
                                                                        have HR216_0 := Aside0.mk hi216_0
                                                                        have HC216_0 := Aside0.mk hl216_0
                                                                        clear hi216_0 hl216_0
                                                                        replace p216 := eq_true p216
                                                                        replace q216 := eq_true q216
                                                                        have p217 : 0 ≤ (x9_2 : Int) := of_decide_eq_true (by first | (with_reducible assumption) | assumption)
                                                                        have q217 : x9_2 < ((rd_L5 t206 x10_4).length : Int) := of_decide_eq_true (by first | (with_reducible assumption) | assumption)
                                                                        obtain ⟨ad217, e217, hx217_0⟩ := Kd.at_bool (by repeat (first | (with_reducible exact HR216_0.out) | (with_reducible refine Kd.C_alloc ?_ _) | (with_reducible refine Kd.C_drewN ?_ _) | (with_reducible refine Kd.C_drew ?_) | exact HR216_0.out)) x9_2 p217 q217
                                                                        (try rw [← Nbq65.out] at hx217_0)
                                                                        (try rw [← Nbq70.out] at hx217_0)
                                                                        cases e217
                                                                        replace p217 := eq_true p217
                                                                        replace q217 := eq_true q217
                                                                        have p218 : 0 ≤ (x11_6 : Int) := of_decide_eq_true (by first | (with_reducible assumption) | assumption)
                                                                        have q218 : x11_6 < (t206.length : Int) := of_decide_eq_true (by first | (with_reducible assumption) | assumption)
                                                                        obtain ⟨ad218, A218_0, c218_0, e218, hx218_0, hl218_0, hi218_0⟩ := at_L5 (Kd.S_reads' HO_8.out).2.2 x11_6 p218 q218
                                                                        obtain rfl : ad214 = ad218 := (by injection e218)
                                                                        obtain ⟨ce218, hce218, hMe218, hcc218⟩ := Kd.S_get HO_8.out [] x11_6 p218 (by first | exact q218 | exact of_decide_eq_true (by first | (with_reducible assumption) | assumption) | (have e_ := (Kd.S_reads' HO_8.out).1; omega))
                                                                        obtain ⟨ve218_0, rfl, ge218_0⟩ := hMe218
                                                                        have hv218_0 := hcc218 0 _ rfl
                                                                        rw [Nat.add_zero, show ((Kd.slice 4 Kd.bool)).sz = 1 from rfl, Nat.mul_one] at hv218_0
                                                                        replace hv218_0 := Option.some.inj (hv218_0.symm.trans hx218_0)
                                                                        rw [hv218_0] at ge218_0
                                                                        have HL218_0 := Aside0.mk (show Kd.R Kd.bool 4 _ _ _ _ (rd_L5 t206 x11_6) from ge218_0)
                                                                        clear hv218_0 ge218_0
                                                                        clear hcc218 hce218
                                                                        have HR218_0 := Aside0.mk hi218_0
                                                                        have HC218_0 := Aside0.mk hl218_0
                                                                        clear hi218_0 hl218_0
                                                                        replace p218 := eq_true p218
                                                                        replace q218 := eq_true q218
                                                                        have p219 : 0 ≤ (x10_4 : Int) := of_decide_eq_true (by first | (with_reducible assumption) | assumption)
                                                                        have q219 : x10_4 < ((rd_L5 t206 x11_6).length : Int) := of_decide_eq_true (by first | (with_reducible assumption) | assumption)
                                                                        obtain ⟨ad219, e219, hx219_0⟩ := Kd.at_bool (by repeat (first | (with_reducible exact HR218_0.out) | (with_reducible refine Kd.C_alloc ?_ _) | (with_reducible refine Kd.C_drewN ?_ _) | (with_reducible refine Kd.C_drew ?_) | exact HR218_0.out)) x10_4 p219 q219
                                                                        (try rw [← Nbq65.out] at hx219_0)
                                                                        (try rw [← Nbq70.out] at hx219_0)
                                                                        cases e219
                                                                        replace p219 := eq_true p219
                                                                        replace q219 := eq_true q219
                                                                        go_wp2_with (first | (go_at_call 27; (with_reducible refine (clock_Before.calls _ _ t203 x9_2 x11_6 false _ ?side1 ?side2 A72.out).mono ?_); (case side1 => repeat (first | exact (Kd.R_reads' HO_7.out).2.2 | (with_reducible refine Kd.C_alloc ?_ _) | (with_reducible refine Kd.C_drewN ?_ _) | (with_reducible refine Kd.C_drew ?_))); (case side2 => exact (Kd.R_reads' HO_7.out).2.1); rintro e w75 ⟨rfl, hb⟩; have n0_ := Aside0.mk (Kd.R_below (by (with_reducible repeat (first | apply Kd.R_alloc | apply Kd.R_drewN | apply Kd.R_drew)); exact HO_7.out) hb); have n1_ := Aside0.mk (Kd.S_below (by (with_reducible repeat (first | apply Kd.S_alloc | apply Kd.S_drewN | apply Kd.S_drew)); exact HO_8.out) hb); have n2_ := Aside0.mk (Kd.R_below (by (with_reducible repeat (first | apply Kd.R_alloc | apply Kd.R_drewN | apply Kd.R_drew)); exact HL216_0.out) hb); have n3_ := Aside0.mk (Kd.R_below (by (with_reducible repeat (first | apply Kd.R_alloc | apply Kd.R_drewN | apply Kd.R_drew)); exact HL218_0.out) hb); have n4_ := Aside0.mk (Kd.C_below (by repeat (first | (with_reducible exact HR214_0.out) | (with_reducible refine Kd.C_alloc ?_ _) | (with_reducible refine Kd.C_drewN ?_ _) | (with_reducible refine Kd.C_drew ?_) | exact HR214_0.out)) hb); have n5_ := Aside0.mk (Kd.C_below (by repeat (first | (with_reducible exact HR216_0.out) | (with_reducible refine Kd.C_alloc ?_ _) | (with_reducible refine Kd.C_drewN ?_ _) | (with_reducible refine Kd.C_drew ?_) | exact HR216_0.out)) hb); have n6_ := Aside0.mk (Kd.C_below (by repeat (first | (with_reducible exact HR218_0.out) | (with_reducible refine Kd.C_alloc ?_ _) | (with_reducible refine Kd.C_drewN ?_ _) | (with_reducible refine Kd.C_drew ?_) | exact HR218_0.out)) hb); have n7_ := Aside0.mk (below_step (by repeat (first | (with_reducible first | exact HB.out | apply below_alloc | apply pw_below_drewN | apply below_drew1) | exact HB.out)) hb); clear HO_7; clear HO_8; clear HL216_0; clear HL218_0; clear HR214_0; clear HR216_0; clear HR218_0; clear HB; have HO_7 := n0_; have HO_8 := n1_; have HL216_0 := n2_; have HL218_0 := n3_; have HR214_0 := n4_; have HR216_0 := n5_; have HR218_0 := n6_; have HB := n7_; clear n0_ n1_ n2_ n3_ n4_ n5_ n6_ n7_; (try clear hb); (try clear hb2); (try clear hk); (try clear hi)))
                                                                        go_ret
                                                                        exact ⟨by first | rfl | (simp [errW_none, errW_some] <;> rfl) | (simp only [← hji4]; first | rfl | (simp [errW_none, errW_some] <;> rfl)) | (simp [*, errW_none, errW_some] <;> rfl), by repeat (first | (with_reducible first | exact HB.out | apply below_alloc | apply pw_below_drewN | apply below_drew1) | exact HB.out)⟩
                                                                    · replace c71 := Bool.eq_false_iff.mpr c71
                                                                      subst c71
                                                                      have H1 : (marchlandlaw09_ClockBefores.l2 kj57 y199 t203 t206 x9_2 x10_4 (wrap64 (x11_6 + 1))) = some r := by rw [if_neg (show ¬ (false = true) by decide)] at H; exact H
                                                                      clear H
                                                                      have H := H1
                                                                      clear H1
                                                                      have H' := Aside0.mk H
                                                                      clear H
                                                                      have p216 : 0 ≤ (x10_4 : Int) := of_decide_eq_true (by first | (with_reducible assumption) | assumption)
                                                                      have q216 : x10_4 < (t206.length : Int) := of_decide_eq_true (by first | (with_reducible assumption) | assumption)
                                                                      obtain ⟨ad216, A216_0, c216_0, e216, hx216_0, hl216_0, hi216_0⟩ := at_L5 (Kd.S_reads' HO_8.out).2.2 x10_4 p216 q216
                                                                      obtain rfl : ad214 = ad216 := (by injection e216)
                                                                      obtain ⟨ce216, hce216, hMe216, hcc216⟩ := Kd.S_get HO_8.out [] x10_4 p216 (by first | exact q216 | exact of_decide_eq_true (by first | (with_reducible assumption) | assumption) | (have e_ := (Kd.S_reads' HO_8.out).1; omega))
                                                                      obtain ⟨ve216_0, rfl, ge216_0⟩ := hMe216
                                                                      have hv216_0 := hcc216 0 _ rfl
                                                                      rw [Nat.add_zero, show ((Kd.slice 4 Kd.bool)).sz = 1 from rfl, Nat.mul_one] at hv216_0
                                                                      replace hv216_0 := Option.some.inj (hv216_0.symm.trans hx216_0)
                                                                      rw [hv216_0] at ge216_0
                                                                      have HL216_0 := Aside0.mk (show Kd.R Kd.bool 4 _ _ _ _ (rd_L5 t206 x10_4) from ge216_0)
                                                                      clear hv216_0 ge216_0
                                                                      clear hcc216 hce216
                                                                      have HR216_0 := Aside0.mk hi216_0
                                                                      have HC216_0 := Aside0.mk hl216_0
                                                                      clear hi216_0 hl216_0
                                                                      replace p216 := eq_true p216
                                                                      replace q216 := eq_true q216
                                                                      have p217 : 0 ≤ (x9_2 : Int) := of_decide_eq_true (by first | (with_reducible assumption) | assumption)
                                                                      have q217 : x9_2 < ((rd_L5 t206 x10_4).length : Int) := of_decide_eq_true (by first | (with_reducible assumption) | assumption)
                                                                      obtain ⟨ad217, e217, hx217_0⟩ := Kd.at_bool (by repeat (first | (with_reducible exact HR216_0.out) | (with_reducible refine Kd.C_alloc ?_ _) | (with_reducible refine Kd.C_drewN ?_ _) | (with_reducible refine Kd.C_drew ?_) | exact HR216_0.out)) x9_2 p217 q217
                                                                      (try rw [← Nbq65.out] at hx217_0)
                                                                      (try rw [← Nbq70.out] at hx217_0)
                                                                      cases e217
                                                                      replace p217 := eq_true p217
                                                                      replace q217 := eq_true q217
                                                                      have p218 : 0 ≤ (x11_6 : Int) := of_decide_eq_true (by first | (with_reducible assumption) | assumption)
                                                                      have q218 : x11_6 < (t206.length : Int) := of_decide_eq_true (by first | (with_reducible assumption) | assumption)
                                                                      obtain ⟨ad218, A218_0, c218_0, e218, hx218_0, hl218_0, hi218_0⟩ := at_L5 (Kd.S_reads' HO_8.out).2.2 x11_6 p218 q218
                                                                      obtain rfl : ad214 = ad218 := (by injection e218)
                                                                      obtain ⟨ce218, hce218, hMe218, hcc218⟩ := Kd.S_get HO_8.out [] x11_6 p218 (by first | exact q218 | exact of_decide_eq_true (by first | (with_reducible assumption) | assumption) | (have e_ := (Kd.S_reads' HO_8.out).1; omega))
                                                                      obtain ⟨ve218_0, rfl, ge218_0⟩ := hMe218
                                                                      have hv218_0 := hcc218 0 _ rfl
                                                                      rw [Nat.add_zero, show ((Kd.slice 4 Kd.bool)).sz = 1 from rfl, Nat.mul_one] at hv218_0
                                                                      replace hv218_0 := Option.some.inj (hv218_0.symm.trans hx218_0)
                                                                      rw [hv218_0] at ge218_0
                                                                      have HL218_0 := Aside0.mk (show Kd.R Kd.bool 4 _ _ _ _ (rd_L5 t206 x11_6) from ge218_0)
                                                                      clear hv218_0 ge218_0
                                                                      clear hcc218 hce218
                                                                      have HR218_0 := Aside0.mk hi218_0
                                                                      have HC218_0 := Aside0.mk hl218_0
                                                                      clear hi218_0 hl218_0
                                                                      replace p218 := eq_true p218
                                                                      replace q218 := eq_true q218
                                                                      have p219 : 0 ≤ (x10_4 : Int) := of_decide_eq_true (by first | (with_reducible assumption) | assumption)
                                                                      have q219 : x10_4 < ((rd_L5 t206 x11_6).length : Int) := of_decide_eq_true (by first | (with_reducible assumption) | assumption)
                                                                      obtain ⟨ad219, e219, hx219_0⟩ := Kd.at_bool (by repeat (first | (with_reducible exact HR218_0.out) | (with_reducible refine Kd.C_alloc ?_ _) | (with_reducible refine Kd.C_drewN ?_ _) | (with_reducible refine Kd.C_drew ?_) | exact HR218_0.out)) x10_4 p219 q219
                                                                      (try rw [← Nbq65.out] at hx219_0)
                                                                      (try rw [← Nbq70.out] at hx219_0)
                                                                      cases e219
                                                                      replace p219 := eq_true p219
                                                                      replace q219 := eq_true q219
                                                                      go_wp2
                                                                      go_roundg kj57
                                                                      case measure => have := HJ8.out; have := HK2.out; have := HJ37.out; have := HK4.out; have := HJ40.out; have := HK6.out; have := HJ57.out; omega
                                                                      case rel => exact ⟨(wrap64 (x11_6 + 1)), (by first | rfl | (simp; done) | (simp [*]; done)), H', ⟨by have := HJ8.out; have := HK2.out; have := HJ37.out; have := HK4.out; have := HJ40.out; have := HK6.out; have := HJ57.out; omega⟩, ⟨by (with_reducible repeat (first | apply Kd.R_alloc | apply Kd.R_drewN | apply Kd.R_drew)); exact HO_7.out⟩, ⟨by (with_reducible repeat (first | apply Kd.S_alloc | apply Kd.S_drewN | apply Kd.S_drew)); exact HO_8.out⟩, ⟨by repeat (first | (with_reducible exact HR214_0.out) | (with_reducible refine Kd.C_alloc ?_ _) | (with_reducible refine Kd.C_drewN ?_ _) | (with_reducible refine Kd.C_drew ?_) | exact HR214_0.out)⟩, ⟨by repeat (first | (with_reducible first | exact HB.out | apply below_alloc | apply pw_below_drewN | apply below_drew1) | exact HB.out)⟩⟩
                                                                  · rw [if_neg c69] at H
                                                                    exact absurd H (by simp)
                                                                · rw [if_neg c68] at H
                                                                  exact absurd H (by simp)
                                                              · rw [if_neg c67] at H
                                                                exact absurd H (by simp)
                                                            · replace c66 := Bool.eq_false_iff.mpr c66
                                                              subst c66
                                                              have H1 : (marchlandlaw09_ClockBefores.l2 kj57 y199 t203 t206 x9_2 x10_4 (wrap64 (x11_6 + 1))) = some r := by rw [if_neg (show ¬ (false = true) by decide)] at H; exact H
                                                              clear H
                                                              have H := H1
                                                              clear H1
                                                              have H' := Aside0.mk H
                                                              clear H
                                                              have p216 : 0 ≤ (x10_4 : Int) := of_decide_eq_true (by first | (with_reducible assumption) | assumption)
                                                              have q216 : x10_4 < (t206.length : Int) := of_decide_eq_true (by first | (with_reducible assumption) | assumption)
                                                              obtain ⟨ad216, A216_0, c216_0, e216, hx216_0, hl216_0, hi216_0⟩ := at_L5 (Kd.S_reads' HO_8.out).2.2 x10_4 p216 q216
                                                              obtain rfl : ad214 = ad216 := (by injection e216)
                                                              obtain ⟨ce216, hce216, hMe216, hcc216⟩ := Kd.S_get HO_8.out [] x10_4 p216 (by first | exact q216 | exact of_decide_eq_true (by first | (with_reducible assumption) | assumption) | (have e_ := (Kd.S_reads' HO_8.out).1; omega))
                                                              obtain ⟨ve216_0, rfl, ge216_0⟩ := hMe216
                                                              have hv216_0 := hcc216 0 _ rfl
                                                              rw [Nat.add_zero, show ((Kd.slice 4 Kd.bool)).sz = 1 from rfl, Nat.mul_one] at hv216_0
                                                              replace hv216_0 := Option.some.inj (hv216_0.symm.trans hx216_0)
                                                              rw [hv216_0] at ge216_0
                                                              have HL216_0 := Aside0.mk (show Kd.R Kd.bool 4 _ _ _ _ (rd_L5 t206 x10_4) from ge216_0)
                                                              clear hv216_0 ge216_0
                                                              clear hcc216 hce216
                                                              have HR216_0 := Aside0.mk hi216_0
                                                              have HC216_0 := Aside0.mk hl216_0
                                                              clear hi216_0 hl216_0
                                                              replace p216 := eq_true p216
                                                              replace q216 := eq_true q216
                                                              have p217 : 0 ≤ (x9_2 : Int) := of_decide_eq_true (by first | (with_reducible assumption) | assumption)
                                                              have q217 : x9_2 < ((rd_L5 t206 x10_4).length : Int) := of_decide_eq_true (by first | (with_reducible assumption) | assumption)
                                                              obtain ⟨ad217, e217, hx217_0⟩ := Kd.at_bool (by repeat (first | (with_reducible exact HR216_0.out) | (with_reducible refine Kd.C_alloc ?_ _) | (with_reducible refine Kd.C_drewN ?_ _) | (with_reducible refine Kd.C_drew ?_) | exact HR216_0.out)) x9_2 p217 q217
                                                              (try rw [← Nbq65.out] at hx217_0)
                                                              cases e217
                                                              replace p217 := eq_true p217
                                                              replace q217 := eq_true q217
                                                              go_wp2
                                                              go_roundg kj57
                                                              case measure => have := HJ8.out; have := HK2.out; have := HJ37.out; have := HK4.out; have := HJ40.out; have := HK6.out; have := HJ57.out; omega
                                                              case rel => exact ⟨(wrap64 (x11_6 + 1)), (by first | rfl | (simp; done) | (simp [*]; done)), H', ⟨by have := HJ8.out; have := HK2.out; have := HJ37.out; have := HK4.out; have := HJ40.out; have := HK6.out; have := HJ57.out; omega⟩, ⟨by (with_reducible repeat (first | apply Kd.R_alloc | apply Kd.R_drewN | apply Kd.R_drew)); exact HO_7.out⟩, ⟨by (with_reducible repeat (first | apply Kd.S_alloc | apply Kd.S_drewN | apply Kd.S_drew)); exact HO_8.out⟩, ⟨by repeat (first | (with_reducible exact HR214_0.out) | (with_reducible refine Kd.C_alloc ?_ _) | (with_reducible refine Kd.C_drewN ?_ _) | (with_reducible refine Kd.C_drew ?_) | exact HR214_0.out)⟩, ⟨by repeat (first | (with_reducible first | exact HB.out | apply below_alloc | apply pw_below_drewN | apply below_drew1) | exact HB.out)⟩⟩
                                                          · rw [if_neg c64] at H
                                                            exact absurd H (by simp)
                                                        · rw [if_neg c63] at H
                                                          exact absurd H (by simp)
                                                      · rw [if_neg c62] at H
                                                        exact absurd H (by simp)
                                                    · rw [if_neg c61] at H
                                                      exact absurd H (by simp)
                                                  · replace c60 := Bool.eq_false_iff.mpr c60
                                                    subst c60
                                                    have H1 : (marchlandlaw09_ClockBefores.l1 kj57 y199 t203 t206 x9_2 (wrap64 (x10_4 + 1))) = some r := by rw [if_neg (show ¬ (false = true) by decide)] at H; exact H
                                                    clear H
                                                    have H := H1
                                                    clear H1
                                                    have H' := Aside0.mk H
                                                    clear H
                                                    go_wp2
                                                    go_roundg kj57
                                                    case measure => have := HJ8.out; have := HK2.out; have := HJ37.out; have := HK4.out; have := HJ40.out; have := HK6.out; have := HJ57.out; omega
                                                    case rel => exact ⟨(wrap64 (x10_4 + 1)), (by first | rfl | (simp; done) | (simp [*]; done)), H', ⟨by have := HJ8.out; have := HK2.out; have := HJ37.out; have := HK4.out; have := HJ40.out; have := HK6.out; have := HJ57.out; omega⟩, ⟨by (with_reducible repeat (first | apply Kd.R_alloc | apply Kd.R_drewN | apply Kd.R_drew)); exact HO_7.out⟩, ⟨by (with_reducible repeat (first | apply Kd.S_alloc | apply Kd.S_drewN | apply Kd.S_drew)); exact HO_8.out⟩, ⟨by repeat (first | (with_reducible first | exact HB.out | apply below_alloc | apply pw_below_drewN | apply below_drew1) | exact HB.out)⟩⟩
                                      · rw [if_neg c48] at H
                                        exact absurd H (by simp)
                                    · rw [if_neg c47] at H
                                      exact absurd H (by simp)
                                  · rw [if_neg c46] at H
                                    exact absurd H (by simp)
                                · rw [if_neg c45] at H
                                  exact absurd H (by simp)
                              · replace c43 := Bool.eq_false_iff.mpr c43
                                subst c43
                                have H1 : (marchlandlaw09_ClockBefores.l0 kj40 y199 t203 t206 (wrap64 (x9_2 + 1))) = some r := by rw [if_neg (show ¬ (false = true) by decide)] at H; exact H
                                clear H
                                have H := H1
                                clear H1
                                have H' := Aside0.mk H
                                clear H
                                go_wp2
                                go_roundg kj40
                                case measure => have := HJ8.out; have := HK2.out; have := HJ37.out; have := HK4.out; have := HJ40.out; omega
                                case rel => exact ⟨(wrap64 (x9_2 + 1)), (by first | rfl | (simp; done) | (simp [*]; done)), H', ⟨by have := HJ8.out; have := HK2.out; have := HJ37.out; have := HK4.out; have := HJ40.out; omega⟩, ⟨by (with_reducible repeat (first | apply Kd.R_alloc | apply Kd.R_drewN | apply Kd.R_drew)); exact HO_7.out⟩, ⟨by (with_reducible repeat (first | apply Kd.S_alloc | apply Kd.S_drewN | apply Kd.S_drew)); exact HO_8.out⟩, ⟨by repeat (first | (with_reducible first | exact HB.out | apply below_alloc | apply pw_below_drewN | apply below_drew1) | exact HB.out)⟩⟩
                    · replace c40 := Bool.eq_false_iff.mpr c40
                      subst c40
                      have H1 : (some true) = some r := by rw [if_neg (show ¬ (false = true) by decide)] at H; exact H
                      clear H
                      have H := H1
                      clear H1
                      obtain rfl := Option.some.inj H
                      go_wp2
                      go_ret
                      exact ⟨by first | rfl | (simp [errW_none, errW_some] <;> rfl) | (simp only [← hji4]; first | rfl | (simp [errW_none, errW_some] <;> rfl)) | (simp [*, errW_none, errW_some] <;> rfl), by repeat (first | (with_reducible first | exact HB.out | apply below_alloc | apply pw_below_drewN | apply below_drew1) | exact HB.out)⟩
    · rw [if_neg c6] at H
      exact absurd H (by simp)
  · rw [if_neg c5] at H
    exact absurd H (by simp)
end Go.Proofs.Ytlcnckbmolefpaa.P
end
