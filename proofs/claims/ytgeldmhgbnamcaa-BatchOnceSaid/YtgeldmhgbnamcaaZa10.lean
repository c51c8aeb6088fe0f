/- Walks and laws of several statements of this seat, joined into one text; no condition. -/
import Derived.Test.YtgeldmhgbnamcaaZa2
import Derived.Test.YtgeldmhgbnamcaaZa5
import Derived.Test.YtgeldmhgbnamcaaZa8
import Derived.Test.YtgeldmhgbnamcaaZa6
import Derived.Test.YtgeldmhgbnamcaaZa9
import Derived.Test.YtgeldmhgbnamcaaZa0
import Derived.Deep.Slices
import Derived.SizedLaws
import Derived.OpenShut
import Derived.IntWalk
section
-- Printed by the session's own turn of the print (wip/tools/print2.sh): some callees are proved by hand.
namespace Go.Proofs.Ytgeldmhgbnamcaa.P
open Go.RowKit Go.Proofs.YtgeldmhgbnamcaaW.PrintWords Go.Proofs.YtgeldmhgbnamcaaW.PrintLast Go.Proofs.YtgeldmhgbnamcaaW.PrintMore
attribute [local go_sem] max2_int min2_int max_two min_two max_three min_three max_four min_four   -- for this text's walks alone
set_option linter.unusedVariables false
set_option linter.unusedSimpArgs false

/-! ### marchlandlaw03_BatchPacks: function 3 -/
def marchlandlaw03_BatchPacks.f (k : Nat) (l0 : List (S40)) : Option (Bool) := if 0 ≤ (mn (l0.length : Int) 30) then (if (mn (l0.length : Int) 30) ≤ (l0.length : Int) then ((some (l0.take ((mn (l0.length : Int) 30) : Int).toNat : List (S40))).bind fun y262 => ((marchlandlaw03_To.f k y262).bind fun t266 => ((batch_Pack.f k t266).bind fun bt269 => ((marchlandref03_Pack.f k y262).bind fun bt273 => ((marchlandlaw03_told.f k).bind fun t277 => (if t277 = true then (if bt269.2 = bt273.2 then ((marchlandlaw03_From.f k bt269.1).bind fun t278 => ((marchlandref03_Same.f k t278 bt273.1).bind fun t281 => (if t281 = true then (if bt269.2 = 0 then ((batch_Right.f k bt269.1).bind fun t282 => (if t282 = true then ((batch_Right.f k t266).bind fun t283 => ((marchlandref03_Right.f k y262).bind fun t284 => (if (t283 == t284) = true then ((marchlandlaw03_From.f k t266).bind fun t285 => ((marchlandref03_Same.f k t285 y262).bind fun t288 => (some t288))) else (some false)))) else (some false))) else ((batch_Right.f k t266).bind fun t289 => ((marchlandref03_Right.f k y262).bind fun t290 => (if (t289 == t290) = true then ((marchlandlaw03_From.f k t266).bind fun t291 => ((marchlandref03_Same.f k t291 y262).bind fun t294 => (some t294))) else (some false))))) else (some false)))) else (some false)) else (some false))))))) else (none)) else (none)
theorem marchlandlaw03_BatchPacks.mono : ∀ a0 k, LeO (marchlandlaw03_BatchPacks.f k a0) (marchlandlaw03_BatchPacks.f (k + 1) a0) := by
 intro a0 k
 unfold marchlandlaw03_BatchPacks.f
 repeat' first
   | (with_reducible exact batch_Pack.mono _ _)
   | (with_reducible exact batch_Right.mono _ _)
   | (with_reducible exact marchlandlaw03_From.mono _ _)
   | (with_reducible exact marchlandlaw03_To.mono _ _)
   | (with_reducible exact marchlandlaw03_told.mono _)
   | (with_reducible exact marchlandref03_Pack.mono _ _)
   | (with_reducible exact marchlandref03_Right.mono _ _)
   | (with_reducible exact marchlandref03_Same.mono _ _ _)
   | (with_reducible exact LeO.refl _)
   | (with_reducible exact LeO.none _)
   | (with_reducible refine LeO.ite ?_ ?_)
   | (with_reducible refine LeO.bind ?_ (fun _ => ?_))
   | exact batch_Pack.mono _ _
   | exact batch_Right.mono _ _
   | exact marchlandlaw03_From.mono _ _
   | exact marchlandlaw03_To.mono _ _
   | exact marchlandlaw03_told.mono _
   | exact marchlandref03_Pack.mono _ _
   | exact marchlandref03_Right.mono _ _
   | exact marchlandref03_Same.mono _ _ _
   | exact LeO.none _
   | refine LeO.ite ?_ ?_
   | refine LeO.bind ?_ (fun _ => ?_)
set_option maxHeartbeats 8000000 in
set_option maxRecDepth 100000 in
theorem marchlandlaw03_BatchPacks.calls (k : Nat) (A0 : Option Addr) (c0 : Nat) (l0 : List (S40)) (r : Bool) (w : World) (hr0 : Kd.C k40 w A0 l0.length l0) (hc0 : l0.length ≤ c0) (h : marchlandlaw03_BatchPacks.f k l0 = some r) :
  Calls Try.prog 3 #[.slice A0 l0.length c0] w fun e w' => e = .returned (.bool r) ∧ Below w.heap.size w w' := by
 have HR0 := Aside0.mk hr0
 have HC0 := Aside0.mk hc0
 clear hr0 hc0
 have HB := Aside0.mk (Below.refl w.heap.size w)
 have H : (if 0 ≤ (mn (l0.length : Int) 30) then (if (mn (l0.length : Int) 30) ≤ (l0.length : Int) then ((some (l0.take ((mn (l0.length : Int) 30) : Int).toNat : List (S40))).bind fun y262 => ((marchlandlaw03_To.f k y262).bind fun t266 => ((batch_Pack.f k t266).bind fun bt269 => ((marchlandref03_Pack.f k y262).bind fun bt273 => ((marchlandlaw03_told.f k).bind fun t277 => (if t277 = true then (if bt269.2 = bt273.2 then ((marchlandlaw03_From.f k bt269.1).bind fun t278 => ((marchlandref03_Same.f k t278 bt273.1).bind fun t281 => (if t281 = true then (if bt269.2 = 0 then ((batch_Right.f k bt269.1).bind fun t282 => (if t282 = true then ((batch_Right.f k t266).bind fun t283 => ((marchlandref03_Right.f k y262).bind fun t284 => (if (t283 == t284) = true then ((marchlandlaw03_From.f k t266).bind fun t285 => ((marchlandref03_Same.f k t285 y262).bind fun t288 => (some t288))) else (some false)))) else (some false))) else ((batch_Right.f k t266).bind fun t289 => ((marchlandref03_Right.f k y262).bind fun t290 => (if (t289 == t290) = true then ((marchlandlaw03_From.f k t266).bind fun t291 => ((marchlandref03_Same.f k t291 y262).bind fun t294 => (some t294))) else (some false))))) else (some false)))) else (some false)) else (some false))))))) else (none)) else (none)) = some r := h
 clear h
 obtain ⟨ji2, hji2⟩ : ∃ j_ : Int, (mn (l0.length : Int) 30) = j_ := ⟨_, rfl⟩
 replace H : (if 0 ≤ (ji2) then (if (ji2) ≤ (l0.length : Int) then ((some (l0.take ((ji2) : Int).toNat : List (S40))).bind fun y262 => ((marchlandlaw03_To.f k y262).bind fun t266 => ((batch_Pack.f k t266).bind fun bt269 => ((marchlandref03_Pack.f k y262).bind fun bt273 => ((marchlandlaw03_told.f k).bind fun t277 => (if t277 = true then (if bt269.2 = bt273.2 then ((marchlandlaw03_From.f k bt269.1).bind fun t278 => ((marchlandref03_Same.f k t278 bt273.1).bind fun t281 => (if t281 = true then (if bt269.2 = 0 then ((batch_Right.f k bt269.1).bind fun t282 => (if t282 = true then ((batch_Right.f k t266).bind fun t283 => ((marchlandref03_Right.f k y262).bind fun t284 => (if (t283 == t284) = true then ((marchlandlaw03_From.f k t266).bind fun t285 => ((marchlandref03_Same.f k t285 y262).bind fun t288 => (some t288))) else (some false)))) else (some false))) else ((batch_Right.f k t266).bind fun t289 => ((marchlandref03_Right.f k y262).bind fun t290 => (if (t289 == t290) = true then ((marchlandlaw03_From.f k t266).bind fun t291 => ((marchlandref03_Same.f k t291 y262).bind fun t294 => (some t294))) else (some false))))) else (some false)))) else (some false)) else (some false))))))) else (none)) else (none)) = some r := by first | (rw [hji2] at H; exact H) | (simp only [hji2] at H ⊢; exact H)
 (try (have hji2h : ji2 ≤ 30 := by (rw [← hji2]; unfold mn; (repeat' split) <;> omega)))
 (try (have hji2g : ji2 ≤ 64 := by omega))
 (try (have hji2l : 0 ≤ ji2 := by (rw [← hji2]; unfold mn; (repeat' split) <;> omega)))
 (try (have hji2m : 0 ≤ ji2 := by omega))
 have hji2_ : (if 30 < (l0.length : Int) then 30 else (l0.length : Int)) = ji2 := hji2
 by_cases c3 : 0 ≤ (ji2)
 ·rw [if_pos c3] at H
  have c3b0 := eq_true c3
  have c3b1 : decide (0 ≤ (ji2)) = true := decide_eq_true c3
  clear c3
  by_cases c4 : (ji2) ≤ (l0.length : Int)
  ·rw [if_pos c4] at H
   have c4b0 := eq_true c4
   have c4b1 : decide ((ji2) ≤ (l0.length : Int)) = true := decide_eq_true c4
   clear c4
   obtain ⟨y262, hy262⟩ : ∃ y_ : List (S40), y_ = (l0.take ((ji2) : Int).toNat) := ⟨_, rfl⟩
   replace H : ((marchlandlaw03_To.f k y262).bind fun t266 => ((batch_Pack.f k t266).bind fun bt269 => ((marchlandref03_Pack.f k y262).bind fun bt273 => ((marchlandlaw03_told.f k).bind fun t277 => (if t277 = true then (if bt269.2 = bt273.2 then ((marchlandlaw03_From.f k bt269.1).bind fun t278 => ((marchlandref03_Same.f k t278 bt273.1).bind fun t281 => (if t281 = true then (if bt269.2 = 0 then ((batch_Right.f k bt269.1).bind fun t282 => (if t282 = true then ((batch_Right.f k t266).bind fun t283 => ((marchlandref03_Right.f k y262).bind fun t284 => (if (t283 == t284) = true then ((marchlandlaw03_From.f k t266).bind fun t285 => ((marchlandref03_Same.f k t285 y262).bind fun t288 => (some t288))) else (some false)))) else (some false))) else ((batch_Right.f k t266).bind fun t289 => ((marchlandref03_Right.f k y262).bind fun t290 => (if (t289 == t290) = true then ((marchlandlaw03_From.f k t266).bind fun t291 => ((marchlandref03_Same.f k t291 y262).bind fun t294 => (some t294))) else (some false))))) else (some false)))) else (some false)) else (some false)))))) = some r := by first | (rw [hy262]; with_reducible exact H) | (have H2_ := (Option.bind_some _ _).symm.trans H; rw [hy262]; with_reducible exact H2_) | (have H2_ := (Option.bind_some _ _).symm.trans H; with_reducible exact H2_) | with_reducible exact H | (rw [hy262]; exact H) | exact H
   have Ny262 := Aside0.mk hy262
   clear hy262
   replace H := Option.bind_eq_some_iff.mp H
   obtain ⟨t266, A50, H⟩ := H
   replace H : ((batch_Pack.f k t266).bind fun bt269 => ((marchlandref03_Pack.f k y262).bind fun bt273 => ((marchlandlaw03_told.f k).bind fun t277 => (if t277 = true then (if bt269.2 = bt273.2 then ((marchlandlaw03_From.f k bt269.1).bind fun t278 => ((marchlandref03_Same.f k t278 bt273.1).bind fun t281 => (if t281 = true then (if bt269.2 = 0 then ((batch_Right.f k bt269.1).bind fun t282 => (if t282 = true then ((batch_Right.f k t266).bind fun t283 => ((marchlandref03_Right.f k y262).bind fun t284 => (if (t283 == t284) = true then ((marchlandlaw03_From.f k t266).bind fun t285 => ((marchlandref03_Same.f k t285 y262).bind fun t288 => (some t288))) else (some false)))) else (some false))) else ((batch_Right.f k t266).bind fun t289 => ((marchlandref03_Right.f k y262).bind fun t290 => (if (t289 == t290) = true then ((marchlandlaw03_From.f k t266).bind fun t291 => ((marchlandref03_Same.f k t291 y262).bind fun t294 => (some t294))) else (some false))))) else (some false)))) else (some false)) else (some false))))) = some r := H
   have A5 := Aside0.mk A50
   clear A50
   replace H := Option.bind_eq_some_iff.mp H
   obtain ⟨⟨t269, t270⟩, A60, H⟩ := H
   replace H : ((marchlandref03_Pack.f k y262).bind fun bt273 => ((marchlandlaw03_told.f k).bind fun t277 => (if t277 = true then (if t270 = bt273.2 then ((marchlandlaw03_From.f k t269).bind fun t278 => ((marchlandref03_Same.f k t278 bt273.1).bind fun t281 => (if t281 = true then (if t270 = 0 then ((batch_Right.f k t269).bind fun t282 => (if t282 = true then ((batch_Right.f k t266).bind fun t283 => ((marchlandref03_Right.f k y262).bind fun t284 => (if (t283 == t284) = true then ((marchlandlaw03_From.f k t266).bind fun t285 => ((marchlandref03_Same.f k t285 y262).bind fun t288 => (some t288))) else (some false)))) else (some false))) else ((batch_Right.f k t266).bind fun t289 => ((marchlandref03_Right.f k y262).bind fun t290 => (if (t289 == t290) = true then ((marchlandlaw03_From.f k t266).bind fun t291 => ((marchlandref03_Same.f k t291 y262).bind fun t294 => (some t294))) else (some false))))) else (some false)))) else (some false)) else (some false)))) = some r := H
   have A6 := Aside0.mk A60
   clear A60
   replace H := Option.bind_eq_some_iff.mp H
   obtain ⟨⟨t273, t274⟩, A70, H⟩ := H
   replace H : ((marchlandlaw03_told.f k).bind fun t277 => (if t277 = true then (if t270 = t274 then ((marchlandlaw03_From.f k t269).bind fun t278 => ((marchlandref03_Same.f k t278 t273).bind fun t281 => (if t281 = true then (if t270 = 0 then ((batch_Right.f k t269).bind fun t282 => (if t282 = true then ((batch_Right.f k t266).bind fun t283 => ((marchlandref03_Right.f k y262).bind fun t284 => (if (t283 == t284) = true then ((marchlandlaw03_From.f k t266).bind fun t285 => ((marchlandref03_Same.f k t285 y262).bind fun t288 => (some t288))) else (some false)))) else (some false))) else ((batch_Right.f k t266).bind fun t289 => ((marchlandref03_Right.f k y262).bind fun t290 => (if (t289 == t290) = true then ((marchlandlaw03_From.f k t266).bind fun t291 => ((marchlandref03_Same.f k t291 y262).bind fun t294 => (some t294))) else (some false))))) else (some false)))) else (some false)) else (some false))) = some r := H
   have A7 := Aside0.mk A70
   clear A70
   replace H := Option.bind_eq_some_iff.mp H
   obtain ⟨t277, A80, H⟩ := H
   replace H : (if t277 = true then (if t270 = t274 then ((marchlandlaw03_From.f k t269).bind fun t278 => ((marchlandref03_Same.f k t278 t273).bind fun t281 => (if t281 = true then (if t270 = 0 then ((batch_Right.f k t269).bind fun t282 => (if t282 = true then ((batch_Right.f k t266).bind fun t283 => ((marchlandref03_Right.f k y262).bind fun t284 => (if (t283 == t284) = true then ((marchlandlaw03_From.f k t266).bind fun t285 => ((marchlandref03_Same.f k t285 y262).bind fun t288 => (some t288))) else (some false)))) else (some false))) else ((batch_Right.f k t266).bind fun t289 => ((marchlandref03_Right.f k y262).bind fun t290 => (if (t289 == t290) = true then ((marchlandlaw03_From.f k t266).bind fun t291 => ((marchlandref03_Same.f k t291 y262).bind fun t294 => (some t294))) else (some false))))) else (some false)))) else (some false)) else (some false)) = some r := H
   have A8 := Aside0.mk A80
   clear A80
   by_cases c9 : t277 = true
   ·subst c9
    have H1 : (if t270 = t274 then ((marchlandlaw03_From.f k t269).bind fun t278 => ((marchlandref03_Same.f k t278 t273).bind fun t281 => (if t281 = true then (if t270 = 0 then ((batch_Right.f k t269).bind fun t282 => (if t282 = true then ((batch_Right.f k t266).bind fun t283 => ((marchlandref03_Right.f k y262).bind fun t284 => (if (t283 == t284) = true then ((marchlandlaw03_From.f k t266).bind fun t285 => ((marchlandref03_Same.f k t285 y262).bind fun t288 => (some t288))) else (some false)))) else (some false))) else ((batch_Right.f k t266).bind fun t289 => ((marchlandref03_Right.f k y262).bind fun t290 => (if (t289 == t290) = true then ((marchlandlaw03_From.f k t266).bind fun t291 => ((marchlandref03_Same.f k t291 y262).bind fun t294 => (some t294))) else (some false))))) else (some false)))) else (some false)) = some r := by rw [if_pos rfl] at H; exact H
    clear H
    have H := H1
    clear H1
    by_cases c10 : t270 = t274
    ·rw [if_pos c10] at H
     have c10b0 : (t270 == t274) = true := beq_iff_eq.mpr c10
     have c10b1 : (t270 != t274) = false := bne_eq_false_iff_eq.mpr c10
     clear c10
     replace H := Option.bind_eq_some_iff.mp H
     obtain ⟨t278, A110, H⟩ := H
     replace H : ((marchlandref03_Same.f k t278 t273).bind fun t281 => (if t281 = true then (if t270 = 0 then ((batch_Right.f k t269).bind fun t282 => (if t282 = true then ((batch_Right.f k t266).bind fun t283 => ((marchlandref03_Right.f k y262).bind fun t284 => (if (t283 == t284) = true then ((marchlandlaw03_From.f k t266).bind fun t285 => ((marchlandref03_Same.f k t285 y262).bind fun t288 => (some t288))) else (some false)))) else (some false))) else ((batch_Right.f k t266).bind fun t289 => ((marchlandref03_Right.f k y262).bind fun t290 => (if (t289 == t290) = true then ((marchlandlaw03_From.f k t266).bind fun t291 => ((marchlandref03_Same.f k t291 y262).bind fun t294 => (some t294))) else (some false))))) else (some false))) = some r := H
     have A11 := Aside0.mk A110
     clear A110
     replace H := Option.bind_eq_some_iff.mp H
     obtain ⟨t281, A120, H⟩ := H
     replace H : (if t281 = true then (if t270 = 0 then ((batch_Right.f k t269).bind fun t282 => (if t282 = true then ((batch_Right.f k t266).bind fun t283 => ((marchlandref03_Right.f k y262).bind fun t284 => (if (t283 == t284) = true then ((marchlandlaw03_From.f k t266).bind fun t285 => ((marchlandref03_Same.f k t285 y262).bind fun t288 => (some t288))) else (some false)))) else (some false))) else ((batch_Right.f k t266).bind fun t289 => ((marchlandref03_Right.f k y262).bind fun t290 => (if (t289 == t290) = true then ((marchlandlaw03_From.f k t266).bind fun t291 => ((marchlandref03_Same.f k t291 y262).bind fun t294 => (some t294))) else (some false))))) else (some false)) = some r := H
     have A12 := Aside0.mk A120
     clear A120
     by_cases c13 : t281 = true
     ·subst c13
      have H1 : (if t270 = 0 then ((batch_Right.f k t269).bind fun t282 => (if t282 = true then ((batch_Right.f k t266).bind fun t283 => ((marchlandref03_Right.f k y262).bind fun t284 => (if (t283 == t284) = true then ((marchlandlaw03_From.f k t266).bind fun t285 => ((marchlandref03_Same.f k t285 y262).bind fun t288 => (some t288))) else (some false)))) else (some false))) else ((batch_Right.f k t266).bind fun t289 => ((marchlandref03_Right.f k y262).bind fun t290 => (if (t289 == t290) = true then ((marchlandlaw03_From.f k t266).bind fun t291 => ((marchlandref03_Same.f k t291 y262).bind fun t294 => (some t294))) else (some false))))) = some r := by rw [if_pos rfl] at H; exact H
      clear H
      have H := H1
      clear H1
      by_cases c14 : t270 = 0
      ·rw [if_pos c14] at H
       have c14b0 : (t270 == 0) = true := beq_iff_eq.mpr c14
       have c14b1 : (t270 != 0) = false := bne_eq_false_iff_eq.mpr c14
       clear c14
       replace H := Option.bind_eq_some_iff.mp H
       obtain ⟨t282, A150, H⟩ := H
       replace H : (if t282 = true then ((batch_Right.f k t266).bind fun t283 => ((marchlandref03_Right.f k y262).bind fun t284 => (if (t283 == t284) = true then ((marchlandlaw03_From.f k t266).bind fun t285 => ((marchlandref03_Same.f k t285 y262).bind fun t288 => (some t288))) else (some false)))) else (some false)) = some r := H
       have A15 := Aside0.mk A150
       clear A150
       by_cases c16 : t282 = true
       ·subst c16
        have H1 : ((batch_Right.f k t266).bind fun t283 => ((marchlandref03_Right.f k y262).bind fun t284 => (if (t283 == t284) = true then ((marchlandlaw03_From.f k t266).bind fun t285 => ((marchlandref03_Same.f k t285 y262).bind fun t288 => (some t288))) else (some false)))) = some r := by rw [if_pos rfl] at H; exact H
        clear H
        have H := H1
        clear H1
        replace H := Option.bind_eq_some_iff.mp H
        obtain ⟨t283, A170, H⟩ := H
        replace H : ((marchlandref03_Right.f k y262).bind fun t284 => (if (t283 == t284) = true then ((marchlandlaw03_From.f k t266).bind fun t285 => ((marchlandref03_Same.f k t285 y262).bind fun t288 => (some t288))) else (some false))) = some r := H
        have A17 := Aside0.mk A170
        clear A170
        replace H := Option.bind_eq_some_iff.mp H
        obtain ⟨t284, A180, H⟩ := H
        replace H : (if (t283 == t284) = true then ((marchlandlaw03_From.f k t266).bind fun t285 => ((marchlandref03_Same.f k t285 y262).bind fun t288 => (some t288))) else (some false)) = some r := H
        have A18 := Aside0.mk A180
        clear A180
        by_cases c19 : (t283 == t284) = true
        ·rw [if_pos c19] at H
         have c19b0 : (t283 == t284) = true := c19
         (try (have c19b1 : decide (t283 = t284) = true := by simpa using c19))
         (try (have c19b2 : (t283 == t284) = true := by simpa using c19))
         clear c19
         replace H := Option.bind_eq_some_iff.mp H
         obtain ⟨t285, A200, H⟩ := H
         replace H : ((marchlandref03_Same.f k t285 y262).bind fun t288 => (some t288)) = some r := H
         have A20 := Aside0.mk A200
         clear A200
         replace H := Option.bind_eq_some_iff.mp H
         obtain ⟨t288, A210, H⟩ := H
         replace H : (some t288) = some r := H
         have A21 := Aside0.mk A210
         clear A210
         obtain rfl := Option.some.inj H
         have q22 : ((ji2) : Int) ≤ ((l0.length : Int) : Int) := of_decide_eq_true (by first | (with_reducible assumption) | assumption)
         obtain ⟨i022, hi022, _, hsz22, _⟩ := info_parts info40
         have hroom22 : l0.length ≤ c0 := HC0.out
         have hC22 : Kd.C k40 _ A0 l0.length l0 := HR0.out
         have hcut22 := cut_to (P := Try.prog) 22 40 .i64 Try.underlying22 hi022 A0 l0.length c0 (ji2) (of_decide_eq_true (by first | (with_reducible assumption) | assumption)) q22 hroom22
         have hr22 := Kd.C_take (m := ((ji2) : Int).toNat) hC22 (by omega)
         have hy22 : y262.length = ((ji2) : Int).toNat := (by rw [Ny262.out, List.length_take]; omega)
         rw [← Ny262.out] at hr22
         rw [← hy22] at hcut22
         have HR265 := Aside0.mk hr22
         have HC265 := Aside0.mk (show y262.length ≤ c0 from by omega)
         clear hr22 hC22 hroom22 hi022 hsz22
         have KY22 := Aside0.mk hy22
         clear hy22
         replace q22 := eq_true q22
         go_enter Try.func3, Try.ntmps3
         go_wp2_with (first | ((with_reducible refine gate_callee (f := 14) rfl ?_); refine goesL_ (some 14) rfl rfl Try.func14 (by kernel_rfl) rfl #[.slice A0 y262.length c0] rfl (by (try simp only [List.map_toArray, List.map_cons, List.map_nil]); first | done | rfl | (simp only [List.length_drop, List.length_take]; rfl)) ?_; (with_reducible refine (marchlandlaw03_To.calls k _ _ y262 t266 _ ?side1 ?side2 A5.out).mono ?_); (case side1 => repeat (first | exact HR265.out | (with_reducible refine Kd.C_alloc ?_ _) | (with_reducible refine Kd.C_drewN ?_ _) | (with_reducible refine Kd.C_drew ?_))); (case side2 => exact HC265.out); rintro e w23 ⟨v267, rfl, ho0, hb⟩; refine ⟨_, rfl, ?_⟩; have n0_ := Aside0.mk (Kd.R_lower ho0 (below_size (by repeat (first | (with_reducible first | exact HB.out | apply below_alloc | apply pw_below_drewN | apply below_drew1) | exact HB.out)))); have n1_ := Aside0.mk (below_step (by repeat (first | (with_reducible first | exact HB.out | apply below_alloc | apply pw_below_drewN | apply below_drew1) | exact HB.out)) hb); clear HB; have HO268 := n0_; have HB := n1_; clear n0_ n1_; (try clear hb); (try clear hb2); (try clear hk); (try clear hi); (try clear ho0); obtain ⟨Ao24, co24, eo24⟩ := Kd.R_slice HO268.out; subst eo24) | ((with_reducible refine gate_callee (f := 15) rfl ?_); refine goesL_ (some 17) rfl rfl Try.func15 (by kernel_rfl) rfl #[.slice Ao24 t266.length co24] rfl (by (try simp only [List.map_toArray, List.map_cons, List.map_nil]); first | done | rfl | (simp only [List.length_drop, List.length_take]; rfl)) ?_; (with_reducible refine (batch_Pack.calls k _ _ t266 t269 t270 _ ?side1 ?side2 A6.out).mono ?_); (case side1 => repeat (first | exact (Kd.R_reads' HO268.out).2.2 | (with_reducible refine Kd.C_alloc ?_ _) | (with_reducible refine Kd.C_drewN ?_ _) | (with_reducible refine Kd.C_drew ?_))); (case side2 => exact (Kd.R_reads' HO268.out).2.1); rintro e w25 ⟨v271, rfl, ho0, hb⟩; refine ⟨_, rfl, ?_⟩; have n0_ := Aside0.mk (Kd.R_elder' (by (with_reducible repeat (first | apply Kd.R_alloc | apply Kd.R_drewN | apply Kd.R_drew)); exact HO268.out) (Kd.R_base ho0) hb); have n1_ := Aside0.mk (Kd.R_lower (Kd.R_new' ho0 (Kd.R_lt (by (with_reducible repeat (first | apply Kd.R_alloc | apply Kd.R_drewN | apply Kd.R_drew)); exact HO268.out))) (below_size (by repeat (first | (with_reducible first | exact HB.out | apply below_alloc | apply pw_below_drewN | apply below_drew1) | exact HB.out)))); have n2_ := Aside0.mk (below_step (by repeat (first | (with_reducible first | exact HB.out | apply below_alloc | apply pw_below_drewN | apply below_drew1) | exact HB.out)) hb); clear HO268; clear HB; have HO268 := n0_; have HO272 := n1_; have HB := n2_; clear n0_ n1_ n2_; (try clear hb); (try clear hb2); (try clear hk); (try clear hi); (try clear ho0)) | ((with_reducible refine gate_callee (f := 16) rfl ?_); refine goesL_ (some 22) rfl rfl Try.func16 (by kernel_rfl) rfl #[.slice A0 y262.length c0] rfl (by (try simp only [List.map_toArray, List.map_cons, List.map_nil]); first | done | rfl | (simp only [List.length_drop, List.length_take]; rfl)) ?_; (with_reducible refine (marchlandref03_Pack.calls k _ _ y262 t273 t274 _ ?side1 ?side2 A7.out).mono ?_); (case side1 => repeat (first | exact (Kd.C_below HR265.out HB.out) | (with_reducible refine Kd.C_alloc ?_ _) | (with_reducible refine Kd.C_drewN ?_ _) | (with_reducible refine Kd.C_drew ?_))); (case side2 => exact HC265.out); rintro e w26 ⟨v275, rfl, ho0, hb⟩; refine ⟨_, rfl, ?_⟩; have n0_ := Aside0.mk (Kd.R_below (by (with_reducible repeat (first | apply Kd.R_alloc | apply Kd.R_drewN | apply Kd.R_drew)); exact HO268.out) hb); have n1_ := Aside0.mk (Kd.R_below (by (with_reducible repeat (first | apply Kd.R_alloc | apply Kd.R_drewN | apply Kd.R_drew)); exact HO272.out) hb); have n2_ := Aside0.mk (Kd.R_lower ho0 (below_size (by repeat (first | (with_reducible first | exact HB.out | apply below_alloc | apply pw_below_drewN | apply below_drew1) | exact HB.out)))); have n3_ := Aside0.mk (below_step (by repeat (first | (with_reducible first | exact HB.out | apply below_alloc | apply pw_below_drewN | apply below_drew1) | exact HB.out)) hb); clear HO268; clear HO272; clear HB; have HO268 := n0_; have HO272 := n1_; have HO276 := n2_; have HB := n3_; clear n0_ n1_ n2_ n3_; (try clear hb); (try clear hb2); (try clear hk); (try clear hi); (try clear ho0)) | ((with_reducible refine gate_callee (f := 17) rfl ?_); refine goesL_ (some 25) rfl rfl Try.func17 (by kernel_rfl) rfl #[] rfl (by (try simp only [List.map_toArray, List.map_cons, List.map_nil]); first | done | rfl | (simp only [List.length_drop, List.length_take]; rfl)) ?_; (with_reducible refine (marchlandlaw03_told.calls k  true _ A8.out).mono ?_); rintro e w27 ⟨rfl, hb⟩; refine ⟨_, rfl, ?_⟩; have n0_ := Aside0.mk (Kd.R_below (by (with_reducible repeat (first | apply Kd.R_alloc | apply Kd.R_drewN | apply Kd.R_drew)); exact HO268.out) hb); have n1_ := Aside0.mk (Kd.R_below (by (with_reducible repeat (first | apply Kd.R_alloc | apply Kd.R_drewN | apply Kd.R_drew)); exact HO272.out) hb); have n2_ := Aside0.mk (Kd.R_below (by (with_reducible repeat (first | apply Kd.R_alloc | apply Kd.R_drewN | apply Kd.R_drew)); exact HO276.out) hb); have n3_ := Aside0.mk (below_step (by repeat (first | (with_reducible first | exact HB.out | apply below_alloc | apply pw_below_drewN | apply below_drew1) | exact HB.out)) hb); clear HO268; clear HO272; clear HO276; clear HB; have HO268 := n0_; have HO272 := n1_; have HO276 := n2_; have HB := n3_; clear n0_ n1_ n2_ n3_; (try clear hb); (try clear hb2); (try clear hk); (try clear hi); obtain ⟨Ao28, co28, eo28⟩ := Kd.R_slice HO272.out; subst eo28) | (go_at_call 19; (with_reducible refine (marchlandlaw03_From.calls k _ _ t269 t278 _ ?side1 ?side2 A11.out).mono ?_); (case side1 => repeat (first | exact (Kd.R_reads' HO272.out).2.2 | (with_reducible refine Kd.C_alloc ?_ _) | (with_reducible refine Kd.C_drewN ?_ _) | (with_reducible refine Kd.C_drew ?_))); (case side2 => exact (Kd.R_reads' HO272.out).2.1); rintro e w29 ⟨v279, rfl, ho0, hb⟩; have n0_ := Aside0.mk (Kd.R_below (by (with_reducible repeat (first | apply Kd.R_alloc | apply Kd.R_drewN | apply Kd.R_drew)); exact HO268.out) hb); have n1_ := Aside0.mk (Kd.R_below (by (with_reducible repeat (first | apply Kd.R_alloc | apply Kd.R_drewN | apply Kd.R_drew)); exact HO272.out) hb); have n2_ := Aside0.mk (Kd.R_elder' (by (with_reducible repeat (first | apply Kd.R_alloc | apply Kd.R_drewN | apply Kd.R_drew)); exact HO276.out) (Kd.R_base ho0) hb); have n3_ := Aside0.mk (Kd.R_lower (Kd.R_new' ho0 (Kd.R_lt (by (with_reducible repeat (first | apply Kd.R_alloc | apply Kd.R_drewN | apply Kd.R_drew)); exact HO276.out))) (below_size (by repeat (first | (with_reducible first | exact HB.out | apply below_alloc | apply pw_below_drewN | apply below_drew1) | exact HB.out)))); have n4_ := Aside0.mk (below_step (by repeat (first | (with_reducible first | exact HB.out | apply below_alloc | apply pw_below_drewN | apply below_drew1) | exact HB.out)) hb); clear HO268; clear HO272; clear HO276; clear HB; have HO268 := n0_; have HO272 := n1_; have HO276 := n2_; have HO280 := n3_; have HB := n4_; clear n0_ n1_ n2_ n3_ n4_; (try clear hb); (try clear hb2); (try clear hk); (try clear hi); (try clear ho0); obtain ⟨Ao30, co30, eo30⟩ := Kd.R_slice HO280.out; subst eo30; obtain ⟨Ao31, co31, eo31⟩ := Kd.R_slice HO276.out; subst eo31) | (go_at_call 18; (with_reducible refine (marchlandref03_Same.calls k _ _ t278 _ _ t273 true _ ?side1 ?side2 ?side3 ?side4 A12.out).mono ?_); (case side1 => repeat (first | exact (Kd.R_reads' HO280.out).2.2 | (with_reducible refine Kd.C_alloc ?_ _) | (with_reducible refine Kd.C_drewN ?_ _) | (with_reducible refine Kd.C_drew ?_))); (case side2 => exact (Kd.R_reads' HO280.out).2.1); (case side3 => repeat (first | exact (Kd.R_reads' HO276.out).2.2 | (with_reducible refine Kd.C_alloc ?_ _) | (with_reducible refine Kd.C_drewN ?_ _) | (with_reducible refine Kd.C_drew ?_))); (case side4 => exact (Kd.R_reads' HO276.out).2.1); rintro e w' ⟨rfl, ⟨nd, rfl⟩⟩) | (go_at_call 20; (with_reducible refine (batch_Right.calls k _ _ t269 true _ ?side1 ?side2 A15.out).mono ?_); (case side1 => repeat (first | exact (Kd.R_reads' HO272.out).2.2 | (with_reducible refine Kd.C_alloc ?_ _) | (with_reducible refine Kd.C_drewN ?_ _) | (with_reducible refine Kd.C_drew ?_))); (case side2 => exact (Kd.R_reads' HO272.out).2.1); rintro e w32 ⟨rfl, hb⟩; have n0_ := Aside0.mk (Kd.R_below (by (with_reducible repeat (first | apply Kd.R_alloc | apply Kd.R_drewN | apply Kd.R_drew)); exact HO268.out) hb); have n1_ := Aside0.mk (Kd.R_below (by (with_reducible repeat (first | apply Kd.R_alloc | apply Kd.R_drewN | apply Kd.R_drew)); exact HO272.out) hb); have n2_ := Aside0.mk (Kd.R_below (by (with_reducible repeat (first | apply Kd.R_alloc | apply Kd.R_drewN | apply Kd.R_drew)); exact HO276.out) hb); have n3_ := Aside0.mk (Kd.R_below (by (with_reducible repeat (first | apply Kd.R_alloc | apply Kd.R_drewN | apply Kd.R_drew)); exact HO280.out) hb); have n4_ := Aside0.mk (below_step (by repeat (first | (with_reducible first | exact HB.out | apply below_alloc | apply pw_below_drewN | apply below_drew1) | exact HB.out)) hb); clear HO268; clear HO272; clear HO276; clear HO280; clear HB; have HO268 := n0_; have HO272 := n1_; have HO276 := n2_; have HO280 := n3_; have HB := n4_; clear n0_ n1_ n2_ n3_ n4_; (try clear hb); (try clear hb2); (try clear hk); (try clear hi)) | (go_at_call 20; (with_reducible refine (batch_Right.calls k _ _ t266 t283 _ ?side1 ?side2 A17.out).mono ?_); (case side1 => repeat (first | exact (Kd.R_reads' HO268.out).2.2 | (with_reducible refine Kd.C_alloc ?_ _) | (with_reducible refine Kd.C_drewN ?_ _) | (with_reducible refine Kd.C_drew ?_))); (case side2 => exact (Kd.R_reads' HO268.out).2.1); rintro e w33 ⟨rfl, hb⟩; have n0_ := Aside0.mk (Kd.R_below (by (with_reducible repeat (first | apply Kd.R_alloc | apply Kd.R_drewN | apply Kd.R_drew)); exact HO268.out) hb); have n1_ := Aside0.mk (Kd.R_below (by (with_reducible repeat (first | apply Kd.R_alloc | apply Kd.R_drewN | apply Kd.R_drew)); exact HO272.out) hb); have n2_ := Aside0.mk (Kd.R_below (by (with_reducible repeat (first | apply Kd.R_alloc | apply Kd.R_drewN | apply Kd.R_drew)); exact HO276.out) hb); have n3_ := Aside0.mk (Kd.R_below (by (with_reducible repeat (first | apply Kd.R_alloc | apply Kd.R_drewN | apply Kd.R_drew)); exact HO280.out) hb); have n4_ := Aside0.mk (below_step (by repeat (first | (with_reducible first | exact HB.out | apply below_alloc | apply pw_below_drewN | apply below_drew1) | exact HB.out)) hb); clear HO268; clear HO272; clear HO276; clear HO280; clear HB; have HO268 := n0_; have HO272 := n1_; have HO276 := n2_; have HO280 := n3_; have HB := n4_; clear n0_ n1_ n2_ n3_ n4_; (try clear hb); (try clear hb2); (try clear hk); (try clear hi)) | (go_at_call 21; (with_reducible refine (marchlandref03_Right.calls k _ _ y262 t284 _ ?side1 ?side2 A18.out).mono ?_); (case side1 => repeat (first | exact (Kd.C_below HR265.out HB.out) | (with_reducible refine Kd.C_alloc ?_ _) | (with_reducible refine Kd.C_drewN ?_ _) | (with_reducible refine Kd.C_drew ?_))); (case side2 => exact HC265.out); rintro e w34 ⟨rfl, hb⟩; have n0_ := Aside0.mk (Kd.R_below (by (with_reducible repeat (first | apply Kd.R_alloc | apply Kd.R_drewN | apply Kd.R_drew)); exact HO268.out) hb); have n1_ := Aside0.mk (Kd.R_below (by (with_reducible repeat (first | apply Kd.R_alloc | apply Kd.R_drewN | apply Kd.R_drew)); exact HO272.out) hb); have n2_ := Aside0.mk (Kd.R_below (by (with_reducible repeat (first | apply Kd.R_alloc | apply Kd.R_drewN | apply Kd.R_drew)); exact HO276.out) hb); have n3_ := Aside0.mk (Kd.R_below (by (with_reducible repeat (first | apply Kd.R_alloc | apply Kd.R_drewN | apply Kd.R_drew)); exact HO280.out) hb); have n4_ := Aside0.mk (below_step (by repeat (first | (with_reducible first | exact HB.out | apply below_alloc | apply pw_below_drewN | apply below_drew1) | exact HB.out)) hb); clear HO268; clear HO272; clear HO276; clear HO280; clear HB; have HO268 := n0_; have HO272 := n1_; have HO276 := n2_; have HO280 := n3_; have HB := n4_; clear n0_ n1_ n2_ n3_ n4_; (try clear hb); (try clear hb2); (try clear hk); (try clear hi)) | (go_at_call 19; (with_reducible refine (marchlandlaw03_From.calls k _ _ t266 t285 _ ?side1 ?side2 A20.out).mono ?_); (case side1 => repeat (first | exact (Kd.R_reads' HO268.out).2.2 | (with_reducible refine Kd.C_alloc ?_ _) | (with_reducible refine Kd.C_drewN ?_ _) | (with_reducible refine Kd.C_drew ?_))); (case side2 => exact (Kd.R_reads' HO268.out).2.1); rintro e w35 ⟨v286, rfl, ho0, hb⟩; have n0_ := Aside0.mk (Kd.R_below (by (with_reducible repeat (first | apply Kd.R_alloc | apply Kd.R_drewN | apply Kd.R_drew)); exact HO268.out) hb); have n1_ := Aside0.mk (Kd.R_below (by (with_reducible repeat (first | apply Kd.R_alloc | apply Kd.R_drewN | apply Kd.R_drew)); exact HO272.out) hb); have n2_ := Aside0.mk (Kd.R_elder' (by (with_reducible repeat (first | apply Kd.R_alloc | apply Kd.R_drewN | apply Kd.R_drew)); exact HO276.out) (Kd.R_base ho0) hb); have n3_ := Aside0.mk (Kd.R_elder' (by (with_reducible repeat (first | apply Kd.R_alloc | apply Kd.R_drewN | apply Kd.R_drew)); exact HO280.out) (Kd.R_base ho0) hb); have n4_ := Aside0.mk (Kd.R_lower (Kd.R_new' (Kd.R_new' ho0 (Kd.R_lt (by (with_reducible repeat (first | apply Kd.R_alloc | apply Kd.R_drewN | apply Kd.R_drew)); exact HO276.out))) (Kd.R_lt (by (with_reducible repeat (first | apply Kd.R_alloc | apply Kd.R_drewN | apply Kd.R_drew)); exact HO280.out))) (below_size (by repeat (first | (with_reducible first | exact HB.out | apply below_alloc | apply pw_below_drewN | apply below_drew1) | exact HB.out)))); have n5_ := Aside0.mk (below_step (by repeat (first | (with_reducible first | exact HB.out | apply below_alloc | apply pw_below_drewN | apply below_drew1) | exact HB.out)) hb); clear HO268; clear HO272; clear HO276; clear HO280; clear HB; have HO268 := n0_; have HO272 := n1_; have HO276 := n2_; have HO280 := n3_; have HO287 := n4_; have HB := n5_; clear n0_ n1_ n2_ n3_ n4_ n5_; (try clear hb); (try clear hb2); (try clear hk); (try clear hi); (try clear ho0); obtain ⟨Ao36, co36, eo36⟩ := Kd.R_slice HO287.out; subst eo36) | (go_at_call 18; (with_reducible refine (marchlandref03_Same.calls k _ _ t285 _ _ y262 t288 _ ?side1 ?side2 ?side3 ?side4 A21.out).mono ?_); (case side1 => repeat (first | exact (Kd.R_reads' HO287.out).2.2 | (with_reducible refine Kd.C_alloc ?_ _) | (with_reducible refine Kd.C_drewN ?_ _) | (with_reducible refine Kd.C_drew ?_))); (case side2 => exact (Kd.R_reads' HO287.out).2.1); (case side3 => repeat (first | exact (Kd.C_below HR265.out HB.out) | (with_reducible refine Kd.C_alloc ?_ _) | (with_reducible refine Kd.C_drewN ?_ _) | (with_reducible refine Kd.C_drew ?_))); (case side4 => exact HC265.out); rintro e w' ⟨rfl, ⟨nd, rfl⟩⟩))
         go_ret
         exact ⟨by first | rfl | (simp [errW_none, errW_some] <;> rfl) | (simp only [← hji2]; first | rfl | (simp [errW_none, errW_some] <;> rfl)) | (simp [*, errW_none, errW_some] <;> rfl), by repeat (first | (with_reducible first | exact HB.out | apply below_alloc | apply pw_below_drewN | apply below_drew1) | exact HB.out)⟩
        ·rw [if_neg c19] at H
         have c19b0 : (t283 == t284) = false := by simpa using c19
         (try (have c19b1 : decide (t283 = t284) = false := by simpa using c19))
         (try (have c19b2 : (t283 == t284) = false := by simpa using c19))
         (try (have c19b3 : ¬ (t283 = t284) := by simpa using c19))
         clear c19
         obtain rfl := Option.some.inj H
         have q37 : ((ji2) : Int) ≤ ((l0.length : Int) : Int) := of_decide_eq_true (by first | (with_reducible assumption) | assumption)
         obtain ⟨i037, hi037, _, hsz37, _⟩ := info_parts info40
         have hroom37 : l0.length ≤ c0 := HC0.out
         have hC37 : Kd.C k40 _ A0 l0.length l0 := HR0.out
         have hcut37 := cut_to (P := Try.prog) 22 40 .i64 Try.underlying22 hi037 A0 l0.length c0 (ji2) (of_decide_eq_true (by first | (with_reducible assumption) | assumption)) q37 hroom37
         have hr37 := Kd.C_take (m := ((ji2) : Int).toNat) hC37 (by omega)
         have hy37 : y262.length = ((ji2) : Int).toNat := (by rw [Ny262.out, List.length_take]; omega)
         rw [← Ny262.out] at hr37
         rw [← hy37] at hcut37
         have HR265 := Aside0.mk hr37
         have HC265 := Aside0.mk (show y262.length ≤ c0 from by omega)
         clear hr37 hC37 hroom37 hi037 hsz37
         have KY37 := Aside0.mk hy37
         clear hy37
         replace q37 := eq_true q37
         go_enter Try.func3, Try.ntmps3
         go_wp2_with (first | ((with_reducible refine gate_callee (f := 14) rfl ?_); refine goesL_ (some 14) rfl rfl Try.func14 (by kernel_rfl) rfl #[.slice A0 y262.length c0] rfl (by (try simp only [List.map_toArray, List.map_cons, List.map_nil]); first | done | rfl | (simp only [List.length_drop, List.length_take]; rfl)) ?_; (with_reducible refine (marchlandlaw03_To.calls k _ _ y262 t266 _ ?side1 ?side2 A5.out).mono ?_); (case side1 => repeat (first | exact HR265.out | (with_reducible refine Kd.C_alloc ?_ _) | (with_reducible refine Kd.C_drewN ?_ _) | (with_reducible refine Kd.C_drew ?_))); (case side2 => exact HC265.out); rintro e w38 ⟨v267, rfl, ho0, hb⟩; refine ⟨_, rfl, ?_⟩; have n0_ := Aside0.mk (Kd.R_lower ho0 (below_size (by repeat (first | (with_reducible first | exact HB.out | apply below_alloc | apply pw_below_drewN | apply below_drew1) | exact HB.out)))); have n1_ := Aside0.mk (below_step (by repeat (first | (with_reducible first | exact HB.out | apply below_alloc | apply pw_below_drewN | apply below_drew1) | exact HB.out)) hb); clear HB; have HO268 := n0_; have HB := n1_; clear n0_ n1_; (try clear hb); (try clear hb2); (try clear hk); (try clear hi); (try clear ho0); obtain ⟨Ao39, co39, eo39⟩ := Kd.R_slice HO268.out; subst eo39) | ((with_reducible refine gate_callee (f := 15) rfl ?_); refine goesL_ (some 17) rfl rfl Try.func15 (by kernel_rfl) rfl #[.slice Ao39 t266.length co39] rfl (by (try simp only [List.map_toArray, List.map_cons, List.map_nil]); first | done | rfl | (simp only [List.length_drop, List.length_take]; rfl)) ?_; (with_reducible refine (batch_Pack.calls k _ _ t266 t269 t270 _ ?side1 ?side2 A6.out).mono ?_); (case side1 => repeat (first | exact (Kd.R_reads' HO268.out).2.2 | (with_reducible refine Kd.C_alloc ?_ _) | (with_reducible refine Kd.C_drewN ?_ _) | (with_reducible refine Kd.C_drew ?_))); (case side2 => exact (Kd.R_reads' HO268.out).2.1); rintro e w40 ⟨v271, rfl, ho0, hb⟩; refine ⟨_, rfl, ?_⟩; have n0_ := Aside0.mk (Kd.R_elder' (by (with_reducible repeat (first | apply Kd.R_alloc | apply Kd.R_drewN | apply Kd.R_drew)); exact HO268.out) (Kd.R_base ho0) hb); have n1_ := Aside0.mk (Kd.R_lower (Kd.R_new' ho0 (Kd.R_lt (by (with_reducible repeat (first | apply Kd.R_alloc | apply Kd.R_drewN | apply Kd.R_drew)); exact HO268.out))) (below_size (by repeat (first | (with_reducible first | exact HB.out | apply below_alloc | apply pw_below_drewN | apply below_drew1) | exact HB.out)))); have n2_ := Aside0.mk (below_step (by repeat (first | (with_reducible first | exact HB.out | apply below_alloc | apply pw_below_drewN | apply below_drew1) | exact HB.out)) hb); clear HO268; clear HB; have HO268 := n0_; have HO272 := n1_; have HB := n2_; clear n0_ n1_ n2_; (try clear hb); (try clear hb2); (try clear hk); (try clear hi); (try clear ho0)) | ((with_reducible refine gate_callee (f := 16) rfl ?_); refine goesL_ (some 22) rfl rfl Try.func16 (by kernel_rfl) rfl #[.slice A0 y262.length c0] rfl (by (try simp only [List.map_toArray, List.map_cons, List.map_nil]); first | done | rfl | (simp only [List.length_drop, List.length_take]; rfl)) ?_; (with_reducible refine (marchlandref03_Pack.calls k _ _ y262 t273 t274 _ ?side1 ?side2 A7.out).mono ?_); (case side1 => repeat (first | exact (Kd.C_below HR265.out HB.out) | (with_reducible refine Kd.C_alloc ?_ _) | (with_reducible refine Kd.C_drewN ?_ _) | (with_reducible refine Kd.C_drew ?_))); (case side2 => exact HC265.out); rintro e w41 ⟨v275, rfl, ho0, hb⟩; refine ⟨_, rfl, ?_⟩; have n0_ := Aside0.mk (Kd.R_below (by (with_reducible repeat (first | apply Kd.R_alloc | apply Kd.R_drewN | apply Kd.R_drew)); exact HO268.out) hb); have n1_ := Aside0.mk (Kd.R_below (by (with_reducible repeat (first | apply Kd.R_alloc | apply Kd.R_drewN | apply Kd.R_drew)); exact HO272.out) hb); have n2_ := Aside0.mk (Kd.R_lower ho0 (below_size (by repeat (first | (with_reducible first | exact HB.out | apply below_alloc | apply pw_below_drewN | apply below_drew1) | exact HB.out)))); have n3_ := Aside0.mk (below_step (by repeat (first | (with_reducible first | exact HB.out | apply below_alloc | apply pw_below_drewN | apply below_drew1) | exact HB.out)) hb); clear HO268; clear HO272; clear HB; have HO268 := n0_; have HO272 := n1_; have HO276 := n2_; have HB := n3_; clear n0_ n1_ n2_ n3_; (try clear hb); (try clear hb2); (try clear hk); (try clear hi); (try clear ho0)) | ((with_reducible refine gate_callee (f := 17) rfl ?_); refine goesL_ (some 25) rfl rfl Try.func17 (by kernel_rfl) rfl #[] rfl (by (try simp only [List.map_toArray, List.map_cons, List.map_nil]); first | done | rfl | (simp only [List.length_drop, List.length_take]; rfl)) ?_; (with_reducible refine (marchlandlaw03_told.calls k  true _ A8.out).mono ?_); rintro e w42 ⟨rfl, hb⟩; refine ⟨_, rfl, ?_⟩; have n0_ := Aside0.mk (Kd.R_below (by (with_reducible repeat (first | apply Kd.R_alloc | apply Kd.R_drewN | apply Kd.R_drew)); exact HO268.out) hb); have n1_ := Aside0.mk (Kd.R_below (by (with_reducible repeat (first | apply Kd.R_alloc | apply Kd.R_drewN | apply Kd.R_drew)); exact HO272.out) hb); have n2_ := Aside0.mk (Kd.R_below (by (with_reducible repeat (first | apply Kd.R_alloc | apply Kd.R_drewN | apply Kd.R_drew)); exact HO276.out) hb); have n3_ := Aside0.mk (below_step (by repeat (first | (with_reducible first | exact HB.out | apply below_alloc | apply pw_below_drewN | apply below_drew1) | exact HB.out)) hb); clear HO268; clear HO272; clear HO276; clear HB; have HO268 := n0_; have HO272 := n1_; have HO276 := n2_; have HB := n3_; clear n0_ n1_ n2_ n3_; (try clear hb); (try clear hb2); (try clear hk); (try clear hi); obtain ⟨Ao43, co43, eo43⟩ := Kd.R_slice HO272.out; subst eo43) | (go_at_call 19; (with_reducible refine (marchlandlaw03_From.calls k _ _ t269 t278 _ ?side1 ?side2 A11.out).mono ?_); (case side1 => repeat (first | exact (Kd.R_reads' HO272.out).2.2 | (with_reducible refine Kd.C_alloc ?_ _) | (with_reducible refine Kd.C_drewN ?_ _) | (with_reducible refine Kd.C_drew ?_))); (case side2 => exact (Kd.R_reads' HO272.out).2.1); rintro e w44 ⟨v279, rfl, ho0, hb⟩; have n0_ := Aside0.mk (Kd.R_below (by (with_reducible repeat (first | apply Kd.R_alloc | apply Kd.R_drewN | apply Kd.R_drew)); exact HO268.out) hb); have n1_ := Aside0.mk (Kd.R_below (by (with_reducible repeat (first | apply Kd.R_alloc | apply Kd.R_drewN | apply Kd.R_drew)); exact HO272.out) hb); have n2_ := Aside0.mk (Kd.R_elder' (by (with_reducible repeat (first | apply Kd.R_alloc | apply Kd.R_drewN | apply Kd.R_drew)); exact HO276.out) (Kd.R_base ho0) hb); have n3_ := Aside0.mk (Kd.R_lower (Kd.R_new' ho0 (Kd.R_lt (by (with_reducible repeat (first | apply Kd.R_alloc | apply Kd.R_drewN | apply Kd.R_drew)); exact HO276.out))) (below_size (by repeat (first | (with_reducible first | exact HB.out | apply below_alloc | apply pw_below_drewN | apply below_drew1) | exact HB.out)))); have n4_ := Aside0.mk (below_step (by repeat (first | (with_reducible first | exact HB.out | apply below_alloc | apply pw_below_drewN | apply below_drew1) | exact HB.out)) hb); clear HO268; clear HO272; clear HO276; clear HB; have HO268 := n0_; have HO272 := n1_; have HO276 := n2_; have HO280 := n3_; have HB := n4_; clear n0_ n1_ n2_ n3_ n4_; (try clear hb); (try clear hb2); (try clear hk); (try clear hi); (try clear ho0); obtain ⟨Ao45, co45, eo45⟩ := Kd.R_slice HO280.out; subst eo45; obtain ⟨Ao46, co46, eo46⟩ := Kd.R_slice HO276.out; subst eo46) | (go_at_call 18; (with_reducible refine (marchlandref03_Same.calls k _ _ t278 _ _ t273 true _ ?side1 ?side2 ?side3 ?side4 A12.out).mono ?_); (case side1 => repeat (first | exact (Kd.R_reads' HO280.out).2.2 | (with_reducible refine Kd.C_alloc ?_ _) | (with_reducible refine Kd.C_drewN ?_ _) | (with_reducible refine Kd.C_drew ?_))); (case side2 => exact (Kd.R_reads' HO280.out).2.1); (case side3 => repeat (first | exact (Kd.R_reads' HO276.out).2.2 | (with_reducible refine Kd.C_alloc ?_ _) | (with_reducible refine Kd.C_drewN ?_ _) | (with_reducible refine Kd.C_drew ?_))); (case side4 => exact (Kd.R_reads' HO276.out).2.1); rintro e w' ⟨rfl, ⟨nd, rfl⟩⟩) | (go_at_call 20; (with_reducible refine (batch_Right.calls k _ _ t269 true _ ?side1 ?side2 A15.out).mono ?_); (case side1 => repeat (first | exact (Kd.R_reads' HO272.out).2.2 | (with_reducible refine Kd.C_alloc ?_ _) | (with_reducible refine Kd.C_drewN ?_ _) | (with_reducible refine Kd.C_drew ?_))); (case side2 => exact (Kd.R_reads' HO272.out).2.1); rintro e w47 ⟨rfl, hb⟩; have n0_ := Aside0.mk (Kd.R_below (by (with_reducible repeat (first | apply Kd.R_alloc | apply Kd.R_drewN | apply Kd.R_drew)); exact HO268.out) hb); have n1_ := Aside0.mk (Kd.R_below (by (with_reducible repeat (first | apply Kd.R_alloc | apply Kd.R_drewN | apply Kd.R_drew)); exact HO272.out) hb); have n2_ := Aside0.mk (Kd.R_below (by (with_reducible repeat (first | apply Kd.R_alloc | apply Kd.R_drewN | apply Kd.R_drew)); exact HO276.out) hb); have n3_ := Aside0.mk (Kd.R_below (by (with_reducible repeat (first | apply Kd.R_alloc | apply Kd.R_drewN | apply Kd.R_drew)); exact HO280.out) hb); have n4_ := Aside0.mk (below_step (by repeat (first | (with_reducible first | exact HB.out | apply below_alloc | apply pw_below_drewN | apply below_drew1) | exact HB.out)) hb); clear HO268; clear HO272; clear HO276; clear HO280; clear HB; have HO268 := n0_; have HO272 := n1_; have HO276 := n2_; have HO280 := n3_; have HB := n4_; clear n0_ n1_ n2_ n3_ n4_; (try clear hb); (try clear hb2); (try clear hk); (try clear hi)) | (go_at_call 20; (with_reducible refine (batch_Right.calls k _ _ t266 t283 _ ?side1 ?side2 A17.out).mono ?_); (case side1 => repeat (first | exact (Kd.R_reads' HO268.out).2.2 | (with_reducible refine Kd.C_alloc ?_ _) | (with_reducible refine Kd.C_drewN ?_ _) | (with_reducible refine Kd.C_drew ?_))); (case side2 => exact (Kd.R_reads' HO268.out).2.1); rintro e w48 ⟨rfl, hb⟩; have n0_ := Aside0.mk (Kd.R_below (by (with_reducible repeat (first | apply Kd.R_alloc | apply Kd.R_drewN | apply Kd.R_drew)); exact HO268.out) hb); have n1_ := Aside0.mk (Kd.R_below (by (with_reducible repeat (first | apply Kd.R_alloc | apply Kd.R_drewN | apply Kd.R_drew)); exact HO272.out) hb); have n2_ := Aside0.mk (Kd.R_below (by (with_reducible repeat (first | apply Kd.R_alloc | apply Kd.R_drewN | apply Kd.R_drew)); exact HO276.out) hb); have n3_ := Aside0.mk (Kd.R_below (by (with_reducible repeat (first | apply Kd.R_alloc | apply Kd.R_drewN | apply Kd.R_drew)); exact HO280.out) hb); have n4_ := Aside0.mk (below_step (by repeat (first | (with_reducible first | exact HB.out | apply below_alloc | apply pw_below_drewN | apply below_drew1) | exact HB.out)) hb); clear HO268; clear HO272; clear HO276; clear HO280; clear HB; have HO268 := n0_; have HO272 := n1_; have HO276 := n2_; have HO280 := n3_; have HB := n4_; clear n0_ n1_ n2_ n3_ n4_; (try clear hb); (try clear hb2); (try clear hk); (try clear hi)) | (go_at_call 21; (with_reducible refine (marchlandref03_Right.calls k _ _ y262 t284 _ ?side1 ?side2 A18.out).mono ?_); (case side1 => repeat (first | exact (Kd.C_below HR265.out HB.out) | (with_reducible refine Kd.C_alloc ?_ _) | (with_reducible refine Kd.C_drewN ?_ _) | (with_reducible refine Kd.C_drew ?_))); (case side2 => exact HC265.out); rintro e w49 ⟨rfl, hb⟩; have n0_ := Aside0.mk (Kd.R_below (by (with_reducible repeat (first | apply Kd.R_alloc | apply Kd.R_drewN | apply Kd.R_drew)); exact HO268.out) hb); have n1_ := Aside0.mk (Kd.R_below (by (with_reducible repeat (first | apply Kd.R_alloc | apply Kd.R_drewN | apply Kd.R_drew)); exact HO272.out) hb); have n2_ := Aside0.mk (Kd.R_below (by (with_reducible repeat (first | apply Kd.R_alloc | apply Kd.R_drewN | apply Kd.R_drew)); exact HO276.out) hb); have n3_ := Aside0.mk (Kd.R_below (by (with_reducible repeat (first | apply Kd.R_alloc | apply Kd.R_drewN | apply Kd.R_drew)); exact HO280.out) hb); have n4_ := Aside0.mk (below_step (by repeat (first | (with_reducible first | exact HB.out | apply below_alloc | apply pw_below_drewN | apply below_drew1) | exact HB.out)) hb); clear HO268; clear HO272; clear HO276; clear HO280; clear HB; have HO268 := n0_; have HO272 := n1_; have HO276 := n2_; have HO280 := n3_; have HB := n4_; clear n0_ n1_ n2_ n3_ n4_; (try clear hb); (try clear hb2); (try clear hk); (try clear hi)))
         go_ret
         exact ⟨by first | rfl | (simp [errW_none, errW_some] <;> rfl) | (simp only [← hji2]; first | rfl | (simp [errW_none, errW_some] <;> rfl)) | (simp [*, errW_none, errW_some] <;> rfl), by repeat (first | (with_reducible first | exact HB.out | apply below_alloc | apply pw_below_drewN | apply below_drew1) | exact HB.out)⟩
       ·replace c16 := Bool.eq_false_iff.mpr c16
        subst c16
        have H1 : (some false) = some r := by rw [if_neg (show ¬ (false = true) by decide)] at H; exact H
        clear H
        have H := H1
        clear H1
        obtain rfl := Option.some.inj H
        have q50 : ((ji2) : Int) ≤ ((l0.length : Int) : Int) := of_decide_eq_true (by first | (with_reducible assumption) | assumption)
        obtain ⟨i050, hi050, _, hsz50, _⟩ := info_parts info40
        have hroom50 : l0.length ≤ c0 := HC0.out
        have hC50 : Kd.C k40 _ A0 l0.length l0 := HR0.out
        have hcut50 := cut_to (P := Try.prog) 22 40 .i64 Try.underlying22 hi050 A0 l0.length c0 (ji2) (of_decide_eq_true (by first | (with_reducible assumption) | assumption)) q50 hroom50
        have hr50 := Kd.C_take (m := ((ji2) : Int).toNat) hC50 (by omega)
        have hy50 : y262.length = ((ji2) : Int).toNat := (by rw [Ny262.out, List.length_take]; omega)
        rw [← Ny262.out] at hr50
        rw [← hy50] at hcut50
        have HR265 := Aside0.mk hr50
        have HC265 := Aside0.mk (show y262.length ≤ c0 from by omega)
        clear hr50 hC50 hroom50 hi050 hsz50
        have KY50 := Aside0.mk hy50
        clear hy50
        replace q50 := eq_true q50
        go_enter Try.func3, Try.ntmps3
        go_wp2_with (first | ((with_reducible refine gate_callee (f := 14) rfl ?_); refine goesL_ (some 14) rfl rfl Try.func14 (by kernel_rfl) rfl #[.slice A0 y262.length c0] rfl (by (try simp only [List.map_toArray, List.map_cons, List.map_nil]); first | done | rfl | (simp only [List.length_drop, List.length_take]; rfl)) ?_; (with_reducible refine (marchlandlaw03_To.calls k _ _ y262 t266 _ ?side1 ?side2 A5.out).mono ?_); (case side1 => repeat (first | exact HR265.out | (with_reducible refine Kd.C_alloc ?_ _) | (with_reducible refine Kd.C_drewN ?_ _) | (with_reducible refine Kd.C_drew ?_))); (case side2 => exact HC265.out); rintro e w51 ⟨v267, rfl, ho0, hb⟩; refine ⟨_, rfl, ?_⟩; have n0_ := Aside0.mk (Kd.R_lower ho0 (below_size (by repeat (first | (with_reducible first | exact HB.out | apply below_alloc | apply pw_below_drewN | apply below_drew1) | exact HB.out)))); have n1_ := Aside0.mk (below_step (by repeat (first | (with_reducible first | exact HB.out | apply below_alloc | apply pw_below_drewN | apply below_drew1) | exact HB.out)) hb); clear HB; have HO268 := n0_; have HB := n1_; clear n0_ n1_; (try clear hb); (try clear hb2); (try clear hk); (try clear hi); (try clear ho0); obtain ⟨Ao52, co52, eo52⟩ := Kd.R_slice HO268.out; subst eo52) | ((with_reducible refine gate_callee (f := 15) rfl ?_); refine goesL_ (some 17) rfl rfl Try.func15 (by kernel_rfl) rfl #[.slice Ao52 t266.length co52] rfl (by (try simp only [List.map_toArray, List.map_cons, List.map_nil]); first | done | rfl | (simp only [List.length_drop, List.length_take]; rfl)) ?_; (with_reducible refine (batch_Pack.calls k _ _ t266 t269 t270 _ ?side1 ?side2 A6.out).mono ?_); (case side1 => repeat (first | exact (Kd.R_reads' HO268.out).2.2 | (with_reducible refine Kd.C_alloc ?_ _) | (with_reducible refine Kd.C_drewN ?_ _) | (with_reducible refine Kd.C_drew ?_))); (case side2 => exact (Kd.R_reads' HO268.out).2.1); rintro e w53 ⟨v271, rfl, ho0, hb⟩; refine ⟨_, rfl, ?_⟩; have n0_ := Aside0.mk (Kd.R_elder' (by (with_reducible repeat (first | apply Kd.R_alloc | apply Kd.R_drewN | apply Kd.R_drew)); exact HO268.out) (Kd.R_base ho0) hb); have n1_ := Aside0.mk (Kd.R_lower (Kd.R_new' ho0 (Kd.R_lt (by (with_reducible repeat (first | apply Kd.R_alloc | apply Kd.R_drewN | apply Kd.R_drew)); exact HO268.out))) (below_size (by repeat (first | (with_reducible first | exact HB.out | apply below_alloc | apply pw_below_drewN | apply below_drew1) | exact HB.out)))); have n2_ := Aside0.mk (below_step (by repeat (first | (with_reducible first | exact HB.out | apply below_alloc | apply pw_below_drewN | apply below_drew1) | exact HB.out)) hb); clear HO268; clear HB; have HO268 := n0_; have HO272 := n1_; have HB := n2_; clear n0_ n1_ n2_; (try clear hb); (try clear hb2); (try clear hk); (try clear hi); (try clear ho0)) | ((with_reducible refine gate_callee (f := 16) rfl ?_); refine goesL_ (some 22) rfl rfl Try.func16 (by kernel_rfl) rfl #[.slice A0 y262.length c0] rfl (by (try simp only [List.map_toArray, List.map_cons, List.map_nil]); first | done | rfl | (simp only [List.length_drop, List.length_take]; rfl)) ?_; (with_reducible refine (marchlandref03_Pack.calls k _ _ y262 t273 t274 _ ?side1 ?side2 A7.out).mono ?_); (case side1 => repeat (first | exact (Kd.C_below HR265.out HB.out) | (with_reducible refine Kd.C_alloc ?_ _) | (with_reducible refine Kd.C_drewN ?_ _) | (with_reducible refine Kd.C_drew ?_))); (case side2 => exact HC265.out); rintro e w54 ⟨v275, rfl, ho0, hb⟩; refine ⟨_, rfl, ?_⟩; have n0_ := Aside0.mk (Kd.R_below (by (with_reducible repeat (first | apply Kd.R_alloc | apply Kd.R_drewN | apply Kd.R_drew)); exact HO268.out) hb); have n1_ := Aside0.mk (Kd.R_below (by (with_reducible repeat (first | apply Kd.R_alloc | apply Kd.R_drewN | apply Kd.R_drew)); exact HO272.out) hb); have n2_ := Aside0.mk (Kd.R_lower ho0 (below_size (by repeat (first | (with_reducible first | exact HB.out | apply below_alloc | apply pw_below_drewN | apply below_drew1) | exact HB.out)))); have n3_ := Aside0.mk (below_step (by repeat (first | (with_reducible first | exact HB.out | apply below_alloc | apply pw_below_drewN | apply below_drew1) | exact HB.out)) hb); clear HO268; clear HO272; clear HB; have HO268 := n0_; have HO272 := n1_; have HO276 := n2_; have HB := n3_; clear n0_ n1_ n2_ n3_; (try clear hb); (try clear hb2); (try clear hk); (try clear hi); (try clear ho0)) | ((with_reducible refine gate_callee (f := 17) rfl ?_); refine goesL_ (some 25) rfl rfl Try.func17 (by kernel_rfl) rfl #[] rfl (by (try simp only [List.map_toArray, List.map_cons, List.map_nil]); first | done | rfl | (simp only [List.length_drop, List.length_take]; rfl)) ?_; (with_reducible refine (marchlandlaw03_told.calls k  true _ A8.out).mono ?_); rintro e w55 ⟨rfl, hb⟩; refine ⟨_, rfl, ?_⟩; have n0_ := Aside0.mk (Kd.R_below (by (with_reducible repeat (first | apply Kd.R_alloc | apply Kd.R_drewN | apply Kd.R_drew)); exact HO268.out) hb); have n1_ := Aside0.mk (Kd.R_below (by (with_reducible repeat (first | apply Kd.R_alloc | apply Kd.R_drewN | apply Kd.R_drew)); exact HO272.out) hb); have n2_ := Aside0.mk (Kd.R_below (by (with_reducible repeat (first | apply Kd.R_alloc | apply Kd.R_drewN | apply Kd.R_drew)); exact HO276.out) hb); have n3_ := Aside0.mk (below_step (by repeat (first | (with_reducible first | exact HB.out | apply below_alloc | apply pw_below_drewN | apply below_drew1) | exact HB.out)) hb); clear HO268; clear HO272; clear HO276; clear HB; have HO268 := n0_; have HO272 := n1_; have HO276 := n2_; have HB := n3_; clear n0_ n1_ n2_ n3_; (try clear hb); (try clear hb2); (try clear hk); (try clear hi); obtain ⟨Ao56, co56, eo56⟩ := Kd.R_slice HO272.out; subst eo56) | (go_at_call 19; (with_reducible refine (marchlandlaw03_From.calls k _ _ t269 t278 _ ?side1 ?side2 A11.out).mono ?_); (case side1 => repeat (first | exact (Kd.R_reads' HO272.out).2.2 | (with_reducible refine Kd.C_alloc ?_ _) | (with_reducible refine Kd.C_drewN ?_ _) | (with_reducible refine Kd.C_drew ?_))); (case side2 => exact (Kd.R_reads' HO272.out).2.1); rintro e w57 ⟨v279, rfl, ho0, hb⟩; have n0_ := Aside0.mk (Kd.R_below (by (with_reducible repeat (first | apply Kd.R_alloc | apply Kd.R_drewN | apply Kd.R_drew)); exact HO268.out) hb); have n1_ := Aside0.mk (Kd.R_below (by (with_reducible repeat (first | apply Kd.R_alloc | apply Kd.R_drewN | apply Kd.R_drew)); exact HO272.out) hb); have n2_ := Aside0.mk (Kd.R_elder' (by (with_reducible repeat (first | apply Kd.R_alloc | apply Kd.R_drewN | apply Kd.R_drew)); exact HO276.out) (Kd.R_base ho0) hb); have n3_ := Aside0.mk (Kd.R_lower (Kd.R_new' ho0 (Kd.R_lt (by (with_reducible repeat (first | apply Kd.R_alloc | apply Kd.R_drewN | apply Kd.R_drew)); exact HO276.out))) (below_size (by repeat (first | (with_reducible first | exact HB.out | apply below_alloc | apply pw_below_drewN | apply below_drew1) | exact HB.out)))); have n4_ := Aside0.mk (below_step (by repeat (first | (with_reducible first | exact HB.out | apply below_alloc | apply pw_below_drewN | apply below_drew1) | exact HB.out)) hb); clear HO268; clear HO272; clear HO276; clear HB; have HO268 := n0_; have HO272 := n1_; have HO276 := n2_; have HO280 := n3_; have HB := n4_; clear n0_ n1_ n2_ n3_ n4_; (try clear hb); (try clear hb2); (try clear hk); (try clear hi); (try clear ho0); obtain ⟨Ao58, co58, eo58⟩ := Kd.R_slice HO280.out; subst eo58; obtain ⟨Ao59, co59, eo59⟩ := Kd.R_slice HO276.out; subst eo59) | (go_at_call 18; (with_reducible refine (marchlandref03_Same.calls k _ _ t278 _ _ t273 true _ ?side1 ?side2 ?side3 ?side4 A12.out).mono ?_); (case side1 => repeat (first | exact (Kd.R_reads' HO280.out).2.2 | (with_reducible refine Kd.C_alloc ?_ _) | (with_reducible refine Kd.C_drewN ?_ _) | (with_reducible refine Kd.C_drew ?_))); (case side2 => exact (Kd.R_reads' HO280.out).2.1); (case side3 => repeat (first | exact (Kd.R_reads' HO276.out).2.2 | (with_reducible refine Kd.C_alloc ?_ _) | (with_reducible refine Kd.C_drewN ?_ _) | (with_reducible refine Kd.C_drew ?_))); (case side4 => exact (Kd.R_reads' HO276.out).2.1); rintro e w' ⟨rfl, ⟨nd, rfl⟩⟩) | (go_at_call 20; (with_reducible refine (batch_Right.calls k _ _ t269 false _ ?side1 ?side2 A15.out).mono ?_); (case side1 => repeat (first | exact (Kd.R_reads' HO272.out).2.2 | (with_reducible refine Kd.C_alloc ?_ _) | (with_reducible refine Kd.C_drewN ?_ _) | (with_reducible refine Kd.C_drew ?_))); (case side2 => exact (Kd.R_reads' HO272.out).2.1); rintro e w60 ⟨rfl, hb⟩; have n0_ := Aside0.mk (Kd.R_below (by (with_reducible repeat (first | apply Kd.R_alloc | apply Kd.R_drewN | apply Kd.R_drew)); exact HO268.out) hb); have n1_ := Aside0.mk (Kd.R_below (by (with_reducible repeat (first | apply Kd.R_alloc | apply Kd.R_drewN | apply Kd.R_drew)); exact HO272.out) hb); have n2_ := Aside0.mk (Kd.R_below (by (with_reducible repeat (first | apply Kd.R_alloc | apply Kd.R_drewN | apply Kd.R_drew)); exact HO276.out) hb); have n3_ := Aside0.mk (Kd.R_below (by (with_reducible repeat (first | apply Kd.R_alloc | apply Kd.R_drewN | apply Kd.R_drew)); exact HO280.out) hb); have n4_ := Aside0.mk (below_step (by repeat (first | (with_reducible first | exact HB.out | apply below_alloc | apply pw_below_drewN | apply below_drew1) | exact HB.out)) hb); clear HO268; clear HO272; clear HO276; clear HO280; clear HB; have HO268 := n0_; have HO272 := n1_; have HO276 := n2_; have HO280 := n3_; have HB := n4_; clear n0_ n1_ n2_ n3_ n4_; (try clear hb); (try clear hb2); (try clear hk); (try clear hi)))
        go_ret
        exact ⟨by first | rfl | (simp [errW_none, errW_some] <;> rfl) | (simp only [← hji2]; first | rfl | (simp [errW_none, errW_some] <;> rfl)) | (simp [*, errW_none, errW_some] <;> rfl), by repeat (first | (with_reducible first | exact HB.out | apply below_alloc | apply pw_below_drewN | apply below_drew1) | exact HB.out)⟩
      ·rw [if_neg c14] at H
       have c14b0 : (t270 == 0) = false := beq_eq_false_iff_ne.mpr c14
       have c14b1 : (t270 != 0) = true := bne_iff_ne.mpr c14
       replace H := Option.bind_eq_some_iff.mp H
       obtain ⟨t289, A610, H⟩ := H
       replace H : ((marchlandref03_Right.f k y262).bind fun t290 => (if (t289 == t290) = true then ((marchlandlaw03_From.f k t266).bind fun t291 => ((marchlandref03_Same.f k t291 y262).bind fun t294 => (some t294))) else (some false))) = some r := H
       have A61 := Aside0.mk A610
       clear A610
       replace H := Option.bind_eq_some_iff.mp H
       obtain ⟨t290, A620, H⟩ := H
       replace H : (if (t289 == t290) = true then ((marchlandlaw03_From.f k t266).bind fun t291 => ((marchlandref03_Same.f k t291 y262).bind fun t294 => (some t294))) else (some false)) = some r := H
       have A62 := Aside0.mk A620
       clear A620
       by_cases c63 : (t289 == t290) = true
       ·rw [if_pos c63] at H
        have c63b0 : (t289 == t290) = true := c63
        (try (have c63b1 : decide (t289 = t290) = true := by simpa using c63))
        (try (have c63b2 : (t289 == t290) = true := by simpa using c63))
        clear c63
        replace H := Option.bind_eq_some_iff.mp H
        obtain ⟨t291, A640, H⟩ := H
        replace H : ((marchlandref03_Same.f k t291 y262).bind fun t294 => (some t294)) = some r := H
        have A64 := Aside0.mk A640
        clear A640
        replace H := Option.bind_eq_some_iff.mp H
        obtain ⟨t294, A650, H⟩ := H
        replace H : (some t294) = some r := H
        have A65 := Aside0.mk A650
        clear A650
        obtain rfl := Option.some.inj H
        have q66 : ((ji2) : Int) ≤ ((l0.length : Int) : Int) := of_decide_eq_true (by first | (with_reducible assumption) | assumption)
        obtain ⟨i066, hi066, _, hsz66, _⟩ := info_parts info40
        have hroom66 : l0.length ≤ c0 := HC0.out
        have hC66 : Kd.C k40 _ A0 l0.length l0 := HR0.out
        have hcut66 := cut_to (P := Try.prog) 22 40 .i64 Try.underlying22 hi066 A0 l0.length c0 (ji2) (of_decide_eq_true (by first | (with_reducible assumption) | assumption)) q66 hroom66
        have hr66 := Kd.C_take (m := ((ji2) : Int).toNat) hC66 (by omega)
        have hy66 : y262.length = ((ji2) : Int).toNat := (by rw [Ny262.out, List.length_take]; omega)
        rw [← Ny262.out] at hr66
        rw [← hy66] at hcut66
        have HR265 := Aside0.mk hr66
        have HC265 := Aside0.mk (show y262.length ≤ c0 from by omega)
        clear hr66 hC66 hroom66 hi066 hsz66
        have KY66 := Aside0.mk hy66
        clear hy66
        replace q66 := eq_true q66
        go_enter Try.func3, Try.ntmps3
        go_wp2_with (first | ((with_reducible refine gate_callee (f := 14) rfl ?_); refine goesL_ (some 14) rfl rfl Try.func14 (by kernel_rfl) rfl #[.slice A0 y262.length c0] rfl (by (try simp only [List.map_toArray, List.map_cons, List.map_nil]); first | done | rfl | (simp only [List.length_drop, List.length_take]; rfl)) ?_; (with_reducible refine (marchlandlaw03_To.calls k _ _ y262 t266 _ ?side1 ?side2 A5.out).mono ?_); (case side1 => repeat (first | exact HR265.out | (with_reducible refine Kd.C_alloc ?_ _) | (with_reducible refine Kd.C_drewN ?_ _) | (with_reducible refine Kd.C_drew ?_))); (case side2 => exact HC265.out); rintro e w67 ⟨v267, rfl, ho0, hb⟩; refine ⟨_, rfl, ?_⟩; have n0_ := Aside0.mk (Kd.R_lower ho0 (below_size (by repeat (first | (with_reducible first | exact HB.out | apply below_alloc | apply pw_below_drewN | apply below_drew1) | exact HB.out)))); have n1_ := Aside0.mk (below_step (by repeat (first | (with_reducible first | exact HB.out | apply below_alloc | apply pw_below_drewN | apply below_drew1) | exact HB.out)) hb); clear HB; have HO268 := n0_; have HB := n1_; clear n0_ n1_; (try clear hb); (try clear hb2); (try clear hk); (try clear hi); (try clear ho0); obtain ⟨Ao68, co68, eo68⟩ := Kd.R_slice HO268.out; subst eo68) | ((with_reducible refine gate_callee (f := 15) rfl ?_); refine goesL_ (some 17) rfl rfl Try.func15 (by kernel_rfl) rfl #[.slice Ao68 t266.length co68] rfl (by (try simp only [List.map_toArray, List.map_cons, List.map_nil]); first | done | rfl | (simp only [List.length_drop, List.length_take]; rfl)) ?_; (with_reducible refine (batch_Pack.calls k _ _ t266 t269 t270 _ ?side1 ?side2 A6.out).mono ?_); (case side1 => repeat (first | exact (Kd.R_reads' HO268.out).2.2 | (with_reducible refine Kd.C_alloc ?_ _) | (with_reducible refine Kd.C_drewN ?_ _) | (with_reducible refine Kd.C_drew ?_))); (case side2 => exact (Kd.R_reads' HO268.out).2.1); rintro e w69 ⟨v271, rfl, ho0, hb⟩; refine ⟨_, rfl, ?_⟩; have n0_ := Aside0.mk (Kd.R_elder' (by (with_reducible repeat (first | apply Kd.R_alloc | apply Kd.R_drewN | apply Kd.R_drew)); exact HO268.out) (Kd.R_base ho0) hb); have n1_ := Aside0.mk (Kd.R_lower (Kd.R_new' ho0 (Kd.R_lt (by (with_reducible repeat (first | apply Kd.R_alloc | apply Kd.R_drewN | apply Kd.R_drew)); exact HO268.out))) (below_size (by repeat (first | (with_reducible first | exact HB.out | apply below_alloc | apply pw_below_drewN | apply below_drew1) | exact HB.out)))); have n2_ := Aside0.mk (below_step (by repeat (first | (with_reducible first | exact HB.out | apply below_alloc | apply pw_below_drewN | apply below_drew1) | exact HB.out)) hb); clear HO268; clear HB; have HO268 := n0_; have HO272 := n1_; have HB := n2_; clear n0_ n1_ n2_; (try clear hb); (try clear hb2); (try clear hk); (try clear hi); (try clear ho0)) | ((with_reducible refine gate_callee (f := 16) rfl ?_); refine goesL_ (some 22) rfl rfl Try.func16 (by kernel_rfl) rfl #[.slice A0 y262.length c0] rfl (by (try simp only [List.map_toArray, List.map_cons, List.map_nil]); first | done | rfl | (simp only [List.length_drop, List.length_take]; rfl)) ?_; (with_reducible refine (marchlandref03_Pack.calls k _ _ y262 t273 t274 _ ?side1 ?side2 A7.out).mono ?_); (case side1 => repeat (first | exact (Kd.C_below HR265.out HB.out) | (with_reducible refine Kd.C_alloc ?_ _) | (with_reducible refine Kd.C_drewN ?_ _) | (with_reducible refine Kd.C_drew ?_))); (case side2 => exact HC265.out); rintro e w70 ⟨v275, rfl, ho0, hb⟩; refine ⟨_, rfl, ?_⟩; have n0_ := Aside0.mk (Kd.R_below (by (with_reducible repeat (first | apply Kd.R_alloc | apply Kd.R_drewN | apply Kd.R_drew)); exact HO268.out) hb); have n1_ := Aside0.mk (Kd.R_below (by (with_reducible repeat (first | apply Kd.R_alloc | apply Kd.R_drewN | apply Kd.R_drew)); exact HO272.out) hb); have n2_ := Aside0.mk (Kd.R_lower ho0 (below_size (by repeat (first | (with_reducible first | exact HB.out | apply below_alloc | apply pw_below_drewN | apply below_drew1) | exact HB.out)))); have n3_ := Aside0.mk (below_step (by repeat (first | (with_reducible first | exact HB.out | apply below_alloc | apply pw_below_drewN | apply below_drew1) | exact HB.out)) hb); clear HO268; clear HO272; clear HB; have HO268 := n0_; have HO272 := n1_; have HO276 := n2_; have HB := n3_; clear n0_ n1_ n2_ n3_; (try clear hb); (try clear hb2); (try clear hk); (try clear hi); (try clear ho0)) | ((with_reducible refine gate_callee (f := 17) rfl ?_); refine goesL_ (some 25) rfl rfl Try.func17 (by kernel_rfl) rfl #[] rfl (by (try simp only [List.map_toArray, List.map_cons, List.map_nil]); first | done | rfl | (simp only [List.length_drop, List.length_take]; rfl)) ?_; (with_reducible refine (marchlandlaw03_told.calls k  true _ A8.out).mono ?_); rintro e w71 ⟨rfl, hb⟩; refine ⟨_, rfl, ?_⟩; have n0_ := Aside0.mk (Kd.R_below (by (with_reducible repeat (first | apply Kd.R_alloc | apply Kd.R_drewN | apply Kd.R_drew)); exact HO268.out) hb); have n1_ := Aside0.mk (Kd.R_below (by (with_reducible repeat (first | apply Kd.R_alloc | apply Kd.R_drewN | apply Kd.R_drew)); exact HO272.out) hb); have n2_ := Aside0.mk (Kd.R_below (by (with_reducible repeat (first | apply Kd.R_alloc | apply Kd.R_drewN | apply Kd.R_drew)); exact HO276.out) hb); have n3_ := Aside0.mk (below_step (by repeat (first | (with_reducible first | exact HB.out | apply below_alloc | apply pw_below_drewN | apply below_drew1) | exact HB.out)) hb); clear HO268; clear HO272; clear HO276; clear HB; have HO268 := n0_; have HO272 := n1_; have HO276 := n2_; have HB := n3_; clear n0_ n1_ n2_ n3_; (try clear hb); (try clear hb2); (try clear hk); (try clear hi); obtain ⟨Ao72, co72, eo72⟩ := Kd.R_slice HO272.out; subst eo72) | (go_at_call 19; (with_reducible refine (marchlandlaw03_From.calls k _ _ t269 t278 _ ?side1 ?side2 A11.out).mono ?_); (case side1 => repeat (first | exact (Kd.R_reads' HO272.out).2.2 | (with_reducible refine Kd.C_alloc ?_ _) | (with_reducible refine Kd.C_drewN ?_ _) | (with_reducible refine Kd.C_drew ?_))); (case side2 => exact (Kd.R_reads' HO272.out).2.1); rintro e w73 ⟨v279, rfl, ho0, hb⟩; have n0_ := Aside0.mk (Kd.R_below (by (with_reducible repeat (first | apply Kd.R_alloc | apply Kd.R_drewN | apply Kd.R_drew)); exact HO268.out) hb); have n1_ := Aside0.mk (Kd.R_below (by (with_reducible repeat (first | apply Kd.R_alloc | apply Kd.R_drewN | apply Kd.R_drew)); exact HO272.out) hb); have n2_ := Aside0.mk (Kd.R_elder' (by (with_reducible repeat (first | apply Kd.R_alloc | apply Kd.R_drewN | apply Kd.R_drew)); exact HO276.out) (Kd.R_base ho0) hb); have n3_ := Aside0.mk (Kd.R_lower (Kd.R_new' ho0 (Kd.R_lt (by (with_reducible repeat (first | apply Kd.R_alloc | apply Kd.R_drewN | apply Kd.R_drew)); exact HO276.out))) (below_size (by repeat (first | (with_reducible first | exact HB.out | apply below_alloc | apply pw_below_drewN | apply below_drew1) | exact HB.out)))); have n4_ := Aside0.mk (below_step (by repeat (first | (with_reducible first | exact HB.out | apply below_alloc | apply pw_below_drewN | apply below_drew1) | exact HB.out)) hb); clear HO268; clear HO272; clear HO276; clear HB; have HO268 := n0_; have HO272 := n1_; have HO276 := n2_; have HO280 := n3_; have HB := n4_; clear n0_ n1_ n2_ n3_ n4_; (try clear hb); (try clear hb2); (try clear hk); (try clear hi); (try clear ho0); obtain ⟨Ao74, co74, eo74⟩ := Kd.R_slice HO280.out; subst eo74; obtain ⟨Ao75, co75, eo75⟩ := Kd.R_slice HO276.out; subst eo75) | (go_at_call 18; (with_reducible refine (marchlandref03_Same.calls k _ _ t278 _ _ t273 true _ ?side1 ?side2 ?side3 ?side4 A12.out).mono ?_); (case side1 => repeat (first | exact (Kd.R_reads' HO280.out).2.2 | (with_reducible refine Kd.C_alloc ?_ _) | (with_reducible refine Kd.C_drewN ?_ _) | (with_reducible refine Kd.C_drew ?_))); (case side2 => exact (Kd.R_reads' HO280.out).2.1); (case side3 => repeat (first | exact (Kd.R_reads' HO276.out).2.2 | (with_reducible refine Kd.C_alloc ?_ _) | (with_reducible refine Kd.C_drewN ?_ _) | (with_reducible refine Kd.C_drew ?_))); (case side4 => exact (Kd.R_reads' HO276.out).2.1); rintro e w' ⟨rfl, ⟨nd, rfl⟩⟩) | (go_at_call 20; (with_reducible refine (batch_Right.calls k _ _ t266 t289 _ ?side1 ?side2 A61.out).mono ?_); (case side1 => repeat (first | exact (Kd.R_reads' HO268.out).2.2 | (with_reducible refine Kd.C_alloc ?_ _) | (with_reducible refine Kd.C_drewN ?_ _) | (with_reducible refine Kd.C_drew ?_))); (case side2 => exact (Kd.R_reads' HO268.out).2.1); rintro e w76 ⟨rfl, hb⟩; have n0_ := Aside0.mk (Kd.R_below (by (with_reducible repeat (first | apply Kd.R_alloc | apply Kd.R_drewN | apply Kd.R_drew)); exact HO268.out) hb); have n1_ := Aside0.mk (Kd.R_below (by (with_reducible repeat (first | apply Kd.R_alloc | apply Kd.R_drewN | apply Kd.R_drew)); exact HO272.out) hb); have n2_ := Aside0.mk (Kd.R_below (by (with_reducible repeat (first | apply Kd.R_alloc | apply Kd.R_drewN | apply Kd.R_drew)); exact HO276.out) hb); have n3_ := Aside0.mk (Kd.R_below (by (with_reducible repeat (first | apply Kd.R_alloc | apply Kd.R_drewN | apply Kd.R_drew)); exact HO280.out) hb); have n4_ := Aside0.mk (below_step (by repeat (first | (with_reducible first | exact HB.out | apply below_alloc | apply pw_below_drewN | apply below_drew1) | exact HB.out)) hb); clear HO268; clear HO272; clear HO276; clear HO280; clear HB; have HO268 := n0_; have HO272 := n1_; have HO276 := n2_; have HO280 := n3_; have HB := n4_; clear n0_ n1_ n2_ n3_ n4_; (try clear hb); (try clear hb2); (try clear hk); (try clear hi)) | (go_at_call 21; (with_reducible refine (marchlandref03_Right.calls k _ _ y262 t290 _ ?side1 ?side2 A62.out).mono ?_); (case side1 => repeat (first | exact (Kd.C_below HR265.out HB.out) | (with_reducible refine Kd.C_alloc ?_ _) | (with_reducible refine Kd.C_drewN ?_ _) | (with_reducible refine Kd.C_drew ?_))); (case side2 => exact HC265.out); rintro e w77 ⟨rfl, hb⟩; have n0_ := Aside0.mk (Kd.R_below (by (with_reducible repeat (first | apply Kd.R_alloc | apply Kd.R_drewN | apply Kd.R_drew)); exact HO268.out) hb); have n1_ := Aside0.mk (Kd.R_below (by (with_reducible repeat (first | apply Kd.R_alloc | apply Kd.R_drewN | apply Kd.R_drew)); exact HO272.out) hb); have n2_ := Aside0.mk (Kd.R_below (by (with_reducible repeat (first | apply Kd.R_alloc | apply Kd.R_drewN | apply Kd.R_drew)); exact HO276.out) hb); have n3_ := Aside0.mk (Kd.R_below (by (with_reducible repeat (first | apply Kd.R_alloc | apply Kd.R_drewN | apply Kd.R_drew)); exact HO280.out) hb); have n4_ := Aside0.mk (below_step (by repeat (first | (with_reducible first | exact HB.out | apply below_alloc | apply pw_below_drewN | apply below_drew1) | exact HB.out)) hb); clear HO268; clear HO272; clear HO276; clear HO280; clear HB; have HO268 := n0_; have HO272 := n1_; have HO276 := n2_; have HO280 := n3_; have HB := n4_; clear n0_ n1_ n2_ n3_ n4_; (try clear hb); (try clear hb2); (try clear hk); (try clear hi)) | (go_at_call 19; (with_reducible refine (marchlandlaw03_From.calls k _ _ t266 t291 _ ?side1 ?side2 A64.out).mono ?_); (case side1 => repeat (first | exact (Kd.R_reads' HO268.out).2.2 | (with_reducible refine Kd.C_alloc ?_ _) | (with_reducible refine Kd.C_drewN ?_ _) | (with_reducible refine Kd.C_drew ?_))); (case side2 => exact (Kd.R_reads' HO268.out).2.1); rintro e w78 ⟨v292, rfl, ho0, hb⟩; have n0_ := Aside0.mk (Kd.R_below (by (with_reducible repeat (first | apply Kd.R_alloc | apply Kd.R_drewN | apply Kd.R_drew)); exact HO268.out) hb); have n1_ := Aside0.mk (Kd.R_below (by (with_reducible repeat (first | apply Kd.R_alloc | apply Kd.R_drewN | apply Kd.R_drew)); exact HO272.out) hb); have n2_ := Aside0.mk (Kd.R_elder' (by (with_reducible repeat (first | apply Kd.R_alloc | apply Kd.R_drewN | apply Kd.R_drew)); exact HO276.out) (Kd.R_base ho0) hb); have n3_ := Aside0.mk (Kd.R_elder' (by (with_reducible repeat (first | apply Kd.R_alloc | apply Kd.R_drewN | apply Kd.R_drew)); exact HO280.out) (Kd.R_base ho0) hb); have n4_ := Aside0.mk (Kd.R_lower (Kd.R_new' (Kd.R_new' ho0 (Kd.R_lt (by (with_reducible repeat (first | apply Kd.R_alloc | apply Kd.R_drewN | apply Kd.R_drew)); exact HO276.out))) (Kd.R_lt (by (with_reducible repeat (first | apply Kd.R_alloc | apply Kd.R_drewN | apply Kd.R_drew)); exact HO280.out))) (below_size (by repeat (first | (with_reducible first | exact HB.out | apply below_alloc | apply pw_below_drewN | apply below_drew1) | exact HB.out)))); have n5_ := Aside0.mk (below_step (by repeat (first | (with_reducible first | exact HB.out | apply below_alloc | apply pw_below_drewN | apply below_drew1) | exact HB.out)) hb); clear HO268; clear HO272; clear HO276; clear HO280; clear HB; have HO268 := n0_; have HO272 := n1_; have HO276 := n2_; have HO280 := n3_; have HO293 := n4_; have HB := n5_; clear n0_ n1_ n2_ n3_ n4_ n5_; (try clear hb); (try clear hb2); (try clear hk); (try clear hi); (try clear ho0); obtain ⟨Ao79, co79, eo79⟩ := Kd.R_slice HO293.out; subst eo79) | (go_at_call 18; (with_reducible refine (marchlandref03_Same.calls k _ _ t291 _ _ y262 t294 _ ?side1 ?side2 ?side3 ?side4 A65.out).mono ?_); (case side1 => repeat (first | exact (Kd.R_reads' HO293.out).2.2 | (with_reducible refine Kd.C_alloc ?_ _) | (with_reducible refine Kd.C_drewN ?_ _) | (with_reducible refine Kd.C_drew ?_))); (case side2 => exact (Kd.R_reads' HO293.out).2.1); (case side3 => repeat (first | exact (Kd.C_below HR265.out HB.out) | (with_reducible refine Kd.C_alloc ?_ _) | (with_reducible refine Kd.C_drewN ?_ _) | (with_reducible refine Kd.C_drew ?_))); (case side4 => exact HC265.out); rintro e w' ⟨rfl, ⟨nd, rfl⟩⟩))
        go_ret
        exact ⟨by first | rfl | (simp [errW_none, errW_some] <;> rfl) | (simp only [← hji2]; first | rfl | (simp [errW_none, errW_some] <;> rfl)) | (simp [*, errW_none, errW_some] <;> rfl), by repeat (first | (with_reducible first | exact HB.out | apply below_alloc | apply pw_below_drewN | apply below_drew1) | exact HB.out)⟩
       ·rw [if_neg c63] at H
        have c63b0 : (t289 == t290) = false := by simpa using c63
        (try (have c63b1 : decide (t289 = t290) = false := by simpa using c63))
        (try (have c63b2 : (t289 == t290) = false := by simpa using c63))
        (try (have c63b3 : ¬ (t289 = t290) := by simpa using c63))
        clear c63
        obtain rfl := Option.some.inj H
        have q80 : ((ji2) : Int) ≤ ((l0.length : Int) : Int) := of_decide_eq_true (by first | (with_reducible assumption) | assumption)
        obtain ⟨i080, hi080, _, hsz80, _⟩ := info_parts info40
        have hroom80 : l0.length ≤ c0 := HC0.out
        have hC80 : Kd.C k40 _ A0 l0.length l0 := HR0.out
        have hcut80 := cut_to (P := Try.prog) 22 40 .i64 Try.underlying22 hi080 A0 l0.length c0 (ji2) (of_decide_eq_true (by first | (with_reducible assumption) | assumption)) q80 hroom80
        have hr80 := Kd.C_take (m := ((ji2) : Int).toNat) hC80 (by omega)
        have hy80 : y262.length = ((ji2) : Int).toNat := (by rw [Ny262.out, List.length_take]; omega)
        rw [← Ny262.out] at hr80
        rw [← hy80] at hcut80
        have HR265 := Aside0.mk hr80
        have HC265 := Aside0.mk (show y262.length ≤ c0 from by omega)
        clear hr80 hC80 hroom80 hi080 hsz80
        have KY80 := Aside0.mk hy80
        clear hy80
        replace q80 := eq_true q80
        go_enter Try.func3, Try.ntmps3
        go_wp2_with (first | ((with_reducible refine gate_callee (f := 14) rfl ?_); refine goesL_ (some 14) rfl rfl Try.func14 (by kernel_rfl) rfl #[.slice A0 y262.length c0] rfl (by (try simp only [List.map_toArray, List.map_cons, List.map_nil]); first | done | rfl | (simp only [List.length_drop, List.length_take]; rfl)) ?_; (with_reducible refine (marchlandlaw03_To.calls k _ _ y262 t266 _ ?side1 ?side2 A5.out).mono ?_); (case side1 => repeat (first | exact HR265.out | (with_reducible refine Kd.C_alloc ?_ _) | (with_reducible refine Kd.C_drewN ?_ _) | (with_reducible refine Kd.C_drew ?_))); (case side2 => exact HC265.out); rintro e w81 ⟨v267, rfl, ho0, hb⟩; refine ⟨_, rfl, ?_⟩; have n0_ := Aside0.mk (Kd.R_lower ho0 (below_size (by repeat (first | (with_reducible first | exact HB.out | apply below_alloc | apply pw_below_drewN | apply below_drew1) | exact HB.out)))); have n1_ := Aside0.mk (below_step (by repeat (first | (with_reducible first | exact HB.out | apply below_alloc | apply pw_below_drewN | apply below_drew1) | exact HB.out)) hb); clear HB; have HO268 := n0_; have HB := n1_; clear n0_ n1_; (try clear hb); (try clear hb2); (try clear hk); (try clear hi); (try clear ho0); obtain ⟨Ao82, co82, eo82⟩ := Kd.R_slice HO268.out; subst eo82) | ((with_reducible refine gate_callee (f := 15) rfl ?_); refine goesL_ (some 17) rfl rfl Try.func15 (by kernel_rfl) rfl #[.slice Ao82 t266.length co82] rfl (by (try simp only [List.map_toArray, List.map_cons, List.map_nil]); first | done | rfl | (simp only [List.length_drop, List.length_take]; rfl)) ?_; (with_reducible refine (batch_Pack.calls k _ _ t266 t269 t270 _ ?side1 ?side2 A6.out).mono ?_); (case side1 => repeat (first | exact (Kd.R_reads' HO268.out).2.2 | (with_reducible refine Kd.C_alloc ?_ _) | (with_reducible refine Kd.C_drewN ?_ _) | (with_reducible refine Kd.C_drew ?_))); (case side2 => exact (Kd.R_reads' HO268.out).2.1); rintro e w83 ⟨v271, rfl, ho0, hb⟩; refine ⟨_, rfl, ?_⟩; have n0_ := Aside0.mk (Kd.R_elder' (by (with_reducible repeat (first | apply Kd.R_alloc | apply Kd.R_drewN | apply Kd.R_drew)); exact HO268.out) (Kd.R_base ho0) hb); have n1_ := Aside0.mk (Kd.R_lower (Kd.R_new' ho0 (Kd.R_lt (by (with_reducible repeat (first | apply Kd.R_alloc | apply Kd.R_drewN | apply Kd.R_drew)); exact HO268.out))) (below_size (by repeat (first | (with_reducible first | exact HB.out | apply below_alloc | apply pw_below_drewN | apply below_drew1) | exact HB.out)))); have n2_ := Aside0.mk (below_step (by repeat (first | (with_reducible first | exact HB.out | apply below_alloc | apply pw_below_drewN | apply below_drew1) | exact HB.out)) hb); clear HO268; clear HB; have HO268 := n0_; have HO272 := n1_; have HB := n2_; clear n0_ n1_ n2_; (try clear hb); (try clear hb2); (try clear hk); (try clear hi); (try clear ho0)) | ((with_reducible refine gate_callee (f := 16) rfl ?_); refine goesL_ (some 22) rfl rfl Try.func16 (by kernel_rfl) rfl #[.slice A0 y262.length c0] rfl (by (try simp only [List.map_toArray, List.map_cons, List.map_nil]); first | done | rfl | (simp only [List.length_drop, List.length_take]; rfl)) ?_; (with_reducible refine (marchlandref03_Pack.calls k _ _ y262 t273 t274 _ ?side1 ?side2 A7.out).mono ?_); (case side1 => repeat (first | exact (Kd.C_below HR265.out HB.out) | (with_reducible refine Kd.C_alloc ?_ _) | (with_reducible refine Kd.C_drewN ?_ _) | (with_reducible refine Kd.C_drew ?_))); (case side2 => exact HC265.out); rintro e w84 ⟨v275, rfl, ho0, hb⟩; refine ⟨_, rfl, ?_⟩; have n0_ := Aside0.mk (Kd.R_below (by (with_reducible repeat (first | apply Kd.R_alloc | apply Kd.R_drewN | apply Kd.R_drew)); exact HO268.out) hb); have n1_ := Aside0.mk (Kd.R_below (by (with_reducible repeat (first | apply Kd.R_alloc | apply Kd.R_drewN | apply Kd.R_drew)); exact HO272.out) hb); have n2_ := Aside0.mk (Kd.R_lower ho0 (below_size (by repeat (first | (with_reducible first | exact HB.out | apply below_alloc | apply pw_below_drewN | apply below_drew1) | exact HB.out)))); have n3_ := Aside0.mk (below_step (by repeat (first | (with_reducible first | exact HB.out | apply below_alloc | apply pw_below_drewN | apply below_drew1) | exact HB.out)) hb); clear HO268; clear HO272; clear HB; have HO268 := n0_; have HO272 := n1_; have HO276 := n2_; have HB := n3_; clear n0_ n1_ n2_ n3_; (try clear hb); (try clear hb2); (try clear hk); (try clear hi); (try clear ho0)) | ((with_reducible refine gate_callee (f := 17) rfl ?_); refine goesL_ (some 25) rfl rfl Try.func17 (by kernel_rfl) rfl #[] rfl (by (try simp only [List.map_toArray, List.map_cons, List.map_nil]); first | done | rfl | (simp only [List.length_drop, List.length_take]; rfl)) ?_; (with_reducible refine (marchlandlaw03_told.calls k  true _ A8.out).mono ?_); rintro e w85 ⟨rfl, hb⟩; refine ⟨_, rfl, ?_⟩; have n0_ := Aside0.mk (Kd.R_below (by (with_reducible repeat (first | apply Kd.R_alloc | apply Kd.R_drewN | apply Kd.R_drew)); exact HO268.out) hb); have n1_ := Aside0.mk (Kd.R_below (by (with_reducible repeat (first | apply Kd.R_alloc | apply Kd.R_drewN | apply Kd.R_drew)); exact HO272.out) hb); have n2_ := Aside0.mk (Kd.R_below (by (with_reducible repeat (first | apply Kd.R_alloc | apply Kd.R_drewN | apply Kd.R_drew)); exact HO276.out) hb); have n3_ := Aside0.mk (below_step (by repeat (first | (with_reducible first | exact HB.out | apply below_alloc | apply pw_below_drewN | apply below_drew1) | exact HB.out)) hb); clear HO268; clear HO272; clear HO276; clear HB; have HO268 := n0_; have HO272 := n1_; have HO276 := n2_; have HB := n3_; clear n0_ n1_ n2_ n3_; (try clear hb); (try clear hb2); (try clear hk); (try clear hi); obtain ⟨Ao86, co86, eo86⟩ := Kd.R_slice HO272.out; subst eo86) | (go_at_call 19; (with_reducible refine (marchlandlaw03_From.calls k _ _ t269 t278 _ ?side1 ?side2 A11.out).mono ?_); (case side1 => repeat (first | exact (Kd.R_reads' HO272.out).2.2 | (with_reducible refine Kd.C_alloc ?_ _) | (with_reducible refine Kd.C_drewN ?_ _) | (with_reducible refine Kd.C_drew ?_))); (case side2 => exact (Kd.R_reads' HO272.out).2.1); rintro e w87 ⟨v279, rfl, ho0, hb⟩; have n0_ := Aside0.mk (Kd.R_below (by (with_reducible repeat (first | apply Kd.R_alloc | apply Kd.R_drewN | apply Kd.R_drew)); exact HO268.out) hb); have n1_ := Aside0.mk (Kd.R_below (by (with_reducible repeat (first | apply Kd.R_alloc | apply Kd.R_drewN | apply Kd.R_drew)); exact HO272.out) hb); have n2_ := Aside0.mk (Kd.R_elder' (by (with_reducible repeat (first | apply Kd.R_alloc | apply Kd.R_drewN | apply Kd.R_drew)); exact HO276.out) (Kd.R_base ho0) hb); have n3_ := Aside0.mk (Kd.R_lower (Kd.R_new' ho0 (Kd.R_lt (by (with_reducible repeat (first | apply Kd.R_alloc | apply Kd.R_drewN | apply Kd.R_drew)); exact HO276.out))) (below_size (by repeat (first | (with_reducible first | exact HB.out | apply below_alloc | apply pw_below_drewN | apply below_drew1) | exact HB.out)))); have n4_ := Aside0.mk (below_step (by repeat (first | (with_reducible first | exact HB.out | apply below_alloc | apply pw_below_drewN | apply below_drew1) | exact HB.out)) hb); clear HO268; clear HO272; clear HO276; clear HB; have HO268 := n0_; have HO272 := n1_; have HO276 := n2_; have HO280 := n3_; have HB := n4_; clear n0_ n1_ n2_ n3_ n4_; (try clear hb); (try clear hb2); (try clear hk); (try clear hi); (try clear ho0); obtain ⟨Ao88, co88, eo88⟩ := Kd.R_slice HO280.out; subst eo88; obtain ⟨Ao89, co89, eo89⟩ := Kd.R_slice HO276.out; subst eo89) | (go_at_call 18; (with_reducible refine (marchlandref03_Same.calls k _ _ t278 _ _ t273 true _ ?side1 ?side2 ?side3 ?side4 A12.out).mono ?_); (case side1 => repeat (first | exact (Kd.R_reads' HO280.out).2.2 | (with_reducible refine Kd.C_alloc ?_ _) | (with_reducible refine Kd.C_drewN ?_ _) | (with_reducible refine Kd.C_drew ?_))); (case side2 => exact (Kd.R_reads' HO280.out).2.1); (case side3 => repeat (first | exact (Kd.R_reads' HO276.out).2.2 | (with_reducible refine Kd.C_alloc ?_ _) | (with_reducible refine Kd.C_drewN ?_ _) | (with_reducible refine Kd.C_drew ?_))); (case side4 => exact (Kd.R_reads' HO276.out).2.1); rintro e w' ⟨rfl, ⟨nd, rfl⟩⟩) | (go_at_call 20; (with_reducible refine (batch_Right.calls k _ _ t266 t289 _ ?side1 ?side2 A61.out).mono ?_); (case side1 => repeat (first | exact (Kd.R_reads' HO268.out).2.2 | (with_reducible refine Kd.C_alloc ?_ _) | (with_reducible refine Kd.C_drewN ?_ _) | (with_reducible refine Kd.C_drew ?_))); (case side2 => exact (Kd.R_reads' HO268.out).2.1); rintro e w90 ⟨rfl, hb⟩; have n0_ := Aside0.mk (Kd.R_below (by (with_reducible repeat (first | apply Kd.R_alloc | apply Kd.R_drewN | apply Kd.R_drew)); exact HO268.out) hb); have n1_ := Aside0.mk (Kd.R_below (by (with_reducible repeat (first | apply Kd.R_alloc | apply Kd.R_drewN | apply Kd.R_drew)); exact HO272.out) hb); have n2_ := Aside0.mk (Kd.R_below (by (with_reducible repeat (first | apply Kd.R_alloc | apply Kd.R_drewN | apply Kd.R_drew)); exact HO276.out) hb); have n3_ := Aside0.mk (Kd.R_below (by (with_reducible repeat (first | apply Kd.R_alloc | apply Kd.R_drewN | apply Kd.R_drew)); exact HO280.out) hb); have n4_ := Aside0.mk (below_step (by repeat (first | (with_reducible first | exact HB.out | apply below_alloc | apply pw_below_drewN | apply below_drew1) | exact HB.out)) hb); clear HO268; clear HO272; clear HO276; clear HO280; clear HB; have HO268 := n0_; have HO272 := n1_; have HO276 := n2_; have HO280 := n3_; have HB := n4_; clear n0_ n1_ n2_ n3_ n4_; (try clear hb); (try clear hb2); (try clear hk); (try clear hi)) | (go_at_call 21; (with_reducible refine (marchlandref03_Right.calls k _ _ y262 t290 _ ?side1 ?side2 A62.out).mono ?_); (case side1 => repeat (first | exact (Kd.C_below HR265.out HB.out) | (with_reducible refine Kd.C_alloc ?_ _) | (with_reducible refine Kd.C_drewN ?_ _) | (with_reducible refine Kd.C_drew ?_))); (case side2 => exact HC265.out); rintro e w91 ⟨rfl, hb⟩; have n0_ := Aside0.mk (Kd.R_below (by (with_reducible repeat (first | apply Kd.R_alloc | apply Kd.R_drewN | apply Kd.R_drew)); exact HO268.out) hb); have n1_ := Aside0.mk (Kd.R_below (by (with_reducible repeat (first | apply Kd.R_alloc | apply Kd.R_drewN | apply Kd.R_drew)); exact HO272.out) hb); have n2_ := Aside0.mk (Kd.R_below (by (with_reducible repeat (first | apply Kd.R_alloc | apply Kd.R_drewN | apply Kd.R_drew)); exact HO276.out) hb); have n3_ := Aside0.mk (Kd.R_below (by (with_reducible repeat (first | apply Kd.R_alloc | apply Kd.R_drewN | apply Kd.R_drew)); exact HO280.out) hb); have n4_ := Aside0.mk (below_step (by repeat (first | (with_reducible first | exact HB.out | apply below_alloc | apply pw_below_drewN | apply below_drew1) | exact HB.out)) hb); clear HO268; clear HO272; clear HO276; clear HO280; clear HB; have HO268 := n0_; have HO272 := n1_; have HO276 := n2_; have HO280 := n3_; have HB := n4_; clear n0_ n1_ n2_ n3_ n4_; (try clear hb); (try clear hb2); (try clear hk); (try clear hi)))
        go_ret
        exact ⟨by first | rfl | (simp [errW_none, errW_some] <;> rfl) | (simp only [← hji2]; first | rfl | (simp [errW_none, errW_some] <;> rfl)) | (simp [*, errW_none, errW_some] <;> rfl), by repeat (first | (with_reducible first | exact HB.out | apply below_alloc | apply pw_below_drewN | apply below_drew1) | exact HB.out)⟩
     ·replace c13 := Bool.eq_false_iff.mpr c13
      subst c13
      have H1 : (some false) = some r := by rw [if_neg (show ¬ (false = true) by decide)] at H; exact H
      clear H
      have H := H1
      clear H1
      obtain rfl := Option.some.inj H
      have q92 : ((ji2) : Int) ≤ ((l0.length : Int) : Int) := of_decide_eq_true (by first | (with_reducible assumption) | assumption)
      obtain ⟨i092, hi092, _, hsz92, _⟩ := info_parts info40
      have hroom92 : l0.length ≤ c0 := HC0.out
      have hC92 : Kd.C k40 _ A0 l0.length l0 := HR0.out
      have hcut92 := cut_to (P := Try.prog) 22 40 .i64 Try.underlying22 hi092 A0 l0.length c0 (ji2) (of_decide_eq_true (by first | (with_reducible assumption) | assumption)) q92 hroom92
      have hr92 := Kd.C_take (m := ((ji2) : Int).toNat) hC92 (by omega)
      have hy92 : y262.length = ((ji2) : Int).toNat := (by rw [Ny262.out, List.length_take]; omega)
      rw [← Ny262.out] at hr92
      rw [← hy92] at hcut92
      have HR265 := Aside0.mk hr92
      have HC265 := Aside0.mk (show y262.length ≤ c0 from by omega)
      clear hr92 hC92 hroom92 hi092 hsz92
      have KY92 := Aside0.mk hy92
      clear hy92
      replace q92 := eq_true q92
      go_enter Try.func3, Try.ntmps3
      go_wp2_with (first | ((with_reducible refine gate_callee (f := 14) rfl ?_); refine goesL_ (some 14) rfl rfl Try.func14 (by kernel_rfl) rfl #[.slice A0 y262.length c0] rfl (by (try simp only [List.map_toArray, List.map_cons, List.map_nil]); first | done | rfl | (simp only [List.length_drop, List.length_take]; rfl)) ?_; (with_reducible refine (marchlandlaw03_To.calls k _ _ y262 t266 _ ?side1 ?side2 A5.out).mono ?_); (case side1 => repeat (first | exact HR265.out | (with_reducible refine Kd.C_alloc ?_ _) | (with_reducible refine Kd.C_drewN ?_ _) | (with_reducible refine Kd.C_drew ?_))); (case side2 => exact HC265.out); rintro e w93 ⟨v267, rfl, ho0, hb⟩; refine ⟨_, rfl, ?_⟩; have n0_ := Aside0.mk (Kd.R_lower ho0 (below_size (by repeat (first | (with_reducible first | exact HB.out | apply below_alloc | apply pw_below_drewN | apply below_drew1) | exact HB.out)))); have n1_ := Aside0.mk (below_step (by repeat (first | (with_reducible first | exact HB.out | apply below_alloc | apply pw_below_drewN | apply below_drew1) | exact HB.out)) hb); clear HB; have HO268 := n0_; have HB := n1_; clear n0_ n1_; (try clear hb); (try clear hb2); (try clear hk); (try clear hi); (try clear ho0); obtain ⟨Ao94, co94, eo94⟩ := Kd.R_slice HO268.out; subst eo94) | ((with_reducible refine gate_callee (f := 15) rfl ?_); refine goesL_ (some 17) rfl rfl Try.func15 (by kernel_rfl) rfl #[.slice Ao94 t266.length co94] rfl (by (try simp only [List.map_toArray, List.map_cons, List.map_nil]); first | done | rfl | (simp only [List.length_drop, List.length_take]; rfl)) ?_; (with_reducible refine (batch_Pack.calls k _ _ t266 t269 t270 _ ?side1 ?side2 A6.out).mono ?_); (case side1 => repeat (first | exact (Kd.R_reads' HO268.out).2.2 | (with_reducible refine Kd.C_alloc ?_ _) | (with_reducible refine Kd.C_drewN ?_ _) | (with_reducible refine Kd.C_drew ?_))); (case side2 => exact (Kd.R_reads' HO268.out).2.1); rintro e w95 ⟨v271, rfl, ho0, hb⟩; refine ⟨_, rfl, ?_⟩; have n0_ := Aside0.mk (Kd.R_elder' (by (with_reducible repeat (first | apply Kd.R_alloc | apply Kd.R_drewN | apply Kd.R_drew)); exact HO268.out) (Kd.R_base ho0) hb); have n1_ := Aside0.mk (Kd.R_lower (Kd.R_new' ho0 (Kd.R_lt (by (with_reducible repeat (first | apply Kd.R_alloc | apply Kd.R_drewN | apply Kd.R_drew)); exact HO268.out))) (below_size (by repeat (first | (with_reducible first | exact HB.out | apply below_alloc | apply pw_below_drewN | apply below_drew1) | exact HB.out)))); have n2_ := Aside0.mk (below_step (by repeat (first | (with_reducible first | exact HB.out | apply below_alloc | apply pw_below_drewN | apply below_drew1) | exact HB.out)) hb); clear HO268; clear HB; have HO268 := n0_; have HO272 := n1_; have HB := n2_; clear n0_ n1_ n2_; (try clear hb); (try clear hb2); (try clear hk); (try clear hi); (try clear ho0)) | ((with_reducible refine gate_callee (f := 16) rfl ?_); refine goesL_ (some 22) rfl rfl Try.func16 (by kernel_rfl) rfl #[.slice A0 y262.length c0] rfl (by (try simp only [List.map_toArray, List.map_cons, List.map_nil]); first | done | rfl | (simp only [List.length_drop, List.length_take]; rfl)) ?_; (with_reducible refine (marchlandref03_Pack.calls k _ _ y262 t273 t274 _ ?side1 ?side2 A7.out).mono ?_); (case side1 => repeat (first | exact (Kd.C_below HR265.out HB.out) | (with_reducible refine Kd.C_alloc ?_ _) | (with_reducible refine Kd.C_drewN ?_ _) | (with_reducible refine Kd.C_drew ?_))); (case side2 => exact HC265.out); rintro e w96 ⟨v275, rfl, ho0, hb⟩; refine ⟨_, rfl, ?_⟩; have n0_ := Aside0.mk (Kd.R_below (by (with_reducible repeat (first | apply Kd.R_alloc | apply Kd.R_drewN | apply Kd.R_drew)); exact HO268.out) hb); have n1_ := Aside0.mk (Kd.R_below (by (with_reducible repeat (first | apply Kd.R_alloc | apply Kd.R_drewN | apply Kd.R_drew)); exact HO272.out) hb); have n2_ := Aside0.mk (Kd.R_lower ho0 (below_size (by repeat (first | (with_reducible first | exact HB.out | apply below_alloc | apply pw_below_drewN | apply below_drew1) | exact HB.out)))); have n3_ := Aside0.mk (below_step (by repeat (first | (with_reducible first | exact HB.out | apply below_alloc | apply pw_below_drewN | apply below_drew1) | exact HB.out)) hb); clear HO268; clear HO272; clear HB; have HO268 := n0_; have HO272 := n1_; have HO276 := n2_; have HB := n3_; clear n0_ n1_ n2_ n3_; (try clear hb); (try clear hb2); (try clear hk); (try clear hi); (try clear ho0)) | ((with_reducible refine gate_callee (f := 17) rfl ?_); refine goesL_ (some 25) rfl rfl Try.func17 (by kernel_rfl) rfl #[] rfl (by (try simp only [List.map_toArray, List.map_cons, List.map_nil]); first | done | rfl | (simp only [List.length_drop, List.length_take]; rfl)) ?_; (with_reducible refine (marchlandlaw03_told.calls k  true _ A8.out).mono ?_); rintro e w97 ⟨rfl, hb⟩; refine ⟨_, rfl, ?_⟩; have n0_ := Aside0.mk (Kd.R_below (by (with_reducible repeat (first | apply Kd.R_alloc | apply Kd.R_drewN | apply Kd.R_drew)); exact HO268.out) hb); have n1_ := Aside0.mk (Kd.R_below (by (with_reducible repeat (first | apply Kd.R_alloc | apply Kd.R_drewN | apply Kd.R_drew)); exact HO272.out) hb); have n2_ := Aside0.mk (Kd.R_below (by (with_reducible repeat (first | apply Kd.R_alloc | apply Kd.R_drewN | apply Kd.R_drew)); exact HO276.out) hb); have n3_ := Aside0.mk (below_step (by repeat (first | (with_reducible first | exact HB.out | apply below_alloc | apply pw_below_drewN | apply below_drew1) | exact HB.out)) hb); clear HO268; clear HO272; clear HO276; clear HB; have HO268 := n0_; have HO272 := n1_; have HO276 := n2_; have HB := n3_; clear n0_ n1_ n2_ n3_; (try clear hb); (try clear hb2); (try clear hk); (try clear hi); obtain ⟨Ao98, co98, eo98⟩ := Kd.R_slice HO272.out; subst eo98) | (go_at_call 19; (with_reducible refine (marchlandlaw03_From.calls k _ _ t269 t278 _ ?side1 ?side2 A11.out).mono ?_); (case side1 => repeat (first | exact (Kd.R_reads' HO272.out).2.2 | (with_reducible refine Kd.C_alloc ?_ _) | (with_reducible refine Kd.C_drewN ?_ _) | (with_reducible refine Kd.C_drew ?_))); (case side2 => exact (Kd.R_reads' HO272.out).2.1); rintro e w99 ⟨v279, rfl, ho0, hb⟩; have n0_ := Aside0.mk (Kd.R_below (by (with_reducible repeat (first | apply Kd.R_alloc | apply Kd.R_drewN | apply Kd.R_drew)); exact HO268.out) hb); have n1_ := Aside0.mk (Kd.R_below (by (with_reducible repeat (first | apply Kd.R_alloc | apply Kd.R_drewN | apply Kd.R_drew)); exact HO272.out) hb); have n2_ := Aside0.mk (Kd.R_elder' (by (with_reducible repeat (first | apply Kd.R_alloc | apply Kd.R_drewN | apply Kd.R_drew)); exact HO276.out) (Kd.R_base ho0) hb); have n3_ := Aside0.mk (Kd.R_lower (Kd.R_new' ho0 (Kd.R_lt (by (with_reducible repeat (first | apply Kd.R_alloc | apply Kd.R_drewN | apply Kd.R_drew)); exact HO276.out))) (below_size (by repeat (first | (with_reducible first | exact HB.out | apply below_alloc | apply pw_below_drewN | apply below_drew1) | exact HB.out)))); have n4_ := Aside0.mk (below_step (by repeat (first | (with_reducible first | exact HB.out | apply below_alloc | apply pw_below_drewN | apply below_drew1) | exact HB.out)) hb); clear HO268; clear HO272; clear HO276; clear HB; have HO268 := n0_; have HO272 := n1_; have HO276 := n2_; have HO280 := n3_; have HB := n4_; clear n0_ n1_ n2_ n3_ n4_; (try clear hb); (try clear hb2); (try clear hk); (try clear hi); (try clear ho0); obtain ⟨Ao100, co100, eo100⟩ := Kd.R_slice HO280.out; subst eo100; obtain ⟨Ao101, co101, eo101⟩ := Kd.R_slice HO276.out; subst eo101) | (go_at_call 18; (with_reducible refine (marchlandref03_Same.calls k _ _ t278 _ _ t273 false _ ?side1 ?side2 ?side3 ?side4 A12.out).mono ?_); (case side1 => repeat (first | exact (Kd.R_reads' HO280.out).2.2 | (with_reducible refine Kd.C_alloc ?_ _) | (with_reducible refine Kd.C_drewN ?_ _) | (with_reducible refine Kd.C_drew ?_))); (case side2 => exact (Kd.R_reads' HO280.out).2.1); (case side3 => repeat (first | exact (Kd.R_reads' HO276.out).2.2 | (with_reducible refine Kd.C_alloc ?_ _) | (with_reducible refine Kd.C_drewN ?_ _) | (with_reducible refine Kd.C_drew ?_))); (case side4 => exact (Kd.R_reads' HO276.out).2.1); rintro e w' ⟨rfl, ⟨nd, rfl⟩⟩))
      go_ret
      exact ⟨by first | rfl | (simp [errW_none, errW_some] <;> rfl) | (simp only [← hji2]; first | rfl | (simp [errW_none, errW_some] <;> rfl)) | (simp [*, errW_none, errW_some] <;> rfl), by repeat (first | (with_reducible first | exact HB.out | apply below_alloc | apply pw_below_drewN | apply below_drew1) | exact HB.out)⟩
    ·rw [if_neg c10] at H
     have c10b0 : (t270 == t274) = false := beq_eq_false_iff_ne.mpr c10
     have c10b1 : (t270 != t274) = true := bne_iff_ne.mpr c10
     obtain rfl := Option.some.inj H
     have q102 : ((ji2) : Int) ≤ ((l0.length : Int) : Int) := of_decide_eq_true (by first | (with_reducible assumption) | assumption)
     obtain ⟨i0102, hi0102, _, hsz102, _⟩ := info_parts info40
     have hroom102 : l0.length ≤ c0 := HC0.out
     have hC102 : Kd.C k40 _ A0 l0.length l0 := HR0.out
     have hcut102 := cut_to (P := Try.prog) 22 40 .i64 Try.underlying22 hi0102 A0 l0.length c0 (ji2) (of_decide_eq_true (by first | (with_reducible assumption) | assumption)) q102 hroom102
     have hr102 := Kd.C_take (m := ((ji2) : Int).toNat) hC102 (by omega)
     have hy102 : y262.length = ((ji2) : Int).toNat := (by rw [Ny262.out, List.length_take]; omega)
     rw [← Ny262.out] at hr102
     rw [← hy102] at hcut102
     have HR265 := Aside0.mk hr102
     have HC265 := Aside0.mk (show y262.length ≤ c0 from by omega)
     clear hr102 hC102 hroom102 hi0102 hsz102
     have KY102 := Aside0.mk hy102
     clear hy102
     replace q102 := eq_true q102
     go_enter Try.func3, Try.ntmps3
     go_wp2_with (first | ((with_reducible refine gate_callee (f := 14) rfl ?_); refine goesL_ (some 14) rfl rfl Try.func14 (by kernel_rfl) rfl #[.slice A0 y262.length c0] rfl (by (try simp only [List.map_toArray, List.map_cons, List.map_nil]); first | done | rfl | (simp only [List.length_drop, List.length_take]; rfl)) ?_; (with_reducible refine (marchlandlaw03_To.calls k _ _ y262 t266 _ ?side1 ?side2 A5.out).mono ?_); (case side1 => repeat (first | exact HR265.out | (with_reducible refine Kd.C_alloc ?_ _) | (with_reducible refine Kd.C_drewN ?_ _) | (with_reducible refine Kd.C_drew ?_))); (case side2 => exact HC265.out); rintro e w103 ⟨v267, rfl, ho0, hb⟩; refine ⟨_, rfl, ?_⟩; have n0_ := Aside0.mk (Kd.R_lower ho0 (below_size (by repeat (first | (with_reducible first | exact HB.out | apply below_alloc | apply pw_below_drewN | apply below_drew1) | exact HB.out)))); have n1_ := Aside0.mk (below_step (by repeat (first | (with_reducible first | exact HB.out | apply below_alloc | apply pw_below_drewN | apply below_drew1) | exact HB.out)) hb); clear HB; have HO268 := n0_; have HB := n1_; clear n0_ n1_; (try clear hb); (try clear hb2); (try clear hk); (try clear hi); (try clear ho0); obtain ⟨Ao104, co104, eo104⟩ := Kd.R_slice HO268.out; subst eo104) | ((with_reducible refine gate_callee (f := 15) rfl ?_); refine goesL_ (some 17) rfl rfl Try.func15 (by kernel_rfl) rfl #[.slice Ao104 t266.length co104] rfl (by (try simp only [List.map_toArray, List.map_cons, List.map_nil]); first | done | rfl | (simp only [List.length_drop, List.length_take]; rfl)) ?_; (with_reducible refine (batch_Pack.calls k _ _ t266 t269 t270 _ ?side1 ?side2 A6.out).mono ?_); (case side1 => repeat (first | exact (Kd.R_reads' HO268.out).2.2 | (with_reducible refine Kd.C_alloc ?_ _) | (with_reducible refine Kd.C_drewN ?_ _) | (with_reducible refine Kd.C_drew ?_))); (case side2 => exact (Kd.R_reads' HO268.out).2.1); rintro e w105 ⟨v271, rfl, ho0, hb⟩; refine ⟨_, rfl, ?_⟩; have n0_ := Aside0.mk (Kd.R_elder' (by (with_reducible repeat (first | apply Kd.R_alloc | apply Kd.R_drewN | apply Kd.R_drew)); exact HO268.out) (Kd.R_base ho0) hb); have n1_ := Aside0.mk (Kd.R_lower (Kd.R_new' ho0 (Kd.R_lt (by (with_reducible repeat (first | apply Kd.R_alloc | apply Kd.R_drewN | apply Kd.R_drew)); exact HO268.out))) (below_size (by repeat (first | (with_reducible first | exact HB.out | apply below_alloc | apply pw_below_drewN | apply below_drew1) | exact HB.out)))); have n2_ := Aside0.mk (below_step (by repeat (first | (with_reducible first | exact HB.out | apply below_alloc | apply pw_below_drewN | apply below_drew1) | exact HB.out)) hb); clear HO268; clear HB; have HO268 := n0_; have HO272 := n1_; have HB := n2_; clear n0_ n1_ n2_; (try clear hb); (try clear hb2); (try clear hk); (try clear hi); (try clear ho0)) | ((with_reducible refine gate_callee (f := 16) rfl ?_); refine goesL_ (some 22) rfl rfl Try.func16 (by kernel_rfl) rfl #[.slice A0 y262.length c0] rfl (by (try simp only [List.map_toArray, List.map_cons, List.map_nil]); first | done | rfl | (simp only [List.length_drop, List.length_take]; rfl)) ?_; (with_reducible refine (marchlandref03_Pack.calls k _ _ y262 t273 t274 _ ?side1 ?side2 A7.out).mono ?_); (case side1 => repeat (first | exact (Kd.C_below HR265.out HB.out) | (with_reducible refine Kd.C_alloc ?_ _) | (with_reducible refine Kd.C_drewN ?_ _) | (with_reducible refine Kd.C_drew ?_))); (case side2 => exact HC265.out); rintro e w106 ⟨v275, rfl, ho0, hb⟩; refine ⟨_, rfl, ?_⟩; have n0_ := Aside0.mk (Kd.R_below (by (with_reducible repeat (first | apply Kd.R_alloc | apply Kd.R_drewN | apply Kd.R_drew)); exact HO268.out) hb); have n1_ := Aside0.mk (Kd.R_below (by (with_reducible repeat (first | apply Kd.R_alloc | apply Kd.R_drewN | apply Kd.R_drew)); exact HO272.out) hb); have n2_ := Aside0.mk (Kd.R_lower ho0 (below_size (by repeat (first | (with_reducible first | exact HB.out | apply below_alloc | apply pw_below_drewN | apply below_drew1) | exact HB.out)))); have n3_ := Aside0.mk (below_step (by repeat (first | (with_reducible first | exact HB.out | apply below_alloc | apply pw_below_drewN | apply below_drew1) | exact HB.out)) hb); clear HO268; clear HO272; clear HB; have HO268 := n0_; have HO272 := n1_; have HO276 := n2_; have HB := n3_; clear n0_ n1_ n2_ n3_; (try clear hb); (try clear hb2); (try clear hk); (try clear hi); (try clear ho0)) | ((with_reducible refine gate_callee (f := 17) rfl ?_); refine goesL_ (some 25) rfl rfl Try.func17 (by kernel_rfl) rfl #[] rfl (by (try simp only [List.map_toArray, List.map_cons, List.map_nil]); first | done | rfl | (simp only [List.length_drop, List.length_take]; rfl)) ?_; (with_reducible refine (marchlandlaw03_told.calls k  true _ A8.out).mono ?_); rintro e w107 ⟨rfl, hb⟩; refine ⟨_, rfl, ?_⟩; have n0_ := Aside0.mk (Kd.R_below (by (with_reducible repeat (first | apply Kd.R_alloc | apply Kd.R_drewN | apply Kd.R_drew)); exact HO268.out) hb); have n1_ := Aside0.mk (Kd.R_below (by (with_reducible repeat (first | apply Kd.R_alloc | apply Kd.R_drewN | apply Kd.R_drew)); exact HO272.out) hb); have n2_ := Aside0.mk (Kd.R_below (by (with_reducible repeat (first | apply Kd.R_alloc | apply Kd.R_drewN | apply Kd.R_drew)); exact HO276.out) hb); have n3_ := Aside0.mk (below_step (by repeat (first | (with_reducible first | exact HB.out | apply below_alloc | apply pw_below_drewN | apply below_drew1) | exact HB.out)) hb); clear HO268; clear HO272; clear HO276; clear HB; have HO268 := n0_; have HO272 := n1_; have HO276 := n2_; have HB := n3_; clear n0_ n1_ n2_ n3_; (try clear hb); (try clear hb2); (try clear hk); (try clear hi)))
     go_ret
     exact ⟨by first | rfl | (simp [errW_none, errW_some] <;> rfl) | (simp only [← hji2]; first | rfl | (simp [errW_none, errW_some] <;> rfl)) | (simp [*, errW_none, errW_some] <;> rfl), by repeat (first | (with_reducible first | exact HB.out | apply below_alloc | apply pw_below_drewN | apply below_drew1) | exact HB.out)⟩
   ·replace c9 := Bool.eq_false_iff.mpr c9
    subst c9
    have H1 : (some false) = some r := by rw [if_neg (show ¬ (false = true) by decide)] at H; exact H
    clear H
    have H := H1
    clear H1
    obtain rfl := Option.some.inj H
    have q108 : ((ji2) : Int) ≤ ((l0.length : Int) : Int) := of_decide_eq_true (by first | (with_reducible assumption) | assumption)
    obtain ⟨i0108, hi0108, _, hsz108, _⟩ := info_parts info40
    have hroom108 : l0.length ≤ c0 := HC0.out
    have hC108 : Kd.C k40 _ A0 l0.length l0 := HR0.out
    have hcut108 := cut_to (P := Try.prog) 22 40 .i64 Try.underlying22 hi0108 A0 l0.length c0 (ji2) (of_decide_eq_true (by first | (with_reducible assumption) | assumption)) q108 hroom108
    have hr108 := Kd.C_take (m := ((ji2) : Int).toNat) hC108 (by omega)
    have hy108 : y262.length = ((ji2) : Int).toNat := (by rw [Ny262.out, List.length_take]; omega)
    rw [← Ny262.out] at hr108
    rw [← hy108] at hcut108
    have HR265 := Aside0.mk hr108
    have HC265 := Aside0.mk (show y262.length ≤ c0 from by omega)
    clear hr108 hC108 hroom108 hi0108 hsz108
    have KY108 := Aside0.mk hy108
    clear hy108
    replace q108 := eq_true q108
    go_enter Try.func3, Try.ntmps3
    go_wp2_with (first | ((with_reducible refine gate_callee (f := 14) rfl ?_); refine goesL_ (some 14) rfl rfl Try.func14 (by kernel_rfl) rfl #[.slice A0 y262.length c0] rfl (by (try simp only [List.map_toArray, List.map_cons, List.map_nil]); first | done | rfl | (simp only [List.length_drop, List.length_take]; rfl)) ?_; (with_reducible refine (marchlandlaw03_To.calls k _ _ y262 t266 _ ?side1 ?side2 A5.out).mono ?_); (case side1 => repeat (first | exact HR265.out | (with_reducible refine Kd.C_alloc ?_ _) | (with_reducible refine Kd.C_drewN ?_ _) | (with_reducible refine Kd.C_drew ?_))); (case side2 => exact HC265.out); rintro e w109 ⟨v267, rfl, ho0, hb⟩; refine ⟨_, rfl, ?_⟩; have n0_ := Aside0.mk (Kd.R_lower ho0 (below_size (by repeat (first | (with_reducible first | exact HB.out | apply below_alloc | apply pw_below_drewN | apply below_drew1) | exact HB.out)))); have n1_ := Aside0.mk (below_step (by repeat (first | (with_reducible first | exact HB.out | apply below_alloc | apply pw_below_drewN | apply below_drew1) | exact HB.out)) hb); clear HB; have HO268 := n0_; have HB := n1_; clear n0_ n1_; (try clear hb); (try clear hb2); (try clear hk); (try clear hi); (try clear ho0); obtain ⟨Ao110, co110, eo110⟩ := Kd.R_slice HO268.out; subst eo110) | ((with_reducible refine gate_callee (f := 15) rfl ?_); refine goesL_ (some 17) rfl rfl Try.func15 (by kernel_rfl) rfl #[.slice Ao110 t266.length co110] rfl (by (try simp only [List.map_toArray, List.map_cons, List.map_nil]); first | done | rfl | (simp only [List.length_drop, List.length_take]; rfl)) ?_; (with_reducible refine (batch_Pack.calls k _ _ t266 t269 t270 _ ?side1 ?side2 A6.out).mono ?_); (case side1 => repeat (first | exact (Kd.R_reads' HO268.out).2.2 | (with_reducible refine Kd.C_alloc ?_ _) | (with_reducible refine Kd.C_drewN ?_ _) | (with_reducible refine Kd.C_drew ?_))); (case side2 => exact (Kd.R_reads' HO268.out).2.1); rintro e w111 ⟨v271, rfl, ho0, hb⟩; refine ⟨_, rfl, ?_⟩; have n0_ := Aside0.mk (Kd.R_elder' (by (with_reducible repeat (first | apply Kd.R_alloc | apply Kd.R_drewN | apply Kd.R_drew)); exact HO268.out) (Kd.R_base ho0) hb); have n1_ := Aside0.mk (Kd.R_lower (Kd.R_new' ho0 (Kd.R_lt (by (with_reducible repeat (first | apply Kd.R_alloc | apply Kd.R_drewN | apply Kd.R_drew)); exact HO268.out))) (below_size (by repeat (first | (with_reducible first | exact HB.out | apply below_alloc | apply pw_below_drewN | apply below_drew1) | exact HB.out)))); have n2_ := Aside0.mk (below_step (by repeat (first | (with_reducible first | exact HB.out | apply below_alloc | apply pw_below_drewN | apply below_drew1) | exact HB.out)) hb); clear HO268; clear HB; have HO268 := n0_; have HO272 := n1_; have HB := n2_; clear n0_ n1_ n2_; (try clear hb); (try clear hb2); (try clear hk); (try clear hi); (try clear ho0)) | ((with_reducible refine gate_callee (f := 16) rfl ?_); refine goesL_ (some 22) rfl rfl Try.func16 (by kernel_rfl) rfl #[.slice A0 y262.length c0] rfl (by (try simp only [List.map_toArray, List.map_cons, List.map_nil]); first | done | rfl | (simp only [List.length_drop, List.length_take]; rfl)) ?_; (with_reducible refine (marchlandref03_Pack.calls k _ _ y262 t273 t274 _ ?side1 ?side2 A7.out).mono ?_); (case side1 => repeat (first | exact (Kd.C_below HR265.out HB.out) | (with_reducible refine Kd.C_alloc ?_ _) | (with_reducible refine Kd.C_drewN ?_ _) | (with_reducible refine Kd.C_drew ?_))); (case side2 => exact HC265.out); rintro e w112 ⟨v275, rfl, ho0, hb⟩; refine ⟨_, rfl, ?_⟩; have n0_ := Aside0.mk (Kd.R_below (by (with_reducible repeat (first | apply Kd.R_alloc | apply Kd.R_drewN | apply Kd.R_drew)); exact HO268.out) hb); have n1_ := Aside0.mk (Kd.R_below (by (with_reducible repeat (first | apply Kd.R_alloc | apply Kd.R_drewN | apply Kd.R_drew)); exact HO272.out) hb); have n2_ := Aside0.mk (Kd.R_lower ho0 (below_size (by repeat (first | (with_reducible first | exact HB.out | apply below_alloc | apply pw_below_drewN | apply below_drew1) | exact HB.out)))); have n3_ := Aside0.mk (below_step (by repeat (first | (with_reducible first | exact HB.out | apply below_alloc | apply pw_below_drewN | apply below_drew1) | exact HB.out)) hb); clear HO268; clear HO272; clear HB; have HO268 := n0_; have HO272 := n1_; have HO276 := n2_; have HB := n3_; clear n0_ n1_ n2_ n3_; (try clear hb); (try clear hb2); (try clear hk); (try clear hi); (try clear ho0)) | ((with_reducible refine gate_callee (f := 17) rfl ?_); refine goesL_ (some 25) rfl rfl Try.func17 (by kernel_rfl) rfl #[] rfl (by (try simp only [List.map_toArray, List.map_cons, List.map_nil]); first | done | rfl | (simp only [List.length_drop, List.length_take]; rfl)) ?_; (with_reducible refine (marchlandlaw03_told.calls k  false _ A8.out).mono ?_); rintro e w113 ⟨rfl, hb⟩; refine ⟨_, rfl, ?_⟩; have n0_ := Aside0.mk (Kd.R_below (by (with_reducible repeat (first | apply Kd.R_alloc | apply Kd.R_drewN | apply Kd.R_drew)); exact HO268.out) hb); have n1_ := Aside0.mk (Kd.R_below (by (with_reducible repeat (first | apply Kd.R_alloc | apply Kd.R_drewN | apply Kd.R_drew)); exact HO272.out) hb); have n2_ := Aside0.mk (Kd.R_below (by (with_reducible repeat (first | apply Kd.R_alloc | apply Kd.R_drewN | apply Kd.R_drew)); exact HO276.out) hb); have n3_ := Aside0.mk (below_step (by repeat (first | (with_reducible first | exact HB.out | apply below_alloc | apply pw_below_drewN | apply below_drew1) | exact HB.out)) hb); clear HO268; clear HO272; clear HO276; clear HB; have HO268 := n0_; have HO272 := n1_; have HO276 := n2_; have HB := n3_; clear n0_ n1_ n2_ n3_; (try clear hb); (try clear hb2); (try clear hk); (try clear hi)))
    go_ret
    exact ⟨by first | rfl | (simp [errW_none, errW_some] <;> rfl) | (simp only [← hji2]; first | rfl | (simp [errW_none, errW_some] <;> rfl)) | (simp [*, errW_none, errW_some] <;> rfl), by repeat (first | (with_reducible first | exact HB.out | apply below_alloc | apply pw_below_drewN | apply below_drew1) | exact HB.out)⟩
  ·rw [if_neg c4] at H
   exact absurd H (by simp)
 ·rw [if_neg c3] at H
  exact absurd H (by simp)

end Go.Proofs.Ytgeldmhgbnamcaa.P
end
section
namespace Go.Proofs.Ytgeldmhgbnamcaa.P
open Go.RowKit Go.Proofs.YtgeldmhgbnamcaaW.PrintWords Go.Proofs.YtgeldmhgbnamcaaW.PrintLast Go.Proofs.YtgeldmhgbnamcaaW.PrintMore
set_option linter.unusedVariables false
set_option linter.unusedSimpArgs false

open Go.ChangeShapes Go.WideShapes Go.Deep
/-- Whatever reads at type t is told by the kind d, and is so as q says. -/
def Opens (P : Program) (t : TypeId) {α : Type} (d : Kd α) (q : α → Prop) : Prop :=
 ∀ (H : Type) (enc : TypeId × Value → H) (w : World) (base : Nat) (spare : Nat → Bool) (held : Bool) (fuel : Nat) (cs : List Value) (x : DataW H × List MemPlace),
  DataW.trod enc P w base spare held fuel t cs = some x → ∃ y : α, d.K w y cs ∧ q y
theorem Opens.int {P : Program} {t : TypeId} {k : IntKind} (hu : P.underlying t = some (.int k)) : Opens P t (Kd.int k) (fun n => (Lit.int k n).wf = true) := by
 intro H enc w base spare held fuel cs x h
 obtain ⟨n, rfl, _, hw⟩ := DataW.trod_int hu h
 exact ⟨n, rfl, hw⟩
theorem Opens.bool {P : Program} {t : TypeId} (hu : P.underlying t = some .bool) : Opens P t Kd.bool (fun _ => True) := by
 intro H enc w base spare held fuel cs x h
 obtain ⟨b, rfl, _⟩ := DataW.trod_bool hu h
 exact ⟨b, rfl, trivial⟩
theorem Opens.string {P : Program} {t : TypeId} (hu : P.underlying t = some .string) : Opens P t Kd.string (fun s => s.size ≤ maxLen) := by
 intro H enc w base spare held fuel cs x h
 obtain ⟨s, rfl, _, hs⟩ := DataW.trod_string hu h
 exact ⟨s, rfl, hs⟩
theorem Opens.imp {P : Program} {t : TypeId} {α : Type} {d : Kd α} {q q' : α → Prop} (h : Opens P t d q) (hq : ∀ y, q y → q' y) : Opens P t d q' := by
 intro H enc w base spare held fuel cs x hx
 obtain ⟨y, h1, h2⟩ := h H enc w base spare held fuel cs x hx
 exact ⟨y, h1, hq y h2⟩
theorem Opens.iso {P : Program} {t : TypeId} {α β : Type} {d : Kd α} {q : α → Prop} (h : Opens P t d q) (f : β → α) (g : α → β) (hfg : ∀ y, f (g y) = y) : Opens P t (Kd.iso d f) (fun x => q (f x)) := by
 intro H enc w base spare held fuel cs x hx
 obtain ⟨y, h1, h2⟩ := h H enc w base spare held fuel cs x hx
 refine ⟨g y, ?_, by show q (f (g y)); rw [hfg]; exact h2⟩
 show d.K w (f (g y)) cs
 rw [hfg]; exact h1
theorem Opens.slice {P : Program} {t e : TypeId} {α : Type} [Inhabited α] {d : Kd α} {q : α → Prop} (hu : P.underlying t = some (.slice e)) (hc : P.cellsOf e = d.sz) (h : Opens P e d q) : Opens P t (Kd.slice e d) (fun l => l.length ≤ maxLen ∧ ∀ y ∈ l, q y) := by
 intro H enc w base spare held fuel cs x hx
 rcases open_slice hu hx with ⟨rfl, _⟩ | ⟨a, len, cap, m, n, D, Pl, rfl, hb, hl, hm, hmm, _, hel⟩
 ·exact ⟨[], ⟨none, 0, rfl, Nat.le_refl _, rfl, Nat.zero_le _, fun h => absurd h (by simp)⟩, Nat.zero_le _, fun y hy => by simp at hy⟩
 ·have hlm : len ≤ m := by rw [hmm]; split <;> omega
  obtain ⟨Y, hY⟩ := choose_lt (α := α) (n := len) (p := fun i y => ∃ cs', w.cells? base (a.add (i * P.cellsOf e)) (P.cellsOf e) = some cs' ∧ d.K w y cs' ∧ q y) (fun i hi => by
   obtain ⟨cs', h1, h2⟩ := hel i (by omega)
   obtain ⟨y, h3, h4⟩ := h H enc w base spare held n cs' _ h2
   exact ⟨y, cs', h1, h3, h4⟩)
  have hlen : ((List.range len).map Y).length = len := by simp
  refine ⟨(List.range len).map Y, ⟨some a, cap, by rw [hlen], by rw [hlen]; exact hl, rfl, ?_, fun _ => ⟨a, rfl, fun j p hj => ?_⟩⟩, ?_, fun y hy => ?_⟩
  ·rw [hlen]; unfold maxLen at hm; omega
  ·obtain ⟨hjl, hje⟩ := List.getElem?_eq_some_iff.1 hj
   rw [hlen] at hjl
   have hpj : p = Y j := by rw [← hje]; simp
   obtain ⟨cs', h1, h3, _⟩ := hY j hjl
   obtain ⟨_, hcl, hcc⟩ := World.cells?_some h1
   refine ⟨cs', d.K_len h3, by rw [hpj]; exact h3, fun i u hu2 => ?_⟩
   have hi := (List.getElem?_eq_some_iff.1 hu2).1
   rw [d.K_len h3] at hi
   have h5 := hcc i (by rw [hc]; exact hi)
   rw [hc, Go.Deep.add_add] at h5
   rw [h5, ← hu2]
  ·rw [hlen]; omega
  ·obtain ⟨j, hj, rfl⟩ := List.mem_map.1 hy
   obtain ⟨_, _, _, h4⟩ := hY j (List.mem_range.1 hj)
   exact h4
/-- Fields, one behind the other, from a place on. -/
def OpensSeg (P : Program) (fs : List Field) (off : Nat) {α : Type} (d : Kd α) (q : α → Prop) : Prop :=
 ∀ (H : Type) (enc : TypeId × Value → H) (w : World) (base : Nat) (spare : Nat → Bool) (held : Bool) (fuel : Nat) (cs : List Value), cs.length = d.sz →
  (∀ f ∈ fs, ∃ x : DataW H × List MemPlace, DataW.trod enc P w base spare held fuel f.type ((cs.drop (f.offset - off)).take (P.cellsOf f.type)) = some x) → ∃ y : α, d.K w y cs ∧ q y
theorem OpensSeg.one {P : Program} {f : Field} {off : Nat} {α : Type} {d : Kd α} {q : α → Prop} (ho : f.offset = off) (hc : P.cellsOf f.type = d.sz) (h : Opens P f.type d q) : OpensSeg P [f] off d q := by
 intro H enc w base spare held fuel cs hl hf
 obtain ⟨x, hx⟩ := hf f List.mem_cons_self
 rw [ho, Nat.sub_self, List.drop_zero, hc, ← hl, List.take_length] at hx
 exact h H enc w base spare held fuel cs x hx
theorem OpensSeg.cons {P : Program} {f : Field} {fs : List Field} {off : Nat} {α β : Type} {d : Kd α} {d2 : Kd β} {q : α → Prop} {q2 : β → Prop} (ho : f.offset = off) (hc : P.cellsOf f.type = d.sz) (hm : ∀ g ∈ fs, off + d.sz ≤ g.offset) (h : Opens P f.type d q) (h2 : OpensSeg P fs (off + d.sz) d2 q2) :
  OpensSeg P (f :: fs) off (Kd.pair d d2) (fun y => q y.1 ∧ q2 y.2) := by
 intro H enc w base spare held fuel cs hl hf
 have hl' : cs.length = d.sz + d2.sz := hl
 obtain ⟨x, hx⟩ := hf f List.mem_cons_self
 rw [ho, Nat.sub_self, List.drop_zero, hc] at hx
 obtain ⟨y, h3, h4⟩ := h H enc w base spare held fuel _ x hx
 obtain ⟨y2, h5, h6⟩ := h2 H enc w base spare held fuel (cs.drop d.sz) (by rw [List.length_drop]; omega) (fun g hg => by
  obtain ⟨x2, hx2⟩ := hf g (List.mem_cons_of_mem _ hg)
  refine ⟨x2, ?_⟩
  have := hm g hg
  rw [List.drop_drop, show d.sz + (g.offset - (off + d.sz)) = g.offset - off by omega]
  exact hx2)
 exact ⟨(y, y2), ⟨cs.take d.sz, cs.drop d.sz, (List.take_append_drop _ _).symm, h3, h5⟩, h4, h6⟩
theorem Opens.struct {P : Program} {t : TypeId} {fs : Array Field} {α : Type} {d : Kd α} {q : α → Prop} (hu : P.underlying t = some (.struct fs)) (hc : P.cellsOf t = d.sz) (h : OpensSeg P fs.toList 0 d q) : Opens P t d q := by
 intro H enc w base spare held fuel cs x hx
 obtain ⟨xs, n, rfl, _, hl, hxs, hf⟩ := DataW.trod_struct hu hx
 refine h H enc w base spare held n cs (by rw [hl, hc]) (fun f hf2 => ?_)
 obtain ⟨i, hi, rfl⟩ := List.getElem_of_mem hf2
 have h1 := hf i fs.toList[i] (by rw [Array.getElem?_eq_getElem (by simpa using hi)]; simp)
 have hi2 : i < fs.size := by simpa using hi
 rw [List.getElem?_eq_getElem (by omega)] at h1
 exact ⟨_, by rw [Nat.sub_zero]; exact h1⟩
/-- An argument that is a slice: its value, its list, how long it may be. -/
theorem Opens.arg {P : Program} {t e : TypeId} {α : Type} {d : Kd α} {q : List α → Prop} (ho : Opens P t (Kd.slice e d) q) {H : Type} {enc : TypeId × Value → H} {w : World} {base : Nat} {spare : Nat → Bool} {held : Bool} {a : Option Addr} {len cap : Nat} {D : DataW H} {ps : List MemPlace} (h : DataW.Trod enc P w base spare held t (.slice a len cap) D ps) :
  ∃ l : List α, len = l.length ∧ Kd.C d w a l.length l ∧ l.length ≤ cap ∧ q l := by
 obtain ⟨fuel, hf⟩ := h
 obtain ⟨l, ⟨A, c, he, hlc, hC⟩, hq⟩ := ho H enc w base spare held fuel _ _ hf
 simp [Value.cells] at he
 obtain ⟨rfl, rfl, rfl⟩ := he
 exact ⟨l, rfl, hC, hlc, hq⟩
theorem sized_slice_any {H : Type} {enc : TypeId × Value → H} {P : Program} {W : World} {base : Nat} {spare : Nat → Bool} {held : Bool} {t e : TypeId} {a : Option Addr} {len cap : Nat} {d : DataW H} {ps : List MemPlace} {ts : List TypeId} {ds : List (DataW H)} {j : Nat}
  (hsz : (DataW.weightsEach P ts ds).all (· ≤ reachBytes) = true) (ht : ts[j]? = some t) (hd : ds[j]? = some d) (hu : P.underlying t = some (.slice e)) {B : Nat} (hB : P.bytesOf e = B)
  (h : DataW.Trod enc P W base spare held t (.slice a len cap) d ps) : len * B ≤ 140737488351232 := by
 obtain ⟨fuel, hf⟩ := h
 rcases open_slice hu hf with ⟨hcs, _⟩ | ⟨x, l, c, m, n, D, Pl, hcs, _, hl, _, hm, hx, _⟩
 ·simp [Value.cells] at hcs
  obtain ⟨rfl, rfl, rfl⟩ := hcs
  simp
 ·simp [Value.cells] at hcs
  obtain ⟨rfl, rfl, rfl⟩ := hcs
  obtain ⟨hx, _⟩ := Prod.mk.inj hx
  subst hx
  have z := sized_slice hsz ht hd hu
  rw [hB] at z
  have h1 : len ≤ ((List.range len).map D).length + ((List.range (m - len)).map fun j => D (len + j)).length := by simp
  exact Nat.le_trans (Nat.mul_le_mul_right _ h1) z
end Go.Proofs.Ytgeldmhgbnamcaa.P
end
section
namespace Go.Proofs.Ytgeldmhgbnamcaa.P
open Go.RowKit Go.Proofs.YtgeldmhgbnamcaaW.PrintWords Go.Proofs.YtgeldmhgbnamcaaW.PrintLast Go.Proofs.YtgeldmhgbnamcaaW.PrintMore
set_option linter.unusedVariables false
set_option linter.unusedSimpArgs false

def wfC (x : S40) : Prop := (-9223372036854775808 ≤ x.f0 ∧ x.f0 ≤ 9223372036854775807) ∧ (0 ≤ x.f1 ∧ x.f1 ≤ 18446744073709551615) ∧ (-9223372036854775808 ≤ x.f2 ∧ x.f2 ≤ 9223372036854775807)
instance : Inhabited S40 := ⟨z40⟩
theorem opens_i64 {P : Program} {t : TypeId} (hu : P.underlying t = some (.int .i64)) : Opens P t (Kd.int .i64) (fun n => -9223372036854775808 ≤ n ∧ n ≤ 9223372036854775807) := (Opens.int hu).imp fun _ h => bounds_i64 h
theorem opens_u64 {P : Program} {t : TypeId} (hu : P.underlying t = some (.int .u64)) : Opens P t (Kd.int .u64) (fun n => 0 ≤ n ∧ n ≤ 18446744073709551615) := (Opens.int hu).imp fun _ h => bounds_u64 h
theorem opens40 : Opens Try.prog 40 k40 wfC :=
 Opens.iso (Opens.struct (d := Kd.pair (Kd.int .i64) (Kd.pair (Kd.int .u64) (Kd.int .i64))) Try.underlying40 (by kernel_rfl)
  (OpensSeg.cons rfl (by kernel_rfl) (by decide) (opens_i64 Try.underlying3) (OpensSeg.cons rfl (by kernel_rfl) (by decide) (opens_u64 Try.underlying38) (OpensSeg.one rfl (by kernel_rfl) (opens_i64 Try.underlying2)))))
  (fun x : S40 => (x.f0, x.f1, x.f2)) (fun y => ⟨y.1, y.2.1, y.2.2⟩) (fun _ => rfl)
theorem opens22 : Opens Try.prog 22 (Kd.slice 40 k40) (fun l => l.length ≤ maxLen ∧ ∀ y ∈ l, wfC y) := Opens.slice Try.underlying22 (by kernel_rfl) opens40
end Go.Proofs.Ytgeldmhgbnamcaa.P
end
section
/- Plain laws of batches, first part: numbers, reading, order, sums by insertion. No program's step in sight, only the printed functions. -/
namespace Go.Proofs.Ytgeldmhgbnamcaa.Pure
open Go.RowKit Go.Proofs.Ytgeldmhgbnamcaa.P Go.Proofs.YtgeldmhgbnamcaaW.PrintWords Go.Proofs.YtgeldmhgbnamcaaW.PrintLast
set_option linter.unusedVariables false
set_option linter.unusedSimpArgs false
/-- no list here is longer -/
abbrev Short (n : Nat) : Prop := n ≤ 5864062014634
theorem w64s {n : Nat} (h : n ≤ 9000000000000000000) : wrap64 ((n : Int) + 1) = ((n + 1 : Nat) : Int) := by unfold wrap64; omega
theorem w64p {n : Nat} (h : n ≤ 9000000000000000000) : wrap64 (((n + 1 : Nat) : Int) - 1) = (n : Int) := by unfold wrap64; omega
theorem rd4 (p : List S40) (x : S40) (q : List S40) {i : Int} (h : i = p.length) : rd_T40 (p ++ x :: q) i = x := by subst h; simp [rd_T40]
theorem rd5 (p : List S50) (x : S50) (q : List S50) {i : Int} (h : i = p.length) : rd_T50 (p ++ x :: q) i = x := by subst h; simp [rd_T50]
theorem Ev.id {α : Type} {g f : Nat → Option α} {r : α} (k : Ev f r) (h : ∀ k, f k = g k) : Ev g r := Ev.congr (fun k => (h k).symm) k
def u (x : S40) : S50 := ⟨x.f0, x.f1, x.f2⟩
def v (x : S50) : S40 := ⟨x.f0, x.f1, x.f2⟩
theorem v_u (x : S40) : v (u x) = x := rfl
theorem u_v (x : S50) : u (v x) = x := rfl
theorem map_v_u (l : List S40) : (l.map u).map v = l := by simp [List.map_map, Function.comp_def, v_u]
theorem v_inj {x y : S50} (h : v x = v y) : x = y := by have := congrArg u h; simpa [u_v] using this
/-! ### the order -/
def kl (a b : S50) : Prop := a.f0 < b.f0 ∨ (a.f0 = b.f0 ∧ a.f1 < b.f1)
def ke (a b : S50) : Prop := a.f0 = b.f0 ∧ a.f1 = b.f1
instance (a b : S50) : Decidable (kl a b) := by unfold kl; exact inferInstance
instance (a b : S50) : Decidable (ke a b) := by unfold ke; exact inferInstance
def ordv (a b : S50) : Int := if kl a b then -1 else if ke a b then 0 else 1
theorem kl_trans {a b c : S50} (h : kl a b) (k : kl b c) : kl a c := by unfold kl at *; omega
theorem kl_irrefl {a : S50} : ¬ kl a a := by unfold kl; omega
theorem kl_tri (a b : S50) : kl a b ∨ ke a b ∨ kl b a := by unfold kl ke; omega
theorem cmp_i (a b : Int) : cmp_Compare_int.f a b = some (if a < b then -1 else if b < a then 1 else 0) := by
 simp only [cmp_Compare_int.f, cmp_isNaN_int.f, Option.bind_some, bne_self_eq_false, Bool.false_eq_true, if_false]
 split <;> (try split) <;> simp_all
theorem cmp_u (a b : Int) : cmp_Compare_uint64.f a b = some (if a < b then -1 else if b < a then 1 else 0) := by
 simp only [cmp_Compare_uint64.f, cmp_isNaN_uint64.f, Option.bind_some, bne_self_eq_false, Bool.false_eq_true, if_false]
 split <;> (try split) <;> simp_all
theorem order_ev (a0 a1 a2 b0 b1 b2 : Int) : Ev (fun k => batch_order.f k a0 a1 a2 b0 b1 b2) (ordv ⟨a0, a1, a2⟩ ⟨b0, b1, b2⟩) := by
 refine ⟨3, fun k hk => ?_⟩
 obtain ⟨k, rfl⟩ : ∃ m, k = m + 3 := ⟨k - 3, by omega⟩
 have w1 : wrap64 (0 + 1) = 1 := by unfold wrap64; omega
 have w2 : wrap64 (1 + 1) = 2 := by unfold wrap64; omega
 simp only [batch_order.f, cmp_i, cmp_u, Option.bind_some, ordv, kl, ke]
 have w3 : wrap64 1 = 1 := by unfold wrap64; omega
 have w4 : wrap64 2 = 2 := by unfold wrap64; omega
 by_cases h1 : a0 < b0
 ·simp [h1, cmp_Or_int.f, cmp_Or_int.l0, rd]
 by_cases h2 : b0 < a0
 ·have : ¬ a0 = b0 := by omega
  simp [h1, h2, this, cmp_Or_int.f, cmp_Or_int.l0, rd]
 obtain rfl : a0 = b0 := by omega
 by_cases h3 : a1 < b1
 ·simp [h1, h3, cmp_Or_int.f, cmp_Or_int.l0, rd, w1, w3, w4]
 by_cases h4 : b1 < a1
 ·have : ¬ a1 = b1 := by omega
  simp [h1, h3, h4, this, cmp_Or_int.f, cmp_Or_int.l0, rd, w1, w3, w4]
 obtain rfl : a1 = b1 := by omega
 simp [h1, h3, cmp_Or_int.f, cmp_Or_int.l0, rd, w1, w3, w4, w2]
def wi (n : Int) : Prop := -576460752303423488 ≤ n ∧ n ≤ 576460752303423488
instance (n : Int) : Decidable (wi n) := by unfold wi; exact inferInstance
theorem within_eq (n : Int) : batch_within.f n = some (decide (wi n)) := by
 unfold batch_within.f wi
 by_cases h : n ≥ -576460752303423488
 ·rw [if_pos h]; simp [h]
 ·rw [if_neg h]; simp [h]
theorem within3_eq (n : Int) : marchlandref03_within.f n = some (decide (wi n)) := by
 unfold marchlandref03_within.f wi
 by_cases h : n ≥ -576460752303423488
 ·rw [if_pos h]; simp [h]
 ·rw [if_neg h]; simp [h]
theorem before_eq (a b : S50) : marchlandref03_before.f a.f0 a.f1 a.f2 b.f0 b.f1 b.f2 = some (decide (kl a b)) := by
 unfold marchlandref03_before.f kl
 by_cases h : a.f0 < b.f0
 ·rw [if_pos h]; simp [h]
 ·rw [if_neg h]
  by_cases h2 : a.f0 = b.f0
  ·rw [if_pos h2]; simp [h2]
  ·rw [if_neg h2]; simp [h, h2]
def wrongv (x : S50) : Int := if x.f0 < 0 ∨ x.f0 ≥ 64 then 2 else if x.f1 = 18446744073709551615 then 1 else if wi x.f2 then 0 else 10
theorem wrong_ev (x : S50) : Ev (fun k => batch_wrong.f k x.f0 x.f1 x.f2) (wrongv x) := by
 refine ⟨1, fun k hk => ?_⟩
 obtain ⟨k, rfl⟩ : ∃ m, k = m + 1 := ⟨k - 1, by omega⟩
 have e : batch_wrong.f (k + 1) x.f0 x.f1 x.f2 = batch_wrong.j0 (k + 1) (decide (x.f0 < 0 ∨ x.f0 ≥ 64)) x.f0 x.f1 x.f2 := by
  unfold batch_wrong.f
  by_cases h : x.f0 < 0
  ·rw [if_pos h]; simp [h]
  ·rw [if_neg h]; simp [h]
 show batch_wrong.f (k + 1) x.f0 x.f1 x.f2 = _
 rw [e]
 simp only [batch_wrong.j0, within_eq, Option.bind_some, wrongv, decide_eq_true_eq]
 split <;> (try rfl)
 split <;> (try rfl)
 split <;> rfl
/-! ### sums by insertion -/
def plus (y x : S50) : S50 := ⟨y.f0, y.f1, wrap64 (y.f2 + x.f2)⟩
def ins (x : S50) : List S50 → List S50
 | [] => [x]
 | y :: l => if ke y x then plus y x :: l else if kl x y then x :: y :: l else y :: ins x l
def tot (l : List S50) : List S50 := l.foldl (fun a x => ins x a) []
theorem wrap64_ass (a b c : Int) : wrap64 (wrap64 (a + b) + c) = wrap64 (a + b + c) := by unfold wrap64; omega
theorem ins_comm (x y : S50) : ∀ l, ins x (ins y l) = ins y (ins x l) := by
 have pc : ke y x → plus y x = plus x y := by intro h; unfold plus ke at *; simp [h.1, h.2, Int.add_comm]
 have pp : ∀ z, plus (plus z x) y = plus (plus z y) x := by intro z; unfold plus; simp only [wrap64_ass]; congr 2; omega
 intro l
 induction l with
 | nil =>
  simp only [ins]
  rcases kl_tri x y with h | h | h
  ·have a1 : ¬ ke y x := by unfold kl ke at *; omega
   have a2 : ¬ ke x y := by unfold kl ke at *; omega
   have a3 : ¬ kl y x := by unfold kl at *; omega
   simp [a1, a2, a3, h]
  ·have h' : ke y x := ⟨h.1.symm, h.2.symm⟩
   simp [h, h', pc h']
  ·have a1 : ¬ ke y x := by unfold kl ke at *; omega
   have a2 : ¬ ke x y := by unfold kl ke at *; omega
   have a3 : ¬ kl x y := by unfold kl at *; omega
   simp [a1, a2, a3, h]
 | cons z l ih =>
  have kp : ∀ w, ke (plus z x) w = ke z w := fun w => rfl
  have kq : ∀ w, ke (plus z y) w = ke z w := fun w => rfl
  have lp : ∀ w, kl w (plus z x) = kl w z := fun w => rfl
  have lq : ∀ w, kl w (plus z y) = kl w z := fun w => rfl
  by_cases e1 : ke z x
  ·by_cases e2 : ke z y
   ·simp [ins, e1, e2, kp, kq, pp]
   ·by_cases c2 : kl y z
    ·have a1 : ¬ ke y x := by unfold kl ke at *; omega
     have a2 : ¬ kl x y := by unfold kl ke at *; omega
     simp [ins, e1, e2, kp, kq, c2, a1, a2, lp]
    ·simp [ins, e1, e2, kp, kq, c2, lp]
  ·by_cases e2 : ke z y
   ·by_cases c2 : kl x z
    ·have a1 : ¬ ke x y := by unfold kl ke at *; omega
     have a2 : ¬ kl y x := by unfold kl ke at *; omega
     simp [ins, e1, e2, kp, kq, c2, a1, a2, lq]
    ·simp [ins, e1, e2, kp, kq, c2, lq]
   ·by_cases c1 : kl x z
    ·by_cases c2 : kl y z
     ·rcases kl_tri x y with h | h | h
      ·have a1 : ¬ ke y x := by unfold kl ke at *; omega
       have a2 : ¬ ke x y := by unfold kl ke at *; omega
       have a3 : ¬ kl y x := by unfold kl at *; omega
       simp [ins, e1, e2, c1, c2, a1, a2, a3, h]
      ·have h' : ke y x := ⟨h.1.symm, h.2.symm⟩
       simp [ins, e1, e2, c1, c2, h, h', pc h']
      ·have a1 : ¬ ke y x := by unfold kl ke at *; omega
       have a2 : ¬ ke x y := by unfold kl ke at *; omega
       have a3 : ¬ kl x y := by unfold kl at *; omega
       simp [ins, e1, e2, c1, c2, a1, a2, a3, h]
     ·have a1 : ¬ ke x y := by unfold kl ke at *; omega
      have a2 : ¬ kl y x := by unfold kl ke at *; omega
      simp [ins, e1, e2, c1, c2, a1, a2]
    ·by_cases c2 : kl y z
     ·have a1 : ¬ ke y x := by unfold kl ke at *; omega
      have a2 : ¬ kl x y := by unfold kl ke at *; omega
      simp [ins, e1, e2, c1, c2, a1, a2]
     ·simp [ins, e1, e2, c1, c2, ih]
theorem tot_perm {a b : List S50} (h : a.Perm b) : tot a = tot b := h.foldl_eq' (fun x _ y _ z => ins_comm y x z) []
theorem ins_app {x : S50} : ∀ {A : List S50} (B : List S50), (∀ a ∈ A, kl a x) → ins x (A ++ B) = A ++ ins x B := by
 intro A
 induction A with
 | nil => intro B _; rfl
 | cons a A ih =>
  intro B h
  have h1 : kl a x := h a (by simp)
  have a1 : ¬ ke a x := by unfold kl ke at *; omega
  have a2 : ¬ kl x a := by unfold kl at *; omega
  simp [ins, a1, a2, ih B (fun b hb => h b (by simp [hb]))]
/-- strictly in order -/
abbrev Str (l : List S50) : Prop := l.Pairwise kl
/-- in order -/
abbrev Srt (l : List S50) : Prop := l.Pairwise (fun a b => ¬ kl b a)
theorem ins_mem {x : S50} : ∀ {l : List S50} {z : S50}, z ∈ ins x l → ke z x ∨ ∃ y ∈ l, ke z y := by
 intro l
 induction l with
 | nil => intro z h; simp only [ins, List.mem_singleton] at h; subst h; exact .inl ⟨rfl, rfl⟩
 | cons y l ih =>
  intro z h
  simp only [ins] at h
  split at h
  ·rcases List.mem_cons.1 h with rfl | h
   ·exact .inr ⟨y, by simp, rfl, rfl⟩
   ·exact .inr ⟨z, by simp [h], rfl, rfl⟩
  ·split at h
   ·rcases List.mem_cons.1 h with rfl | h
    ·exact .inl ⟨rfl, rfl⟩
    ·exact .inr ⟨z, h, rfl, rfl⟩
   ·rcases List.mem_cons.1 h with rfl | h
    ·exact .inr ⟨z, by simp, rfl, rfl⟩
    ·rcases ih h with h | ⟨w, hw, h⟩
     ·exact .inl h
     ·exact .inr ⟨w, by simp [hw], h⟩
theorem ins_str {x : S50} : ∀ {l : List S50}, Str l → Str (ins x l) := by
 intro l
 induction l with
 | nil => intro _; simp [ins]
 | cons y l ih =>
  intro h
  obtain ⟨h1, h2⟩ := List.pairwise_cons.1 h
  simp only [ins]
  split
  ·exact List.pairwise_cons.2 ⟨fun z hz => h1 z hz, h2⟩
  ·rename_i e
   split
   ·rename_i c
    refine List.pairwise_cons.2 ⟨fun z hz => ?_, h⟩
    rcases List.mem_cons.1 hz with rfl | hz
    ·exact c
    ·exact kl_trans c (h1 z hz)
   ·rename_i c
    refine List.pairwise_cons.2 ⟨fun z hz => ?_, ih h2⟩
    rcases ins_mem hz with k | ⟨w, hw, k⟩
    ·have := kl_tri x y; unfold kl ke at *; omega
    ·have := h1 w hw; unfold kl ke at *; omega
theorem foldl_ins_str : ∀ (l a : List S50), Str a → Str (l.foldl (fun a x => ins x a) a) := by
 intro l
 induction l with
 | nil => intro a h; exact h
 | cons x l ih => intro a h; exact ih _ (ins_str h)
theorem tot_str (l : List S50) : Str (tot l) := foldl_ins_str l [] List.Pairwise.nil
theorem foldl_ins_mem : ∀ (l a : List S50) {z : S50}, z ∈ l.foldl (fun a x => ins x a) a → (∃ y ∈ l, ke z y) ∨ ∃ y ∈ a, ke z y := by
 intro l
 induction l with
 | nil => intro a z h; exact .inr ⟨z, h, rfl, rfl⟩
 | cons x l ih =>
  intro a z h
  rcases ih _ h with ⟨y, hy, k⟩ | ⟨y, hy, k⟩
  ·exact .inl ⟨y, by simp [hy], k⟩
  ·rcases ins_mem hy with j | ⟨w, hw, j⟩
   ·exact .inl ⟨x, by simp, k.1.trans j.1, k.2.trans j.2⟩
   ·exact .inr ⟨w, hw, k.1.trans j.1, k.2.trans j.2⟩
theorem tot_mem {l : List S50} {z : S50} (h : z ∈ tot l) : ∃ y ∈ l, ke z y := by
 rcases foldl_ins_mem l [] h with h | ⟨y, hy, _⟩
 ·exact h
 ·cases hy
theorem ins_len {x : S50} : ∀ {l : List S50}, (ins x l).length ≤ l.length + 1 := by
 intro l
 induction l with
 | nil => simp [ins]
 | cons y l ih => simp only [ins]; split <;> (try split) <;> simp <;> omega
theorem foldl_ins_len : ∀ (l a : List S50), (l.foldl (fun a x => ins x a) a).length ≤ a.length + l.length := by
 intro l
 induction l with
 | nil => intro a; simp
 | cons x l ih => intro a; have := ih (ins x a); have := ins_len (x := x) (l := a); simp only [List.foldl_cons, List.length_cons]; omega
theorem tot_len (l : List S50) : (tot l).length ≤ l.length := by have := foldl_ins_len l []; simpa [tot] using this
/-- the groups of a list in order, the open one first -/
def grp (c : S50) : List S50 → List S50
 | [] => [c]
 | y :: r => if ke c y then grp (plus c y) r else c :: grp y r
theorem foldl_grp : ∀ (r : List S50) (A : List S50) (c : S50), (∀ a ∈ A, kl a c) → Srt (c :: r) → r.foldl (fun a x => ins x a) (A ++ [c]) = A ++ grp c r := by
 intro r
 induction r with
 | nil => intro A c _ _; rfl
 | cons y r ih =>
  intro A c hA hs
  obtain ⟨h1, h2⟩ := List.pairwise_cons.1 hs
  have hcy : ¬ kl y c := h1 y (by simp)
  have hAy : ∀ a ∈ A, kl a y := fun a ha => by have := hA a ha; unfold kl at *; omega
  simp only [List.foldl_cons, ins_app [c] hAy, ins, grp]
  by_cases e : ke c y
  ·rw [if_pos e, if_pos e]
   refine ih A (plus c y) hA (List.pairwise_cons.2 ⟨fun z hz => h1 z (by simp [hz]), (List.pairwise_cons.1 h2).2⟩)
  ·have hcy' : kl c y := (kl_tri c y).elim id (fun h => h.elim (fun h => absurd h e) (fun h => absurd h hcy))
   rw [if_neg e, if_neg e, if_neg hcy]
   have := ih (A ++ [c]) y (fun a ha => (List.mem_append.1 ha).elim (fun h => hAy a h) (fun h => by simp at h; subst h; exact hcy')) h2
   simpa using this
theorem tot_grp {c : S50} {r : List S50} (h : Srt (c :: r)) : tot (c :: r) = grp c r := by
 have := foldl_grp r [] c (fun _ h => by cases h) h
 simpa [tot, ins] using this
/-- sums checked: what lies outside the bounds spoils all, what is nought falls away -/
def good (G : List S50) : Bool := G.all (fun x => decide (wi x.f2))
def fin (G : List S50) : List S50 := G.filter (fun x => decide (x.f2 ≠ 0))
end Go.Proofs.Ytgeldmhgbnamcaa.Pure
end
section
/- Plain laws of batches, second part: the insertion sort, and the sort of a short list. -/
namespace Go.Proofs.Ytgeldmhgbnamcaa.Pure
open Go.RowKit Go.Proofs.Ytgeldmhgbnamcaa.P Go.Proofs.YtgeldmhgbnamcaaW.PrintWords Go.Proofs.YtgeldmhgbnamcaaW.PrintLast
set_option linter.unusedVariables false
set_option linter.unusedSimpArgs false
theorem ordv_neg {a b : S50} : ordv a b < 0 ↔ kl a b := by unfold ordv; split <;> (try split) <;> simp_all
theorem ordv_zero {a b : S50} : ordv a b = 0 ↔ ke a b := by
 unfold ordv
 split
 ·rename_i h; simp; unfold kl ke at *; omega
 ·split <;> simp_all
theorem ordv_nonneg {a b : S50} : ordv a b ≥ 0 ↔ ¬ kl a b := by have := @ordv_neg a b; constructor <;> intro h <;> (try intro k) <;> (try have := this.2 k) <;> (try omega); exact Int.not_lt.1 (fun k => h (this.1 k))
theorem set5 (p : List S50) (x : S50) (q : List S50) (y : S50) {n : Nat} (h : n = p.length) : (p ++ x :: q).set n y = p ++ y :: q := by subst h; simp
theorem order_at (a b : S50) : Ev (fun k => batch_order.f k a.f0 a.f1 a.f2 b.f0 b.f1 b.f2) (ordv a b) := order_ev _ _ _ _ _ _
theorem l1_pos {p q : List S50} {y x : S50} {x1 x2 x8 : Int} {r : List S50} (hp : p.length ≤ 8000000000000000000) (hx : x1 ≤ p.length) {i : Int} (hi : i = p.length + 1)
  (h1 : kl x y → Ev (fun k => batch_Change_95.l1 k (p ++ x :: y :: q) x1 x2 x8 p.length) r)
  (h2 : ¬ kl x y → Ev (fun k => batch_Change_95.l0 k (p ++ y :: x :: q) x1 x2 (wrap64 (x8 + 1))) r) :
  Ev (fun k => batch_Change_95.l1 k (p ++ y :: x :: q) x1 x2 x8 i) r := by
 obtain ⟨K, h⟩ := order_at x y
 have hw : wrap64 (i - 1) = p.length := by unfold wrap64; omega
 have e1 : rd_T50 (p ++ y :: x :: q) i = x := by
  have := rd5 (p ++ [y]) x q (i := i) (by simp; omega)
  simpa using this
 have e2 : rd_T50 (p ++ y :: x :: q) (p.length : Int) = y := rd5 p y (x :: q) rfl
 have c1 : i > x1 := by omega
 have c2 : 0 ≤ i := by omega
 have c3 : i < ((p ++ y :: x :: q).length : Int) := by simp; omega
 have c4 : (0 : Int) ≤ p.length := by omega
 have c5 : (p.length : Int) < ((p ++ y :: x :: q).length : Int) := by simp; omega
 have s : ((p ++ y :: x :: q).set i.toNat ⟨y.f0, y.f1, y.f2⟩).set (p.length : Int).toNat ⟨x.f0, x.f1, x.f2⟩ = p ++ x :: y :: q := by
  have a := set5 (p ++ [y]) x q y (n := i.toNat) (by simp; omega)
  have b := set5 p y (y :: q) x (n := (p.length : Int).toNat) (by simp)
  have a' : (p ++ y :: x :: q).set i.toNat y = p ++ y :: y :: q := by simpa using a
  calc _ = ((p ++ y :: x :: q).set i.toNat y).set (p.length : Int).toNat x := rfl
   _ = _ := by rw [a', b]
 by_cases hc : kl x y
 ·obtain ⟨K', h'⟩ := h1 hc
  refine ⟨K + K' + 1, fun k hk => ?_⟩
  obtain ⟨k, rfl⟩ : ∃ m, k = m + 1 := ⟨k - 1, by omega⟩
  have o := h k (by omega)
  simp only [batch_Change_95.l1, hw, if_pos c1, if_pos c2, if_pos c3, if_pos c4, if_pos c5, e1, e2, o, Option.bind_some, if_pos (ordv_neg.2 hc), s]
  exact h' k (by omega)
 ·obtain ⟨K', h'⟩ := h2 hc
  refine ⟨K + K' + 1, fun k hk => ?_⟩
  obtain ⟨k, rfl⟩ : ∃ m, k = m + 1 := ⟨k - 1, by omega⟩
  have o := h k (by omega)
  simp only [batch_Change_95.l1, hw, if_pos c1, if_pos c2, if_pos c3, if_pos c4, if_pos c5, e1, e2, o, Option.bind_some, if_neg (mt ordv_neg.1 hc)]
  exact h' k (by omega)
theorem l1_end {X : List S50} {x1 x2 x8 i : Int} {r : List S50} (hx : i ≤ x1) (h : Ev (fun k => batch_Change_95.l0 k X x1 x2 (wrap64 (x8 + 1))) r) : Ev (fun k => batch_Change_95.l1 k X x1 x2 x8 i) r :=
 Ev.step (fun k => by show batch_Change_95.l1 (k + 1) X x1 x2 x8 i = _; rw [batch_Change_95.l1, if_neg (by omega)]) h
theorem ins95_l1 (P D : List S50) (x2 x8 : Int) : ∀ (n : Nat) (A B : List S50) (x : S50), A.length = n → Srt (A ++ B) → (∀ b ∈ B, kl x b) → P.length + n ≤ 8000000000000000000 →
  ∃ S' : List S50, S'.Perm (A ++ x :: B) ∧ Srt S' ∧ ∀ r, Ev (fun k => batch_Change_95.l0 k (P ++ (S' ++ D)) P.length x2 (wrap64 (x8 + 1))) r → Ev (fun k => batch_Change_95.l1 k (P ++ (A ++ x :: B ++ D)) P.length x2 x8 ((P.length + n : Nat) : Int)) r := by
 intro n
 induction n with
 | zero =>
  intro A B x hA hs hB hP
  obtain rfl : A = [] := List.eq_nil_of_length_eq_zero hA
  refine ⟨x :: B, List.Perm.refl _, List.pairwise_cons.2 ⟨fun b hb => ?_, hs⟩, fun r h => l1_end (by simp) h⟩
  have := hB b hb; unfold kl at *; omega
 | succ n ih =>
  intro A B x hA hs hB hP
  rcases List.eq_nil_or_concat A with rfl | ⟨A', y, rfl⟩
  ·simp at hA
  simp only [List.concat_eq_append] at hA hs ⊢
  have hA' : A'.length = n := by simpa using hA
  have e0 : P ++ (A' ++ [y] ++ x :: B ++ D) = (P ++ A') ++ y :: x :: (B ++ D) := by simp
  by_cases hc : kl x y
  ·obtain ⟨S', p, s, k⟩ := ih A' (y :: B) x hA' (by simpa using hs) (fun b hb => (List.mem_cons.1 hb).elim (fun e => e ▸ hc) (fun hb => hB b hb)) (by omega)
   refine ⟨S', p.trans (by simpa using (List.Perm.append_left A' (List.Perm.swap y x B))), s, fun r h => ?_⟩
   rw [e0]
   refine l1_pos (by simp; omega) (by simp only [List.length_append]; omega) (by simp only [List.length_append]; omega) (fun _ => ?_) (fun h => absurd hc h)
   have := k r h
   have e1 : (P ++ A') ++ x :: y :: (B ++ D) = P ++ (A' ++ x :: (y :: B) ++ D) := by simp
   have e2 : ((P ++ A').length : Int) = ((P.length + n : Nat) : Int) := by simp; omega
   rw [e1, e2]
   exact this
  ·refine ⟨A' ++ [y] ++ x :: B, List.Perm.refl _, ?_, fun r h => ?_⟩
   ·have hs1 := List.pairwise_append.1 hs
    refine List.pairwise_append.2 ⟨hs1.1, List.pairwise_cons.2 ⟨fun b hb => ?_, hs1.2.1⟩, fun a ha b hb => ?_⟩
    ·have := hB b hb; unfold kl at *; omega
    ·rcases List.mem_cons.1 hb with rfl | hb
     ·rcases List.mem_append.1 ha with ha | ha
      ·have := (List.pairwise_append.1 hs1.1).2.2 a ha y (by simp); unfold kl at *; omega
      ·simp at ha; subst ha; exact hc
     ·exact hs1.2.2 a ha b hb
   ·rw [e0]
    refine l1_pos (by simp; omega) (by simp only [List.length_append]; omega) (by simp only [List.length_append]; omega) (fun h => absurd h hc) (fun _ => ?_)
    have e1 : (P ++ A') ++ y :: x :: (B ++ D) = P ++ (A' ++ [y] ++ x :: B ++ D) := by simp
    rw [e1]
    exact h
theorem ins95_l0 (P D : List S50) : ∀ (R S : List S50), Srt S → P.length + S.length + R.length ≤ 8000000000000000000 →
  ∃ S' : List S50, S'.Perm (S ++ R) ∧ Srt S' ∧ Ev (fun k => batch_Change_95.l0 k (P ++ (S ++ R ++ D)) P.length ((P.length + S.length + R.length : Nat) : Int) ((P.length + S.length : Nat) : Int)) (P ++ (S' ++ D)) := by
 intro R
 induction R with
 | nil =>
  intro S hs hl
  refine ⟨S, by simp, hs, 1, fun k hk => ?_⟩
  obtain ⟨k, rfl⟩ : ∃ m, k = m + 1 := ⟨k - 1, by omega⟩
  show batch_Change_95.l0 (k + 1) _ _ _ _ = _
  rw [batch_Change_95.l0, if_neg (by simp)]
  simp
 | cons x R ih =>
  intro S hs hl
  simp only [List.length_cons] at hl
  obtain ⟨S1, p1, s1, k1⟩ := ins95_l1 P (R ++ D) ((P.length + S.length + (x :: R).length : Nat) : Int) ((P.length + S.length : Nat) : Int) S.length S [] x rfl (by simpa using hs) (fun _ h => by cases h) (by omega)
  have len : S1.length = S.length + 1 := by have := p1.length_eq; simpa using this
  obtain ⟨S2, p2, s2, k2⟩ := ih S1 s1 (by omega)
  refine ⟨S2, p2.trans ?_, s2, ?_⟩
  ·have := p1.append_right R
   simpa using this
  ·have e : ((P.length + S1.length + R.length : Nat) : Int) = ((P.length + S.length + (x :: R).length : Nat) : Int) := by simp only [List.length_cons]; omega
   have e2 : ((P.length + S1.length : Nat) : Int) = wrap64 (((P.length + S.length : Nat) : Int) + 1) := by rw [w64s (by omega), len]; rfl
   rw [e, e2] at k2
   have := k1 _ (by simpa using k2)
   refine Ev.step (fun k => ?_) this
   show batch_Change_95.l0 (k + 1) _ _ _ _ = _
   rw [batch_Change_95.l0, if_pos (by simp only [List.length_cons]; omega)]
   simp
/-- Insertion sort of a stretch. -/
theorem ins95 (P D S : List S50) (hl : P.length + S.length ≤ 8000000000000000000) {a b : Int} (ha : a = P.length) (hb : b = P.length + S.length) :
  ∃ S' : List S50, S'.Perm S ∧ Srt S' ∧ Ev (fun k => batch_Change_95.f k (P ++ (S ++ D)) a b) (P ++ (S' ++ D)) := by
 subst ha hb
 cases S with
 | nil =>
  refine ⟨[], List.Perm.refl _, List.Pairwise.nil, 1, fun k hk => ?_⟩
  obtain ⟨k, rfl⟩ : ∃ m, k = m + 1 := ⟨k - 1, by omega⟩
  show batch_Change_95.f (k + 1) _ _ _ = _
  rw [batch_Change_95.f, batch_Change_95.l0, if_neg]
  have : wrap64 ((P.length : Int) + 1) = P.length + 1 := by unfold wrap64; simp at hl; omega
  rw [this]; simp; omega
 | cons x S =>
  simp only [List.length_cons] at hl
  obtain ⟨S', p, s, h⟩ := ins95_l0 P D S [x] (by simp) (by simp; omega)
  refine ⟨S', p, s, Ev.congr (fun k => ?_) h⟩
  show batch_Change_95.f k _ _ _ = _
  rw [batch_Change_95.f, w64s (by omega)]
  have : ((P.length + [x].length + S.length : Nat) : Int) = (P.length : Int) + ((x :: S).length : Nat) := by simp; omega
  rw [this]; rfl
/-- The sort of a short list. -/
theorem sort_short (l : List S50) (hl : l.length ≤ 20) : ∃ l' : List S50, l'.Perm l ∧ Srt l' ∧ Ev (fun k => batch_Change_74.f k l) l' := by
 have w20 : wrap64 (20 + 20) = 40 := by unfold wrap64; omega
 suffices h : ∃ l' : List S50, l'.Perm l ∧ Srt l' ∧ Ev (fun k => batch_Change_88.l0 k l (l.length : Int) 20 0 20) l' by
  obtain ⟨l', p, s, K, h⟩ := h
  refine ⟨l', p, s, K, fun k hk => ?_⟩
  show batch_Change_74.f k l = _
  have := h k hk
  simp only [batch_Change_74.f, batch_Change_88.f, this, Option.bind_some]
 by_cases hc : l.length = 20
 ·obtain ⟨S, p, s, K, h⟩ := ins95 [] [] l (by simp; omega) (a := 0) (b := 20) rfl (by simp; omega)
  have len : S.length = 20 := by rw [p.length_eq, hc]
  obtain ⟨S2, p2, s2, K2, h2⟩ := ins95 S [] [] (by simp; omega) (a := 20) (b := (l.length : Int)) (by omega) (by simp; omega)
  obtain rfl : S2 = [] := List.eq_nil_of_length_eq_zero p2.length_eq
  refine ⟨S, p, s, K + K2 + 3, fun k hk => ?_⟩
  obtain ⟨k, rfl⟩ : ∃ m, k = m + 3 := ⟨k - 3, by omega⟩
  have a := h (k + 2) (by omega)
  have b := h2 (k + 1) (by omega)
  simp only [List.nil_append, List.append_nil] at a b
  simp only [batch_Change_88.l0, a, Option.bind_some, w20]
  rw [if_pos (by omega), if_neg (by omega)]
  simp only [b, Option.bind_some, batch_Change_88.l1]
  rw [if_neg (by omega)]
 ·obtain ⟨S, p, s, K, h⟩ := ins95 [] [] l (by simp; omega) (a := 0) (b := (l.length : Int)) rfl (by simp)
  refine ⟨S, p, s, K + 2, fun k hk => ?_⟩
  obtain ⟨k, rfl⟩ : ∃ m, k = m + 2 := ⟨k - 2, by omega⟩
  have a := h (k + 1) (by omega)
  simp only [List.nil_append, List.append_nil] at a
  simp only [batch_Change_88.l0]
  rw [if_neg (by omega)]
  simp only [a, Option.bind_some, batch_Change_88.l1]
  rw [if_neg (by omega)]
end Go.Proofs.Ytgeldmhgbnamcaa.Pure
end
section
/- Plain laws of batches, third part: what Pack and Right compute. -/
namespace Go.Proofs.Ytgeldmhgbnamcaa.Pure
open Go.RowKit Go.Proofs.Ytgeldmhgbnamcaa.P Go.Proofs.YtgeldmhgbnamcaaW.PrintWords Go.Proofs.YtgeldmhgbnamcaaW.PrintLast
set_option linter.unusedVariables false
set_option linter.unusedSimpArgs false
theorem ke_comm {a b : S50} : ke a b ↔ ke b a := by unfold ke; omega
theorem summed_j2 {X acc : List S50} {i : Int} {c : S50} {r : List S50 × Int × List S50} (ha : Short acc.length)
  (h1 : wi c.f2 → Ev (fun k => batch_summed.l0 k X (acc ++ fin [c]) i) r) (h2 : ¬ wi c.f2 → r = ([], 10, X)) : Ev (fun k => batch_summed.j2 k X acc i c.f0 c.f1 c.f2) r := by
 by_cases hc : wi c.f2
 ·obtain ⟨K, h⟩ := h1 hc
  refine ⟨K + 1, fun k hk => ?_⟩
  obtain ⟨k, rfl⟩ : ∃ m, k = m + 1 := ⟨k - 1, by omega⟩
  have h := h k (by omega); dsimp only at h
  show batch_summed.j2 (k + 1) _ _ _ _ _ _ = _
  simp only [batch_summed.j2, within_eq, Option.bind_some, hc, decide_true, if_true]
  by_cases hz : c.f2 = 0
  ·rw [if_pos hz]
   simpa [fin, hz] using h
  ·rw [if_neg hz, if_pos (by omega)]
   simpa [fin, hz] using h
 ·refine ⟨1, fun k hk => ?_⟩
  obtain ⟨k, rfl⟩ : ∃ m, k = m + 1 := ⟨k - 1, by omega⟩
  show batch_summed.j2 (k + 1) _ _ _ _ _ _ = _
  simp only [batch_summed.j2, within_eq, Option.bind_some, hc, decide_false, Bool.false_eq_true, if_false, h2 hc]
theorem good_cons {c : S50} {G : List S50} : good (c :: G) = (decide (wi c.f2) && good G) := by simp [good]
theorem fin_cons {c : S50} {G : List S50} : fin (c :: G) = fin [c] ++ fin G := by simp only [fin, List.filter_cons]; split <;> simp
theorem fin_len (G : List S50) : (fin G).length ≤ G.length := List.length_filter_le _ _
def sumo (X acc G : List S50) : List S50 × Int × List S50 := if good G = true then (acc ++ fin G, 0, X) else ([], 10, X)
theorem summed_l1 : ∀ (r pre acc : List S50) (c : S50), acc.length + r.length + 1 ≤ 5864062014634 → pre.length + r.length ≤ 8000000000000000000 →
  Ev (fun k => batch_summed.l1 k (pre ++ r) acc (pre.length : Int) c.f0 c.f1 c.f2) (sumo (pre ++ r) acc (grp c r)) := by
 intro r
 induction r with
 | nil =>
  intro pre acc c ha hp
  simp only [List.length_nil] at ha hp
  refine Ev.step (f := fun k => batch_summed.j2 k (pre ++ []) acc (pre.length : Int) c.f0 c.f1 c.f2) (fun k => ?_) (summed_j2 (by unfold Short; omega) (fun hc => ?_) (fun hc => ?_))
  ·show batch_summed.l1 (k + 1) _ _ _ _ _ _ = _
   rw [batch_summed.l1, if_neg (by simp)]
  ·refine ⟨1, fun k hk => ?_⟩
   obtain ⟨k, rfl⟩ : ∃ m, k = m + 1 := ⟨k - 1, by omega⟩
   show batch_summed.l0 (k + 1) _ _ _ = _
   rw [batch_summed.l0, if_neg (by simp)]
   simp [sumo, grp, good, hc]
  ·simp [sumo, grp, good, hc]
 | cons y r ih =>
  intro pre acc c ha hp
  simp only [List.length_cons] at ha hp
  have c1 : (pre.length : Int) < ((pre ++ y :: r).length : Int) := by simp; omega
  have c2 : (0 : Int) ≤ pre.length := by omega
  have e1 : rd_T50 (pre ++ y :: r) (pre.length : Int) = y := rd5 _ _ _ rfl
  have ew : wrap64 ((pre.length : Int) + 1) = ((pre ++ [y]).length : Int) := by rw [w64s (by omega)]; simp
  have eX : pre ++ y :: r = (pre ++ [y]) ++ r := by simp
  obtain ⟨K, o⟩ := order_at y c
  by_cases hk : ke c y
  ·obtain ⟨K1, h1⟩ := ih (pre ++ [y]) acc (plus c y) (by omega) (by simp; omega)
   refine ⟨K + K1 + 1, fun k hk' => ?_⟩
   obtain ⟨k, rfl⟩ : ∃ m, k = m + 1 := ⟨k - 1, by omega⟩
   have o := o k (by omega); dsimp only at o
   have h1 := h1 k (by omega); dsimp only at h1
   show batch_summed.l1 (k + 1) _ _ _ _ _ _ = _
   rw [batch_summed.l1, if_pos c1, if_pos c2, e1, o, Option.bind_some, if_pos (ordv_zero.2 (ke_comm.1 hk)), ew]
   simp only [grp, if_pos hk, eX]
   exact h1
  ·suffices h : Ev (fun k => batch_summed.j2 k (pre ++ y :: r) acc (pre.length : Int) c.f0 c.f1 c.f2) (sumo (pre ++ y :: r) acc (c :: grp y r)) by
    obtain ⟨K1, h1⟩ := h
    refine ⟨K + K1 + 1, fun k hk' => ?_⟩
    obtain ⟨k, rfl⟩ : ∃ m, k = m + 1 := ⟨k - 1, by omega⟩
    have o := o k (by omega); dsimp only at o
    have h1 := h1 k (by omega); dsimp only at h1
    show batch_summed.l1 (k + 1) _ _ _ _ _ _ = _
    rw [batch_summed.l1, if_pos c1, if_pos c2, e1, o, Option.bind_some, if_neg (fun h => hk (ke_comm.1 (ordv_zero.1 h)))]
    simp only [grp, if_neg hk]
    exact h1
   refine summed_j2 (by unfold Short; omega) (fun hc => ?_) (fun hc => by simp [sumo, good_cons, hc])
   obtain ⟨K1, h1⟩ := ih (pre ++ [y]) (acc ++ fin [c]) y (by have := fin_len [c]; simp at this ⊢; omega) (by simp; omega)
   refine ⟨K1 + 1, fun k hk' => ?_⟩
   obtain ⟨k, rfl⟩ : ∃ m, k = m + 1 := ⟨k - 1, by omega⟩
   have h1 := h1 k (by omega); dsimp only at h1
   show batch_summed.l0 (k + 1) _ _ _ = _
   rw [batch_summed.l0, if_pos c1, if_pos c2, e1, ew, eX, h1]
   simp only [sumo, good_cons, hc, decide_true, Bool.true_and, fin_cons (c := c) (G := grp y r), List.append_assoc]
theorem summed_l0 (X : List S50) (h : Srt X) (hl : Short X.length) : Ev (fun k => batch_summed.l0 k X [] 0) (sumo X [] (tot X)) := by
 unfold Short at hl
 cases X with
 | nil =>
  refine ⟨1, fun k hk => ?_⟩
  obtain ⟨k, rfl⟩ : ∃ m, k = m + 1 := ⟨k - 1, by omega⟩
  show batch_summed.l0 (k + 1) _ _ _ = _
  rw [batch_summed.l0, if_neg (by simp)]
  rfl
 | cons c r =>
  simp only [List.length_cons] at hl
  have := summed_l1 r [c] [] c (by simp; omega) (by simp; omega)
  rw [tot_grp h]
  refine Ev.step (fun k => ?_) this
  show batch_summed.l0 (k + 1) _ _ _ = _
  have ew : wrap64 ((0 : Int) + 1) = 1 := by unfold wrap64; omega
  rw [batch_summed.l0, if_pos (by simp), if_pos (Int.le_refl 0), ew]
  rfl
/-- A list that the program's sort sorts. -/
def Sorts (l : List S50) : Prop := ∃ l' : List S50, l'.Perm l ∧ Srt l' ∧ Ev (fun k => batch_Change_74.f k l) l'
theorem summed_ev {l : List S50} (hs : Sorts l) (hl : Short l.length) : ∃ s, Ev (fun k => batch_summed.f k l) (sumo s [] (tot l)) := by
 obtain ⟨s, p, hs, h⟩ := hs
 refine ⟨s, Ev.bind h ?_⟩
 rw [← tot_perm p]
 exact summed_l0 s hs (by rw [p.length_eq]; exact hl)
/-- the sums of a list, checked -/
def sumv (l : List S50) : List S50 × Int := if good (tot l) = true then (fin (tot l), 0) else ([], 10)
def firstw : List S50 → Int
 | [] => 0
 | x :: r => if wrongv x = 0 then firstw r else wrongv x
def packv (l : List S50) : List S50 × Int := if l.length > 16 then ([], 4) else if firstw l = 0 then sumv l else ([], firstw l)
theorem pack_l0 (l : List S50) (hs : Sorts l) (hl : Short l.length) : ∀ (r pre : List S50), l = pre ++ r →
  Ev (fun k => batch_Pack.l0 k l l (l.length : Int) (pre.length : Int)) (if firstw r = 0 then sumv l else ([], firstw r)) := by
 intro r
 induction r with
 | nil =>
  intro pre e
  obtain ⟨s, K, h⟩ := summed_ev hs hl
  refine ⟨K + 1, fun k hk => ?_⟩
  obtain ⟨k, rfl⟩ : ∃ m, k = m + 1 := ⟨k - 1, by omega⟩
  have h := h k (by omega); dsimp only at h
  show batch_Pack.l0 (k + 1) _ _ _ _ = _
  rw [batch_Pack.l0, if_neg (by subst e; simp), slices_CloneC.f, if_pos (by unfold Short at hl; omega), Option.bind_some, h, Option.bind_some]
  simp only [firstw, if_true, sumo, sumv]
  split <;> simp
 | cons x r ih =>
  intro pre e
  obtain ⟨K, h⟩ := wrong_ev x
  have ih := ih (pre ++ [x]) (by simp [e])
  obtain ⟨K1, h1⟩ := ih
  refine ⟨K + K1 + 1, fun k hk => ?_⟩
  obtain ⟨k, rfl⟩ : ∃ m, k = m + 1 := ⟨k - 1, by omega⟩
  have h := h k (by omega); dsimp only at h
  have h1 := h1 k (by omega); dsimp only at h1
  have e1 : rd_T50 l (pre.length : Int) = x := by rw [e]; exact rd5 _ _ _ rfl
  have ll : l.length = pre.length + (r.length + 1) := by rw [e]; simp
  unfold Short at hl
  show batch_Pack.l0 (k + 1) _ _ _ _ = _
  rw [batch_Pack.l0, if_pos (by omega), if_pos (by omega), if_pos (by omega), e1, h, Option.bind_some]
  have ew : wrap64 ((pre.length : Int) + 1) = ((pre ++ [x]).length : Int) := by rw [w64s (by omega)]; simp
  by_cases hw : wrongv x = 0
  ·rw [if_pos hw, ew, h1]
   simp only [firstw, if_pos hw]
  ·rw [if_neg hw]
   simp only [firstw, if_neg hw]
theorem pack_ev (l : List S50) (hs : Sorts l) (hl : Short l.length) : Ev (fun k => batch_Pack.f k l) (packv l) := by
 unfold packv
 by_cases h : l.length > 16
 ·rw [if_pos h]
  exact ⟨0, fun k _ => by show batch_Pack.f k l = _; rw [batch_Pack.f, if_pos (by omega)]⟩
 ·rw [if_neg h]
  exact Ev.congr (fun k => by show batch_Pack.f k l = _; rw [batch_Pack.f, if_neg (by omega)]; rfl) (pack_l0 l hs hl l [] rfl)
theorem sorts_short {l : List S50} (h : l.length ≤ 20) : Sorts l := sort_short l h
/-- Pack, whatever it is given -/
theorem pack_all (l : List S50) : Ev (fun k => batch_Pack.f k l) (packv l) := by
 by_cases h : l.length > 16
 ·unfold packv
  rw [if_pos h]
  exact ⟨0, fun k _ => by show batch_Pack.f k l = _; rw [batch_Pack.f, if_pos (by omega)]⟩
 ·exact pack_ev l (sorts_short (by omega)) (by unfold Short; omega)
/-! ### Right -/
def rightL (p : Option S50) : List S50 → Bool
 | [] => true
 | x :: r => decide (wrongv x = 0) && decide (x.f2 ≠ 0) && (match p with | none => true | some p => decide (kl p x)) && rightL (some x) r
def rightv (l : List S50) : Bool := rightL none l
theorem right_l0 (l : List S50) (hl : l.length ≤ 8000000000000000000) : ∀ (r pre : List S50), l = pre ++ r →
  Ev (fun k => batch_Right.l0 k l l (l.length : Int) (pre.length : Int)) (rightL pre.getLast? r) := by
 intro r
 induction r with
 | nil =>
  intro pre e
  refine ⟨1, fun k hk => ?_⟩
  obtain ⟨k, rfl⟩ : ∃ m, k = m + 1 := ⟨k - 1, by omega⟩
  show batch_Right.l0 (k + 1) _ _ _ _ = _
  rw [batch_Right.l0, if_neg (by subst e; simp)]
  rfl
 | cons x r ih =>
  intro pre e
  obtain ⟨K, h⟩ := wrong_ev x
  obtain ⟨K1, h1⟩ := ih (pre ++ [x]) (by simp [e])
  have e1 : rd_T50 l (pre.length : Int) = x := by rw [e]; exact rd5 _ _ _ rfl
  have ll : l.length = pre.length + (r.length + 1) := by rw [e]; simp
  have ew : wrap64 ((pre.length : Int) + 1) = ((pre ++ [x]).length : Int) := by rw [w64s (by omega)]; simp
  rcases List.eq_nil_or_concat pre with rfl | ⟨pre', y, rfl⟩
  ·refine ⟨K + K1 + 1, fun k hk => ?_⟩
   obtain ⟨k, rfl⟩ : ∃ m, k = m + 1 := ⟨k - 1, by omega⟩
   have h := h k (by omega); dsimp only at h
   have h1 := h1 k (by omega); dsimp only at h1
   show batch_Right.l0 (k + 1) _ _ _ _ = _
   rw [batch_Right.l0, if_pos (by omega), if_pos (by omega), if_pos (by omega), e1, h, Option.bind_some]
   simp only [rightL, List.getLast?_nil]
   by_cases hw : wrongv x = 0
   ·rw [if_pos hw]
    by_cases hz : x.f2 = 0
    ·rw [if_pos hz]; simp [hz]
    ·rw [if_neg hz, if_neg (by simp), ew, h1]; simp [hw, hz]
   ·rw [if_neg hw]; simp [hw]
  ·simp only [List.concat_eq_append] at *
   obtain ⟨K2, h2⟩ := order_at y x
   refine ⟨K + K1 + K2 + 1, fun k hk => ?_⟩
   obtain ⟨k, rfl⟩ : ∃ m, k = m + 1 := ⟨k - 1, by omega⟩
   have h := h k (by omega)
   have h1 := h1 k (by omega)
   have h2 := h2 k (by omega); dsimp only at h2
   have lp : (pre' ++ [y]).length = pre'.length + 1 := by simp
   have ep : wrap64 (((pre' ++ [y]).length : Int) - 1) = (pre'.length : Int) := by rw [lp]; exact w64p (by omega)
   have e2 : rd_T50 l (pre'.length : Int) = y := by rw [e, List.append_assoc]; exact rd5 _ _ _ rfl
   show batch_Right.l0 (k + 1) _ _ _ _ = _
   rw [batch_Right.l0, if_pos (by omega), if_pos (by omega), if_pos (by omega), e1, h, Option.bind_some]
   simp only [rightL, List.getLast?_append, List.getLast?_singleton, Option.some_or]
   by_cases hw : wrongv x = 0
   ·rw [if_pos hw]
    by_cases hz : x.f2 = 0
    ·rw [if_pos hz]; simp [hz]
    ·rw [if_neg hz, if_pos (by omega), ep, if_pos (by omega), if_pos (by omega), e2, h2, Option.bind_some, ew, h1]
     by_cases hk : kl y x
     ·rw [if_neg (fun h => ordv_nonneg.1 h hk)]; simp [hw, hz, hk]
     ·rw [if_pos (ordv_nonneg.2 hk)]; simp [hk]
   ·rw [if_neg hw]; simp [hw]
theorem right_ev (l : List S50) (hl : l.length ≤ 8000000000000000000) : Ev (fun k => batch_Right.f k l) (rightv l) :=
 Ev.congr (fun k => by show batch_Right.f k l = _; rw [batch_Right.f]; rfl) (right_l0 l hl l [] rfl)
end Go.Proofs.Ytgeldmhgbnamcaa.Pure
end
