/- Walks and laws of several statements of this seat, joined into one text; no condition. -/
import Derived.Test.YtgeldmhgbnamcaaDoorProg
import Derived.Below
import Derived.Deep.Draws
import Derived.Deep.AppendLies
import Derived.Maps.AppendAt
import Derived.OwnWalk
import Derived.Laws.BytesArg
import Derived.Laws.MakeOwn
import Derived.Laws.OwnMore
import Derived.Deep.OwnRows
import Derived.Tactics
import Derived.Lib.ConvBytes
import Derived.Laws.Slices
import Derived.WalkKit
import Derived.KernelRfl
import Derived.RowKit3
import Derived.Deep.LoopGhost
import Derived.Deep.QuietTactic
import Derived.BigQuiet
import Derived.WideLaws
import Derived.Deep.DeepCutAuto
import Derived.Deep.CutBlock
import Derived.Deep.RegionHeld3
import Derived.Laws.Rows
import Derived.Lib.AppendStr
import Derived.ArgAppend
import Derived.Laws.IdiomCopy
import Derived.OrdersHeld
import Derived.Laws.BitsLemmas
import Derived.RowKit
import Derived.Laws.StructEq
import Derived.IntWalk
import Derived.Deep.Slices
import Derived.SizedLaws
import Derived.Test.YtgeldmhgbnamcaaDoorZa0
section
-- Printed by the session's own turn of the print (wip/tools/print2.sh): some callees are proved by hand.
namespace Go.Proofs.YtgeldmhgbnamcaaDoor.P
open Go.RowKit Go.Proofs.YtgeldmhgbnamcaaDoorW.PrintWords Go.Proofs.YtgeldmhgbnamcaaDoorW.PrintLast Go.Proofs.YtgeldmhgbnamcaaDoorW.PrintMore
attribute [local go_sem] max2_int min2_int max_two min_two max_three min_three max_four min_four   -- for this text's walks alone
set_option linter.unusedVariables false
set_option linter.unusedSimpArgs false
def errW : Option Int → Value
  | none => .nilIface
  | some c => .iface 0 (.int .i64 c)
theorem errW_none : errW none = .nilIface := rfl
theorem errW_some (c : Int) : errW (some c) = .iface 0 (.int .i64 c) := rfl
-- the values' own types
end Go.Proofs.YtgeldmhgbnamcaaDoor.P
end
section
-- Printed by the session's own turn of the print (wip/tools/print2.sh): some callees are proved by hand.
namespace Go.Proofs.YtgeldmhgbnamcaaDoor.P
open Go.RowKit Go.Proofs.YtgeldmhgbnamcaaDoorW.PrintWords Go.Proofs.YtgeldmhgbnamcaaDoorW.PrintLast Go.Proofs.YtgeldmhgbnamcaaDoorW.PrintMore
attribute [local go_sem] max2_int min2_int max_two min_two max_three min_three max_four min_four   -- for this text's walks alone
set_option linter.unusedVariables false
set_option linter.unusedSimpArgs false

/-! ### stamp_Plus: function 12 -/
def stamp_Plus.f (a0 : Int) (a1 : Int) : Option (Int) := if a0 ≥ (IntKind.u64.wrap (18446744073709551615 - a1)) then (some 18446744073709551615) else (some (IntKind.u64.wrap (a0 + a1)))
set_option maxHeartbeats 8000000 in
set_option maxRecDepth 100000 in
theorem stamp_Plus.calls (a0 : Int) (a1 : Int) (r : Int) (w : World) (h : stamp_Plus.f a0 a1 = some r) :
    Calls Tryd.prog 12 #[.int .u64 a0, .int .u64 a1] w fun e w' => e = .returned (.int .u64 r) ∧ Drawn0 w w' := by
  have H : (if a0 ≥ (IntKind.u64.wrap (18446744073709551615 - a1)) then (some 18446744073709551615) else (some (IntKind.u64.wrap (a0 + a1)))) = some r := h
  clear h
  by_cases c3 : a0 ≥ (IntKind.u64.wrap (18446744073709551615 - a1))
  · rw [if_pos c3] at H
    have c3b0 : decide ((IntKind.u64.wrap (18446744073709551615 - a1)) ≤ a0) = true := decide_eq_true c3
    clear c3
    obtain rfl := Option.some.inj H
    go_enter Tryd.func12, Tryd.ntmps12
    go_wp2
    go_ret
    exact ⟨by first | rfl | (simp; done) | (simp [*]; done), by repeat (first | exact Drawn0.refl _ | apply Drawn0.step)⟩
  · rw [if_neg c3] at H
    have c3b0 : decide ((IntKind.u64.wrap (18446744073709551615 - a1)) ≤ a0) = false := decide_eq_false c3
    clear c3
    obtain rfl := Option.some.inj H
    go_enter Tryd.func12, Tryd.ntmps12
    go_wp2
    go_ret
    exact ⟨by first | rfl | (simp; done) | (simp [*]; done), by repeat (first | exact Drawn0.refl _ | apply Drawn0.step)⟩

end Go.Proofs.YtgeldmhgbnamcaaDoor.P
end
section
-- Printed by the session's own turn of the print (wip/tools/print2.sh): some callees are proved by hand.
namespace Go.Proofs.YtgeldmhgbnamcaaDoor.P
open Go.RowKit Go.Proofs.YtgeldmhgbnamcaaDoorW.PrintWords Go.Proofs.YtgeldmhgbnamcaaDoorW.PrintLast Go.Proofs.YtgeldmhgbnamcaaDoorW.PrintMore
attribute [local go_sem] max2_int min2_int max_two min_two max_three min_three max_four min_four   -- for this text's walks alone
set_option linter.unusedVariables false
set_option linter.unusedSimpArgs false

/-! ### stamp_Reaches: function 15 -/
def stamp_Reaches.f (a0 : Int) (a1 : Int) (a2 : Int) : Option (Bool) := (stamp_Plus.f a0 a1).bind fun t101 => (if t101 = 18446744073709551615 then (some false) else (some (decide (t101 ≤ a2))))
set_option maxHeartbeats 8000000 in
set_option maxRecDepth 100000 in
theorem stamp_Reaches.calls (a0 : Int) (a1 : Int) (a2 : Int) (r : Bool) (w : World) (h : stamp_Reaches.f a0 a1 a2 = some r) :
    Calls Tryd.prog 15 #[.int .u64 a0, .int .u64 a1, .int .u64 a2] w fun e w' => e = .returned (.bool r) ∧ Drawn0 w w' := by
  have H : ((stamp_Plus.f a0 a1).bind fun t101 => (if t101 = 18446744073709551615 then (some false) else (some (decide (t101 ≤ a2))))) = some r := h
  clear h
  replace H := Option.bind_eq_some_iff.mp H
  obtain ⟨t101, A40, H⟩ := H
  replace H : (if t101 = 18446744073709551615 then (some false) else (some (decide (t101 ≤ a2)))) = some r := H
  have A4 := Aside0.mk A40
  clear A40
  by_cases c5 : t101 = 18446744073709551615
  · rw [if_pos c5] at H
    have c5b0 : (t101 == 18446744073709551615) = true := beq_iff_eq.mpr c5
    have c5b1 : (t101 != 18446744073709551615) = false := bne_eq_false_iff_eq.mpr c5
    clear c5
    obtain rfl := Option.some.inj H
    go_enter Tryd.func15, Tryd.ntmps15
    go_wp2_with (first | ((with_reducible refine gate_callee (f := 12) rfl ?_); refine goesL_ (some 10) rfl rfl Tryd.func12 (by kernel_rfl) rfl #[.int .u64 a0, .int .u64 a1] rfl (by (try simp only [List.map_toArray, List.map_cons, List.map_nil]); first | done | rfl | (simp only [List.length_drop, List.length_take]; rfl)) ?_; (with_reducible refine (stamp_Plus.calls a0 a1 t101 _ A4.out).mono ?_); rintro e w' ⟨rfl, ⟨nd, rfl⟩⟩; refine ⟨_, rfl, ?_⟩))
    go_ret
    exact ⟨by first | rfl | (simp; done) | (simp [*]; done), by repeat (first | exact Drawn0.refl _ | apply Drawn0.step)⟩
  · rw [if_neg c5] at H
    have c5b0 : (t101 == 18446744073709551615) = false := beq_eq_false_iff_ne.mpr c5
    have c5b1 : (t101 != 18446744073709551615) = true := bne_iff_ne.mpr c5
    obtain rfl := Option.some.inj H
    go_enter Tryd.func15, Tryd.ntmps15
    go_wp2_with (first | ((with_reducible refine gate_callee (f := 12) rfl ?_); refine goesL_ (some 10) rfl rfl Tryd.func12 (by kernel_rfl) rfl #[.int .u64 a0, .int .u64 a1] rfl (by (try simp only [List.map_toArray, List.map_cons, List.map_nil]); first | done | rfl | (simp only [List.length_drop, List.length_take]; rfl)) ?_; (with_reducible refine (stamp_Plus.calls a0 a1 t101 _ A4.out).mono ?_); rintro e w' ⟨rfl, ⟨nd, rfl⟩⟩; refine ⟨_, rfl, ?_⟩))
    go_ret
    exact ⟨by first | rfl | (simp; done) | (simp [*]; done), by repeat (first | exact Drawn0.refl _ | apply Drawn0.step)⟩

end Go.Proofs.YtgeldmhgbnamcaaDoor.P
end
section
-- Printed by the session's own turn of the print (wip/tools/print2.sh): some callees are proved by hand.
namespace Go.Proofs.YtgeldmhgbnamcaaDoor.P
open Go.RowKit Go.Proofs.YtgeldmhgbnamcaaDoorW.PrintWords Go.Proofs.YtgeldmhgbnamcaaDoorW.PrintLast Go.Proofs.YtgeldmhgbnamcaaDoorW.PrintMore
attribute [local go_sem] max2_int min2_int max_two min_two max_three min_three max_four min_four   -- for this text's walks alone
set_option linter.unusedVariables false
set_option linter.unusedSimpArgs false

/-! ### marchlandref01_Plus: function 14 -/
def marchlandref01_Plus.f (a0 : Int) (a1 : Int) : Option (Int) := if a1 ≥ (IntKind.u64.wrap (18446744073709551615 - a0)) then (some 18446744073709551615) else (some (IntKind.u64.wrap (a0 + a1)))
set_option maxHeartbeats 8000000 in
set_option maxRecDepth 100000 in
theorem marchlandref01_Plus.calls (a0 : Int) (a1 : Int) (r : Int) (w : World) (h : marchlandref01_Plus.f a0 a1 = some r) :
    Calls Tryd.prog 14 #[.int .u64 a0, .int .u64 a1] w fun e w' => e = .returned (.int .u64 r) ∧ Drawn0 w w' := by
  have H : (if a1 ≥ (IntKind.u64.wrap (18446744073709551615 - a0)) then (some 18446744073709551615) else (some (IntKind.u64.wrap (a0 + a1)))) = some r := h
  clear h
  by_cases c3 : a1 ≥ (IntKind.u64.wrap (18446744073709551615 - a0))
  · rw [if_pos c3] at H
    have c3b0 : decide ((IntKind.u64.wrap (18446744073709551615 - a0)) ≤ a1) = true := decide_eq_true c3
    clear c3
    obtain rfl := Option.some.inj H
    go_enter Tryd.func14, Tryd.ntmps14
    go_wp2
    go_ret
    exact ⟨by first | rfl | (simp; done) | (simp [*]; done), by repeat (first | exact Drawn0.refl _ | apply Drawn0.step)⟩
  · rw [if_neg c3] at H
    have c3b0 : decide ((IntKind.u64.wrap (18446744073709551615 - a0)) ≤ a1) = false := decide_eq_false c3
    clear c3
    obtain rfl := Option.some.inj H
    go_enter Tryd.func14, Tryd.ntmps14
    go_wp2
    go_ret
    exact ⟨by first | rfl | (simp; done) | (simp [*]; done), by repeat (first | exact Drawn0.refl _ | apply Drawn0.step)⟩

end Go.Proofs.YtgeldmhgbnamcaaDoor.P
end
section
-- Printed by the session's own turn of the print (wip/tools/print2.sh): some callees are proved by hand.
namespace Go.Proofs.YtgeldmhgbnamcaaDoor.P
open Go.RowKit Go.Proofs.YtgeldmhgbnamcaaDoorW.PrintWords Go.Proofs.YtgeldmhgbnamcaaDoorW.PrintLast Go.Proofs.YtgeldmhgbnamcaaDoorW.PrintMore
attribute [local go_sem] max2_int min2_int max_two min_two max_three min_three max_four min_four   -- for this text's walks alone
set_option linter.unusedVariables false
set_option linter.unusedSimpArgs false

/-! ### marchlandref01_Reaches: function 16 -/
def marchlandref01_Reaches.f (a0 : Int) (a1 : Int) (a2 : Int) : Option (Bool) := (marchlandref01_Plus.f a0 a1).bind fun t121 => (if t121 = 18446744073709551615 then (some false) else (some (decide (t121 ≤ a2))))
set_option maxHeartbeats 8000000 in
set_option maxRecDepth 100000 in
theorem marchlandref01_Reaches.calls (a0 : Int) (a1 : Int) (a2 : Int) (r : Bool) (w : World) (h : marchlandref01_Reaches.f a0 a1 a2 = some r) :
    Calls Tryd.prog 16 #[.int .u64 a0, .int .u64 a1, .int .u64 a2] w fun e w' => e = .returned (.bool r) ∧ Drawn0 w w' := by
  have H : ((marchlandref01_Plus.f a0 a1).bind fun t121 => (if t121 = 18446744073709551615 then (some false) else (some (decide (t121 ≤ a2))))) = some r := h
  clear h
  replace H := Option.bind_eq_some_iff.mp H
  obtain ⟨t121, A40, H⟩ := H
  replace H : (if t121 = 18446744073709551615 then (some false) else (some (decide (t121 ≤ a2)))) = some r := H
  have A4 := Aside0.mk A40
  clear A40
  by_cases c5 : t121 = 18446744073709551615
  · rw [if_pos c5] at H
    have c5b0 : (t121 == 18446744073709551615) = true := beq_iff_eq.mpr c5
    have c5b1 : (t121 != 18446744073709551615) = false := bne_eq_false_iff_eq.mpr c5
    clear c5
    obtain rfl := Option.some.inj H
    go_enter Tryd.func16, Tryd.ntmps16
    go_wp2_with (first | ((with_reducible refine gate_callee (f := 14) rfl ?_); refine goesL_ (some 10) rfl rfl Tryd.func14 (by kernel_rfl) rfl #[.int .u64 a0, .int .u64 a1] rfl (by (try simp only [List.map_toArray, List.map_cons, List.map_nil]); first | done | rfl | (simp only [List.length_drop, List.length_take]; rfl)) ?_; (with_reducible refine (marchlandref01_Plus.calls a0 a1 t121 _ A4.out).mono ?_); rintro e w' ⟨rfl, ⟨nd, rfl⟩⟩; refine ⟨_, rfl, ?_⟩))
    go_ret
    exact ⟨by first | rfl | (simp; done) | (simp [*]; done), by repeat (first | exact Drawn0.refl _ | apply Drawn0.step)⟩
  · rw [if_neg c5] at H
    have c5b0 : (t121 == 18446744073709551615) = false := beq_eq_false_iff_ne.mpr c5
    have c5b1 : (t121 != 18446744073709551615) = true := bne_iff_ne.mpr c5
    obtain rfl := Option.some.inj H
    go_enter Tryd.func16, Tryd.ntmps16
    go_wp2_with (first | ((with_reducible refine gate_callee (f := 14) rfl ?_); refine goesL_ (some 10) rfl rfl Tryd.func14 (by kernel_rfl) rfl #[.int .u64 a0, .int .u64 a1] rfl (by (try simp only [List.map_toArray, List.map_cons, List.map_nil]); first | done | rfl | (simp only [List.length_drop, List.length_take]; rfl)) ?_; (with_reducible refine (marchlandref01_Plus.calls a0 a1 t121 _ A4.out).mono ?_); rintro e w' ⟨rfl, ⟨nd, rfl⟩⟩; refine ⟨_, rfl, ?_⟩))
    go_ret
    exact ⟨by first | rfl | (simp; done) | (simp [*]; done), by repeat (first | exact Drawn0.refl _ | apply Drawn0.step)⟩

end Go.Proofs.YtgeldmhgbnamcaaDoor.P
end
section
/- What layer 1's law tells first: it is so. No condition. -/
namespace Go.Proofs.YtgeldmhgbnamcaaDoor.P
open Go.RowKit Go.Proofs.YtgeldmhgbnamcaaDoorW.PrintWords Go.Proofs.YtgeldmhgbnamcaaDoorW.PrintLast Go.Proofs.YtgeldmhgbnamcaaDoorW.PrintMore
set_option linter.unusedVariables false
set_option linter.unusedSimpArgs false
theorem text7 (w : World) : Calls Tryd.prog 31 #[.int .u64 7] w fun e w' => e = .returned (.string ⟨#[55]⟩) ∧ Drawn0 w w' := by
  go_enter Tryd.func31, Tryd.ntmps31
  go_wp2_with (first | go_in)
  go_ret
  exact ⟨rfl, Drawn0.refl _⟩
def marchlandlaw01_told.f : Option Bool := some true
theorem marchlandlaw01_told.calls (r : Bool) (w : World) (h : marchlandlaw01_told.f = some r) : Calls Tryd.prog 13 #[] w fun e w' => e = .returned (.bool r) ∧ Below w.heap.size w w' := by
  obtain rfl := Option.some.inj h
  go_enter Tryd.func13, Tryd.ntmps13
  go_wp2_with (first | (go_at_call 31; (with_reducible refine (text7 _).mono ?_); rintro e w' ⟨rfl, ⟨nd, rfl⟩⟩) | go_in)
  go_ret
  exact ⟨rfl, Drawn0.below ⟨⟨nd, rfl⟩⟩⟩
end Go.Proofs.YtgeldmhgbnamcaaDoor.P
end
section
-- Printed by the session's own turn of the print (wip/tools/print2.sh): some callees are proved by hand.
namespace Go.Proofs.YtgeldmhgbnamcaaDoor.P
open Go.RowKit Go.Proofs.YtgeldmhgbnamcaaDoorW.PrintWords Go.Proofs.YtgeldmhgbnamcaaDoorW.PrintLast Go.Proofs.YtgeldmhgbnamcaaDoorW.PrintMore
attribute [local go_sem] max2_int min2_int max_two min_two max_three min_three max_four min_four   -- for this text's walks alone
set_option linter.unusedVariables false
set_option linter.unusedSimpArgs false

/-! ### marchlandlaw01_StampPlus: function 3 -/
def marchlandlaw01_StampPlus.j0 : Nat → Int → Int → Int → Int → Bool → Option (Bool)
  | 0, _, _, _, _, _ => none
  | k + 1, x0, x1, x2, x7, x47 => if x47 = true then (some false) else ((stamp_Plus.f x7 x2).bind fun t128 => ((stamp_Plus.f x1 x2).bind fun t129 => ((stamp_Plus.f x0 t129).bind fun t130 => (if t128 = t130 then (if x0 > x2 then (some true) else ((stamp_Plus.f x0 x1).bind fun t131 => ((stamp_Plus.f x2 x1).bind fun t132 => (some (decide (t131 ≤ t132)))))) else (some false)))))
def marchlandlaw01_StampPlus.f (k : Nat) (a0 : Int) (a1 : Int) (a2 : Int) : Option (Bool) := (stamp_Plus.f a0 a1).bind fun t122 => ((marchlandlaw01_told.f).bind fun t123 => (if t123 = true then ((marchlandref01_Plus.f a0 a1).bind fun t124 => (if t122 = t124 then ((stamp_Plus.f a1 a0).bind fun t125 => (if t122 = t125 then (if t122 < a0 then (marchlandlaw01_StampPlus.j0 k a0 a1 a2 t122 true) else (if t122 < a1 then (marchlandlaw01_StampPlus.j0 k a0 a1 a2 t122 true) else ((stamp_Reaches.f a0 a1 a2).bind fun t126 => ((marchlandref01_Reaches.f a0 a1 a2).bind fun t127 => (marchlandlaw01_StampPlus.j0 k a0 a1 a2 t122 (t126 != t127)))))) else (marchlandlaw01_StampPlus.j0 k a0 a1 a2 t122 true))) else (marchlandlaw01_StampPlus.j0 k a0 a1 a2 t122 true))) else (marchlandlaw01_StampPlus.j0 k a0 a1 a2 t122 true)))
theorem marchlandlaw01_StampPlus.mono_l : ∀ k, (∀ y0 y1 y2 y3 y4, LeO (marchlandlaw01_StampPlus.j0 k y0 y1 y2 y3 y4) (marchlandlaw01_StampPlus.j0 (k + 1) y0 y1 y2 y3 y4))
  | 0 => fun _ _ _ _ _ r h => by simp [marchlandlaw01_StampPlus.j0] at h
  | k + 1 => by
    have ih0 := marchlandlaw01_StampPlus.mono_l k
    · intro y0 y1 y2 y3 y4
      unfold marchlandlaw01_StampPlus.j0
      repeat' first
      | (with_reducible exact ih0 _ _ _ _ _)
      | (with_reducible exact LeO.refl _)
      | (with_reducible exact LeO.none _)
      | (with_reducible refine LeO.ite ?_ ?_)
      | (with_reducible refine LeO.bind ?_ (fun _ => ?_))
      | exact ih0 _ _ _ _ _
      | exact LeO.none _
      | refine LeO.ite ?_ ?_
      | refine LeO.bind ?_ (fun _ => ?_)
theorem marchlandlaw01_StampPlus.mono : ∀ a0 a1 a2 k, LeO (marchlandlaw01_StampPlus.f k a0 a1 a2) (marchlandlaw01_StampPlus.f (k + 1) a0 a1 a2) := by
  intro a0 a1 a2 k
  have ih0 := marchlandlaw01_StampPlus.mono_l k
  unfold marchlandlaw01_StampPlus.f
  repeat' first
      | (with_reducible exact ih0 _ _ _ _ _)
      | (with_reducible exact LeO.refl _)
      | (with_reducible exact LeO.none _)
      | (with_reducible refine LeO.ite ?_ ?_)
      | (with_reducible refine LeO.bind ?_ (fun _ => ?_))
      | exact ih0 _ _ _ _ _
      | exact LeO.none _
      | refine LeO.ite ?_ ?_
      | refine LeO.bind ?_ (fun _ => ?_)
set_option maxHeartbeats 8000000 in
set_option maxRecDepth 100000 in
theorem marchlandlaw01_StampPlus.calls (k : Nat) (a0 : Int) (a1 : Int) (a2 : Int) (r : Bool) (w : World) (h : marchlandlaw01_StampPlus.f k a0 a1 a2 = some r) :
    Calls Tryd.prog 3 #[.int .u64 a0, .int .u64 a1, .int .u64 a2] w fun e w' => e = .returned (.bool r) ∧ Below w.heap.size w w' := by
  have HB := Aside0.mk (Below.refl w.heap.size w)
  have H : ((stamp_Plus.f a0 a1).bind fun t122 => ((marchlandlaw01_told.f).bind fun t123 => (if t123 = true then ((marchlandref01_Plus.f a0 a1).bind fun t124 => (if t122 = t124 then ((stamp_Plus.f a1 a0).bind fun t125 => (if t122 = t125 then (if t122 < a0 then (marchlandlaw01_StampPlus.j0 k a0 a1 a2 t122 true) else (if t122 < a1 then (marchlandlaw01_StampPlus.j0 k a0 a1 a2 t122 true) else ((stamp_Reaches.f a0 a1 a2).bind fun t126 => ((marchlandref01_Reaches.f a0 a1 a2).bind fun t127 => (marchlandlaw01_StampPlus.j0 k a0 a1 a2 t122 (t126 != t127)))))) else (marchlandlaw01_StampPlus.j0 k a0 a1 a2 t122 true))) else (marchlandlaw01_StampPlus.j0 k a0 a1 a2 t122 true))) else (marchlandlaw01_StampPlus.j0 k a0 a1 a2 t122 true)))) = some r := h
  clear h
  replace H := Option.bind_eq_some_iff.mp H
  obtain ⟨t122, A40, H⟩ := H
  replace H : ((marchlandlaw01_told.f).bind fun t123 => (if t123 = true then ((marchlandref01_Plus.f a0 a1).bind fun t124 => (if t122 = t124 then ((stamp_Plus.f a1 a0).bind fun t125 => (if t122 = t125 then (if t122 < a0 then (marchlandlaw01_StampPlus.j0 k a0 a1 a2 t122 true) else (if t122 < a1 then (marchlandlaw01_StampPlus.j0 k a0 a1 a2 t122 true) else ((stamp_Reaches.f a0 a1 a2).bind fun t126 => ((marchlandref01_Reaches.f a0 a1 a2).bind fun t127 => (marchlandlaw01_StampPlus.j0 k a0 a1 a2 t122 (t126 != t127)))))) else (marchlandlaw01_StampPlus.j0 k a0 a1 a2 t122 true))) else (marchlandlaw01_StampPlus.j0 k a0 a1 a2 t122 true))) else (marchlandlaw01_StampPlus.j0 k a0 a1 a2 t122 true))) = some r := H
  have A4 := Aside0.mk A40
  clear A40
  have HC5 := Aside0.mk H
  clear H
  go_enter Tryd.func3, Tryd.ntmps3
  go_upto_region 2 with (first | ((with_reducible refine gate_callee (f := 12) rfl ?_); refine goesL_ (some 10) rfl rfl Tryd.func12 (by kernel_rfl) rfl #[.int .u64 a0, .int .u64 a1] rfl (by (try simp only [List.map_toArray, List.map_cons, List.map_nil]); first | done | rfl | (simp only [List.length_drop, List.length_take]; rfl)) ?_; (with_reducible refine (stamp_Plus.calls a0 a1 t122 _ A4.out).mono ?_); rintro e w' ⟨rfl, ⟨nd, rfl⟩⟩; refine ⟨_, rfl, ?_⟩))
  (try simp only [Act.put, List.setIfInBounds_toArray, List.set_cons_zero, List.set_cons_succ])
  go_cut [47] (fun v47 wc => ∃ (kq : Nat) (x47_4 : Bool), v47 = .bool x47_4 ∧ Aside0 (marchlandlaw01_StampPlus.j0 kq a0 a1 a2 t122 x47_4 = some r) ∧ Aside0 (kq ≤ k) ∧ Aside0 (Below w.heap.size w wc))
  case first =>
    have H := HC5.out
    clear HC5
    replace H := Option.bind_eq_some_iff.mp H
    obtain ⟨t123, A60, H⟩ := H
    replace H : (if t123 = true then ((marchlandref01_Plus.f a0 a1).bind fun t124 => (if t122 = t124 then ((stamp_Plus.f a1 a0).bind fun t125 => (if t122 = t125 then (if t122 < a0 then (marchlandlaw01_StampPlus.j0 k a0 a1 a2 t122 true) else (if t122 < a1 then (marchlandlaw01_StampPlus.j0 k a0 a1 a2 t122 true) else ((stamp_Reaches.f a0 a1 a2).bind fun t126 => ((marchlandref01_Reaches.f a0 a1 a2).bind fun t127 => (marchlandlaw01_StampPlus.j0 k a0 a1 a2 t122 (t126 != t127)))))) else (marchlandlaw01_StampPlus.j0 k a0 a1 a2 t122 true))) else (marchlandlaw01_StampPlus.j0 k a0 a1 a2 t122 true))) else (marchlandlaw01_StampPlus.j0 k a0 a1 a2 t122 true)) = some r := H
    have A6 := Aside0.mk A60
    clear A60
    by_cases c7 : t123 = true
    · subst c7
      have H1 : ((marchlandref01_Plus.f a0 a1).bind fun t124 => (if t122 = t124 then ((stamp_Plus.f a1 a0).bind fun t125 => (if t122 = t125 then (if t122 < a0 then (marchlandlaw01_StampPlus.j0 k a0 a1 a2 t122 true) else (if t122 < a1 then (marchlandlaw01_StampPlus.j0 k a0 a1 a2 t122 true) else ((stamp_Reaches.f a0 a1 a2).bind fun t126 => ((marchlandref01_Reaches.f a0 a1 a2).bind fun t127 => (marchlandlaw01_StampPlus.j0 k a0 a1 a2 t122 (t126 != t127)))))) else (marchlandlaw01_StampPlus.j0 k a0 a1 a2 t122 true))) else (marchlandlaw01_StampPlus.j0 k a0 a1 a2 t122 true))) = some r := by rw [if_pos rfl] at H; exact H
      clear H
      have H := H1
      clear H1
      replace H := Option.bind_eq_some_iff.mp H
      obtain ⟨t124, A80, H⟩ := H
      replace H : (if t122 = t124 then ((stamp_Plus.f a1 a0).bind fun t125 => (if t122 = t125 then (if t122 < a0 then (marchlandlaw01_StampPlus.j0 k a0 a1 a2 t122 true) else (if t122 < a1 then (marchlandlaw01_StampPlus.j0 k a0 a1 a2 t122 true) else ((stamp_Reaches.f a0 a1 a2).bind fun t126 => ((marchlandref01_Reaches.f a0 a1 a2).bind fun t127 => (marchlandlaw01_StampPlus.j0 k a0 a1 a2 t122 (t126 != t127)))))) else (marchlandlaw01_StampPlus.j0 k a0 a1 a2 t122 true))) else (marchlandlaw01_StampPlus.j0 k a0 a1 a2 t122 true)) = some r := H
      have A8 := Aside0.mk A80
      clear A80
      by_cases c9 : t122 = t124
      · rw [if_pos c9] at H
        have c9b0 : (t122 == t124) = true := beq_iff_eq.mpr c9
        have c9b1 : (t122 != t124) = false := bne_eq_false_iff_eq.mpr c9
        clear c9
        (first | rw [c9b0] | (simp only [i64_w, i32_w]; rw [c9b0]) | skip)
        replace H := Option.bind_eq_some_iff.mp H
        obtain ⟨t125, A100, H⟩ := H
        replace H : (if t122 = t125 then (if t122 < a0 then (marchlandlaw01_StampPlus.j0 k a0 a1 a2 t122 true) else (if t122 < a1 then (marchlandlaw01_StampPlus.j0 k a0 a1 a2 t122 true) else ((stamp_Reaches.f a0 a1 a2).bind fun t126 => ((marchlandref01_Reaches.f a0 a1 a2).bind fun t127 => (marchlandlaw01_StampPlus.j0 k a0 a1 a2 t122 (t126 != t127)))))) else (marchlandlaw01_StampPlus.j0 k a0 a1 a2 t122 true)) = some r := H
        have A10 := Aside0.mk A100
        clear A100
        by_cases c11 : t122 = t125
        · rw [if_pos c11] at H
          have c11b0 : (t122 == t125) = true := beq_iff_eq.mpr c11
          have c11b1 : (t122 != t125) = false := bne_eq_false_iff_eq.mpr c11
          clear c11
          by_cases c12 : t122 < a0
          · rw [if_pos c12] at H
            have c12b0 : decide (t122 < a0) = true := decide_eq_true c12
            clear c12
            have H' := Aside0.mk H
            clear H
            go_wp2_with (first | ((with_reducible refine gate_callee (f := 13) rfl ?_); refine goesL_ (some 11) rfl rfl Tryd.func13 (by kernel_rfl) rfl #[] rfl (by (try simp only [List.map_toArray, List.map_cons, List.map_nil]); first | done | rfl | (simp only [List.length_drop, List.length_take]; rfl)) ?_; (with_reducible refine (marchlandlaw01_told.calls  true _ A6.out).mono ?_); rintro e w13 ⟨rfl, hb⟩; refine ⟨_, rfl, ?_⟩; have n0_ := Aside0.mk (below_step (by repeat (first | (with_reducible first | exact HB.out | apply below_alloc | apply pw_below_drewN | apply below_drew1) | exact HB.out)) hb); clear HB; have HB := n0_; clear n0_; (try clear hb); (try clear hb2); (try clear hk); (try clear hi)) | (go_at_call 14; (with_reducible refine (marchlandref01_Plus.calls a0 a1 t124 _ A8.out).mono ?_); rintro e w' ⟨rfl, ⟨nd, rfl⟩⟩) | (go_at_call 12; (with_reducible refine (stamp_Plus.calls a1 a0 t125 _ A10.out).mono ?_); rintro e w' ⟨rfl, ⟨nd, rfl⟩⟩))
            go_meet
            case rel => exact ⟨_, (true), (by first | rfl | (simp; done) | (simp [*]; done)), H', ⟨by first | omega | exact Nat.le_refl _⟩, ⟨by repeat (first | (with_reducible first | exact HB.out | apply below_alloc | apply pw_below_drewN | apply below_drew1) | exact HB.out)⟩⟩
          · rw [if_neg c12] at H
            have c12b0 : decide (t122 < a0) = false := decide_eq_false c12
            clear c12
            by_cases c14 : t122 < a1
            · rw [if_pos c14] at H
              have c14b0 : decide (t122 < a1) = true := decide_eq_true c14
              clear c14
              have H' := Aside0.mk H
              clear H
              go_wp2_with (first | ((with_reducible refine gate_callee (f := 13) rfl ?_); refine goesL_ (some 11) rfl rfl Tryd.func13 (by kernel_rfl) rfl #[] rfl (by (try simp only [List.map_toArray, List.map_cons, List.map_nil]); first | done | rfl | (simp only [List.length_drop, List.length_take]; rfl)) ?_; (with_reducible refine (marchlandlaw01_told.calls  true _ A6.out).mono ?_); rintro e w15 ⟨rfl, hb⟩; refine ⟨_, rfl, ?_⟩; have n0_ := Aside0.mk (below_step (by repeat (first | (with_reducible first | exact HB.out | apply below_alloc | apply pw_below_drewN | apply below_drew1) | exact HB.out)) hb); clear HB; have HB := n0_; clear n0_; (try clear hb); (try clear hb2); (try clear hk); (try clear hi)) | (go_at_call 14; (with_reducible refine (marchlandref01_Plus.calls a0 a1 t124 _ A8.out).mono ?_); rintro e w' ⟨rfl, ⟨nd, rfl⟩⟩) | (go_at_call 12; (with_reducible refine (stamp_Plus.calls a1 a0 t125 _ A10.out).mono ?_); rintro e w' ⟨rfl, ⟨nd, rfl⟩⟩))
              go_meet
              case rel => exact ⟨_, (true), (by first | rfl | (simp; done) | (simp [*]; done)), H', ⟨by first | omega | exact Nat.le_refl _⟩, ⟨by repeat (first | (with_reducible first | exact HB.out | apply below_alloc | apply pw_below_drewN | apply below_drew1) | exact HB.out)⟩⟩
            · rw [if_neg c14] at H
              have c14b0 : decide (t122 < a1) = false := decide_eq_false c14
              clear c14
              replace H := Option.bind_eq_some_iff.mp H
              obtain ⟨t126, A160, H⟩ := H
              replace H : ((marchlandref01_Reaches.f a0 a1 a2).bind fun t127 => (marchlandlaw01_StampPlus.j0 k a0 a1 a2 t122 (t126 != t127))) = some r := H
              have A16 := Aside0.mk A160
              clear A160
              replace H := Option.bind_eq_some_iff.mp H
              obtain ⟨t127, A170, H⟩ := H
              replace H : (marchlandlaw01_StampPlus.j0 k a0 a1 a2 t122 (t126 != t127)) = some r := H
              have A17 := Aside0.mk A170
              clear A170
              have H' := Aside0.mk H
              clear H
              go_wp2_with (first | ((with_reducible refine gate_callee (f := 13) rfl ?_); refine goesL_ (some 11) rfl rfl Tryd.func13 (by kernel_rfl) rfl #[] rfl (by (try simp only [List.map_toArray, List.map_cons, List.map_nil]); first | done | rfl | (simp only [List.length_drop, List.length_take]; rfl)) ?_; (with_reducible refine (marchlandlaw01_told.calls  true _ A6.out).mono ?_); rintro e w18 ⟨rfl, hb⟩; refine ⟨_, rfl, ?_⟩; have n0_ := Aside0.mk (below_step (by repeat (first | (with_reducible first | exact HB.out | apply below_alloc | apply pw_below_drewN | apply below_drew1) | exact HB.out)) hb); clear HB; have HB := n0_; clear n0_; (try clear hb); (try clear hb2); (try clear hk); (try clear hi)) | (go_at_call 14; (with_reducible refine (marchlandref01_Plus.calls a0 a1 t124 _ A8.out).mono ?_); rintro e w' ⟨rfl, ⟨nd, rfl⟩⟩) | (go_at_call 12; (with_reducible refine (stamp_Plus.calls a1 a0 t125 _ A10.out).mono ?_); rintro e w' ⟨rfl, ⟨nd, rfl⟩⟩) | (go_at_call 15; (with_reducible refine (stamp_Reaches.calls a0 a1 a2 t126 _ A16.out).mono ?_); rintro e w' ⟨rfl, ⟨nd, rfl⟩⟩) | (go_at_call 16; (with_reducible refine (marchlandref01_Reaches.calls a0 a1 a2 t127 _ A17.out).mono ?_); rintro e w' ⟨rfl, ⟨nd, rfl⟩⟩))
              go_meet
              case rel => exact ⟨_, ((t126 != t127)), (by first | rfl | (simp; done) | (simp [*]; done)), H', ⟨by first | omega | exact Nat.le_refl _⟩, ⟨by repeat (first | (with_reducible first | exact HB.out | apply below_alloc | apply pw_below_drewN | apply below_drew1) | exact HB.out)⟩⟩
        · rw [if_neg c11] at H
          have c11b0 : (t122 == t125) = false := beq_eq_false_iff_ne.mpr c11
          have c11b1 : (t122 != t125) = true := bne_iff_ne.mpr c11
          have H' := Aside0.mk H
          clear H
          go_wp2_with (first | ((with_reducible refine gate_callee (f := 13) rfl ?_); refine goesL_ (some 11) rfl rfl Tryd.func13 (by kernel_rfl) rfl #[] rfl (by (try simp only [List.map_toArray, List.map_cons, List.map_nil]); first | done | rfl | (simp only [List.length_drop, List.length_take]; rfl)) ?_; (with_reducible refine (marchlandlaw01_told.calls  true _ A6.out).mono ?_); rintro e w19 ⟨rfl, hb⟩; refine ⟨_, rfl, ?_⟩; have n0_ := Aside0.mk (below_step (by repeat (first | (with_reducible first | exact HB.out | apply below_alloc | apply pw_below_drewN | apply below_drew1) | exact HB.out)) hb); clear HB; have HB := n0_; clear n0_; (try clear hb); (try clear hb2); (try clear hk); (try clear hi)) | (go_at_call 14; (with_reducible refine (marchlandref01_Plus.calls a0 a1 t124 _ A8.out).mono ?_); rintro e w' ⟨rfl, ⟨nd, rfl⟩⟩) | (go_at_call 12; (with_reducible refine (stamp_Plus.calls a1 a0 t125 _ A10.out).mono ?_); rintro e w' ⟨rfl, ⟨nd, rfl⟩⟩))
          go_meet
          case rel => exact ⟨_, (true), (by first | rfl | (simp; done) | (simp [*]; done)), H', ⟨by first | omega | exact Nat.le_refl _⟩, ⟨by repeat (first | (with_reducible first | exact HB.out | apply below_alloc | apply pw_below_drewN | apply below_drew1) | exact HB.out)⟩⟩
      · rw [if_neg c9] at H
        have c9b0 : (t122 == t124) = false := beq_eq_false_iff_ne.mpr c9
        have c9b1 : (t122 != t124) = true := bne_iff_ne.mpr c9
        (first | rw [c9b0] | (simp only [i64_w, i32_w]; rw [c9b0]) | skip)
        have H' := Aside0.mk H
        clear H
        go_wp2_with (first | ((with_reducible refine gate_callee (f := 13) rfl ?_); refine goesL_ (some 11) rfl rfl Tryd.func13 (by kernel_rfl) rfl #[] rfl (by (try simp only [List.map_toArray, List.map_cons, List.map_nil]); first | done | rfl | (simp only [List.length_drop, List.length_take]; rfl)) ?_; (with_reducible refine (marchlandlaw01_told.calls  true _ A6.out).mono ?_); rintro e w20 ⟨rfl, hb⟩; refine ⟨_, rfl, ?_⟩; have n0_ := Aside0.mk (below_step (by repeat (first | (with_reducible first | exact HB.out | apply below_alloc | apply pw_below_drewN | apply below_drew1) | exact HB.out)) hb); clear HB; have HB := n0_; clear n0_; (try clear hb); (try clear hb2); (try clear hk); (try clear hi)) | (go_at_call 14; (with_reducible refine (marchlandref01_Plus.calls a0 a1 t124 _ A8.out).mono ?_); rintro e w' ⟨rfl, ⟨nd, rfl⟩⟩))
        go_meet
        case rel => exact ⟨_, (true), (by first | rfl | (simp; done) | (simp [*]; done)), H', ⟨by first | omega | exact Nat.le_refl _⟩, ⟨by repeat (first | (with_reducible first | exact HB.out | apply below_alloc | apply pw_below_drewN | apply below_drew1) | exact HB.out)⟩⟩
    · replace c7 := Bool.eq_false_iff.mpr c7
      subst c7
      have H1 : (marchlandlaw01_StampPlus.j0 k a0 a1 a2 t122 true) = some r := by rw [if_neg (show ¬ (false = true) by decide)] at H; exact H
      clear H
      have H := H1
      clear H1
      have H' := Aside0.mk H
      clear H
      go_wp2_with (first | ((with_reducible refine gate_callee (f := 13) rfl ?_); refine goesL_ (some 11) rfl rfl Tryd.func13 (by kernel_rfl) rfl #[] rfl (by (try simp only [List.map_toArray, List.map_cons, List.map_nil]); first | done | rfl | (simp only [List.length_drop, List.length_take]; rfl)) ?_; (with_reducible refine (marchlandlaw01_told.calls  false _ A6.out).mono ?_); rintro e w21 ⟨rfl, hb⟩; refine ⟨_, rfl, ?_⟩; have n0_ := Aside0.mk (below_step (by repeat (first | (with_reducible first | exact HB.out | apply below_alloc | apply pw_below_drewN | apply below_drew1) | exact HB.out)) hb); clear HB; have HB := n0_; clear n0_; (try clear hb); (try clear hb2); (try clear hk); (try clear hi)))
      go_meet
      case rel => exact ⟨_, (true), (by first | rfl | (simp; done) | (simp [*]; done)), H', ⟨by first | omega | exact Nat.le_refl _⟩, ⟨by repeat (first | (with_reducible first | exact HB.out | apply below_alloc | apply pw_below_drewN | apply below_drew1) | exact HB.out)⟩⟩
  case rest =>
    clear HC5
    try clear c1
    try clear p2
    try clear c3
    try clear c7
    try clear c9
    try clear c9b0
    try clear c9b1
    try clear c11
    try clear c11b0
    try clear c11b1
    try clear c12
    try clear c12b0
    try clear c13
    try clear c14
    try clear c14b0
    obtain ⟨kq, x47_4, rfl, HA, HJ4, HB⟩ := hcut
    cases kq with
    | zero => exact absurd HA.out (by simp [marchlandlaw01_StampPlus.j0])
    | succ kj4 =>
      have H := HA.out
      clear HA
      simp only [marchlandlaw01_StampPlus.j0] at H
      by_cases c22 : x47_4 = true
      · subst c22
        have H1 : (some false) = some r := by rw [if_pos rfl] at H; exact H
        clear H
        have H := H1
        clear H1
        obtain rfl := Option.some.inj H
        go_wp2
        go_ret
        exact ⟨by first | rfl | (simp [errW_none, errW_some] <;> rfl) | (simp [*, errW_none, errW_some] <;> rfl), by repeat (first | (with_reducible first | exact HB.out | apply below_alloc | apply pw_below_drewN | apply below_drew1) | exact HB.out)⟩
      · replace c22 := Bool.eq_false_iff.mpr c22
        subst c22
        have H1 : ((stamp_Plus.f t122 a2).bind fun t128 => ((stamp_Plus.f a1 a2).bind fun t129 => ((stamp_Plus.f a0 t129).bind fun t130 => (if t128 = t130 then (if a0 > a2 then (some true) else ((stamp_Plus.f a0 a1).bind fun t131 => ((stamp_Plus.f a2 a1).bind fun t132 => (some (decide (t131 ≤ t132)))))) else (some false))))) = some r := by rw [if_neg (show ¬ (false = true) by decide)] at H; exact H
        clear H
        have H := H1
        clear H1
        replace H := Option.bind_eq_some_iff.mp H
        obtain ⟨t128, A230, H⟩ := H
        replace H : ((stamp_Plus.f a1 a2).bind fun t129 => ((stamp_Plus.f a0 t129).bind fun t130 => (if t128 = t130 then (if a0 > a2 then (some true) else ((stamp_Plus.f a0 a1).bind fun t131 => ((stamp_Plus.f a2 a1).bind fun t132 => (some (decide (t131 ≤ t132)))))) else (some false)))) = some r := H
        have A23 := Aside0.mk A230
        clear A230
        replace H := Option.bind_eq_some_iff.mp H
        obtain ⟨t129, A240, H⟩ := H
        replace H : ((stamp_Plus.f a0 t129).bind fun t130 => (if t128 = t130 then (if a0 > a2 then (some true) else ((stamp_Plus.f a0 a1).bind fun t131 => ((stamp_Plus.f a2 a1).bind fun t132 => (some (decide (t131 ≤ t132)))))) else (some false))) = some r := H
        have A24 := Aside0.mk A240
        clear A240
        replace H := Option.bind_eq_some_iff.mp H
        obtain ⟨t130, A250, H⟩ := H
        replace H : (if t128 = t130 then (if a0 > a2 then (some true) else ((stamp_Plus.f a0 a1).bind fun t131 => ((stamp_Plus.f a2 a1).bind fun t132 => (some (decide (t131 ≤ t132)))))) else (some false)) = some r := H
        have A25 := Aside0.mk A250
        clear A250
        by_cases c26 : t128 = t130
        · rw [if_pos c26] at H
          have c26b0 : (t128 == t130) = true := beq_iff_eq.mpr c26
          have c26b1 : (t128 != t130) = false := bne_eq_false_iff_eq.mpr c26
          clear c26
          by_cases c27 : a0 > a2
          · rw [if_pos c27] at H
            have c27b0 : decide (a2 < a0) = true := decide_eq_true c27
            clear c27
            obtain rfl := Option.some.inj H
            go_wp2_with (first | ((with_reducible refine gate_callee (f := 12) rfl ?_); refine goesL_ (some 50) rfl rfl Tryd.func12 (by kernel_rfl) rfl #[.int .u64 t122, .int .u64 a2] rfl (by (try simp only [List.map_toArray, List.map_cons, List.map_nil]); first | done | rfl | (simp only [List.length_drop, List.length_take]; rfl)) ?_; (with_reducible refine (stamp_Plus.calls t122 a2 t128 _ A23.out).mono ?_); rintro e w' ⟨rfl, ⟨nd, rfl⟩⟩; refine ⟨_, rfl, ?_⟩) | ((with_reducible refine gate_callee (f := 12) rfl ?_); refine goesL_ (some 54) rfl rfl Tryd.func12 (by kernel_rfl) rfl #[.int .u64 a1, .int .u64 a2] rfl (by (try simp only [List.map_toArray, List.map_cons, List.map_nil]); first | done | rfl | (simp only [List.length_drop, List.length_take]; rfl)) ?_; (with_reducible refine (stamp_Plus.calls a1 a2 t129 _ A24.out).mono ?_); rintro e w' ⟨rfl, ⟨nd, rfl⟩⟩; refine ⟨_, rfl, ?_⟩) | ((with_reducible refine gate_callee (f := 12) rfl ?_); refine goesL_ (some 55) rfl rfl Tryd.func12 (by kernel_rfl) rfl #[.int .u64 a0, .int .u64 t129] rfl (by (try simp only [List.map_toArray, List.map_cons, List.map_nil]); first | done | rfl | (simp only [List.length_drop, List.length_take]; rfl)) ?_; (with_reducible refine (stamp_Plus.calls a0 t129 t130 _ A25.out).mono ?_); rintro e w' ⟨rfl, ⟨nd, rfl⟩⟩; refine ⟨_, rfl, ?_⟩))
            go_ret
            exact ⟨by first | rfl | (simp [errW_none, errW_some] <;> rfl) | (simp [*, errW_none, errW_some] <;> rfl), by repeat (first | (with_reducible first | exact HB.out | apply below_alloc | apply pw_below_drewN | apply below_drew1) | exact HB.out)⟩
          · rw [if_neg c27] at H
            have c27b0 : decide (a2 < a0) = false := decide_eq_false c27
            clear c27
            replace H := Option.bind_eq_some_iff.mp H
            obtain ⟨t131, A280, H⟩ := H
            replace H : ((stamp_Plus.f a2 a1).bind fun t132 => (some (decide (t131 ≤ t132)))) = some r := H
            have A28 := Aside0.mk A280
            clear A280
            replace H := Option.bind_eq_some_iff.mp H
            obtain ⟨t132, A290, H⟩ := H
            replace H : (some (decide (t131 ≤ t132))) = some r := H
            have A29 := Aside0.mk A290
            clear A290
            obtain rfl := Option.some.inj H
            go_wp2_with (first | ((with_reducible refine gate_callee (f := 12) rfl ?_); refine goesL_ (some 50) rfl rfl Tryd.func12 (by kernel_rfl) rfl #[.int .u64 t122, .int .u64 a2] rfl (by (try simp only [List.map_toArray, List.map_cons, List.map_nil]); first | done | rfl | (simp only [List.length_drop, List.length_take]; rfl)) ?_; (with_reducible refine (stamp_Plus.calls t122 a2 t128 _ A23.out).mono ?_); rintro e w' ⟨rfl, ⟨nd, rfl⟩⟩; refine ⟨_, rfl, ?_⟩) | ((with_reducible refine gate_callee (f := 12) rfl ?_); refine goesL_ (some 54) rfl rfl Tryd.func12 (by kernel_rfl) rfl #[.int .u64 a1, .int .u64 a2] rfl (by (try simp only [List.map_toArray, List.map_cons, List.map_nil]); first | done | rfl | (simp only [List.length_drop, List.length_take]; rfl)) ?_; (with_reducible refine (stamp_Plus.calls a1 a2 t129 _ A24.out).mono ?_); rintro e w' ⟨rfl, ⟨nd, rfl⟩⟩; refine ⟨_, rfl, ?_⟩) | ((with_reducible refine gate_callee (f := 12) rfl ?_); refine goesL_ (some 55) rfl rfl Tryd.func12 (by kernel_rfl) rfl #[.int .u64 a0, .int .u64 t129] rfl (by (try simp only [List.map_toArray, List.map_cons, List.map_nil]); first | done | rfl | (simp only [List.length_drop, List.length_take]; rfl)) ?_; (with_reducible refine (stamp_Plus.calls a0 t129 t130 _ A25.out).mono ?_); rintro e w' ⟨rfl, ⟨nd, rfl⟩⟩; refine ⟨_, rfl, ?_⟩) | (go_at_call 12; (with_reducible refine (stamp_Plus.calls a0 a1 t131 _ A28.out).mono ?_); rintro e w' ⟨rfl, ⟨nd, rfl⟩⟩) | (go_at_call 12; (with_reducible refine (stamp_Plus.calls a2 a1 t132 _ A29.out).mono ?_); rintro e w' ⟨rfl, ⟨nd, rfl⟩⟩))
            go_ret
            exact ⟨by first | rfl | (simp [errW_none, errW_some] <;> rfl) | (simp [*, errW_none, errW_some] <;> rfl), by repeat (first | (with_reducible first | exact HB.out | apply below_alloc | apply pw_below_drewN | apply below_drew1) | exact HB.out)⟩
        · rw [if_neg c26] at H
          have c26b0 : (t128 == t130) = false := beq_eq_false_iff_ne.mpr c26
          have c26b1 : (t128 != t130) = true := bne_iff_ne.mpr c26
          obtain rfl := Option.some.inj H
          go_wp2_with (first | ((with_reducible refine gate_callee (f := 12) rfl ?_); refine goesL_ (some 50) rfl rfl Tryd.func12 (by kernel_rfl) rfl #[.int .u64 t122, .int .u64 a2] rfl (by (try simp only [List.map_toArray, List.map_cons, List.map_nil]); first | done | rfl | (simp only [List.length_drop, List.length_take]; rfl)) ?_; (with_reducible refine (stamp_Plus.calls t122 a2 t128 _ A23.out).mono ?_); rintro e w' ⟨rfl, ⟨nd, rfl⟩⟩; refine ⟨_, rfl, ?_⟩) | ((with_reducible refine gate_callee (f := 12) rfl ?_); refine goesL_ (some 54) rfl rfl Tryd.func12 (by kernel_rfl) rfl #[.int .u64 a1, .int .u64 a2] rfl (by (try simp only [List.map_toArray, List.map_cons, List.map_nil]); first | done | rfl | (simp only [List.length_drop, List.length_take]; rfl)) ?_; (with_reducible refine (stamp_Plus.calls a1 a2 t129 _ A24.out).mono ?_); rintro e w' ⟨rfl, ⟨nd, rfl⟩⟩; refine ⟨_, rfl, ?_⟩) | ((with_reducible refine gate_callee (f := 12) rfl ?_); refine goesL_ (some 55) rfl rfl Tryd.func12 (by kernel_rfl) rfl #[.int .u64 a0, .int .u64 t129] rfl (by (try simp only [List.map_toArray, List.map_cons, List.map_nil]); first | done | rfl | (simp only [List.length_drop, List.length_take]; rfl)) ?_; (with_reducible refine (stamp_Plus.calls a0 t129 t130 _ A25.out).mono ?_); rintro e w' ⟨rfl, ⟨nd, rfl⟩⟩; refine ⟨_, rfl, ?_⟩))
          go_ret
          exact ⟨by first | rfl | (simp [errW_none, errW_some] <;> rfl) | (simp [*, errW_none, errW_some] <;> rfl), by repeat (first | (with_reducible first | exact HB.out | apply below_alloc | apply pw_below_drewN | apply below_drew1) | exact HB.out)⟩

/-- THE ONE PURE STATEMENT of marchlandlaw01_StampPlus: yours. -/
def marchlandlaw01_StampPlus.Pure : Prop := ∀ (a0 : Int) (a1 : Int) (a2 : Int), (Lit.int .u64 a0).wf = true → (Lit.int .u64 a1).wf = true → (Lit.int .u64 a2).wf = true → ∃ k, marchlandlaw01_StampPlus.f k a0 a1 a2 = some true
theorem marchlandlaw01_StampPlus.walk (P : marchlandlaw01_StampPlus.Pure) (a0 : Int) (a1 : Int) (a2 : Int) (w : World) (w0 : (Lit.int .u64 a0).wf = true) (w1 : (Lit.int .u64 a1).wf = true) (w2 : (Lit.int .u64 a2).wf = true) :
    Calls Tryd.prog 3 #[.int .u64 a0, .int .u64 a1, .int .u64 a2] w fun e w' => e = .returned (.bool true) ∧ Below w.heap.size w w' := by
  obtain ⟨k, h⟩ := P a0 a1 a2 w0 w1 w2
  refine (marchlandlaw01_StampPlus.calls k a0 a1 a2 true w h).mono ?_
  rintro e w' ⟨rfl, hd⟩
  exact ⟨rfl, hd⟩

end Go.Proofs.YtgeldmhgbnamcaaDoor.P
end
section
/- StampPlus, StampReaches: what the printed functions come to answers true: a time and a number make their sum, or Never. No condition. -/
namespace Go.Proofs.YtgeldmhgbnamcaaDoor.Pure
open Go.RowKit Go.Proofs.YtgeldmhgbnamcaaDoor.P Go.Proofs.YtgeldmhgbnamcaaDoorW.PrintWords Go.Proofs.YtgeldmhgbnamcaaDoorW.PrintLast
set_option linter.unusedVariables false
abbrev U (n : Int) : Prop := 0 ≤ n ∧ n ≤ 18446744073709551615
def pl (a b : Int) : Int := min 18446744073709551615 (a + b)
theorem u64m (p : Int) : IntKind.u64.wrap p = p % 18446744073709551616 := by simp [IntKind.wrap, IntKind.bits, IntKind.signed]
theorem plus_eq {a b : Int} (ha : U a) (hb : U b) : stamp_Plus.f a b = some (pl a b) := by
  unfold stamp_Plus.f pl
  rw [u64m, u64m]
  by_cases h : a ≥ (18446744073709551615 - b) % 18446744073709551616
  · rw [if_pos h]; congr 1; omega
  · rw [if_neg h]; congr 1; omega
theorem rplus_eq {a b : Int} (ha : U a) (hb : U b) : marchlandref01_Plus.f a b = some (pl a b) := by
  unfold marchlandref01_Plus.f pl
  rw [u64m, u64m]
  by_cases h : b ≥ (18446744073709551615 - a) % 18446744073709551616
  · rw [if_pos h]; congr 1; omega
  · rw [if_neg h]; congr 1; omega
theorem pl_u {a b : Int} (ha : U a) (hb : U b) : U (pl a b) := by unfold pl U at *; omega
def re (a b c : Int) : Bool := if pl a b = 18446744073709551615 then false else decide (pl a b ≤ c)
theorem reaches_eq {a b c : Int} (ha : U a) (hb : U b) : stamp_Reaches.f a b c = some (re a b c) := by
  unfold stamp_Reaches.f re
  rw [plus_eq ha hb, Option.bind_some]
  split <;> rfl
theorem rreaches_eq {a b c : Int} (ha : U a) (hb : U b) : marchlandref01_Reaches.f a b c = some (re a b c) := by
  unfold marchlandref01_Reaches.f re
  rw [rplus_eq ha hb, Option.bind_some]
  split <;> rfl
theorem StampPlus (a : Int) (ha : U a) (b : Int) (hb : U b) (c : Int) (hc : U c) : ∃ k, marchlandlaw01_StampPlus.f k a b c = some true := by
  have comm : pl b a = pl a b := by unfold pl; omega
  have hab := pl_u ha hb
  have hbc := pl_u hb hc
  have h1 : ¬ pl a b < a := by unfold pl; omega
  have h2 : ¬ pl a b < b := by unfold pl; omega
  have h3 : pl (pl a b) c = pl a (pl b c) := by unfold pl; omega
  refine ⟨1, ?_⟩
  unfold marchlandlaw01_StampPlus.f marchlandlaw01_told.f
  rw [plus_eq ha hb, rplus_eq ha hb, plus_eq hb ha, reaches_eq ha hb, rreaches_eq ha hb]
  simp only [Option.bind_some]
  rw [comm]
  simp only [if_true]
  rw [if_neg h1, if_neg h2, bne_self_eq_false, marchlandlaw01_StampPlus.j0, if_neg (by decide), plus_eq hab hc, plus_eq hb hc, Option.bind_some, Option.bind_some, plus_eq ha hbc, Option.bind_some, if_pos h3]
  by_cases h : a > c
  · rw [if_pos h]
  · rw [if_neg h, plus_eq ha hb, plus_eq hc hb, Option.bind_some, Option.bind_some]
    congr 1
    apply decide_eq_true
    unfold pl; omega
end Go.Proofs.YtgeldmhgbnamcaaDoor.Pure
end
section
namespace Go.Proofs.YtgeldmhgbnamcaaDoor.P
open Go.RowKit Go.Proofs.YtgeldmhgbnamcaaDoorW.PrintWords Go.Proofs.YtgeldmhgbnamcaaDoorW.PrintLast Go.Proofs.YtgeldmhgbnamcaaDoorW.PrintMore
set_option linter.unusedVariables false
set_option linter.unusedSimpArgs false
open Go.ChangeShapes Go.WideShapes Go.Deep
/-- Whatever reads at type t is told by the kind d, and is so as q says. -/
def Opens (P : Program) (t : TypeId) {α : Type} (d : Kd α) (q : α → Prop) : Prop :=
  ∀ (H : Type) (enc : TypeId × Value → H) (w : World) (base : Nat) (spare : Nat → Bool) (held : Bool) (fuel : Nat) (cs : List Value) (x : DataW H × List MemPlace),
    DataW.trod enc P w base spare held fuel t cs = some x → ∃ y : α, d.K w y cs ∧ q y
theorem Opens.int {P : Program} {t : TypeId} {k : IntKind} (hu : P.underlying t = some (.int k)) : Opens P t (Kd.int k) (fun n => (Lit.int k n).wf = true) := by
  intro H enc w base spare held fuel cs x h
  obtain ⟨n, rfl, _, hw⟩ := DataW.trod_int hu h
  exact ⟨n, rfl, hw⟩
theorem Opens.bool {P : Program} {t : TypeId} (hu : P.underlying t = some .bool) : Opens P t Kd.bool (fun _ => True) := by
  intro H enc w base spare held fuel cs x h
  obtain ⟨b, rfl, _⟩ := DataW.trod_bool hu h
  exact ⟨b, rfl, trivial⟩
theorem Opens.string {P : Program} {t : TypeId} (hu : P.underlying t = some .string) : Opens P t Kd.string (fun s => s.size ≤ maxLen) := by
  intro H enc w base spare held fuel cs x h
  obtain ⟨s, rfl, _, hs⟩ := DataW.trod_string hu h
  exact ⟨s, rfl, hs⟩
theorem Opens.slice {P : Program} {t e : TypeId} {α : Type} [Inhabited α] {d : Kd α} {q : α → Prop} (hu : P.underlying t = some (.slice e)) (hc : P.cellsOf e = d.sz) (h : Opens P e d q) : Opens P t (Kd.slice e d) (fun l => l.length ≤ maxLen ∧ ∀ y ∈ l, q y) := by
  intro H enc w base spare held fuel cs x hx
  rcases open_slice hu hx with ⟨rfl, _⟩ | ⟨a, len, cap, m, n, D, Pl, rfl, hb, hl, hm, hmm, _, hel⟩
  · exact ⟨[], ⟨none, 0, rfl, Nat.le_refl _, rfl, Nat.zero_le _, fun h => absurd h (by simp)⟩, Nat.zero_le _, fun y hy => by simp at hy⟩
  · have hlm : len ≤ m := by rw [hmm]; split <;> omega
    obtain ⟨Y, hY⟩ := choose_lt (α := α) (n := len) (p := fun i y => ∃ cs', w.cells? base (a.add (i * P.cellsOf e)) (P.cellsOf e) = some cs' ∧ d.K w y cs' ∧ q y) (fun i hi => by
      obtain ⟨cs', h1, h2⟩ := hel i (by omega)
      obtain ⟨y, h3, h4⟩ := h H enc w base spare held n cs' _ h2
      exact ⟨y, cs', h1, h3, h4⟩)
    have hlen : ((List.range len).map Y).length = len := by simp
    refine ⟨(List.range len).map Y, ⟨some a, cap, by rw [hlen], by rw [hlen]; exact hl, rfl, ?_, fun _ => ⟨a, rfl, fun j p hj => ?_⟩⟩, ?_, fun y hy => ?_⟩
    · rw [hlen]; unfold maxLen at hm; omega
    · obtain ⟨hjl, hje⟩ := List.getElem?_eq_some_iff.1 hj
      rw [hlen] at hjl
      have hpj : p = Y j := by rw [← hje]; simp
      obtain ⟨cs', h1, h3, _⟩ := hY j hjl
      obtain ⟨_, hcl, hcc⟩ := World.cells?_some h1
      refine ⟨cs', d.K_len h3, by rw [hpj]; exact h3, fun i u hu2 => ?_⟩
      have hi := (List.getElem?_eq_some_iff.1 hu2).1
      rw [d.K_len h3] at hi
      have h5 := hcc i (by rw [hc]; exact hi)
      rw [hc, Go.Deep.add_add] at h5
      rw [h5, ← hu2]
    · rw [hlen]; omega
    · obtain ⟨j, hj, rfl⟩ := List.mem_map.1 hy
      obtain ⟨_, _, _, h4⟩ := hY j (List.mem_range.1 hj)
      exact h4
/-- Fields, one behind the other, from a place on. -/
def OpensSeg (P : Program) (fs : List Field) (off : Nat) {α : Type} (d : Kd α) (q : α → Prop) : Prop :=
  ∀ (H : Type) (enc : TypeId × Value → H) (w : World) (base : Nat) (spare : Nat → Bool) (held : Bool) (fuel : Nat) (cs : List Value), cs.length = d.sz →
    (∀ f ∈ fs, ∃ x : DataW H × List MemPlace, DataW.trod enc P w base spare held fuel f.type ((cs.drop (f.offset - off)).take (P.cellsOf f.type)) = some x) → ∃ y : α, d.K w y cs ∧ q y
theorem Opens.struct {P : Program} {t : TypeId} {fs : Array Field} {α : Type} {d : Kd α} {q : α → Prop} (hu : P.underlying t = some (.struct fs)) (hc : P.cellsOf t = d.sz) (h : OpensSeg P fs.toList 0 d q) : Opens P t d q := by
  intro H enc w base spare held fuel cs x hx
  obtain ⟨xs, n, rfl, _, hl, hxs, hf⟩ := DataW.trod_struct hu hx
  refine h H enc w base spare held n cs (by rw [hl, hc]) (fun f hf2 => ?_)
  obtain ⟨i, hi, rfl⟩ := List.getElem_of_mem hf2
  have h1 := hf i fs.toList[i] (by rw [Array.getElem?_eq_getElem (by simpa using hi)]; simp)
  have hi2 : i < fs.size := by simpa using hi
  rw [List.getElem?_eq_getElem (by omega)] at h1
  exact ⟨_, by rw [Nat.sub_zero]; exact h1⟩
end Go.Proofs.YtgeldmhgbnamcaaDoor.P
end
